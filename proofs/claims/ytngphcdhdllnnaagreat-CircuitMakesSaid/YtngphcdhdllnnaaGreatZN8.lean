/- Texts joined: ZMSma, ZMItv, ZMItc, ZMSof, ZMIbr, ZMDf, ZMSm, ZMQapC, ZMGad, ZMGae. -/
import Derived.Test.YtngphcdhdllnnaaGreatZN5
import Derived.Test.YtngphcdhdllnnaaGreatProg
import Derived.KernelRfl
import Derived.RangeFuncNested
import Derived.RangeFuncBox
import Derived.RangeFuncBound
import Derived.RangeFuncCalls
import Derived.RangeFuncLeaves
import Derived.Shelf.Abstract
import Derived.WalkKit
import Derived.OwnWalkIn
import Derived.TacticsInMore
import Derived.LoopNIn
import Derived.LoopIn
import Derived.Maps.AppendAt
import Derived.Shelf.SlSortCmp.NoneTotal
import Derived.Shelf.SlicesG.Cmp
import Derived.Shelf.Lay
import Derived.Ground.SlgcProg
import Derived.Ground.SlsfProg
import Derived.Test.YtngphcdhdllnnaaGreatZN7
import Derived.Test.YtngphcdhdllnnaaGreatZN6
section
/- Sums of terms: what they are. -/
set_option linter.unusedVariables false
set_option linter.unusedSimpArgs false
set_option maxRecDepth 10000
open Go Go.Proofs.YtngphcdhdllnnaaGreat.E Go.Proofs
namespace Go.Proofs.YtngphcdhdllnnaaGreat.E.M
def kS (v : Int) : List Tm → Int
  | [] => 0
  | t :: l => (if t.v = v then t.k else 0) + kS v l
theorem kS_app (v : Int) : ∀ a b : List Tm, kS v (a ++ b) = kS v a + kS v b
  | [], b => by simp [kS]
  | t :: a, b => by simp only [List.cons_append, kS, kS_app v a b]; omega
theorem kS_perm {v : Int} {a b : List Tm} (h : a.Perm b) : kS v a = kS v b := by
  induction h with
  | nil => rfl
  | cons t _ ih => simp only [kS, ih]
  | swap s t l => simp only [kS]; omega
  | trans _ _ h1 h2 => exact h1.trans h2
theorem kS_zero {v : Int} : ∀ {l : List Tm}, (∀ t ∈ l, t.v ≠ v) → kS v l = 0
  | [], _ => rfl
  | t :: l, h => by
    simp only [kS]
    rw [if_neg (h t (by simp)), kS_zero fun s hs => h s (List.mem_cons_of_mem _ hs)]; rfl
/-- what the sum of terms is: its variables rise, none counts 0, each counts what all of it do -/
structure IsSum (L out : List Tm) : Prop where
  up : out.Pairwise (fun a b => a.v < b.v)
  pos : ∀ t ∈ out, 0 ≤ t.v ∧ 1 ≤ t.k ∧ t.k < 288230376287764481
  eq : ∀ v, 0 ≤ v → kS v out = kS v L % 288230376287764481
theorem sum_uniq : ∀ {a b : List Tm}, a.Pairwise (fun a b => a.v < b.v) → b.Pairwise (fun a b => a.v < b.v) → (∀ t ∈ a, 0 ≤ t.v ∧ 1 ≤ t.k) → (∀ t ∈ b, 0 ≤ t.v ∧ 1 ≤ t.k) → (∀ v, 0 ≤ v → kS v a = kS v b) → a = b
  | [], [], _, _, _, _, _ => rfl
  | [], t :: b, _, hb, _, pb, h => by
    have h1 := h t.v (pb t (by simp)).1
    simp only [kS, if_true] at h1
    rw [kS_zero (fun s hs => by have := (List.pairwise_cons.1 hb).1 s hs; omega)] at h1
    have := (pb t (by simp)).2; omega
  | t :: a, [], ha, _, pa, _, h => by
    have h1 := h t.v (pa t (by simp)).1
    simp only [kS, if_true] at h1
    rw [kS_zero (fun s hs => by have := (List.pairwise_cons.1 ha).1 s hs; omega)] at h1
    have := (pa t (by simp)).2; omega
  | t :: a, s :: b, ha, hb, pa, pb, h => by
    obtain ⟨ha1, ha2⟩ := List.pairwise_cons.1 ha
    obtain ⟨hb1, hb2⟩ := List.pairwise_cons.1 hb
    have t0 := pa t (by simp)
    have s0 := pb s (by simp)
    have za : ∀ v, v ≤ t.v → kS v a = 0 := fun v hv => kS_zero fun x hx => by have := ha1 x hx; omega
    have zb : ∀ v, v ≤ s.v → kS v b = 0 := fun v hv => kS_zero fun x hx => by have := hb1 x hx; omega
    have e : t.v = s.v := by
      rcases Int.lt_trichotomy t.v s.v with c | c | c
      · have h1 := h t.v t0.1
        simp only [kS, if_true] at h1
        rw [if_neg (by omega), za _ (Int.le_refl _), zb _ (by omega)] at h1; omega
      · exact c
      · have h1 := h s.v s0.1
        simp only [kS, if_true] at h1
        rw [if_neg (by omega), za _ (by omega), zb _ (Int.le_refl _)] at h1; omega
    have ek : t.k = s.k := by
      have h1 := h t.v t0.1
      simp only [kS, if_true] at h1
      rw [if_pos e.symm, za _ (Int.le_refl _), zb _ (by omega)] at h1; omega
    have : t = s := by cases t; cases s; simp_all
    subst this
    rw [sum_uniq ha2 hb2 (fun x hx => pa x (List.mem_cons_of_mem _ hx)) (fun x hx => pb x (List.mem_cons_of_mem _ hx)) (fun v hv => by
      have h1 := h v hv
      simp only [kS] at h1; omega)]
theorem IsSum.uniq {L a b : List Tm} (ha : IsSum L a) (hb : IsSum L b) : a = b :=
  sum_uniq ha.up hb.up (fun t h => ⟨(ha.pos t h).1, (ha.pos t h).2.1⟩) (fun t h => ⟨(hb.pos t h).1, (hb.pos t h).2.1⟩) fun v hv => by rw [ha.eq v hv, hb.eq v hv]
/-- the last one counts more -/
def addL (k : Int) : List Tm → List Tm
  | [] => []
  | [t] => [⟨t.v, (t.k + k) % 288230376287764481⟩]
  | t :: s :: l => t :: addL k (s :: l)
def accS : Option Int → List Tm → List Tm → List Tm
  | _, out, [] => out
  | p, out, t :: r => if t.v < 0 then accS (some t.v) out r else accS (some t.v) (addL t.k (if p = some t.v then out else out ++ [⟨t.v, 0⟩])) r
theorem addL_snoc (k : Int) (t : Tm) : ∀ l : List Tm, addL k (l ++ [t]) = l ++ [⟨t.v, (t.k + k) % 288230376287764481⟩]
  | [] => rfl
  | [s] => rfl
  | s :: r :: l => by
    have := addL_snoc k t (r :: l)
    simp only [List.cons_append] at this ⊢
    rw [addL, this]
theorem addL_len (k : Int) : ∀ l : List Tm, (addL k l).length = l.length
  | [] => rfl
  | [s] => rfl
  | s :: r :: l => by simp only [addL, List.length_cons, addL_len k (r :: l)]
structure AccI (p : Option Int) (out : List Tm) : Prop where
  up : out.Pairwise (fun a b => a.v < b.v)
  pos : ∀ t ∈ out, 0 ≤ t.v ∧ 0 ≤ t.k ∧ t.k < 288230376287764481
  lt : ∀ v, p = some v → ∀ t ∈ out, t.v ≤ v
  nil : p = none → out = []
  last : ∀ v, p = some v → 0 ≤ v → ∃ l t, out = l ++ [t] ∧ t.v = v
theorem AccI.snoc {l : List Tm} {t : Tm} (h : ∀ s ∈ l, s.v < t.v) (hu : l.Pairwise (fun a b => a.v < b.v)) (hp : ∀ t ∈ l, 0 ≤ t.v ∧ 0 ≤ t.k ∧ t.k < 288230376287764481) (t0 : 0 ≤ t.v) (t1 : 0 ≤ t.k) (t2 : t.k < 288230376287764481) : AccI (some t.v) (l ++ [t]) where
  up := List.pairwise_append.2 ⟨hu, List.pairwise_singleton _ _, fun a ha b hb => by simp only [List.mem_singleton] at hb; subst hb; exact h a ha⟩
  pos := fun s hs => by
    rcases List.mem_append.1 hs with hs | hs
    · exact hp s hs
    · simp only [List.mem_singleton] at hs; subst hs; exact ⟨t0, t1, t2⟩
  lt := fun v hv s hs => by
    cases hv
    rcases List.mem_append.1 hs with hs | hs
    · have := h s hs; omega
    · simp only [List.mem_singleton] at hs; subst hs; exact Int.le_refl _
  nil := fun h => by cases h
  last := fun v hv _ => by cases hv; exact ⟨l, t, rfl, rfl⟩
theorem accS_spec : ∀ {r : List Tm} {p : Option Int} {out : List Tm}, AccI p out → r.Pairwise (fun a b => a.v ≤ b.v) → (∀ v, p = some v → ∀ t ∈ r, v ≤ t.v) →
    (accS p out r).Pairwise (fun a b => a.v < b.v) ∧ (∀ t ∈ accS p out r, 0 ≤ t.v ∧ 0 ≤ t.k ∧ t.k < 288230376287764481) ∧ ∀ v, 0 ≤ v → kS v (accS p out r) % 288230376287764481 = (kS v out + kS v r) % 288230376287764481
  | [], p, out, hI, _, _ => ⟨hI.up, hI.pos, fun v _ => by simp only [accS, kS, Int.add_zero]⟩
  | t :: r, p, out, hI, hr, hp => by
    obtain ⟨hr1, hr2⟩ := List.pairwise_cons.1 hr
    have hn : ∀ v, some t.v = some v → ∀ s ∈ r, v ≤ s.v := fun v hv s hs => by cases hv; exact hr1 s hs
    simp only [accS]
    by_cases c : t.v < 0
    · rw [if_pos c]
      have hI' : AccI (some t.v) out := by
        refine ⟨hI.up, hI.pos, ?_, (by intro h; cases h), ?_⟩
        · intro v hv s hs
          cases hv
          cases p with
          | none => rw [hI.nil rfl] at hs; cases hs
          | some q => have h1 := hI.lt q rfl s hs; have h2 := hp q rfl t (by simp); omega
        · intro v hv h0; cases hv; omega
      obtain ⟨h1, h2, h3⟩ := accS_spec hI' hr2 hn
      refine ⟨h1, h2, fun v hv => ?_⟩
      rw [h3 v hv]
      simp only [kS]
      rw [if_neg (by omega), Int.zero_add]
    · rw [if_neg c]
      have key : ∃ l k0, (if p = some t.v then out else out ++ [⟨t.v, 0⟩]) = l ++ [⟨t.v, k0⟩] ∧ (∀ s ∈ l, s.v < t.v) ∧ l.Pairwise (fun a b => a.v < b.v) ∧ (∀ t ∈ l, 0 ≤ t.v ∧ 0 ≤ t.k ∧ t.k < 288230376287764481) ∧ (∀ v, kS v out = kS v (l ++ [⟨t.v, k0⟩])) := by
        by_cases e : p = some t.v
        · rw [if_pos e]
          obtain ⟨l, s, rfl, hs⟩ := hI.last t.v e (by omega)
          obtain ⟨sv, sk⟩ := s
          simp only at hs
          subst hs
          have hu := List.pairwise_append.1 hI.up
          exact ⟨l, sk, rfl, fun x hx => hu.2.2 x hx ⟨t.v, sk⟩ (List.mem_singleton.2 rfl), hu.1, fun x hx => hI.pos x (List.mem_append_left _ hx), fun v => rfl⟩
        · rw [if_neg e]
          refine ⟨out, 0, rfl, ?_, hI.up, hI.pos, fun v => by rw [kS_app]; simp [kS]⟩
          intro s hs
          cases p with
          | none => rw [hI.nil rfl] at hs; cases hs
          | some q =>
            have h1 := hI.lt q rfl s hs
            have h2 := hp q rfl t (by simp)
            have h3 : q ≠ t.v := fun h => e (by rw [h])
            omega
      obtain ⟨l, k0, e, k1, k2, k3, k4⟩ := key
      rw [e, addL_snoc]
      have hm := Int.emod_nonneg (k0 + t.k) (show (288230376287764481:Int) ≠ 0 by decide)
      have hm' := Int.emod_lt_of_pos (k0 + t.k) (show (0:Int) < 288230376287764481 by decide)
      obtain ⟨h1, h2, h3⟩ := accS_spec (AccI.snoc (t := ⟨t.v, (k0 + t.k) % 288230376287764481⟩) k1 k2 k3 (by show 0 ≤ t.v; omega) hm hm') hr2 hn
      refine ⟨h1, h2, fun v hv => ?_⟩
      rw [h3 v hv, k4 v, kS_app, kS_app]
      simp only [kS]
      split <;> omega
def kept0 (L : List Tm) : List Tm := L.filter fun t => !(t.k == 0)
theorem kS_kept0 (v : Int) : ∀ L : List Tm, kS v (kept0 L) = kS v L
  | [] => rfl
  | t :: l => by
    simp only [kept0, List.filter_cons]
    cases h : (t.k == 0)
    · simp only [Bool.not_false, if_true, kS]; rw [show kS v (List.filter (fun t => !(t.k == 0)) l) = kS v l from kS_kept0 v l]
    · simp only [Bool.not_true, Bool.false_eq_true, if_false, kS]
      rw [show kS v (List.filter (fun t => !(t.k == 0)) l) = kS v l from kS_kept0 v l]
      have : t.k = 0 := by simpa using h
      rw [this]; simp
theorem kS_bound {v : Int} : ∀ {out : List Tm}, out.Pairwise (fun a b => a.v < b.v) → (∀ t ∈ out, 0 ≤ t.k ∧ t.k < 288230376287764481) → 0 ≤ kS v out ∧ kS v out < 288230376287764481
  | [], _, _ => by simp [kS]
  | t :: l, hu, hp => by
    obtain ⟨h1, h2⟩ := List.pairwise_cons.1 hu
    simp only [kS]
    have t0 := hp t (by simp)
    split
    · rename_i e
      rw [kS_zero fun s hs => by have := h1 s hs; omega]; omega
    · have := kS_bound h2 (fun s hs => hp s (List.mem_cons_of_mem _ hs)) (v := v); omega
theorem accS_sum {S L : List Tm} (hS : S.Perm L) (hs : S.Pairwise (fun a b => a.v ≤ b.v)) : IsSum L (kept0 (accS none [] S)) := by
  obtain ⟨h1, h2, h3⟩ := accS_spec (p := none) (out := []) ⟨List.Pairwise.nil, by simp, by simp, fun _ => rfl, by simp⟩ hs (fun v hv => by cases hv)
  refine ⟨h1.filter _, fun t ht => ?_, fun v hv => ?_⟩
  · obtain ⟨ht1, ht2⟩ := List.mem_filter.1 ht
    have := h2 t ht1
    have h0 : t.k ≠ 0 := by simpa using ht2
    omega
  · have hb := kS_bound (v := v) (h1.filter fun t => !(t.k == 0)) (fun t ht => (h2 t (List.mem_filter.1 ht).1).2)
    have e := h3 v hv
    rw [← kS_kept0] at e
    simp only [kS, Int.zero_add, kS_perm hS] at e
    rw [← e]
    exact (Int.emod_eq_of_lt hb.1 hb.2).symm
def insT (t : Tm) : List Tm → List Tm
  | [] => [t]
  | s :: l => if t.v ≤ s.v then t :: s :: l else s :: insT t l
theorem insT_perm (t : Tm) : ∀ l, (insT t l).Perm (t :: l)
  | [] => List.Perm.refl _
  | s :: l => by
    simp only [insT]
    split
    · exact List.Perm.refl _
    · exact ((insT_perm t l).cons s).trans (List.Perm.swap _ _ _)
theorem insT_up (t : Tm) : ∀ {l : List Tm}, l.Pairwise (fun a b => a.v ≤ b.v) → (insT t l).Pairwise (fun a b => a.v ≤ b.v)
  | [], _ => List.pairwise_singleton _ _
  | s :: l, h => by
    obtain ⟨h1, h2⟩ := List.pairwise_cons.1 h
    simp only [insT]
    split
    · rename_i c
      refine List.pairwise_cons.2 ⟨fun x hx => ?_, h⟩
      rcases List.mem_cons.1 hx with rfl | hx
      · exact c
      · have := h1 x hx; omega
    · rename_i c
      refine List.pairwise_cons.2 ⟨fun x hx => ?_, insT_up t h2⟩
      rcases List.mem_cons.1 ((insT_perm t l).mem_iff.1 hx) with rfl | hx
      · omega
      · exact h1 x hx
def srt : List Tm → List Tm
  | [] => []
  | t :: l => insT t (srt l)
theorem srt_perm : ∀ l, (srt l).Perm l
  | [] => List.Perm.refl _
  | t :: l => (insT_perm t (srt l)).trans ((srt_perm l).cons t)
theorem srt_up : ∀ l, (srt l).Pairwise (fun a b => a.v ≤ b.v)
  | [] => List.Pairwise.nil
  | t :: l => insT_up t (srt_up l)
/-- the sum of terms -/
def sumT (L : List Tm) : List Tm := kept0 (accS none [] (srt L))
theorem sumT_is (L : List Tm) : IsSum L (sumT L) := accS_sum (srt_perm L) (srt_up L)
theorem accS_eq {S L : List Tm} (hS : S.Perm L) (hs : S.Pairwise (fun a b => a.v ≤ b.v)) : kept0 (accS none [] S) = sumT L := (accS_sum hS hs).uniq (sumT_is L)
end Go.Proofs.YtngphcdhdllnnaaGreat.E.M
end
section
namespace Go.Proofs.YtngphcdhdllnnaaGreat
open Go Go.Proofs Go.RowKit Go.Shelf
set_option linter.unusedVariables false
set_option linter.unusedSimpArgs false
attribute [local go_sem] Oper.semAt_some

/-- A term's two cells. -/
abbrev tm2 (x : Int × Int) : Array Value := #[.int .i64 x.1, .int .u64 x.2]
/-- What has come when k rounds are over. -/
def uptoT {α : Type} (f : Nat → α) (k : Nat) : List α := (List.range k).map f
theorem uptoT_succ {α : Type} (f : Nat → α) (k : Nat) : uptoT f (k + 1) = uptoT f k ++ [f k] := by simp [uptoT, List.range_succ]
theorem uptoT_length {α : Type} (f : Nat → α) (k : Nat) : (uptoT f k).length = k := by simp [uptoT]
theorem uptoT_all (zs : List (Int × Int)) : uptoT (fun j => zs[j]?.getD (0, 0)) zs.length = zs := by
  apply List.ext_getElem
  · simp [uptoT]
  · intro i h1 h2
    simp [uptoT, h2]
theorem uptoT_take (zs : List (Int × Int)) {k : Nat} (hk : k ≤ zs.length) : uptoT (fun j => zs[j]?.getD (0, 0)) k = zs.take k := by
  apply List.ext_getElem
  · simp [uptoT, hk]
  · intro i h1 h2
    have : i < zs.length := by simp [uptoT] at h1; omega
    simp [uptoT, this]

set_option maxRecDepth 100000 in
set_option maxHeartbeats 4000000 in
/-- slices.Values's own function, at terms. -/
theorem tvals1_in (F : Fence) (n : Nat) (hf : F.fn 86) (hro : F.round = none) (hn : 1 ≤ n) (l Bs ob n₀ b off len cap : Nat) (zs : List (Int × Int)) (hreach : len * 16 ≤ 140737488351232) (hb : b < n₀) (J Jx : List (Int × Int) → World → Prop)
    (B : Nat) (hJ : AbidesFrom B J)
    (hY : ∀ pre x W, J pre W → pre.length < len → YieldAt F (n - 1) Tryz.prog l #[.agg (tm2 x)] W fun e W' =>
      (e = .returned (.bool true) ∧ J (pre ++ [x]) W' ∧ Below n₀ W W') ∨ (e = .returned (.bool false) ∧ Jx (pre ++ [x]) W'))
    (W : World) (hn₀ : n₀ ≤ W.heap.size) (hBs : W.cell? ⟨Bs, ob, none⟩ = some (.slice (some ⟨b, off, none⟩) len cap))
    (hc : ∀ j, j < len → W.cell? ⟨b, off + j * 2, none⟩ = some (.int .i64 (zs[j]?.getD (0, 0)).1) ∧ W.cell? ⟨b, off + j * 2 + 1, none⟩ = some (.int .u64 (zs[j]?.getD (0, 0)).2)) (h0 : J [] W) :
    CallsIn F n Tryz.prog 86 #[.func (.yield l) #[] #[], .pointer (some ⟨Bs, ob, none⟩)] W fun e W' => (∃ v, e = .returned v) ∧
      ((∃ ys, ys = uptoT (fun j => zs[j]?.getD (0, 0)) len ∧ J ys W') ∨ (∃ pre, (∃ k, k ≤ len ∧ pre = uptoT (fun j => zs[j]?.getD (0, 0)) k) ∧ Jx pre W')) := by
  refine callsIn_of_wp Tryz.func86 rfl hf ?_ hro
  simp only [Tryz.ntmps86, List.size_toArray, List.length_cons, List.length_nil, Nat.reduceAdd, Nat.reduceSub, Array.replicate_succ, Array.replicate_zero, List.push_toArray, List.append_toArray, List.nil_append, List.cons_append]
  gi_wp2
  gi_loopw [7] (fun i wr => ∃ k : Nat, k ≤ len ∧ i = .int .i64 k ∧ J (uptoT (fun j => zs[j]?.getD (0, 0)) k) wr ∧ Below n₀ W wr ∧ n₀ ≤ wr.heap.size)
    (fun i _ => len - (intOf i).toNat)
  case atStart => exact ⟨0, Nat.zero_le _, rfl, h0, Below.refl _ _, hn₀⟩
  case round =>
    obtain ⟨k, hk, rfl, hJs, hnx, hsz⟩ := hrel
    by_cases hlt : k < len
    · have hcx := (hnx.cell (p := ⟨b, off + k * 2, none⟩) hb).trans (hc k hlt).1
      have hcy := (hnx.cell (p := ⟨b, off + k * 2 + 1, none⟩) hb).trans (hc k hlt).2
      obtain ⟨W1, hW1⟩ : ∃ W1, wr.alloc (.cells (tm2 (zs[k]?.getD (0, 0))) 80) = W1 := ⟨_, rfl⟩
      have hg : wr.grownBy W1 none := by rw [← hW1]; exact World.grownBy_alloc wr _ none
      have hnx1 : Below n₀ W W1 := by rw [← hW1]; exact hnx.alloc hsz _
      have hsz1 : n₀ ≤ W1.heap.size := by rw [← hW1]; simp; omega
      have hJ1 := hJ _ wr W1 none hJs hg (fun r e => by cases e)
      obtain ⟨fn, tmps, assign, body, hy, hR⟩ := hY _ (zs[k]?.getD (0, 0)) W1 hJ1 (by rw [uptoT_length]; exact hlt)
      subst hW1
      dsimp only [tm2] at hy hR
      gi_wp2
      refine hR.mono ?_
      rintro e W3 (⟨rfl, hJ3, hk3⟩ | ⟨rfl, hJx3⟩)
      · -- THE ROUND GOES ON
        have hk4 := (hnx.alloc hsz _).trans hk3
        gi_wp2
        go_roundw
        case rel => exact ⟨k + 1, by omega, by simp, by rw [uptoT_succ]; exact hJ3, hk4, Nat.le_trans hn₀ hk4.size⟩
        case measure => simp [intOf]; omega
      · gi_wp2
        refine bodyPost_ret (results_none rfl _ _ _) rfl ?_
        exact ⟨⟨_, rfl⟩, .inr ⟨_, ⟨k + 1, by omega, (uptoT_succ _ _).symm⟩, hJx3⟩⟩
    · obtain rfl : k = len := by omega
      gi_wp2
      go_end0
      exact ⟨⟨_, rfl⟩, .inl ⟨_, rfl, hJs⟩⟩

/-- The slice value sv holds the terms zs, in a block below n₀; or it is nil and there are none. -/
def Terms (n₀ : Nat) (W : World) (sv : Value) (zs : List (Int × Int)) : Prop :=
  (∃ base cap, sv = .slice base 0 cap ∧ zs = []) ∨ ∃ b off cap, sv = .slice (some ⟨b, off, none⟩) zs.length cap ∧ b < n₀ ∧ ∀ j, j < zs.length → W.cell? ⟨b, off + j * 2, none⟩ = some (.int .i64 (zs[j]?.getD (0, 0)).1) ∧ W.cell? ⟨b, off + j * 2 + 1, none⟩ = some (.int .u64 (zs[j]?.getD (0, 0)).2)
theorem Terms.below {n₀ : Nat} {A B : World} (h : Below n₀ A B) {sv : Value} {zs : List (Int × Int)} : Terms n₀ A sv zs → Terms n₀ B sv zs
  | .inl e => .inl e
  | .inr ⟨b, off, cap, e, hb, hc⟩ => .inr ⟨b, off, cap, e, hb, fun j hj => ⟨(h.cell (p := ⟨b, off + j * 2, none⟩) hb).trans (hc j hj).1, (h.cell (p := ⟨b, off + j * 2 + 1, none⟩) hb).trans (hc j hj).2⟩⟩

set_option maxRecDepth 100000 in
set_option maxHeartbeats 1000000 in
/-- .. at the nil slice: no round. -/
theorem tvals1_nil_in (F : Fence) (n : Nat) (hf : F.fn 86) (hro : F.round = none) (l Bs ob cap : Nat) (base : Option Addr) (J : List (Int × Int) → World → Prop) (W : World) (hBs : W.cell? ⟨Bs, ob, none⟩ = some (.slice base 0 cap)) (h0 : J [] W) :
    CallsIn F n Tryz.prog 86 #[.func (.yield l) #[] #[], .pointer (some ⟨Bs, ob, none⟩)] W fun e W' => (∃ v, e = .returned v) ∧ J [] W' := by
  refine callsIn_of_wp Tryz.func86 rfl hf ?_ hro
  simp only [Tryz.ntmps86, List.size_toArray, List.length_cons, List.length_nil, Nat.reduceAdd, Nat.reduceSub, Array.replicate_succ, Array.replicate_zero, List.push_toArray, List.append_toArray, List.nil_append, List.cons_append]
  gi_wp2
  gi_loopw [7] (fun i wr => i = .int .i64 0 ∧ J [] wr) (fun _ _ => 0)
  case atStart => exact ⟨rfl, h0⟩
  case round =>
    obtain ⟨rfl, hJs⟩ := hrel
    gi_wp2
    go_end0
    exact ⟨⟨_, rfl⟩, hJs⟩

set_option maxHeartbeats 1000000 in
/-- slices.Values(s): the slice value is boxed; the function value captures the box. -/
theorem tvals_in (F : Fence) (n : Nat) (hf : F.fn 76) (hro : F.round = none) (a : Option Addr) (len cap : Nat) (w : World) :
    CallsIn F n Tryz.prog 76 #[.slice a len cap] w fun e w' => e = .returned (.func (.func 86) #[] #[.pointer (some ⟨w.heap.size, 0, none⟩)]) ∧ w' = w.alloc (.cells #[.slice a len cap] 81) := by
  refine callsIn_of_wp Tryz.func76 rfl hf ?_ hro
  simp only [Tryz.ntmps76, List.size_toArray, List.length_cons, List.length_nil, Nat.reduceAdd, Nat.reduceSub, Array.replicate_succ, Array.replicate_zero, List.push_toArray, List.append_toArray, List.nil_append, List.cons_append]
  gi_wp2
  go_ret
  exact ⟨rfl, rfl⟩

/-- slices.Values(s) hands back a value that gives all of zs, in order; or a part. -/
theorem tvals_stops (F : Fence) (n : Nat) (hf : F.fn 86) (hro : F.round = none) (hn : 1 ≤ n) (Bs ob n₀ : Nat) (sv : Value) (zs : List (Int × Int)) (hreach : zs.length * 16 ≤ 140737488351232) (w : World) (hBs : Bs < w.heap.size) (hn₀ : n₀ ≤ w.heap.size)
    (hc : w.cell? ⟨Bs, ob, none⟩ = some sv) (hI : Terms n₀ w sv zs) :
    SeqStopsK F n Tryz.prog 86 #[.pointer (some ⟨Bs, ob, none⟩)] (fun x : Int × Int => #[Value.agg (tm2 x)]) (Below n₀) (fun ys => ys = zs) (fun pre => pre <+: zs) zs.length w := fun l J Jx W hW hJ _ hY h0 => by
  have hc' := (hW.cell (p := ⟨Bs, ob, none⟩) hBs).trans hc
  rcases hI.below (hW.mono hn₀) with ⟨base, cap, rfl, rfl⟩ | ⟨b, off, cap, rfl, hb, hcs⟩
  · exact (tvals1_nil_in F n hf hro l Bs ob cap base J W hc' h0).mono fun e W' ⟨he, hj⟩ => ⟨he, .inl ⟨_, rfl, hj⟩⟩
  · refine (tvals1_in F n hf hro hn l Bs ob n₀ b off zs.length cap zs hreach hb J Jx _ hJ hY W (Nat.le_trans hn₀ hW.size) hc' hcs h0).mono ?_
    rintro e W' ⟨he, ⟨ys, rfl, hj⟩ | ⟨pre, ⟨k, hk, rfl⟩, hj⟩⟩
    · exact ⟨he, .inl ⟨_, uptoT_all zs, hj⟩⟩
    · exact ⟨he, .inr ⟨_, by rw [uptoT_take zs hk]; exact List.take_prefix _ _, hj⟩⟩
end Go.Proofs.YtngphcdhdllnnaaGreat
end
section
namespace Go.Proofs.YtngphcdhdllnnaaGreat
open Go Go.Proofs Go.RowKit Go.Shelf
set_option linter.unusedVariables false
set_option linter.unusedSimpArgs false
attribute [local go_sem] Oper.semAt_some

/-- The cells of terms, one behind the other. -/
def flT (zs : List (Int × Int)) : List Value := zs.flatMap fun x => [.int .i64 x.1, .int .u64 x.2]
theorem flT_snoc (zs : List (Int × Int)) (x : Int × Int) : flT (zs ++ [x]) = flT zs ++ [.int .i64 x.1, .int .u64 x.2] := by simp [flT]
theorem cell_two_new (w : World) (x y : Value) (t : TypeId) : ∀ j u, [x, y][j]? = some u → (w.alloc (.cells #[x, y] t)).cell? ((⟨w.heap.size, 0, none⟩ : Addr).add j) = some u := by
  have h := World.alloc_heap_new w (.cells #[x, y] t)
  intro j u hj
  match j, hj with
  | 0, hj => simp at hj; subst hj; simp only [World.cell?, Addr.add, Nat.zero_add, Nat.add_zero, if_true, Nat.one_ne_zero, if_false]; rw [h]; rfl
  | 1, hj => simp at hj; subst hj; simp only [World.cell?, Addr.add, Nat.zero_add, Nat.add_zero, if_true, Nat.one_ne_zero, if_false]; rw [h]; rfl
  | j + 2, hj => simp at hj
theorem infoTm : (Tryz.prog.info? 80).map (fun i => (i.zero, i.size, i.bytes)) = some (some (.agg #[.int .i64 0, .int .u64 0]), 2, 16) := by kernel_rfl

set_option maxRecDepth 100000 in
set_option maxHeartbeats 4000000 in
/-- slices.AppendSeq(nil, seq), at terms. -/
theorem tapp_in (F : Fence) (n : Nat) (hf : F.fn 90) (hro : F.round = none) (hn : 3 ≤ n) (g : Nat) (lb : Array Value) (hFg : F.fn g) (eg : ∀ args w, (callFunc g args).run Tryz.prog w = .ok (.enter g args) w)
    (zs : List (Int × Int)) (hN : zs.length ≤ maxLen) (hNb : zs.length * 16 ≤ 140737488355328) (n₀ : Nat) (w : World) (hn₀ : n₀ ≤ w.heap.size)
    (hseq : SeqStopsK F (n - 1) Tryz.prog g lb (fun x : Int × Int => #[Value.agg (tm2 x)]) (Below n₀) (fun ys => ys = zs) (fun pre => pre <+: zs) zs.length w) :
    CallsIn F n Tryz.prog 90 #[.slice none 0 0, .func (.func g) #[] lb] w fun e w' => ∃ v, e = .returned v ∧ w'.ownsRow w.heap.size 80 2 v zs.length (flT zs) ∧ (v = .slice none 0 0 ↔ zs = []) ∧ Below w.heap.size w w' := by
  have h1 : 1 ≤ n := by omega
  obtain ⟨i0, hi, hz0, hz1, hz2⟩ := info_parts infoTm
  refine callsIn_of_wp_marks Tryz.func90 rfl hf ?_ hro
  simp only [Tryz.ntmps90, List.size_toArray, List.length_cons, List.length_nil, Nat.reduceAdd, Nat.reduceSub, Array.replicate_succ, Array.replicate_zero, List.push_toArray, List.append_toArray, List.nil_append, List.cons_append]
  gi_wp2
  have bS := Boxed.new w 81 (.slice none 0 0)
  have hB0 : Below w.heap.size w (w.alloc (.cells #[.slice none 0 0] 81)) := (Below.refl _ w).alloc (Nat.le_refl _) _
  have hsz : (w.alloc (.cells #[.slice none 0 0] 81)).heap.size = w.heap.size + 1 := by simp
  obtain ⟨W0, hW0⟩ : ∃ W0, w.alloc (.cells #[.slice none 0 0] 81) = W0 := ⟨_, rfl⟩
  rw [hW0] at bS hB0 hsz ⊢
  clear hW0
  refine wpIn_rangeFunc_ownH hro h1 (gf := g) (lb := lb) rfl hFg eg hseq belowK_t (belowK_b (by omega)) hB0 (fun _ => rfl)
    (fun pre W => (∃ v, Boxed W w.heap.size 81 v ∧ W.ownsRow w.heap.size 80 2 v pre.length (flT pre) ∧ (v = .slice none 0 0 ↔ pre = [])) ∧ Below w.heap.size w W)
    (fun _ _ _ => False)
    (OwnFrom.and (Own.from (holdsRow_own w.heap.size w.heap.size 81 80 2 (fun pre : List (Int × Int) => pre.length) flT (fun pre v => (v = .slice none 0 0 ↔ pre = []))) _) (ownFrom_below (Nat.le_refl _) (by omega)))
    (fun _ _ _ _ _ hs _ _ => hs)
    ⟨⟨_, bS, World.ownsRow_nil _ _ _ _, by simp⟩, hB0⟩
    (fun x a' W => ∃ Bx, w.heap.size < Bx ∧ W.heap[Bx]? = some (.cells (tm2 x) 80 (0, 0)) ∧ a' = { tmps := #[.slice none 0 0, .func (.func g) #[] lb, .pointer (some ⟨w.heap.size, 0, none⟩), undef, .slice none 0 0, .pointer (some ⟨Bx, 0, none⟩), .func (.func g) #[] lb, .agg (tm2 x), undef, undef, undef, undef, undef], defers := [] })
    (fun x a' _ X Y row hs hg hr => by
      obtain ⟨Bx, h1, h2, h3⟩ := hs
      refine ⟨Bx, h1, (hg.block Bx (Array.getElem?_eq_some_iff.1 h2).1 (fun e => ?_)).trans h2, h3⟩
      obtain ⟨_, o, ho, hc⟩ := hr Bx e.symm
      rw [h2] at ho; cases ho; cases hc)
    ?assign ?body ?done ?stop
  case assign =>
    rintro l pre x W K ⟨⟨v, bv, hrow, hnil⟩, hB1⟩ hK
    gi_wp2
    exact hK _ _ ((KeepsOthers.alloc _ _).from _) ((Below.refl _ W).alloc (Nat.le_trans hn₀ hB1.size) _) ⟨⟨v, bv.alloc _, hrow.alloc _, hnil⟩, hB1.alloc hB1.size _⟩ ⟨W.heap.size, bv.lt, World.alloc_heap_new W _, rfl⟩
  case body =>
    rintro l pre x a' W hl ⟨r, hr⟩ ⟨⟨v, bv, hrow, hnil⟩, hB1⟩ ⟨Bx, hBx, bX, rfl⟩ hlt
    have cv := bv.cell
    have cX : W.cell? ⟨Bx, 0, none⟩ = some (.int .i64 x.1) := by simp [World.cell?, bX]
    have cY : W.cell? ⟨Bx, 1, none⟩ = some (.int .u64 x.2) := by simp [World.cell?, bX]
    have hle := hB1.size
    gi_wp2_with (gi_at_builtin; refine wpListIn_append_own _ rfl _ _ 81 rfl w.heap.size 80 i0 (.agg #[.int .i64 0, .int .u64 0]) 2 16 Tryz.underlying81 hi hz0 hz1 hz2 rfl (by decide) _ _ _ rfl (hrow.alloc _) ⟨W.heap.size, 0, none⟩ 1 1 [.int .i64 x.1, .int .u64 x.2] rfl rfl (cell_two_new _ _ _ _) (by simp [Value.oneCell']) (by omega) (by omega) (by simp; omega) ?_; intro v' w1 hown' hgrow _; obtain ⟨g', cap', rfl⟩ := ownsRow_succ hown'; obtain ⟨hv1, hv2, hr2, hk2, hb2⟩ := bv.appended (by decide) hrow hle (Nat.le_refl _) hown' hgrow; have hc1 := hv1.cell; have hf1 := hv1.frozen)
    refine ⟨hk2.from _, hb2.mono hn₀, ⟨_, hv2, by simpa [flT_snoc] using hr2, by simp⟩, hB1.trans hb2⟩
  case done =>
    rintro D ys W hD rfl ⟨⟨v, bv, hrow, hnil⟩, hB1⟩ hK
    have cv := bv.cell
    gi_wp2
    refine ⟨by simp, .inl ⟨_, _, rfl, run_takeDeferred hK, ?_⟩⟩
    exact ⟨_, results_tmp rfl _ _ _, v, rfl, ownsRow_putObj hrow _ hK rfl, hnil, hB1.trans (belowK_b (w := w) (Nat.le_refl _) W D _ _ (by omega) hK rfl rfl)⟩
  case stop =>
    rintro D c pre W _ _ h _
    exact h.elim

set_option maxHeartbeats 1000000 in
/-- slices.Collect(seq), at terms. -/
theorem tcol_in (F : Fence) (n : Nat) (hc : F.fn 84) (hf : F.fn 90) (hro : F.round = none) (hn : 4 ≤ n) (g : Nat) (lb : Array Value) (hFg : F.fn g) (eg : ∀ args w, (callFunc g args).run Tryz.prog w = .ok (.enter g args) w)
    (zs : List (Int × Int)) (hN : zs.length ≤ maxLen) (hNb : zs.length * 16 ≤ 140737488355328) (n₀ : Nat) (w : World) (hn₀ : n₀ ≤ w.heap.size)
    (hseq : SeqStopsK F (n - 1 - 1) Tryz.prog g lb (fun x : Int × Int => #[Value.agg (tm2 x)]) (Below n₀) (fun ys => ys = zs) (fun pre => pre <+: zs) zs.length w) :
    CallsIn F n Tryz.prog 84 #[.func (.func g) #[] lb] w fun e w' => ∃ v, e = .returned v ∧ w'.ownsRow w.heap.size 80 2 v zs.length (flT zs) ∧ (v = .slice none 0 0 ↔ zs = []) ∧ Below w.heap.size w w' := by
  have h1 : 1 ≤ n := by omega
  refine callsIn_of_wp Tryz.func84 rfl hc ?_ hro
  simp only [Tryz.ntmps84, List.size_toArray, List.length_cons, List.length_nil, Nat.reduceAdd, Nat.reduceSub, Array.replicate_succ, Array.replicate_zero, List.push_toArray, List.append_toArray, List.nil_append, List.cons_append]
  gi_wp2_with (gi_at_call 90; refine (tapp_in F (n - 1) hf hro (by omega) g lb hFg eg zs hN hNb n₀ _ hn₀ hseq).mono ?_; rintro e w' ⟨v, rfl, hrow, hnil, hb⟩)
  go_ret
  exact ⟨v, rfl, hrow, hnil, hb⟩
end Go.Proofs.YtngphcdhdllnnaaGreat
end
section
namespace Go.Proofs.YtngphcdhdllnnaaGreat
open Go Go.Proofs Go.RowKit Go.Shelf Go.Lib Go.Sort
set_option linter.unusedVariables false
set_option linter.unusedSimpArgs false
shelf_lay_g SlLaysF0.n6 Slsf 6 at Tryz 85 as tmSort
shelf_lay_g SlLaysC2.n5 Slgc 5 at Tryz 78 as tmCmp

def encT (x : Int × Int) : List Value := [.int .i64 x.1, .int .u64 x.2]

set_option maxHeartbeats 1000000 in
theorem tcmp_clo (x y : Int × Int) (W : World) : Calls Tryz.prog 77 #[.agg #[.int .i64 x.1, .int .u64 x.2], .agg #[.int .i64 y.1, .int .u64 y.2]] W fun e w' => e = .returned (.int .i64 (Lib.compareInt x.1 y.1)) ∧ ∃ q os', w' = grow (W.drewN q) os' := by
  have hcon := fun W' => AnyG.cmp_Compare_int tmCmp x.1 y.1 W'
  change ∀ W', Calls Tryz.prog 78 _ _ _ at hcon
  generalize Lib.compareInt x.1 y.1 = r at hcon ⊢
  go_enter Tryz.func77, Tryz.ntmps77
  go_wp2_with (go_at_call 78; refine (hcon _).mono ?_; rintro e w' ⟨rfl, rfl⟩)
  go_ret
  exact ⟨rfl, 0, _, by rw [alloc_eq_grow, alloc_eq_grow, grow_grow]; rfl⟩

theorem tcmp_lays (blk off size : Nat) (w : World) : CmpLays Tryz.prog 77 #[] encT 2 (fun x y => Lib.compareInt x.1 y.1) blk off size w :=
  fun _ _ _ _ x y => tcmp_clo x y _
theorem ltT (x y : Int × Int) : ltOf (fun x y : Int × Int => Lib.compareInt x.1 y.1) x y = decide (x.1 < y.1) := by
  unfold ltOf Lib.compareInt
  by_cases h1 : x.1 < y.1
  · simp [h1]
  · by_cases h2 : y.1 < x.1 <;> simp [h1, h2]
theorem swoT : SWO (ltOf fun x y : Int × Int => Lib.compareInt x.1 y.1) where
  irrefl x := by rw [ltT]; simp
  trans x y z h1 h2 := by rw [ltT] at *; simp at *; omega
  ntrans x y z h1 h2 := by rw [ltT] at *; simp at *; omega

theorem flT_get : ∀ (zs : List (Int × Int)) (j : Nat), j < zs.length * 2 → (flT zs)[j]? = some ((encT (zs.toArray[j / 2]!))[j % 2]!)
  | [], j, h => by simp at h
  | x :: xs, 0, h => by simp [flT, encT]
  | x :: xs, 1, h => by simp [flT, encT]
  | x :: xs, j + 2, h => by
    have ih := flT_get xs j (by simp at h; omega)
    have e1 : (j + 2) / 2 = j / 2 + 1 := by omega
    have e2 : (j + 2) % 2 = j % 2 := by omega
    have e3 : flT (x :: xs) = [.int .i64 x.1, .int .u64 x.2] ++ flT xs := by simp [flT]
    rw [e1, e2, e3, List.getElem?_append_right (by simp)]
    simpa using ih
theorem flT_len (zs : List (Int × Int)) : (flT zs).length = zs.length * 2 := by
  induction zs with
  | nil => rfl
  | cons x xs ih => have e3 : flT (x :: xs) = [.int .i64 x.1, .int .u64 x.2] ++ flT xs := by simp [flT]
                    rw [e3, List.length_append, ih]; simp; omega

theorem sort_block (w : World) (g n : Nat) (d : Array (Int × Int)) (os : Array Obj) (k : Nat) (hk : k < w.heap.size) (hne : k ≠ g) : (sortWorldK encT 2 w g 0 n d os).heap[k]? = w.heap[k]? := by
  have h1 : (putRowK encT 2 (Sort.ahead w n) g 0 d).heap[k]? = w.heap[k]? := by
    simp [putRowK, putRow, mapBlock, Sort.ahead, Array.getElem?_modify, Ne.symm hne]
  have h2 : k < (putRowK encT 2 (Sort.ahead w n) g 0 d).heap.size := by rw [size_putRowK]; exact hk
  show ((putRowK encT 2 (Sort.ahead w n) g 0 d).heap ++ os)[k]? = _
  rw [Array.getElem?_append_left h2, h1]
theorem sort_below (w : World) (g n : Nat) (d : Array (Int × Int)) (os : Array Obj) (n₀ : Nat) (hn : n₀ ≤ g) (hw : n₀ ≤ w.heap.size) : Go.RowKit.Below n₀ w (sortWorldK encT 2 w g 0 n d os) :=
  ⟨rfl, rfl, rfl, size_sortWorldK_c _ _ _ _ _ _ _ _, fun k hk => sort_block w g n d os k (by omega) (by omega)⟩

set_option maxHeartbeats 4000000 in
/-- slices.SortedFunc of slices.Values(s), at terms. -/
theorem tsof_c (Bs ob n₀ : Nat) (sv : Value) (zs : List (Int × Int)) (hlen : zs.length * 16 ≤ 140737488351232) (w : World) (hBs : Bs < w.heap.size) (hn₀ : n₀ ≤ w.heap.size) (hc : w.cell? ⟨Bs, ob, none⟩ = some sv) (hI : Terms n₀ w sv zs) :
    Calls Tryz.prog 75 #[.func (.func 86) #[] #[.pointer (some ⟨Bs, ob, none⟩)], .func (.func 77) #[] #[]] w fun e w' =>
      ∃ v zs', e = .returned v ∧ zs'.Perm zs ∧ zs'.Pairwise (fun a b : Int × Int => a.1 ≤ b.1) ∧ Go.RowKit.Below w.heap.size w w' ∧
        ((v = .slice none 0 0 ∧ zs' = []) ∨ ∃ g cap, v = .slice (some ⟨g, 0, none⟩) zs'.length cap ∧ zs'.length ≤ cap ∧ cap ≤ maxLen ∧ w.heap.size ≤ g ∧ g < w'.heap.size ∧ ∀ (j : Nat) u, (flT zs')[j]? = some u → w'.cell? ⟨g, j, none⟩ = some u) := by
  have hmax : zs.length ≤ maxLen := by simp only [maxLen]; omega
  refine (callsIn_wide (n := 8)).1 ?_
  refine callsIn_of_wp Tryz.func75 rfl trivial ?_ rfl
  simp only [Tryz.ntmps75, List.size_toArray, List.length_cons, List.length_nil, Nat.reduceAdd, Nat.reduceSub, Array.replicate_succ, Array.replicate_zero, List.push_toArray, List.append_toArray, List.nil_append, List.cons_append]
  have hcol := tcol_in Fence.wide 7 trivial trivial rfl (by omega) 86 #[.pointer (some ⟨Bs, ob, none⟩)] trivial (enters_of Tryz.func86 (by kernel_rfl) rfl) zs hmax (by omega) n₀ w hn₀ (tvals_stops Fence.wide 5 trivial rfl (by omega) Bs ob n₀ sv zs hlen w hBs hn₀ hc hI)
  gi_wp2_with (refine ⟨trivial, ?_⟩; gi_at_call 84; refine hcol.mono ?_; rintro e w1 ⟨v, rfl, hrow, hnil, hb⟩)
  rcases hrow.2 with ⟨rfl, h0⟩ | ⟨g, cap, cur, rfl, hg, hgb, hcap, hcm, hcs, htk⟩
  · have hz : zs = [] := hnil.1 rfl
    subst hz
    have hnone := AnyF.slices_SortFunc_none tmSort none 0 (.func (.func 77) #[] #[]) w1
    change Calls Tryz.prog 85 _ _ _ at hnone
    gi_wp2_with (refine ⟨trivial, ?_⟩; gi_at_call 85; refine (callsIn_wide.2 hnone).mono ?_; rintro e w' ⟨rfl, rfl⟩)
    go_ret
    exact ⟨_, [], rfl, List.Perm.refl _, List.Pairwise.nil, hb, .inl ⟨rfl, rfl⟩⟩
  · have hglt : g < w1.heap.size := (Array.getElem?_eq_some_iff.1 hgb).1
    have hgc : ∀ (j : Nat) u, (flT zs)[j]? = some u → w1.cell? ⟨g, j, none⟩ = some u ∧ w1.frozen? ⟨g, j, none⟩ = false := by
      intro j u hj
      rw [← htk, List.getElem?_take] at hj
      split at hj
      · constructor
        · simp [World.cell?, hgb]; simpa using hj
        · simp [World.frozen?, hgb]
      · cases hj
    have hH : HoldsK encT 2 w1 g 0 zs.toArray := by
      intro j hj
      have hj' : j < zs.length * 2 := by simpa [flatK] using hj
      have := hgc j _ (flT_get zs j hj')
      simpa [flatK, hj'] using this
    have hsort := AnyQ.slices_SortFunc tmSort 2 Tryz.isAgg80 Tryz.sizeOf80 encT (fun _ => rfl) (fun x v hv => by simp [encT] at hv; rcases hv with rfl | rfl <;> rfl) (fun x y => Lib.compareInt x.1 y.1) swoT 77 #[] g 0 cap zs.toArray w1 (enters_of Tryz.func77 (by kernel_rfl) rfl) (tcmp_lays g 0 zs.toArray.size w1) hH hglt (by simp; omega)
    change Calls Tryz.prog 85 _ _ _ at hsort
    simp only [List.size_toArray] at hsort
    clear hgc htk
    gi_wp2_with (refine ⟨trivial, ?_⟩; gi_at_call 85; refine (callsIn_wide.2 hsort).mono ?_; rintro e w' ⟨rfl, d', n, os, hp, hs, rfl⟩)
    go_ret
    have hds : d'.size = zs.length := by simpa using hp.1
    have hl' : d'.toList.length = zs.length := by simpa using hds
    have hperm : d'.toList.Perm zs := by
      have h := hp.2.2
      have ht : d'.toList.take zs.length = d'.toList := List.take_of_length_le (by omega)
      simpa [ht] using h
    have hH' := holdsK_sortWorldK_c encT 2 w1 g 0 zs.toArray d' n os hH hglt (by simpa using hds)
    refine ⟨_, d'.toList, rfl, hperm, ?_, hb.trans (sort_below w1 g n d' os _ hg hb.size), .inr ⟨g, cap, by rw [hl']; rfl, by omega, hcm, hg, Nat.lt_of_lt_of_le hglt (size_sortWorldK_c _ _ _ _ _ _ _ _), ?_⟩⟩
    · rw [List.pairwise_iff_getElem]
      intro i j hi hj hij
      have h := hs i j (Nat.zero_le _) hij (by omega)
      rw [ltT] at h
      have hi' : i < d'.size := by omega
      have hj' : j < d'.size := by omega
      simp only [decide_eq_false_iff_not, Int.not_lt] at h
      simpa [hi', hj'] using h
    · intro j u hu
      have hj : j < d'.toList.length * 2 := by rw [← flT_len]; exact (List.getElem?_eq_some_iff.1 hu).1
      have h1 := flT_get d'.toList j hj
      rw [hu] at h1
      have hj2 : j < d'.size * 2 := by simpa using hj
      have h2 := (hH' j (by simpa [flatK] using hj2)).1
      rw [Nat.zero_add] at h2
      rw [h2]
      simp only [Option.some.injEq] at h1
      subst h1
      simp [flatK, hj2]
end Go.Proofs.YtngphcdhdllnnaaGreat
end
section
/- slices.Values, slices.SortedFunc at terms: contracts over E. -/
set_option linter.unusedVariables false
set_option linter.unusedSimpArgs false
set_option maxRecDepth 10000
open Go Go.Proofs.YtngphcdhdllnnaaGreat.E Go.Proofs
namespace Go.Proofs.YtngphcdhdllnnaaGreat.E.M
open Go.Proofs.YtngphcdhdllnnaaGreat Go.RowKit Go.Shelf
theorem slices_Values_c {n : Nat} {cs : List AV} : Fn Tryz.prog 76 [.sl n cs] [] (fun q _ => q = .clo 86 [.fptr [.sl n cs]]) := by
  refine Fn.ofCallsF fun ρ F w vs hv hF => ?_
  simp only [VRs] at hv
  obtain ⟨v, rest, rfl, hv1, rfl⟩ := hv
  have hv1' := hv1
  simp only [VR] at hv1'
  obtain ⟨base, cap, us, rfl, h1, h2, h3, h4, h5, h6⟩ := hv1'
  refine (callsIn_wide (n := 1)).1 ((tvals_in _ 1 trivial rfl base n cap w).mono ?_)
  rintro e w' ⟨rfl, rfl⟩
  have hb : Below w.heap.size w (w.alloc (.cells #[.slice base n cap] 81)) := (Below.refl _ w).alloc (Nat.le_refl _) _
  refine ⟨_, _, rfl, rfl, hb, ?_⟩
  have hB := Boxed.new w 81 (.slice base n cap)
  have h0 : VR (fun _ => none) F w (.sl n cs) (.slice base n cap) := by simpa only [VR] using hv1
  have hk : VR (fun _ => none) (fun b => F b ∨ (w.heap.size ≤ b ∧ b < (w.alloc (.cells #[.slice base n cap] 81)).heap.size)) (w.alloc (.cells #[.slice base n cap] 81)) (.sl n cs) (.slice base n cap) :=
    VR.keep (fun _ h => .inl h) (fun b off v hb' hc => (hb.cell (p := ⟨b, off, none⟩) (hF b hb')).trans hc) (fun _ _ h => by cases h) _ _ h0
  have hp : VR (fun _ => none) (fun b => F b ∨ (w.heap.size ≤ b ∧ b < (w.alloc (.cells #[.slice base n cap] 81)).heap.size)) (w.alloc (.cells #[.slice base n cap] 81)) (.fptr [.sl n cs]) (.pointer (some ⟨w.heap.size, 0, none⟩)) := by
    rw [VR]
    refine ⟨⟨w.heap.size, 0, none⟩, [.slice base n cap], rfl, rfl, ⟨_, [], rfl, hk, rfl⟩, .inr ⟨_, _, rfl, .inr ⟨Nat.le_refl _, by simp⟩, ?_⟩⟩
    intro i v hv
    match i, hv with
    | 0, hv => simp at hv; subst hv; exact ⟨hB.cell, rfl⟩
  rw [VR]
  exact ⟨[.pointer (some ⟨w.heap.size, 0, none⟩)], rfl, _, [], rfl, hp, rfl⟩

abbrev tmA (x : Int × Int) : List AV := [.val (.int .i64 x.1), .val (.int .u64 x.2)]
theorem flT_cons (x : Int × Int) (xs : List (Int × Int)) : flT (x :: xs) = .int .i64 x.1 :: .int .u64 x.2 :: flT xs := by simp [flT]
theorem flT_of {ρ : Rho} {F : Nat → Prop} {w : World} : ∀ {zs : List (Int × Int)} {vs : List Value}, VRs ρ F w (fm tmA zs) vs → vs = flT zs
  | [], vs, h => by simp only [fm, VRs] at h; subst h; rfl
  | x :: xs, vs, h => by
    simp only [fm, tmA, List.cons_append, List.nil_append, VRs, VR] at h
    obtain ⟨v, r, rfl, rfl, v', r', rfl, rfl, h⟩ := h
    rw [flT_of h, flT_cons]
theorem of_flT {ρ : Rho} {F : Nat → Prop} {w : World} : ∀ (zs : List (Int × Int)), VRs ρ F w (fm tmA zs) (flT zs)
  | [] => by simp [fm, VRs, flT]
  | x :: xs => by
    simp only [fm, tmA, List.cons_append, List.nil_append, VRs, VR, flT_cons]
    exact ⟨_, _, rfl, rfl, _, _, rfl, rfl, of_flT xs⟩
theorem flT_one : ∀ (zs : List (Int × Int)) (v : Value), v ∈ flT zs → v.oneCell' = true := by
  intro zs v hv
  simp only [flT, List.mem_flatMap] at hv
  obtain ⟨x, _, h⟩ := hv
  simp at h
  rcases h with rfl | rfl <;> rfl

theorem slices_SortedFunc_c {zs : List (Int × Int)} (hl : zs.length * 16 ≤ 140737488351232) :
    Fn Tryz.prog 75 [.clo 86 [.fptr [.sl zs.length (fm tmA zs)]], .clo 77 []] []
      (fun q _ => ∃ zs' : List (Int × Int), q = .sl zs'.length (fm tmA zs') ∧ zs'.Perm zs ∧ zs'.Pairwise (fun a b : Int × Int => a.1 ≤ b.1)) := by
  refine Fn.ofCallsF fun ρ F w vs hv hF => ?_
  simp only [VRs, VR] at hv
  obtain ⟨_, _, rfl, ⟨vs1, rfl, p, r1, rfl, ⟨a, us, rfl, hsp, ⟨sv, _, rfl, ⟨base, cap, ts, rfl, hn, hcm, hts, hfz, hb0, hb1⟩, rfl⟩, hfa⟩, rfl⟩, _, _, rfl, ⟨_, rfl, rfl⟩, rfl⟩ := hv
  have hts' := flT_of hts
  subst hts'
  rcases hfa with h | ⟨b, off, hab, hFb, hcb⟩
  · cases h
  · obtain rfl : a = ⟨b, off, none⟩ := by simpa using hab
    have hc := (hcb 0 _ rfl).1
    have hI : Terms w.heap.size w (.slice base zs.length cap) zs := by
      rcases Nat.eq_zero_or_pos zs.length with h0 | h0
      · left
        exact ⟨base, cap, by rw [h0], List.eq_nil_of_length_eq_zero h0⟩
      · rcases hfz with h | ⟨b', off', rfl, hFb', hcb'⟩
        · have := congrArg List.length h
          rw [flT_len] at this; simp at this; omega
        · right
          refine ⟨b', off', cap, rfl, hF b' hFb', fun j hj => ?_⟩
          have e1 := (hcb' (j * 2) _ (flT_get zs (j * 2) (by omega))).1
          have e2 := (hcb' (j * 2 + 1) _ (flT_get zs (j * 2 + 1) (by omega))).1
          have d1 : (j * 2) / 2 = j := by omega
          have d2 : (j * 2) % 2 = 0 := by omega
          have d3 : (j * 2 + 1) / 2 = j := by omega
          have d4 : (j * 2 + 1) % 2 = 1 := by omega
          rw [d1, d2] at e1
          rw [d3, d4] at e2
          refine ⟨?_, ?_⟩
          · rw [e1]; simp [encT, hj]
          · rw [Nat.add_assoc, e2]; simp [encT, hj]
    refine (tsof_c b off w.heap.size _ zs hl w (hF b hFb) (Nat.le_refl _) hc hI).mono ?_
    rintro e w' ⟨v, zs', rfl, hp, hs, hbel, hv⟩
    refine ⟨v, _, rfl, ⟨zs', rfl, hp, hs⟩, hbel, ?_⟩
    rw [VR]
    rcases hv with ⟨rfl, rfl⟩ | ⟨g, cap', rfl, h1, h2, h3, h4, h5⟩
    · exact ⟨none, 0, [], rfl, Nat.le_refl _, by simp [maxLen], by simp [fm, VRs], .inl rfl, fun _ => rfl, fun _ h => by cases h⟩
    · exact ⟨_, cap', flT zs', rfl, h1, h2, of_flT zs', .inr ⟨g, 0, rfl, .inr ⟨h3, h4⟩, fun i v hv => ⟨by rw [Nat.zero_add]; exact h5 i v hv, flT_one _ _ (List.mem_of_getElem? hv)⟩⟩, (fun h => by cases h), fun a ha _ => by cases ha; rfl⟩
end Go.Proofs.YtngphcdhdllnnaaGreat.E.M
end
section
/- slices.IndexFunc and slices.DeleteFunc at terms: contracts over E. -/
set_option linter.unusedVariables false
set_option linter.unusedSimpArgs false
set_option maxRecDepth 10000
open Go Go.Proofs.YtngphcdhdllnnaaGreat.E Go.Proofs
namespace Go.Proofs.YtngphcdhdllnnaaGreat.E.M
def idxT (p : Tm → Bool) : List Tm → Nat → Int
  | [], _ => -1
  | v :: l, k => if p v then k else idxT p l (k + 1)
theorem tm_at {L : List Tm} {n : Nat} {g : Tm} (h : L[n]? = some g) : (fm tm L).drop (n * 2) = i g.v :: u g.k :: fm tm (L.drop (n + 1)) := by
  have hl := (List.getElem?_eq_some_iff.1 h).1
  have := fm_at tm_len hl
  rw [List.getElem?_eq_getElem hl] at h
  rw [Option.some.inj h] at this
  exact this
set_option maxHeartbeats 1000000 in
theorem rank_Sum_2_c {v k : Int} : Fn Tryz.prog 80 [.agg [i v, u k]] [] (fun r h_ => r = bo (k == 0)) := by
  refine Fn.enter Tryz.func80 Tryz.ntmps80 rfl (h := ?_)
  have tf := tfr
  have ot_ : (false || true) = true := rfl
  have tfr := tfr
  repeat refine AW.seq ?_
  refine AW.reg ?_
  iterate 2 refine AOL.s1 (h := ?_)
  refine AOL.nil ?_
  refine AW.kq [1] (h := ?_)
  repeat refine AW.seq ?_
  refine AW.reg ?_
  iterate 4 refine AOL.s1 (h := ?_)
  refine AOL.nil ?_
  refine AW.kq [2] (h := ?_)
  repeat refine AW.seq ?_
  refine AW.ret ?_
  refine ⟨_, [], rfl, HOk.nil _, ?_⟩
  simp only [one?]
set_option maxHeartbeats 4000000 in
theorem slices_IndexFunc_api_Term_api_Term_c {V : List Tm} {g : FuncId} {p : Tm → Bool} (lV : V.length < 1000000000) (hcl : callable Tryz.prog g = true) (hg : ∀ v, Fn Tryz.prog g [.agg (tm v)] [] (fun r _ => r = bo (p v))) : Fn Tryz.prog 88 [slF tm V, .clo g []] [] (fun r h_ => r = i (idxT p V 0)) := by
  refine Fn.enter Tryz.func88 Tryz.ntmps88 rfl (h := ?_)
  have tf := tfr
  have ot_ : (false || true) = true := rfl
  have tfr := tfr
  repeat refine AW.seq ?_
  refine AW.reg ?_
  iterate 1 refine AOL.s1 (h := ?_)
  refine AOL.nil ?_
  refine AW.kq [0, 1] (h := ?_)
  repeat refine AW.seq ?_
  refine AW.reg ?_
  iterate 3 refine AOL.s1 (h := ?_)
  refine AOL.nil ?_
  refine AW.kq [0, 1, 7, 8] (h := ?_)
  repeat refine AW.seq ?_
  refine AW.block ?_
  repeat refine AW.seq ?_
  refine AW.loopK [0, 1, 7, 8] (fun n s => ∃ (k : Nat), s = ⟨19, [(0, slF tm V), (1, .clo g []), (7, i V.length), (8, i k)], []⟩ ∧ k ≤ V.length ∧ n = V.length - k ∧ idxT p (V.drop k) k = idxT p V 0) (V.length) ?_ ?_
  · exact ⟨0, rfl, Nat.zero_le _, rfl, rfl⟩
  rintro n s ⟨k, rfl, hkl, rfl, hi⟩
  repeat refine AW.seq ?_
  refine AW.reg ?_
  iterate 1 refine AOL.s1 (h := ?_)
  refine AOL.nil ?_
  refine AW.kq [0, 1, 7, 8, 9] (h := ?_)
  repeat refine AW.seq ?_
  refine AW.cond rfl (fun d_ => ?_) (fun d_ => ?_)
  · have h1 : k < V.length := by have : (k:Int) < V.length := by simpa using d_
                                 omega
    have hg' : V[k]? = some V[k] := List.getElem?_eq_getElem h1
    have hgd := tm_at hg'
    have k0 : (0:Int) ≤ k := by omega
    have k1 : (k:Int) < V.length := by omega
    have hw := incq h1 lV
    have cg := hg V[k]
    have hi : (if p V[k] then (k:Int) else idxT p (V.drop (k + 1)) (k + 1)) = idxT p V 0 := by
      rw [← hi, List.drop_eq_getElem_cons h1]
      simp only [idxT]
    clear hg' d_
    generalize V[k] = a at *
    obtain ⟨a0, a1⟩ := a
    refine AW.skip ?_
    repeat refine AW.seq ?_
    refine AW.block ?_
    repeat refine AW.seq ?_
    refine AW.reg ?_
    iterate 2 refine AOL.s1 (h := ?_)
    refine AOL.nil ?_
    refine AW.kq [0, 1, 5, 7, 8] (h := ?_)
    repeat refine AW.seq ?_
    refine AW.reg ?_
    iterate 5 refine AOL.s1 (h := ?_)
    refine AOL.callD rfl cg hcl rfl rfl (h := ?_)
    refine AOL.nil ?_
    refine AW.kq [0, 1, 5, 7, 8, 16] (h := ?_)
    repeat refine AW.seq ?_
    refine AW.cond rfl (fun e_ => ?_) (fun e_ => ?_)
    · have hf : idxT p V 0 = k := by rw [← hi, if_pos e_]
      repeat refine AW.seq ?_
      refine AW.reg ?_
      iterate 2 refine AOL.s1 (h := ?_)
      refine AOL.nil ?_
      refine AW.kq [4] (h := ?_)
      repeat refine AW.seq ?_
      refine AW.ret ?_
      refine ⟨_, [], rfl, HOk.nil _, ?_⟩
      simp only [one?, hf]
    have hf : idxT p (V.drop (k + 1)) (k + 1) = idxT p V 0 := by rw [← hi, if_neg (by rw [e_]; decide)]
    refine AW.skip ?_
    repeat refine AW.seq ?_
    refine AW.reg ?_
    iterate 2 refine AOL.s1 (h := ?_)
    refine AOL.nil ?_
    exact ⟨V.length - (k + 1), by omega, _, rfl, h1, rfl, hf⟩
  · have hf : idxT p V 0 = -1 := by
      have : k = V.length := by have : ¬ (k:Int) < V.length := by simpa using d_
                                omega
      subst this
      rw [List.drop_length] at hi
      exact hi.symm
    repeat refine AW.seq ?_
    refine AW.exit ?_
    repeat (first | refine Kseq.ex ?_ | refine Kloop.ex ?_ | refine Kblock.miss (by decide) ?_)
    refine Kblock.hit ?_
    refine AW.kq [] (h := ?_)
    repeat refine AW.seq ?_
    refine AW.reg ?_
    iterate 1 refine AOL.s1 (h := ?_)
    refine AOL.nil ?_
    refine AW.kq [4] (h := ?_)
    repeat refine AW.seq ?_
    refine AW.ret ?_
    refine ⟨_, [], rfl, HOk.nil _, ?_⟩
    simp only [one?, hf]
def kept (p : Tm → Bool) (L : List Tm) : List Tm := L.filter fun t => !p t
theorem kept_snoc (p : Tm → Bool) {L : List Tm} {j : Nat} (hj : j < L.length) : kept p (L.take (j + 1)) = if p L[j] then kept p (L.take j) else kept p (L.take j) ++ [L[j]] := by
  unfold kept
  rw [List.take_add_one, List.getElem?_eq_getElem hj, List.filter_append]
  cases h : p L[j] <;> simp [h]
theorem spl_tm (K M D : List Tm) (m a : Tm) : splice (K.length * 2) [i a.v, u a.k] (fm tm (K ++ (m :: M) ++ D)) = fm tm (K ++ [a] ++ M ++ D) := by
  have hk := fm_len tm_len K
  simp only [splice, fm_app, fm, List.append_nil, List.append_assoc]
  rw [List.take_append_of_le_length (by omega), List.take_of_length_le (by omega)]
  rw [show K.length * 2 + [i a.v, u a.k].length = (fm tm K).length + 2 by rw [hk]; rfl, List.drop_append]
  simp
theorem idx_none (p : Tm → Bool) : ∀ (L : List Tm) (k : Nat), idxT p L k = -1 → kept p L = L
  | [], _, _ => rfl
  | t :: l, k, h => by
    simp only [idxT] at h
    split at h
    · omega
    · rename_i hp
      simp only [kept, List.filter_cons]
      simp only [Bool.not_eq_true] at hp
      simp only [hp, Bool.not_false, if_true]
      rw [show List.filter (fun t => !p t) l = l from idx_none p l (k + 1) h]
theorem idx_some (p : Tm → Bool) : ∀ (L : List Tm) (k : Nat), idxT p L k ≠ -1 → ∃ j, idxT p L k = ((k + j : Nat) : Int) ∧ j < L.length ∧ kept p (L.take j) = L.take j ∧ (∀ h : j < L.length, p L[j] = true)
  | [], _, h => absurd rfl h
  | t :: l, k, h => by
    simp only [idxT] at h ⊢
    split
    · rename_i hp
      exact ⟨0, rfl, by simp, rfl, fun _ => hp⟩
    · rename_i hp
      rw [if_neg hp] at h
      obtain ⟨j, h1, h2, h3, h4⟩ := idx_some p l (k + 1) h
      refine ⟨j + 1, by rw [h1]; congr 1; omega, by simp; omega, ?_, fun _ => by simpa using h4 h2⟩
      simp only [Bool.not_eq_true] at hp
      simp only [kept, List.take_succ_cons, List.filter_cons, hp, Bool.not_false, if_true]
      rw [show List.filter (fun t => !p t) (l.take j) = l.take j from h3]
set_option maxHeartbeats 4000000 in
theorem slices_DeleteFunc_api_Term_api_Term_c {L : List Tm} {g : FuncId} {p : Tm → Bool} (lV : L.length < 1000000000) (hcl : callable Tryz.prog g = true) (hg : ∀ v, Fn Tryz.prog g [.agg (tm v)] [] (fun r _ => r = bo (p v))) : Fn Tryz.prog 79 [.ref 0 0 L.length 2, .clo g []] [(0, ⟨80, false, fm tm L⟩)] (fun r h_ => r = slF tm (kept p L) ∧ h_ = []) := by
  refine Fn.enter Tryz.func79 Tryz.ntmps79 rfl (h := ?_)
  have tf := tfr
  have ot_ : (false || true) = true := rfl
  have tfr := tfr
  have cI : Fn Tryz.prog 88 [.sl L.length (sub 0 (L.length * 2) (fm tm L)), .clo g []] [] (fun r _ => r = i (idxT p L 0)) := by
    rw [sub_all (by rw [fm_len tm_len]; exact Nat.le_refl _)]; exact slices_IndexFunc_api_Term_api_Term_c lV hcl hg
  repeat refine AW.seq ?_
  refine AW.reg ?_
  iterate 1 refine AOL.s1 (h := ?_)
  refine AOL.nil ?_
  refine AW.kq [0, 1] (h := ?_)
  repeat refine AW.seq ?_
  refine AW.reg ?_
  iterate 2 refine AOL.s1 (h := ?_)
  refine AOL.callB (st1 := ⟨0, [], []⟩) [(0, fm tm L)] (by intro p hp; simp only [List.mem_singleton] at hp; subst hp; exact ⟨_, rfl, rfl, fun h => by cases h⟩) rfl cI (by kernel_rfl) rfl (h := ?_)
  iterate 1 refine AOL.s1 (h := ?_)
  refine AOL.nil ?_
  refine AW.kq [0, 1, 5] (h := ?_)
  repeat refine AW.seq ?_
  refine AW.reg ?_
  iterate 2 refine AOL.s1 (h := ?_)
  refine AOL.nil ?_
  refine AW.kq [0, 1, 5, 12] (h := ?_)
  repeat refine AW.seq ?_
  refine AW.cond rfl (fun c_ => ?_) (fun c_ => ?_)
  · have hn := idx_none p L 0 (by simpa using c_)
    repeat refine AW.seq ?_
    refine AW.reg ?_
    iterate 2 refine AOL.s1 (h := ?_)
    refine AOL.nil ?_
    refine AW.kq [4] (h := ?_)
    refine AW.fz 0 rfl (fun h => by cases h) (h := ?_)
    repeat refine AW.seq ?_
    refine AW.ret ?_
    refine ⟨_, [], rfl, HOk.nil _, ?_⟩
    refine ⟨?_, rfl⟩
    simp only [one?, hn, sub_all (show (fm tm L).length ≤ L.length * 2 by rw [fm_len tm_len]; exact Nat.le_refl _)]
  obtain ⟨q, hq1, hq2, hq3, hq4⟩ := idx_some p L 0 (by simpa using c_)
  rw [Nat.zero_add] at hq1
  rw [hq1]
  clear c_ hq1
  have q1 : q < 1000000000 := by omega
  have hwq := incq hq2 lV
  have hdec : id (L.take q ++ [L[q]] ++ L.drop (q + 1) = L) := by
    show _ = _
    rw [List.append_assoc, List.singleton_append, ← List.drop_eq_getElem_cons hq2, List.take_append_drop]
  have hlen : id ((L.take q).length = q) := by show _ = _; rw [List.length_take]; omega
  have hk0 : id (L.take q = kept p (L.take (q + 1))) := by show _ = _; rw [kept_snoc p hq2, if_pos (hq4 hq2), hq3]
  clear hq3 hq4
  refine AW.skip ?_
  repeat refine AW.seq ?_
  refine AW.reg ?_
  iterate 3 refine AOL.s1 (h := ?_)
  refine AOL.nil ?_
  refine AW.kq [0, 1, 5, 6] (h := ?_)
  repeat refine AW.seq ?_
  refine AW.block ?_
  repeat refine AW.seq ?_
  refine AW.loopK [0, 1, 5, 6] (fun n s => ∃ (j : Nat) (K M : List Tm), s = ⟨42, [(0, .ref 0 0 L.length 2), (1, .clo g []), (5, i K.length), (6, i j)], [(0, ⟨80, false, fm tm (K ++ M ++ L.drop j)⟩)]⟩ ∧ j ≤ L.length ∧ n = L.length - j ∧ K.length + M.length = j ∧ id (K = kept p (L.take j)) ∧ 0 < M.length) (L.length - (q + 1)) ?_ ?_
  · exact ⟨q + 1, L.take q, [L[q]], by rw [show _ = _ from hdec, show _ = _ from hlen], hq2, rfl, by rw [show _ = _ from hlen]; rfl, hk0, by simp⟩
  rintro n s ⟨j, K, M, rfl, hjl, rfl, hKM, hK, hM⟩
  repeat refine AW.seq ?_
  refine AW.reg ?_
  iterate 4 refine AOL.s1 (h := ?_)
  refine AOL.nil ?_
  refine AW.kq [0, 1, 5, 6, 19] (h := ?_)
  repeat refine AW.seq ?_
  refine AW.cond rfl (fun d_ => ?_) (fun d_ => ?_)
  · have h1 : j < L.length := by have : (j:Int) < L.length := by simpa using d_
                                 omega
    have hgj : (K ++ M ++ L.drop j)[j]? = some L[j] := by
      rw [List.getElem?_append_right (by simp; omega), List.getElem?_drop]
      simp only [List.length_append]
      rw [show j + (j - (K.length + M.length)) = j by omega, List.getElem?_eq_getElem h1]
    have hgd := tm_at hgj
    have k0 : (0:Int) ≤ j := by omega
    have k1 : (j:Int) < L.length := by omega
    have hw := incq h1 lV
    have cg := hg L[j]
    have hkn := kept_snoc p h1
    have hdj := List.drop_eq_getElem_cons h1
    replace hkn : id (kept p (L.take (j + 1)) = if p L[j] then kept p (L.take j) else kept p (L.take j) ++ [L[j]]) := hkn
    replace hdj : id (L.drop j = L[j] :: L.drop (j + 1)) := hdj
    clear hgj d_
    generalize L[j] = a at *
    obtain ⟨a0, a1⟩ := a
    refine AW.skip ?_
    repeat refine AW.seq ?_
    refine AW.block ?_
    repeat refine AW.seq ?_
    refine AW.reg ?_
    iterate 6 refine AOL.s1 (h := ?_)
    refine AOL.nil ?_
    refine AW.kq [0, 1, 5, 6, 7] (h := ?_)
    repeat refine AW.seq ?_
    refine AW.reg ?_
    iterate 2 refine AOL.s1 (h := ?_)
    refine AOL.callD rfl cg hcl rfl rfl (h := ?_)
    iterate 1 refine AOL.s1 (h := ?_)
    refine AOL.nil ?_
    refine AW.kq [0, 1, 5, 6, 7, 29] (h := ?_)
    repeat refine AW.seq ?_
    refine AW.cond rfl (fun e_ => ?_) (fun e_ => ?_)
    · have hp : p ⟨a0, a1⟩ = false := by simpa using e_
      replace hkn : id (kept p (L.take (j + 1)) = K ++ [⟨a0, a1⟩]) := by
        show _ = _
        rw [show _ = _ from hkn, hp, show _ = _ from hK]; rfl
      obtain ⟨m, M, rfl⟩ : ∃ m M', M = m :: M' := by
        cases M with
        | nil => simp at hM
        | cons m M' => exact ⟨m, M', rfl⟩
      simp only [List.length_cons] at hKM
      have spl : id ((fm tm (K ++ (m :: M) ++ L.drop j)).take (K.length * 2) ++ [i a0, u a1] ++ (fm tm (K ++ (m :: M) ++ L.drop j)).drop (K.length * 2 + 2) = fm tm (K ++ [⟨a0, a1⟩] ++ M ++ L.drop j)) := spl_tm K M _ m ⟨a0, a1⟩
      have lc : (fm tm (K ++ (m :: M) ++ L.drop j)).length = L.length * 2 := by
        rw [fm_len tm_len]; simp only [List.length_append, List.length_cons, List.length_drop]; congr 1; omega
      have kk1 : (K.length:Int) < L.length := by omega
      have kk0 : (0:Int) ≤ K.length := by omega
      have b2 : K.length * 2 + 2 ≤ L.length * 2 := by omega
      have hwk := incq (show K.length < L.length by omega) lV
      clear hgd cg e_ hp hK hM
      repeat refine AW.seq ?_
      refine AW.reg ?_
      iterate 5 refine AOL.s1 (h := ?_)
      refine AOL.nil ?_
      refine AW.kq [0, 1, 5, 6] (h := ?_)
      repeat refine AW.seq ?_
      refine AW.reg ?_
      iterate 3 refine AOL.s1 (h := ?_)
      refine AOL.nil ?_
      repeat refine AW.seq ?_
      refine AW.let 1112 (h := ?_)
      refine AW.reg ?_
      iterate 3 refine AOL.s1 (h := ?_)
      refine AOL.nil ?_
      refine ⟨L.length - (j + 1), by omega, j + 1, K ++ [⟨a0, a1⟩], M ++ [⟨a0, a1⟩], ?_, h1, rfl, by simp only [List.length_append, List.length_singleton]; omega, by show _ = _; exact (show _ = _ from hkn).symm, by simp⟩
      have e1 : K ++ [(⟨a0, a1⟩ : Tm)] ++ (M ++ [⟨a0, a1⟩]) ++ L.drop (j + 1) = K ++ [⟨a0, a1⟩] ++ M ++ L.drop j := by rw [show _ = _ from hdj]; simp only [List.append_assoc, List.cons_append, List.nil_append]
      have e2 : (K ++ [(⟨a0, a1⟩ : Tm)]).length = K.length + 1 := by simp
      rw [e1, e2, ← show _ = _ from spl]; rfl
    · have hp : p ⟨a0, a1⟩ = true := by simpa using e_
      replace hkn : id (kept p (L.take (j + 1)) = K) := by
        show _ = _
        rw [show _ = _ from hkn, hp, show _ = _ from hK]; rfl
      clear hgd cg e_ hp hK
      refine AW.skip ?_
      repeat refine AW.seq ?_
      refine AW.let 1112 (h := ?_)
      refine AW.reg ?_
      iterate 3 refine AOL.s1 (h := ?_)
      refine AOL.nil ?_
      refine ⟨L.length - (j + 1), by omega, j + 1, K, M ++ [⟨a0, a1⟩], ?_, h1, rfl, by simp only [List.length_append, List.length_singleton]; omega, by show _ = _; exact (show _ = _ from hkn).symm, by simp⟩
      have e1 : K ++ (M ++ [⟨a0, a1⟩]) ++ L.drop (j + 1) = K ++ M ++ L.drop j := by rw [show _ = _ from hdj]; simp only [List.append_assoc, List.cons_append, List.nil_append]
      rw [e1]; rfl
  · have hj : j = L.length := by have : ¬ (j:Int) < L.length := by simpa using d_
                                 omega
    subst hj
    rw [List.take_of_length_le (Nat.le_refl _)] at hK
    have kl : K.length ≤ L.length := by omega
    have lc : (fm tm (K ++ M ++ L.drop L.length)).length = L.length * 2 := by
      rw [fm_len tm_len]; simp only [List.length_append, List.length_drop]; congr 1; omega
    have s1 : ∀ H, aSlice Tryz.prog 81 H (.ref 0 0 L.length 2) (some (i K.length)) none none = some (.ref 0 (K.length * 2) (L.length - K.length) 2) := fun H => by
      have c1 : (0:Int) ≤ K.length := by omega
      have c2 : (K.length:Int) ≤ L.length := by omega
      simp only [aSlice, tf, bnd, intOf?, c1, c2, and_self, true_and, if_true, Int.le_refl, Int.toNat_natCast, Nat.zero_add]
    have s2 : ∀ H, aSlice Tryz.prog 81 H (.ref 0 0 L.length 2) none (some (i K.length)) none = some (.ref 0 0 K.length 2) := fun H => by
      have c1 : (0:Int) ≤ K.length := by omega
      have c2 : (K.length:Int) ≤ L.length := by omega
      simp only [aSlice, tf, bnd, intOf?, c1, c2, and_self, true_and, if_true, Int.le_refl, Int.toNat_natCast, Int.toNat_zero, Nat.zero_mul, Nat.zero_add, Nat.sub_zero]
    have hT : sub 0 (K.length * 2) ((fm tm (K ++ M ++ L.drop L.length)).take (K.length * 2) ++ (zRow [.int .i64 0, .int .u64 0] (L.length - K.length)).map AV.val ++ (fm tm (K ++ M ++ L.drop L.length)).drop (K.length * 2 + (L.length - K.length) * 2)) = fm tm K := by
      have hk := fm_len tm_len K
      have : (fm tm (K ++ M ++ L.drop L.length)).take (K.length * 2) = fm tm K := by
        rw [List.append_assoc, fm_app, List.take_append_of_le_length (by omega), List.take_of_length_le (by omega)]
      rw [this]
      simp only [sub, List.drop_zero, List.append_assoc]
      rw [List.take_append_of_le_length (by omega), List.take_of_length_le (by omega)]
    clear d_
    repeat refine AW.seq ?_
    refine AW.exit ?_
    repeat (first | refine Kseq.ex ?_ | refine Kloop.ex ?_ | refine Kblock.miss (by decide) ?_)
    refine Kblock.hit ?_
    refine AW.kq [0, 5] (h := ?_)
    repeat refine AW.seq ?_
    refine AW.reg ?_
    iterate 3 refine AOL.s1 (h := ?_)
    refine AOL.clr (zs := [.int .i64 0, .int .u64 0]) (e := 80) rfl (by kernel_rfl) (by kernel_rfl) rfl (by intro v hv; simp at hv; rcases hv with rfl | rfl <;> rfl) rfl (by rw [lc]; omega) rfl (h := ?_)
    refine AOL.nil ?_
    refine AW.kq [0, 5] (h := ?_)
    repeat refine AW.seq ?_
    refine AW.reg ?_
    iterate 4 refine AOL.s1 (h := ?_)
    refine AOL.nil ?_
    refine AW.kq [4] (h := ?_)
    refine AW.fz 0 rfl (fun h => by cases h) (h := ?_)
    repeat refine AW.seq ?_
    refine AW.ret ?_
    refine ⟨_, [], rfl, HOk.nil _, ?_⟩
    refine ⟨?_, rfl⟩
    rw [← show K = kept p L from hK]
    simp only [one?, hT]
end Go.Proofs.YtngphcdhdllnnaaGreat.E.M
end
section
/- rank.Sum: a contract over E. -/
set_option linter.unusedVariables false
set_option linter.unusedSimpArgs false
set_option maxRecDepth 10000
open Go Go.Proofs.YtngphcdhdllnnaaGreat.E Go.Proofs
namespace Go.Proofs.YtngphcdhdllnnaaGreat.E.M
def prT (t : Tm) : Int × Int := (t.v, t.k)
def unT (x : Int × Int) : Tm := ⟨x.1, x.2⟩
theorem fm_pr : ∀ (L : List Tm), fm tmA (L.map prT) = fm tm L
  | [] => rfl
  | t :: l => by simp only [List.map_cons, fm, fm_pr l]; rfl
theorem fm_un : ∀ (L : List (Int × Int)), fm tm (L.map unT) = fm tmA L
  | [] => rfl
  | t :: l => by simp only [List.map_cons, fm, fm_un l]; rfl
theorem un_pr (L : List Tm) : (L.map prT).map unT = L := by
  rw [List.map_map]
  exact List.map_id'' (fun t => rfl) L
theorem sorted_c {L : List Tm} (hl : L.length < 1000000000) :
    Fn Tryz.prog 75 [.clo 86 [.fptr [slF tm L]], .clo 77 []] []
      (fun q _ => ∃ S : List Tm, q = slF tm S ∧ S.Perm L ∧ S.Pairwise (fun a b : Tm => a.v ≤ b.v)) := by
  have h := slices_SortedFunc_c (zs := L.map prT) (by rw [List.length_map]; omega)
  rw [fm_pr, List.length_map] at h
  refine h.mono ?_
  rintro r h_ ⟨zs', rfl, hp, hs⟩
  refine ⟨zs'.map unT, by rw [slF, fm_un, List.length_map], ?_, ?_⟩
  · have := hp.map unT
    rwa [un_pr] at this
  · rw [List.pairwise_map]
    exact hs

theorem fm_snoc {f : Tm → List AV} (l : List Tm) (t : Tm) : fm f (l ++ [t]) = fm f l ++ f t := by rw [fm_app]; simp only [fm, List.append_nil]
theorem set_tm (l : List Tm) (t : Tm) (k : Int) : (fm tm (l ++ [t])).set (l.length * 2 + 1) (u k) = fm tm (l ++ [⟨t.v, k⟩]) := by
  rw [fm_snoc, fm_snoc, List.set_append_right _ _ (by rw [fm_len tm_len]; omega), fm_len tm_len]
  rw [show l.length * 2 + 1 - l.length * 2 = 1 by omega]; rfl
theorem tm_free (L : List Tm) : frees (fm tm L) = true := frees_fm (f := tm) (fun _ => rfl) L
theorem tm_labs (L : List Tm) : labss (fm tm L) = [] := labss_free _ (tm_free L)
theorem tm_rens (s : Nat → Nat) (L : List Tm) : rens s (fm tm L) = fm tm L := rens_free s (tm_free L)
set_option maxHeartbeats 4000000 in
theorem rank_Sum_c {L : List Tm} (hl : L.length < 1000000000) (hT : wT L) : Fn Tryz.prog 64 [slF tm L] [] (fun r _ => r = slF tm (sumT L)) := by
  have hV : Fn Tryz.prog 76 [slF tm L] [] (fun q _ => q = .clo 86 [.fptr [slF tm L]]) := slices_Values_c
  have hS := sorted_c hl
  refine Fn.enter Tryz.func64 Tryz.ntmps64 rfl (h := ?_)
  have tf := tfr
  have ot_ : (false || true) = true := rfl
  repeat refine AW.seq ?_
  refine AW.reg ?_
  iterate 1 refine AOL.s1 (h := ?_)
  refine AOL.nil ?_
  refine AW.kq [0] (h := ?_)
  repeat refine AW.seq ?_
  refine AW.reg ?_
  iterate 1 refine AOL.s1 (h := ?_)
  refine AOL.callD rfl (hV) (by kernel_rfl) rfl rfl (h := ?_)
  refine AOL.call rfl hS (by kernel_rfl) rfl ?_
  rintro q h_ ⟨S, rfl, hp, hs⟩
  refine ⟨rfl, ?_⟩
  have hST : wT S := fun t ht => hT t (hp.mem_iff.1 ht)
  have lS : S.length < 1000000000 := by rw [hp.length_eq]; exact hl
  rw [← accS_eq hp hs]
  clear hp hs hT hl hS hV
  iterate 1 refine AOL.s1 (h := ?_)
  refine AOL.nil ?_
  refine AW.kq [3] (h := ?_)
  repeat refine AW.seq ?_
  refine AW.reg ?_
  iterate 1 refine AOL.s1 (h := ?_)
  refine AOL.nil ?_
  refine AW.kq [3, 4] (h := ?_)
  refine AW.born 4 1001 80 2 (.inl rfl) (h := ?_)
  repeat refine AW.seq ?_
  refine AW.reg ?_
  iterate 3 refine AOL.s1 (h := ?_)
  refine AOL.nil ?_
  refine AW.kq [3, 4, 11, 12, 13] (h := ?_)
  repeat refine AW.seq ?_
  refine AW.block ?_
  repeat refine AW.seq ?_
  refine AW.loopK [3, 4, 11, 12, 13] (fun n s => ∃ (k : Nat) (p : Option Int) (out r : List Tm), s = ⟨58, [(3, slF tm S), (4, .ref 1001 0 out.length 2), (11, slF tm S), (12, i S.length), (13, i k)], [(1001, ⟨80, false, fm tm out⟩)]⟩ ∧ S.drop k = r ∧ k ≤ S.length ∧ n = r.length ∧ id (accS p out r = accS none [] S) ∧ out.length ≤ k ∧ wT out ∧ (k = 0 → p = none) ∧ (∀ j t, k = j + 1 → S[j]? = some t → p = some t.v) ∧ (∀ v, p = some v → 0 ≤ v → out ≠ [])) S.length ?_ ?_
  · exact ⟨0, none, [], S, rfl, rfl, Nat.zero_le _, rfl, rfl, Nat.le_refl _, (fun t ht => by cases ht), fun _ => rfl, fun j t h => by omega, fun v h => by cases h⟩
  rintro n s ⟨k, p, out, r, rfl, hr, hkl, rfl, hi, hol, hwo, hp0, hp1, hpo⟩
  repeat refine AW.seq ?_
  refine AW.reg ?_
  iterate 1 refine AOL.s1 (h := ?_)
  refine AOL.nil ?_
  refine AW.kq [3, 4, 11, 12, 13, 14] (h := ?_)
  repeat refine AW.seq ?_
  refine AW.cond rfl (fun c_ => ?_) (fun c_ => ?_)
  · cases r with
    | nil => have := dnilq hr hkl; simp at c_; omega
    | cons t r =>
    obtain ⟨hlt, hr', ht⟩ := dconsq hr
    have hd : (fm tm S).drop (k * 2) = i t.v :: u t.k :: fm tm r := fm_drop tm_len hr
    have k0 : (0:Int) ≤ k := by omega
    have k1 : (k:Int) < S.length := by omega
    have hw := incq hlt lS
    have hkw := hST t (List.mem_of_getElem? ht)
    have hn1 : ∀ j s, k + 1 = j + 1 → S[j]? = some s → some t.v = some s.v := by
      intro j s h1 h2
      obtain rfl : j = k := by omega
      rw [ht] at h2; cases h2; rfl
    clear hr
    refine AW.skip ?_
    repeat refine AW.seq ?_
    refine AW.midK [3, 4, 11, 12, 13] (fun s => ∃ (out' : List Tm), s = ⟨58, [(3, slF tm S), (4, .ref 1001 0 out'.length 2), (11, slF tm S), (12, i S.length), (13, i k)], [(1001, ⟨80, false, fm tm out'⟩)]⟩ ∧ id (accS (some t.v) out' r = accS none [] S) ∧ out'.length ≤ k + 1 ∧ wT out' ∧ (0 ≤ t.v → out' ≠ [])) ?_ ?_
    · refine AW.block ?_
      repeat refine AW.seq ?_
      refine AW.reg ?_
      iterate 6 refine AOL.s1 (h := ?_)
      refine AOL.nil ?_
      refine AW.kq [3, 4, 5, 6, 11, 12, 13] (h := ?_)
      repeat refine AW.seq ?_
      refine AW.reg ?_
      iterate 3 refine AOL.s1 (h := ?_)
      refine AOL.nil ?_
      refine AW.kq [3, 4, 5, 6, 11, 12, 13, 20] (h := ?_)
      repeat refine AW.seq ?_
      refine AW.cond rfl (fun c_ => ?_) (fun c_ => ?_)
      · have hi' : id (accS (some t.v) out r = accS none [] S) := by
          rw [← show _ = _ from hi]; show _ = _; simp only [accS]; rw [if_pos (by simpa using c_)]
        repeat refine AW.seq ?_
        refine AW.let 1096 (h := ?_)
        refine AW.exit ?_
        repeat (first | refine Kseq.ex ?_ | refine Kloop.ex ?_ | refine Kblock.miss (by decide) ?_)
        refine Kblock.hit ?_
        exact ⟨out, rfl, hi', by omega, hwo, fun h => by simp at c_; omega⟩
      have t0 : 0 ≤ t.v := by simpa using c_
      have hi' : id (accS (some t.v) (addL t.k (if p = some t.v then out else out ++ [⟨t.v, 0⟩])) r = accS none [] S) := by
        rw [← show _ = _ from hi]; show _ = _; simp only [accS]; rw [if_neg (show ¬ t.v < 0 by omega)]
      clear hi c_
      refine AW.skip ?_
      repeat refine AW.seq ?_
      refine AW.midK [3, 4, 6, 11, 12, 13, 33] (fun s => s = ⟨58, [(3, slF tm S), (4, .ref 1001 0 out.length 2), (6, .ptr 1096 0), (11, slF tm S), (12, i S.length), (13, i k), (33, bo (!decide (p = some t.v)))], [(1001, ⟨80, false, fm tm out⟩), (1096, ⟨80, true, [i t.v, u t.k]⟩)]⟩) ?_ ?_
      · rcases Nat.eq_zero_or_pos k with rfl | hpos
        · have hz : decide (p = some t.v) = false := by rw [hp0 rfl]; simp
          rw [hz]
          clear hi' hz
          refine AW.drw 11 [] (by kernel_rfl) (h := ?_)
          iterate 11 refine ADL.dm 1 (h := ?_)
          refine ADL.done hmix rfl rfl (hT := ?_)
          iterate 2 refine AOL.s1 (h := ?_)
          refine AOL.nil ?_
          exact rfl
        · obtain ⟨j, rfl⟩ : ∃ j, k = j + 1 := ⟨k - 1, by omega⟩
          have hj : j < S.length := by omega
          have hq := hp1 j S[j] rfl (List.getElem?_eq_getElem hj)
          have hq2 : (fm tm S).drop (j * 2) = i S[j].v :: u S[j].k :: fm tm (S.drop (j + 1)) := fm_at tm_len hj
          have j0 : (((j + 1 : Nat) : Int) == 0) = false := by rw [beq_eq_false_iff_ne]; omega
          have jw : IntKind.i64.wrap (((j + 1 : Nat) : Int) - 1) = (j : Int) := by rw [wrapI_o (by omega) (by omega)]; omega
          have j1 : (0:Int) ≤ j := by omega
          have j2 : (j:Int) < S.length := by omega
          have hz : (!decide (p = some t.v)) = (S[j].v != t.v) := by
            rw [hq]; by_cases h : S[j].v = t.v <;> simp [h]
          rw [hz]
          clear hi' hz hq hp1 hp0 hpo hn1 hd
          generalize S[j] = q at *
          refine AW.drw 11 [] (by kernel_rfl) (h := ?_)
          iterate 11 refine ADL.dm 1 (h := ?_)
          refine ADL.done hmix rfl rfl (hT := ?_)
          iterate 2 refine AOL.s1 (h := ?_)
          refine AOL.nil ?_
          exact rfl
      rintro t_ rfl
      repeat refine AW.seq ?_
      refine AW.midK [3, 4, 6, 11, 12, 13] (fun s => ∃ (l : List Tm) (z : Tm), s = ⟨58, [(3, slF tm S), (4, .ref 1001 0 (l ++ [z]).length 2), (6, .ptr 1096 0), (11, slF tm S), (12, i S.length), (13, i k)], [(1001, ⟨80, false, fm tm (l ++ [z])⟩), (1096, ⟨80, true, [i t.v, u t.k]⟩)]⟩ ∧ id ((if p = some t.v then out else out ++ [⟨t.v, 0⟩]) = l ++ [z]) ∧ l.length ≤ k ∧ wT l ∧ w64 z.k) ?_ ?_
      · refine AW.cond rfl (fun c_ => ?_) (fun c_ => ?_)
        · have c1 : ¬ p = some t.v := by simpa using c_
          have lc : (fm tm out).length = out.length * 2 := fm_len tm_len out
          have a1 : (out.length + 1) * 16 ≤ 140737488355328 := by omega
          have a2 : out.length + 1 ≤ 4611686018427387904 := by omega
          have a3 : out.length ≤ 4611686018427387903 := by omega
          clear hi'
          repeat refine AW.seq ?_
          refine AW.reg ?_
          iterate 7 refine AOL.s1 (h := ?_)
          refine AOL.let 1608 (h := ?_)
          refine AOL.nil ?_
          refine ⟨out, ⟨t.v, 0⟩, ?_, if_neg c1, hol, hwo, by show w64 0; decide⟩
          rw [fm_snoc, List.length_append]; rfl
        · have c1 : p = some t.v := by simpa using c_
          refine AW.skip ?_
          have hne := hpo t.v c1 t0
          obtain ⟨l, z, rfl⟩ : ∃ l z, out = l ++ [z] := ⟨out.dropLast, out.getLast hne, (List.dropLast_concat_getLast hne).symm⟩
          refine ⟨l, z, rfl, if_pos c1, ?_, fun a ha => hwo a (List.mem_append_left _ ha), hwo z (by simp)⟩
          rw [List.length_append] at hol; simp at hol; omega
      rintro s_ ⟨l, z, rfl, he, hl, hwl, hwz⟩
      have ll : (l ++ [z]).length = l.length + 1 := by simp
      have lw : IntKind.i64.wrap (((l.length + 1 : Nat) : Int) - 1) = (l.length : Int) := by rw [wrapI_o (by omega) (by omega)]; omega
      have l0 : (0:Int) ≤ l.length := by omega
      have l1 : (l.length:Int) < (l.length + 1 : Nat) := by omega
      rw [ll]
      repeat refine AW.seq ?_
      refine AW.reg ?_
      iterate 6 refine AOL.s1 (h := ?_)
      refine AOL.nil ?_
      refine AW.kq [3, 4, 6, 7, 11, 12, 13] (h := ?_)
      have cA := modular_Add_c hR hwz hkw
      have hdz : (fm tm (l ++ [z])).drop (l.length * 2 + 1) = [u z.k] := by
        rw [fm_snoc, List.drop_append, fm_len tm_len, List.drop_of_length_le (by rw [fm_len tm_len]; omega), show l.length * 2 + 1 - l.length * 2 = 1 by omega]; rfl
      have lz : l.length * 2 + 1 + 1 ≤ (fm tm (l ++ [z])).length := by rw [fm_len tm_len, ll]; omega
      have hst := set_tm l z ((z.k + t.k) % 288230376287764481)
      rw [show _ = _ from he, addL_snoc] at hi'
      clear he hd
      repeat refine AW.seq ?_
      refine AW.drw 8 [] (by kernel_rfl) (h := ?_)
      iterate 7 refine ADL.dm 1 (h := ?_)
      refine ADL.call rfl (cA) (by kernel_rfl) rfl rfl (h := ?_)
      refine ADL.done hmix rfl rfl (hT := ?_)
      iterate 3 refine AOL.s1 (h := ?_)
      refine AOL.let 1096 (h := ?_)
      refine AOL.nil ?_
      exact ⟨l ++ [⟨z.v, (z.k + t.k) % 288230376287764481⟩], by rw [← hst]; simp only [List.length_append, List.length_singleton]; rfl, hi', by simp; omega, by
        intro a ha
        rcases List.mem_append.1 ha with ha | ha
        · exact hwl a ha
        · simp only [List.mem_singleton] at ha; subst ha; exact w64_r _, fun _ => by simp⟩
    rintro s_ ⟨out', rfl, hi', hol', hwo', hne⟩
    repeat refine AW.seq ?_
    refine AW.reg ?_
    iterate 2 refine AOL.s1 (h := ?_)
    refine AOL.nil ?_
    exact ⟨r.length, by simp, k + 1, some t.v, out', r, rfl, hr', hlt, rfl, hi', hol', hwo', fun h => by omega, hn1, fun v hv h0 => by cases hv; exact hne h0⟩
  · have : r = [] := by
      cases r with
      | nil => rfl
      | cons t r => have := (dconsq hr).1; simp at c_; omega
    subst this
    have hg : accS none [] S = out := hi.symm
    rw [hg]
    clear hi hr hp0 hp1 hpo hg
    have cD : Fn Tryz.prog 79 [.ref 0 0 out.length 2, .clo 80 []] [(0, ⟨80, false, fm tm out⟩)] (Tells (slF tm (kept0 out)) []) :=
      (slices_DeleteFunc_api_Term_api_Term_c (p := fun t => t.k == 0) (by omega) (by kernel_rfl) (fun v => rank_Sum_2_c)).mono (by rintro r h ⟨rfl, rfl⟩; exact Tells.self)
    repeat refine AW.seq ?_
    refine AW.exit ?_
    repeat (first | refine Kseq.ex ?_ | refine Kloop.ex ?_ | refine Kblock.miss (by decide) ?_)
    refine Kblock.hit ?_
    refine AW.kq [4] (h := ?_)
    repeat refine AW.seq ?_
    refine AW.reg ?_
    iterate 1 refine AOL.s1 (h := ?_)
    refine AOL.callT [1001] 2000 cD rfl rfl (by kernel_rfl) (by simp [labs, labss]) (by intro p hp; simp only [List.mem_singleton] at hp; subst hp; exact ⟨Nat.zero_lt_one, (by intro l hl; simp only [tm_labs] at hl; cases hl), (by simp only [renB, tm_rens]; rfl)⟩) ⟨by simp, by simp, by simp [labs], by simp, by simp [hlabs]⟩ (by simp only [St.after, consumed, newNames, get?, putH, St.drops, St.drop, mapT, mapH, kill, kills, del, St.put, ins, ren, rens, reduceIte, Nat.reduceLT, Nat.reduceEqDiff, List.cons_append, List.nil_append]; exact rfl) ?_
    iterate 1 refine AOL.s1 (h := ?_)
    refine AOL.nil ?_
    refine AW.kq [2] (h := ?_)
    repeat refine AW.seq ?_
    refine AW.ret ?_
    refine ⟨_, [], rfl, HOk.nil _, ?_⟩
    simp only [one?]
end Go.Proofs.YtngphcdhdllnnaaGreat.E.M
end
section
/- Whether values hold for a system: a contract over E. -/
set_option linter.unusedVariables false
set_option linter.unusedSimpArgs false
set_option maxRecDepth 10000
open Go Go.Proofs.YtngphcdhdllnnaaGreat.E Go.Proofs
namespace Go.Proofs.YtngphcdhdllnnaaGreat.E.M
abbrev spot (k n : Int) : AV := .ifc 97 (.fptr [i k, er n])
def rowsH (V : List Int) : Nat → List Rw → AV
  | _, [] => nil_
  | k, r :: l => if valF V 0 r.a * valF V 0 r.b % 288230376287764481 = valF V 0 r.c then rowsH V (k + 1) l else spot k 8
def greatF (V : List Int) : Bool := V.any fun v => decide (v ≥ 288230376287764481)
def holdsF (s : Rk) (V : List Int) : AV := if chkF s then (if (V.length : Int) ≠ s.v ∨ V.head? ≠ some 1 ∨ greatF V = true then er 1 else rowsH V 0 s.l) else er 3
abbrev wR (s : Rk) : Prop := ∀ r ∈ s.l, wT r.a ∧ wT r.b ∧ wT r.c
theorem chk_v {s : Rk} (h : chkF s = true) : 1 ≤ s.v ∧ s.v ≤ 4096 ∧ 0 ≤ s.p ∧ s.p < s.v := by
  unfold chkF at h
  split at h
  · cases h
  · rename_i hb
    simp [badF] at hb
    omega
set_option maxHeartbeats 8000000 in
theorem rank_Holds_c {s : Rk} {V : List Int} (hS : Len s) (hW : wR s) (hV : wV V) (lV : V.length < 1000000000) : Fn Tryz.prog 22 [.agg (rk s), ul V] [] (fun r h_ => r = holdsF s V) := by
  refine Fn.enter Tryz.func22 Tryz.ntmps22 rfl (h := ?_)
  have tf := tfr
  have ot_ : (false || true) = true := rfl
  obtain ⟨sv, sp, sl_⟩ := s
  have cC := rank_Check_c hS
  have hG : Fn Tryz.prog 47 [ul V, .clo 48 []] [] (fun r _ => r = bo (greatF V)) := slices_ContainsFunc_uint64_uint64_c lV hV (by kernel_rfl) (fun v _ => rank_Holds_1_c)
  unfold holdsF
  cases hc : chkF ⟨sv, sp, sl_⟩ with
  | false =>
    rw [hc] at cC
    have cC : Fn Tryz.prog 46 [.agg (rk ⟨sv, sp, sl_⟩)] [] (fun r _ => r = er 3) := cC
    repeat refine AW.seq ?_
    refine AW.reg ?_
    iterate 2 refine AOL.s1 (h := ?_)
    refine AOL.nil ?_
    refine AW.kq [1, 2] (h := ?_)
    repeat refine AW.seq ?_
    refine AW.reg ?_
    iterate 1 refine AOL.s1 (h := ?_)
    refine AOL.callD rfl (cC) (by kernel_rfl) rfl rfl (h := ?_)
    iterate 1 refine AOL.s1 (h := ?_)
    refine AOL.nil ?_
    refine AW.kq [1, 2, 5] (h := ?_)
    repeat refine AW.seq ?_
    refine AW.reg ?_
    iterate 2 refine AOL.s1 (h := ?_)
    refine AOL.nil ?_
    refine AW.kq [1, 2, 5, 11] (h := ?_)
    repeat refine AW.seq ?_
    refine AW.cond rfl (fun c_ => ?_) (fun c_ => ?_)
    · repeat refine AW.seq ?_
      refine AW.reg ?_
      iterate 2 refine AOL.s1 (h := ?_)
      refine AOL.nil ?_
      refine AW.kq [4] (h := ?_)
      repeat refine AW.seq ?_
      refine AW.ret ?_
      refine ⟨_, [], rfl, HOk.nil _, ?_⟩
      rfl
    cases c_
  | true =>
  rw [hc] at cC
  have cC : Fn Tryz.prog 46 [.agg (rk ⟨sv, sp, sl_⟩)] [] (fun r _ => r = nil_) := cC
  obtain ⟨v1, v2, _, _⟩ := chk_v hc
  simp only at v1 v2
  rw [if_pos rfl]
  cases V with
  | nil =>
    rw [if_pos (.inl (by simp only [List.length_nil]; omega))]
    have hne : decide (((0 : Nat) : Int) ≠ sv) = true := by simp; omega
    have hne2 : (((0 : Nat) : Int) != sv) = true := by simp; omega
    repeat refine AW.seq ?_
    refine AW.reg ?_
    iterate 2 refine AOL.s1 (h := ?_)
    refine AOL.nil ?_
    refine AW.kq [1, 2] (h := ?_)
    repeat refine AW.seq ?_
    refine AW.reg ?_
    iterate 1 refine AOL.s1 (h := ?_)
    refine AOL.callD rfl (cC) (by kernel_rfl) rfl rfl (h := ?_)
    iterate 1 refine AOL.s1 (h := ?_)
    refine AOL.nil ?_
    refine AW.kq [1, 2, 5] (h := ?_)
    repeat refine AW.seq ?_
    refine AW.reg ?_
    iterate 2 refine AOL.s1 (h := ?_)
    refine AOL.nil ?_
    refine AW.kq [1, 2, 5, 11] (h := ?_)
    repeat refine AW.seq ?_
    refine AW.cond rfl (fun c_ => ?_) (fun c_ => ?_)
    · cases c_
    refine AW.skip ?_
    repeat refine AW.seq ?_
    refine AW.reg ?_
    iterate 6 refine AOL.s1 (h := ?_)
    iterate 5 refine AOL.s1 (h := ?_)
    iterate 4 refine AOL.s1 (h := ?_)
    refine AOL.nil ?_
    refine AW.kq [1, 2, 27] (h := ?_)
    repeat refine AW.seq ?_
    refine AW.cond rfl (fun d_ => ?_) (fun d_ => ?_)
    · repeat refine AW.seq ?_
      refine AW.reg ?_
      iterate 2 refine AOL.s1 (h := ?_)
      refine AOL.nil ?_
      refine AW.kq [4] (h := ?_)
      repeat refine AW.seq ?_
      refine AW.ret ?_
      refine ⟨_, [], rfl, HOk.nil _, ?_⟩
      rfl
    cases d_
  | cons v0 V' =>
  have hh0 : (v0 :: V').head? = some v0 := rfl
  have hd0 : (fm u1 (v0 :: V')).head? = some (u v0) := rfl
  have l0 : (0:Int) < (v0 :: V').length := by simp only [List.length_cons]; omega
  have z0 : (0:Int) ≤ 0 := by decide
  generalize v0 :: V' = V at *
  repeat refine AW.seq ?_
  refine AW.reg ?_
  iterate 2 refine AOL.s1 (h := ?_)
  refine AOL.nil ?_
  refine AW.kq [1, 2] (h := ?_)
  repeat refine AW.seq ?_
  refine AW.reg ?_
  iterate 1 refine AOL.s1 (h := ?_)
  refine AOL.callD rfl (cC) (by kernel_rfl) rfl rfl (h := ?_)
  iterate 1 refine AOL.s1 (h := ?_)
  refine AOL.nil ?_
  refine AW.kq [1, 2, 5] (h := ?_)
  repeat refine AW.seq ?_
  refine AW.reg ?_
  iterate 2 refine AOL.s1 (h := ?_)
  refine AOL.nil ?_
  refine AW.kq [1, 2, 5, 11] (h := ?_)
  repeat refine AW.seq ?_
  refine AW.cond rfl (fun b_ => ?_) (fun b_ => ?_)
  · cases b_
  refine AW.skip ?_
  repeat refine AW.seq ?_
  refine AW.reg ?_
  iterate 6 refine AOL.s1 (h := ?_)
  refine AOL.kq [1, 2, 18] (h := ?_)
  refine AOL.or 18 23 (os' := ?_) (x := ?_) (h1 := ?_) (h0 := ?_) (h := ?_)
  rotate_left 2
  iterate 2
    · intro hb_ K' hK; (iterate 5 refine AOL.s1 (h := ?_)); refine AOL.kq [1, 2, 23] (h := ?_); exact hK
  iterate 1 refine AOL.s1 (h := ?_)
  refine AOL.kq [1, 2, 24] (h := ?_)
  refine AOL.or 24 27 (os' := ?_) (x := ?_) (h1 := ?_) (h0 := ?_) (h := ?_)
  rotate_left 2
  iterate 2
    · intro hb_ K' hK; (first | (iterate 3 refine AOL.s1 (h := ?_)) | ((iterate 1 refine AOL.s1 (h := ?_)); refine AOL.callD rfl (hG) (by kernel_rfl) rfl rfl (h := ?_); (iterate 1 refine AOL.s1 (h := ?_)))); refine AOL.kq [1, 2, 27] (h := ?_); exact hK
  refine AOL.nil ?_
  refine AW.kq [1, 2, 27] (h := ?_)
  repeat refine AW.seq ?_
  refine AW.cond rfl (fun d_ => ?_) (fun d_ => ?_)
  · rw [if_pos (by
      simp only [Bool.or_eq_true] at d_
      rcases d_ with (h | h) | h
      · exact .inl (by simpa using h)
      · exact .inr (.inl (by rw [hh0]; simpa using h))
      · exact .inr (.inr h))]
    repeat refine AW.seq ?_
    refine AW.reg ?_
    iterate 2 refine AOL.s1 (h := ?_)
    refine AOL.nil ?_
    refine AW.kq [4] (h := ?_)
    repeat refine AW.seq ?_
    refine AW.ret ?_
    refine ⟨_, [], rfl, HOk.nil _, ?_⟩
    rfl
  rw [if_neg (by
    simp only [Bool.or_eq_false_iff] at d_
    obtain ⟨⟨h1, h2⟩, h3⟩ := d_
    rintro (h | h | h)
    · simp only [decide_eq_false_iff_not, Decidable.not_not, bne_eq_false_iff_eq] at h1; exact h h1
    · simp only [decide_eq_false_iff_not, Decidable.not_not, bne_eq_false_iff_eq] at h2; exact h (by rw [hh0, h2])
    · rw [h3] at h; cases h)]
  clear d_ hG hd0 l0 cC
  have hl := hS.1
  simp only at hl
  have hS2 := hS.2
  simp only at hS2
  have hW2 : ∀ r ∈ sl_, wT r.a ∧ wT r.b ∧ wT r.c := hW
  refine AW.skip ?_
  repeat refine AW.seq ?_
  refine AW.reg ?_
  iterate 4 refine AOL.s1 (h := ?_)
  refine AOL.nil ?_
  refine AW.kq [1, 30, 31, 32] (h := ?_)
  repeat refine AW.seq ?_
  refine AW.block ?_
  repeat refine AW.seq ?_
  refine AW.let 1032 (h := ?_)
  refine AW.loopK [1, 30, 31, 32] (fun n s => ∃ (k : Nat) (r : List Rw), s = ⟨57, [(1, ul V), (30, slF rw_ sl_), (31, i sl_.length), (32, i k)], []⟩ ∧ sl_.drop k = r ∧ k ≤ sl_.length ∧ n = r.length ∧ rowsH V k r = rowsH V 0 sl_) (sl_.length) ?_ ?_
  · exact ⟨0, sl_, rfl, rfl, Nat.zero_le _, rfl, rfl⟩
  rintro n s ⟨k, r, rfl, hr, hkl, rfl, hi⟩
  repeat refine AW.seq ?_
  refine AW.reg ?_
  iterate 1 refine AOL.s1 (h := ?_)
  refine AOL.nil ?_
  refine AW.kq [1, 30, 31, 32, 33] (h := ?_)
  repeat refine AW.seq ?_
  refine AW.cond rfl (fun e_ => ?_) (fun e_ => ?_)
  · obtain ⟨t, r, rfl⟩ := ends_cons hr hkl (by simpa using e_)
    obtain ⟨hlt, hr', ht⟩ := dconsq hr
    have hd : (fm rw_ sl_).drop (k * 3) = slF tm t.a :: slF tm t.b :: slF tm t.c :: fm rw_ r := fm_drop rw_len hr
    have k0 : (0:Int) ≤ k := by omega
    have k1 : (k:Int) < sl_.length := by omega
    have hw := incq hlt hl
    obtain ⟨la, lb, lc⟩ := hS2 t (List.mem_of_getElem? ht)
    obtain ⟨wa, wb, wc⟩ := hW2 t (List.mem_of_getElem? ht)
    have ca := rank_Value_c la hV wa
    have cb := rank_Value_c lb hV wb
    have cc := rank_Value_c lc hV wc
    have za := valF_w (V := V) t.a (out := 0) (by decide)
    have zb := valF_w (V := V) t.b (out := 0) (by decide)
    simp only [rowsH] at hi
    clear hr ht hS hW hS2 hW2 e_ la lb lc wa wb wc hV hc
    generalize valF V 0 t.a = xa at *
    generalize valF V 0 t.b = xb at *
    generalize valF V 0 t.c = xc at *
    refine AW.skip ?_
    repeat refine AW.seq ?_
    refine AW.block ?_
    repeat refine AW.seq ?_
    refine AW.reg ?_
    iterate 6 refine AOL.s1 (h := ?_)
    refine AOL.nil ?_
    refine AW.kq [1, 6, 7, 30, 31, 32] (h := ?_)
    repeat refine AW.seq ?_
    refine AW.drw 12 [] (by kernel_rfl) (h := ?_)
    iterate 3 refine ADL.dm 1 (h := ?_)
    refine ADL.call rfl (ca) (by kernel_rfl) rfl rfl (h := ?_)
    iterate 3 refine ADL.dm 1 (h := ?_)
    refine ADL.call rfl (cb) (by kernel_rfl) rfl rfl (h := ?_)
    refine ADL.call rfl (modular_Mul_c hR za zb) (by kernel_rfl) rfl rfl (h := ?_)
    iterate 3 refine ADL.dm 1 (h := ?_)
    refine ADL.done hmix rfl rfl (hT := ?_)
    refine AOL.callD rfl (cc) (by kernel_rfl) rfl rfl (h := ?_)
    iterate 1 refine AOL.s1 (h := ?_)
    refine AOL.nil ?_
    refine AW.kq [1, 6, 30, 31, 32, 50] (h := ?_)
    repeat refine AW.seq ?_
    refine AW.cond rfl (fun f_ => ?_) (fun f_ => ?_)
    · have hf : rowsH V 0 sl_ = spot k 8 := by rw [← hi, if_neg (by simpa using f_)]
      rw [hf]
      repeat refine AW.seq ?_
      refine AW.reg ?_
      iterate 6 refine AOL.s1 (h := ?_)
      refine AOL.nil ?_
      refine AW.kq [4] (h := ?_)
      refine AW.fz 1864 rfl (fun _ => rfl) (h := ?_)
      repeat refine AW.seq ?_
      refine AW.ret ?_
      refine ⟨_, [], rfl, HOk.nil _, ?_⟩
      rfl
    have hf : rowsH V (k + 1) r = rowsH V 0 sl_ := by rw [← hi, if_pos (by simpa using f_)]
    refine AW.skip ?_
    repeat refine AW.seq ?_
    refine AW.let 1112 (h := ?_)
    refine AW.reg ?_
    iterate 2 refine AOL.s1 (h := ?_)
    refine AOL.nil ?_
    exact ⟨r.length, by simp, _, r, rfl, hr', hlt, rfl, hf⟩
  · obtain rfl := ends_nil hr (by simpa using e_)
    have hg : rowsH V 0 sl_ = nil_ := hi.symm
    clear hi hr
    rw [hg]
    repeat refine AW.seq ?_
    refine AW.exit ?_
    repeat (first | refine Kseq.ex ?_ | refine Kloop.ex ?_ | refine Kblock.miss (by decide) ?_)
    refine Kblock.hit ?_
    refine AW.kq [] (h := ?_)
    repeat refine AW.seq ?_
    refine AW.reg ?_
    iterate 1 refine AOL.s1 (h := ?_)
    refine AOL.nil ?_
    refine AW.kq [4] (h := ?_)
    repeat refine AW.seq ?_
    refine AW.ret ?_
    refine ⟨_, [], rfl, HOk.nil _, ?_⟩
    rfl
end Go.Proofs.YtngphcdhdllnnaaGreat.E.M
end
section
/- gadget: a maker in memory, and its small methods: contracts over E. -/
set_option linter.unusedVariables false
set_option linter.unusedSimpArgs false
set_option maxRecDepth 10000
open Go Go.Proofs.YtngphcdhdllnnaaGreat.E Go.Proofs
namespace Go.Proofs.YtngphcdhdllnnaaGreat.E.M
abbrev TFm : Prop := tSz Tryz.prog 74 = some 4 ∧
    tAgg Tryz.prog 74 = some true ∧
    tBytes Tryz.prog 74 = some 64 ∧
    tZero Tryz.prog 74 = some [(.int .i64 0), (.int .i64 0), (.slice none 0 0), (.slice none 0 0)] ∧
    tSlice Tryz.prog 74 = none ∧
    tIface Tryz.prog 74 = some false ∧
    tCls Tryz.prog 74 = .other ∧
    tField Tryz.prog 74 0 = some (0, 36) ∧
    tField Tryz.prog 74 1 = some (3, 25) ∧
    (∀ ps, aBuild Tryz.prog 74 ps = (aFill ([(0, 3), (3, 1)][·]?) [.val (.int .i64 0), .val (.int .i64 0), .val (.slice none 0 0), .val (.slice none 0 0)] ps).map .agg) ∧
    tSz Tryz.prog 42 = some 1 ∧
    tAgg Tryz.prog 42 = some false ∧
    tBytes Tryz.prog 42 = some 8 ∧
    tZero Tryz.prog 42 = some [(.pointer none)] ∧
    tSlice Tryz.prog 42 = none ∧
    tIface Tryz.prog 42 = some false ∧
    tCls Tryz.prog 42 = .pointer ∧
    tSz Tryz.prog 48 = some 1 ∧
    tAgg Tryz.prog 48 = some false ∧
    tBytes Tryz.prog 48 = some 24 ∧
    tZero Tryz.prog 48 = some [(.slice none 0 0)] ∧
    tSlice Tryz.prog 48 = some 3 ∧
    Tryz.prog.underlying 48 = some (.slice 3) ∧
    tIface Tryz.prog 48 = some false ∧
    tCls Tryz.prog 48 = .slice
theorem tfm : TFm :=
  ⟨rfl, rfl, rfl, rfl, rfl, rfl, rfl, rfl, rfl, fun _ => rfl, rfl, rfl, rfl, rfl, rfl, rfl, rfl, rfl, rfl, rfl, rfl, rfl, rfl, rfl, rfl⟩
/-- a maker -/
structure Mk where
  v : Int
  p : Int
  rows : List Rw
  vals : List Int
  deriving Inhabited
abbrev mkC (m : Mk) (lr lv : Nat) : List AV := [i m.v, i m.p, .ref lr 0 m.rows.length 3, .ref lv 0 m.vals.length 1]
abbrev mkB (m : Mk) (lr lv : Nat) : Blk := ⟨74, true, mkC m lr lv⟩
abbrev rwB (L : List Rw) : Blk := ⟨89, false, fm rw_ L⟩
abbrev vlB (V : List Int) : Blk := ⟨22, false, fm u1 V⟩
abbrev mkIn (m : Mk) : List (Nat × Blk) := [(0, mkB m 1 2), (1, rwB m.rows), (2, vlB m.vals)]
abbrev mkOut (m : Mk) : List (Nat × Blk) := [(0, mkB m 1001 1002), (1001, rwB m.rows), (1002, vlB m.vals)]
theorem rw_free (L : List Rw) : frees (fm rw_ L) = true := frees_fm (f := rw_) (fun _ => rfl) L
theorem u1_free (L : List Int) : frees (fm u1 L) = true := frees_fm (f := u1) (fun _ => rfl) L
theorem rw_rens (s : Nat → Nat) (L : List Rw) : rens s (fm rw_ L) = fm rw_ L := rens_free s (rw_free L)
theorem u1_rens (s : Nat → Nat) (L : List Int) : rens s (fm u1 L) = fm u1 L := rens_free s (u1_free L)
theorem rw_labs (L : List Rw) : labss (fm rw_ L) = [] := labss_free _ (rw_free L)
theorem u1_labs (L : List Int) : labss (fm u1 L) = [] := labss_free _ (u1_free L)
/-- A call of a maker's method. -/
theorem AOL.callM {ops : Array Oper} {o : Oper} {os : List Oper} {K : St → Prop} {st st' : St} {g : FuncId} {xs : List AV} {r0 : AV} {m m' : Mk} {l b : Nat}
    (hF : Fn Tryz.prog g (.ptr 0 0 :: xs) (mkIn m) (Tells r0 (mkOut m')))
    (hc : callL st ops.toList o = some (g, .ptr l 0 :: xs)) (hcl : callable Tryz.prog g = true) (hfr : frees xs = true) (hr : r0.free = true)
    (h0 : get? l st.h = some (mkB m (b + 1) (b + 2))) (h1 : get? (b + 1) st.h = some (rwB m.rows)) (h2 : get? (b + 2) st.h = some (vlB m.vals))
    (hst : ({ (st.drops [b + 1, b + 2, b + 1, b + 2]) with h := ins (b + 2) (vlB m'.vals) (ins (b + 1) (rwB m'.rows) (ins l (mkB m' (b + 1) (b + 2)) (st.drops [b + 1, b + 2, b + 1, b + 2]).h)) } : St).put o.dst r0 = st')
    (h : AOL Tryz.prog ops os K st')
    (hl : l ≠ b + 1 ∧ l ≠ b + 2 := by decide) (hb : 1000 ≤ b := by decide) : AOL Tryz.prog ops (o :: os) K st := by
  have hno : labs r0 = [] := labs_free _ hr
  refine AOL.callT (las := .ptr 0 0 :: xs) (hin := mkIn m) [l, b + 1, b + 2] b hF hc ?_ hcl ?_ ?_ ?_ ?_ h ?_ (by simp) hb
  · simp only [rens, ren, nth]
    rw [rens_free _ hfr]
  · intro k hk
    simp only [labss, labs, labss_free _ hfr, List.append_nil, List.mem_singleton] at hk
    subst hk; simp
  · intro p hp
    simp only [List.mem_cons, List.not_mem_nil, or_false] at hp
    rcases hp with rfl | rfl | rfl
    · refine ⟨by simp, ?_, ?_⟩
      · intro k hk; simp [labss, labs] at hk; rcases hk with rfl | rfl <;> simp
      · simp only [nth, renB, rens, ren]; exact h0
    · refine ⟨by simp, ?_, ?_⟩
      · intro k hk; simp only [rw_labs] at hk; cases hk
      · simp only [nth, renB, rw_rens]; exact h1
    · refine ⟨by simp, ?_, ?_⟩
      · intro k hk; simp only [u1_labs] at hk; cases hk
      · simp only [nth, renB, u1_rens]; exact h2
  · refine ⟨?_, ?_, ?_, ?_, ?_⟩
    · intro p hp
      simp only [List.mem_cons, List.not_mem_nil, or_false] at hp
      rcases hp with rfl | rfl | rfl <;> simp
    · intro p hp
      simp only [List.mem_cons, List.not_mem_nil, or_false] at hp
      rcases hp with rfl | rfl | rfl <;> simp
    · rw [hno]; simp
    · intro p hp
      simp only [List.mem_cons, List.not_mem_nil, or_false] at hp
      rcases hp with rfl | rfl | rfl
      · intro k hk; simp [labss, labs] at hk; rcases hk with rfl | rfl <;> simp [hlabs]
      · intro k hk; simp only [rw_labs] at hk; cases hk
      · intro k hk; simp only [u1_labs] at hk; cases hk
    · intro x hx y hy
      simp only [hlabs, List.map_cons, List.map_nil, List.mem_cons, List.not_mem_nil, or_false] at hx hy
      rcases hx with rfl | rfl | rfl <;> rcases hy with rfl | rfl | rfl <;> simp [sig, nth, pos] <;> omega
  · rw [← hst, ren_none hno]
    simp only [St.after, mkOut, consumed, newNames, get?, putH, sig, nth, pos, renB, rens, ren, rw_rens, u1_rens, Nat.reduceLT, Nat.reduceEqDiff, if_true, if_false, reduceIte, Nat.reduceAdd, Nat.zero_add, List.cons_append, List.nil_append]
  · simp; omega
def isM (V : List Int) (a : Int) : Int := if a < 0 ∨ a ≥ (V.length : Int) then 0 else a
theorem isM_in {V : List Int} (h : 0 < V.length) (a : Int) : 0 ≤ isM V a ∧ isM V a < V.length := by
  unfold isM; split <;> omega
set_option maxHeartbeats 1000000 in
theorem gadget_Maker_is_f {m : Mk} {a : Int} : Fn Tryz.prog 39 [.fptr [i m.v, i m.p, slF rw_ m.rows, ul m.vals], i a] [] (fun r h_ => r = i (isM m.vals a)) := by
  refine Fn.enter Tryz.func39 Tryz.ntmps39 rfl (h := ?_)
  have tf := tfm
  have ot_ : (false || true) = true := rfl
  have tfr := tfr
  repeat refine AW.seq ?_
  refine AW.reg ?_
  iterate 1 refine AOL.s1 (h := ?_)
  refine AOL.nil ?_
  refine AW.kq [0, 1] (h := ?_)
  repeat refine AW.seq ?_
  refine AW.reg ?_
  iterate 3 refine AOL.s1 (h := ?_)
  refine AOL.kq [0, 1, 7] (h := ?_)
  refine AOL.or 7 15 (os' := ?_) (x := ?_) (h1 := ?_) (h0 := ?_) (h := ?_)
  rotate_left 2
  iterate 2
    · intro hb_ K' hK; (iterate 8 refine AOL.s1 (h := ?_)); refine AOL.kq [0, 1, 15] (h := ?_); exact hK
  refine AOL.nil ?_
  refine AW.kq [1, 15] (h := ?_)
  repeat refine AW.seq ?_
  refine AW.cond rfl (fun c_ => ?_) (fun c_ => ?_)
  · have hv : isM m.vals a = 0 := if_pos (by simpa using c_)
    repeat refine AW.seq ?_
    refine AW.reg ?_
    iterate 1 refine AOL.s1 (h := ?_)
    refine AOL.nil ?_
    refine AW.kq [4] (h := ?_)
    repeat refine AW.seq ?_
    refine AW.ret ?_
    refine ⟨_, [], rfl, HOk.nil _, ?_⟩
    simp only [one?, hv]
  have hv : isM m.vals a = a := if_neg (by simp at c_; omega)
  refine AW.skip ?_
  repeat refine AW.seq ?_
  refine AW.reg ?_
  iterate 2 refine AOL.s1 (h := ?_)
  refine AOL.nil ?_
  refine AW.kq [4] (h := ?_)
  repeat refine AW.seq ?_
  refine AW.ret ?_
  refine ⟨_, [], rfl, HOk.nil _, ?_⟩
  simp only [one?, hv]
theorem frz_mk (m : Mk) {lr lv : Nat} (hne : lr ≠ lv) : frzL [(lr, fm rw_ m.rows), (lv, fm u1 m.vals)] (mkC m lr lv) = [i m.v, i m.p, slF rw_ m.rows, ul m.vals] := by
  have e1 : sub 0 (m.rows.length * 3) (fm rw_ m.rows) = fm rw_ m.rows := sub_all (by rw [fm_len rw_len]; exact Nat.le_refl _)
  have e2 : sub 0 (m.vals.length * 1) (fm u1 m.vals) = fm u1 m.vals := sub_all (by rw [fm_len u1_len]; exact Nat.le_refl _)
  simp only [frzL, List.foldl_cons, List.foldl_nil, frzs, frz, if_true, if_neg hne.symm, e1, e2]
theorem isF {h : List (Nat × Blk)} {m : Mk} {l lr lv : Nat} {a : Int} (h0 : get? l h = some (mkB m lr lv)) (h1 : get? lr h = some (rwB m.rows)) (h2 : get? lv h = some (vlB m.vals)) (hne : lr ≠ lv ∧ lr ≠ l ∧ lv ≠ l := by decide) :
    CallF Tryz.prog h [.ptr l 0, i a] 39 (i (isM m.vals a)) := by
  have e : frzL [(lr, fm rw_ m.rows), (lv, fm u1 m.vals), (l, [i m.v, i m.p, slF rw_ m.rows, ul m.vals])] [.ptr l 0, i a] = [.fptr [i m.v, i m.p, slF rw_ m.rows, ul m.vals], i a] := by
    simp only [frzL, List.foldl_cons, List.foldl_nil, frzs, frz, if_true, if_neg hne.2.1.symm, if_neg hne.2.2.symm, List.drop_zero]
  refine .inr ⟨[(lr, fm rw_ m.rows), (lv, fm u1 m.vals), (l, [i m.v, i m.p, slF rw_ m.rows, ul m.vals])], _, rfl, ⟨⟨_, h1, .inl ⟨rfl, rfl⟩⟩, ⟨_, h2, .inl ⟨rfl, rfl⟩⟩, ⟨_, h0, .inr ⟨frz_mk m hne.1, rfl⟩⟩, trivial⟩, ?_, ?_⟩
  · rw [e]; rfl
  · rw [e]; exact gadget_Maker_is_f
theorem valC {h : List (Nat × Blk)} {V : List Int} {L : List Tm} {lv n : Nat} (hL : L.length < 1000000000) (hV : wV V) (hT : wT L) (h2 : get? lv h = some (vlB V)) (hn : n = V.length := by rfl) :
    CallF Tryz.prog h [slF tm L, .ref lv 0 n 1] 50 (u (valF V 0 L)) := by
  subst hn
  have e2 : sub 0 (V.length * 1) (fm u1 V) = fm u1 V := sub_all (by rw [fm_len u1_len]; exact Nat.le_refl _)
  have e : frzL [(lv, fm u1 V)] [slF tm L, .ref lv 0 V.length 1] = [slF tm L, ul V] := by
    simp only [frzL, List.foldl_cons, List.foldl_nil, frzs, frz, if_true, e2]
  refine .inr ⟨[(lv, fm u1 V)], _, rfl, ⟨⟨_, h2, .inl ⟨rfl, rfl⟩⟩, trivial⟩, ?_, ?_⟩
  · rw [e]; rfl
  · rw [e]; exact rank_Value_c hL hV hT
set_option maxHeartbeats 1000000 in
theorem gadget_one_c {v k : Int} : Fn Tryz.prog 42 [i v, u k] [] (fun r h_ => r = .agg [i v, u k]) := by
  refine Fn.enter Tryz.func42 Tryz.ntmps42 rfl (h := ?_)
  have tf := tfm
  have ot_ : (false || true) = true := rfl
  have tfr := tfr
  repeat refine AW.seq ?_
  refine AW.reg ?_
  iterate 1 refine AOL.s1 (h := ?_)
  refine AOL.nil ?_
  refine AW.kq [0, 1, 4] (h := ?_)
  repeat refine AW.seq ?_
  refine AW.reg ?_
  iterate 4 refine AOL.s1 (h := ?_)
  refine AOL.nil ?_
  refine AW.kq [4] (h := ?_)
  repeat refine AW.seq ?_
  refine AW.ret ?_
  refine ⟨_, [], rfl, HOk.nil _, ?_⟩
  simp only [one?]; rfl
set_option maxHeartbeats 1000000 in
theorem gadget_just_c {v : Int} : Fn Tryz.prog 41 [i v] [] (fun r h_ => r = slF tm [⟨v, 1⟩]) := by
  refine Fn.enter Tryz.func41 Tryz.ntmps41 rfl (h := ?_)
  have tf := tfm
  have ot_ : (false || true) = true := rfl
  have tfr := tfr
  repeat refine AW.seq ?_
  refine AW.reg ?_
  iterate 1 refine AOL.s1 (h := ?_)
  refine AOL.nil ?_
  refine AW.kq [0] (h := ?_)
  repeat refine AW.seq ?_
  refine AW.reg ?_
  iterate 1 refine AOL.s1 (h := ?_)
  refine AOL.callD rfl (gadget_one_c) (by kernel_rfl) rfl rfl (h := ?_)
  iterate 2 refine AOL.s1 (h := ?_)
  refine AOL.nil ?_
  refine AW.kq [2] (h := ?_)
  repeat refine AW.seq ?_
  refine AW.fz 1080 rfl (fun h => by cases h) (h := ?_)
  refine AW.ret ?_
  refine ⟨_, [], rfl, HOk.nil _, ?_⟩
  rfl
def freshM (m : Mk) (x : Int) : Mk := ⟨((m.vals.length + 1 : Nat) : Int), m.p, m.rows, m.vals ++ [x % 288230376287764481]⟩
abbrev Mok (k : Nat) (m : Mk) : Prop := m.vals.length + k ≤ 1000000 ∧ m.rows.length + k ≤ 1000000 ∧ wV m.vals ∧ 0 < m.vals.length
theorem Mok.mono {k j : Nat} {m : Mk} (h : Mok k m) (hj : j ≤ k) : Mok j m := ⟨by have := h.1; omega, by have := h.2.1; omega, h.2.2⟩
theorem Mok.fresh {k : Nat} {m : Mk} (h : Mok (k + 1) m) (x : Int) : Mok k (freshM m x) := by
  refine ⟨?_, ?_, ?_, ?_⟩
  · have := h.1; simp only [freshM, List.length_append, List.length_singleton]; omega
  · have := h.2.1; simp only [freshM]; omega
  · intro v hv
    rcases List.mem_append.1 hv with hv | hv
    · exact h.2.2.1 v hv
    · simp only [List.mem_singleton] at hv; subst hv; exact w64_r _
  · simp only [freshM, List.length_append, List.length_singleton]; omega
theorem HOk.three {A B C : Nat × Blk} {r h : List (Nat × Blk)} (e : h = [A, B, C]) : HOk (A :: B :: C :: r) h := by
  subst e
  intro p hp
  simp only [List.mem_cons, List.not_mem_nil, or_false] at hp
  rcases hp with rfl | rfl | rfl <;> simp
theorem fmv_snoc (V : List Int) (x : Int) : fm u1 (V ++ [x]) = fm u1 V ++ [u x] := by rw [fm_app]; rfl
set_option maxHeartbeats 1000000 in
theorem gadget_Maker_fresh_c {m : Mk} {x : Int} (hm : Mok 1 m) (hx : w64 x) : Fn Tryz.prog 34 [.ptr 0 0, u x] [(0, mkB m 1 2), (1, rwB m.rows), (2, vlB m.vals)] (Tells (i m.vals.length) (mkOut (freshM m x))) := by
  refine Fn.enter Tryz.func34 Tryz.ntmps34 rfl (h := ?_)
  have tf := tfm
  have ot_ : (false || true) = true := rfl
  have tfr := tfr
  have lm : m.vals.length < 1000000 := by have := hm.1; omega
  have htm : x.tmod 288230376287764481 = x % 288230376287764481 := Int.tmod_eq_emod_of_nonneg hx.1
  have lc : (fm u1 m.vals).length = m.vals.length := by rw [fm_len u1_len, Nat.mul_one]
  have a1 : (m.vals.length + 1) * 8 ≤ 140737488355328 := by omega
  have a2 : m.vals.length + 1 ≤ 4611686018427387904 := by omega
  have a3 : m.vals.length ≤ 4611686018427387903 := by omega
  have lw : IntKind.i64.wrap (((m.vals.length + 1 : Nat) : Int) - 1) = (m.vals.length : Int) := by rw [wrapI_o (by omega) (by omega)]; omega
  refine AW.mv 1 1001 (h := ?_)
  refine AW.mv 2 1002 (h := ?_)
  repeat refine AW.seq ?_
  refine AW.reg ?_
  iterate 1 refine AOL.s1 (h := ?_)
  refine AOL.nil ?_
  refine AW.kq [0, 1] (h := ?_)
  repeat refine AW.seq ?_
  refine AW.reg ?_
  iterate 12 refine AOL.s1 (h := ?_)
  refine AOL.nil ?_
  refine AW.kq [0] (h := ?_)
  repeat refine AW.seq ?_
  refine AW.reg ?_
  iterate 10 refine AOL.s1 (h := ?_)
  refine AOL.nil ?_
  refine AW.kq [0] (h := ?_)
  repeat refine AW.seq ?_
  refine AW.reg ?_
  iterate 7 refine AOL.s1 (h := ?_)
  refine AOL.nil ?_
  refine AW.kq [4] (h := ?_)
  repeat refine AW.seq ?_
  refine AW.ret ?_
  refine ⟨_, mkOut (freshM m x), rfl, ?_, ?_⟩
  · refine HOk.three ?_
    simp only [freshM, mkOut, mkB, mkC, vlB, fmv_snoc, List.length_append, List.length_singleton]
  · exact Tells.self
def rowM (m : Mk) (a b c : List Tm) : Mk := ⟨m.v, m.p, m.rows ++ [⟨sumT a, sumT b, sumT c⟩], m.vals⟩
theorem fmr_snoc (V : List Rw) (x : Rw) : fm rw_ (V ++ [x]) = fm rw_ V ++ rw_ x := by rw [fm_app]; simp only [fm, List.append_nil]
theorem Mok.row {k : Nat} {m : Mk} (h : Mok (k + 1) m) (a b c : List Tm) : Mok k (rowM m a b c) := by
  refine ⟨?_, ?_, h.2.2⟩
  · have := h.1; simp only [rowM]; omega
  · have := h.2.1; simp only [rowM, List.length_append, List.length_singleton]; omega
abbrev tok (L : List Tm) : Prop := L.length < 1000000 ∧ wT L
set_option maxHeartbeats 1000000 in
theorem gadget_Maker_row_c {m : Mk} {a b c : List Tm} (hm : Mok 1 m) (ha : tok a) (hb : tok b) (hc : tok c) : Fn Tryz.prog 40 [.ptr 0 0, slF tm a, slF tm b, slF tm c] [(0, mkB m 1 2), (1, rwB m.rows), (2, vlB m.vals)] (Tells (.tup []) (mkOut (rowM m a b c))) := by
  refine Fn.enter Tryz.func40 Tryz.ntmps40 rfl (h := ?_)
  have tf := tfm
  have ot_ : (false || true) = true := rfl
  have tfr := tfr
  have lm : m.rows.length < 1000000 := by have := hm.2.1; omega
  have lc : (fm rw_ m.rows).length = m.rows.length * 3 := fm_len rw_len _
  have a1 : (m.rows.length + 1) * 72 ≤ 140737488355328 := by omega
  have a2 : m.rows.length + 1 ≤ 4611686018427387904 := by omega
  have a3 : m.rows.length ≤ 4611686018427387903 := by omega
  have cA := rank_Sum_c (show a.length < 1000000000 by have := ha.1; omega) ha.2
  have cB := rank_Sum_c (show b.length < 1000000000 by have := hb.1; omega) hb.2
  have cC := rank_Sum_c (show c.length < 1000000000 by have := hc.1; omega) hc.2
  refine AW.mv 1 1001 (h := ?_)
  refine AW.mv 2 1002 (h := ?_)
  repeat refine AW.seq ?_
  refine AW.da 15 (by kernel_rfl) (h := ?_)
  iterate 7 refine ADP.d1 (h := ?_)
  refine ADP.call rfl (cA) (by kernel_rfl) rfl rfl (h := ?_)
  iterate 1 refine ADP.d1 (h := ?_)
  refine ADP.call rfl (cB) (by kernel_rfl) rfl rfl (h := ?_)
  iterate 1 refine ADP.d1 (h := ?_)
  refine ADP.call rfl (cC) (by kernel_rfl) rfl rfl (h := ?_)
  iterate 2 refine ADP.d1 (h := ?_)
  refine ADP.app 1001 (h := ?_)
  refine ADP.doneF hmix [(0, 0)] (by kernel_rfl) rfl (hF := ?_) (hT := ?_)
  · intro p_ hp_; simp only [List.mem_cons, List.not_mem_nil, or_false] at hp_; rcases hp_ with rfl <;> exact ⟨_, _, _, by simp, rfl, rfl, rfl, rfl, rfl, rfl, rfl, rfl⟩
  iterate 4 refine AOL.s1 (h := ?_)
  refine AOL.nil ?_
  refine ⟨_, mkOut (rowM m a b c), rfl, ?_, ?_⟩
  · refine HOk.three ?_
    simp only [rowM, mkOut, mkB, mkC, rwB, fmr_snoc, List.length_append, List.length_singleton]
  · exact Tells.self
end Go.Proofs.YtngphcdhdllnnaaGreat.E.M
end
section
/- gadget: a maker's methods: contracts over E. -/
set_option linter.unusedVariables false
set_option linter.unusedSimpArgs false
set_option maxRecDepth 10000
open Go Go.Proofs.YtngphcdhdllnnaaGreat.E Go.Proofs
namespace Go.Proofs.YtngphcdhdllnnaaGreat.E.M
theorem tok_len {L : List Tm} (h : tok L) : L.length < 1000000000 := by have := h.1; omega
set_option maxHeartbeats 1000000 in
theorem clone_own {L : List Tm} (hl : tok L) : Fn Tryz.prog 43 [slF tm L] [] (Tells (.ref 1000 0 L.length 2) [(1000, ⟨80, false, fm tm L⟩)]) := by
  refine Fn.enter Tryz.func43 Tryz.ntmps43 rfl (h := ?_)
  have tf := tfm
  have ot_ : (false || true) = true := rfl
  have tfr := tfr
  have lL := hl.1
  have lc : (fm tm L).length = L.length * 2 := fm_len tm_len _
  have a1 : L.length * 16 ≤ 140737488355328 := by omega
  have a2 : L.length ≤ 4611686018427387904 := by omega
  repeat refine AW.seq ?_
  refine AW.reg ?_
  iterate 1 refine AOL.s1 (h := ?_)
  refine AOL.nil ?_
  refine AW.kq [0] (h := ?_)
  repeat refine AW.seq ?_
  refine AW.reg ?_
  iterate 1 refine AOL.s1 (h := ?_)
  refine AOL.eqNil rfl (h := ?_)
  intro b hb
  refine AOL.nil ?_
  refine AW.kq [0, 4] (h := ?_)
  repeat refine AW.seq ?_
  refine AW.cond rfl (fun c_ => ?_) (fun c_ => ?_)
  · have hL : L = [] := List.eq_nil_of_length_eq_zero (hb (by simpa using c_))
    subst hL
    repeat refine AW.seq ?_
    refine AW.reg ?_
    iterate 1 refine AOL.s1 (h := ?_)
    refine AOL.nil ?_
    refine AW.kq [2] (h := ?_)
    repeat refine AW.seq ?_
    refine AW.blank 1000 80 (h := ?_)
    refine AW.wk 2 rfl (Wk.ref0 1000 2) (h := ?_)
    refine AW.ret ?_
    refine ⟨_, [(1000, _)], rfl, (fun p_ hp_ => by simp only [List.mem_singleton] at hp_; subst hp_; first | exact List.mem_cons_self | exact List.mem_cons_of_mem _ List.mem_cons_self | exact List.mem_cons_of_mem _ (List.mem_cons_of_mem _ List.mem_cons_self)), ?_⟩
    refine Tells.one 1000 (by decide) ?_
    first | rfl | exact frees_fm (fun _ => rfl) _ | exact a64_free _ | exact by8_free _
    skip
  refine AW.skip ?_
  repeat refine AW.seq ?_
  refine AW.reg ?_
  iterate 4 refine AOL.s1 (h := ?_)
  refine AOL.nil ?_
  refine AW.kq [2] (h := ?_)
  repeat refine AW.seq ?_
  refine AW.ret ?_
  refine ⟨_, [(1080, _)], rfl, (fun p_ hp_ => by simp only [List.mem_singleton] at hp_; subst hp_; first | exact List.mem_cons_self | exact List.mem_cons_of_mem _ List.mem_cons_self | exact List.mem_cons_of_mem _ (List.mem_cons_of_mem _ List.mem_cons_self)), ?_⟩
  refine Tells.one 1080 (by decide) ?_
  first | rfl | exact frees_fm (fun _ => rfl) _ | exact a64_free _ | exact by8_free _
  skip
theorem clone_fro {L : List Tm} (hl : tok L) : Fn Tryz.prog 43 [slF tm L] [] (fun r _ => r = slF tm L) := by
  have h := (clone_own hl).frozen (tm_free L)
  have e : frz 1000 (fm tm L) (.ref 1000 0 L.length 2) = slF tm L := by
    simp only [frz, if_true]
    rw [sub_all (by rw [fm_len tm_len]; exact Nat.le_refl _)]
  rwa [e] at h
set_option maxHeartbeats 1000000 in
theorem gadget_Maker_Private_c {m : Mk} {x : Int} (hm : Mok 1 m) (hx : w64 x) : Fn Tryz.prog 13 [.ptr 0 0, u x] [(0, mkB m 1 2), (1, rwB m.rows), (2, vlB m.vals)] (Tells (i m.vals.length) (mkOut (freshM m x))) := by
  refine Fn.enter Tryz.func13 Tryz.ntmps13 rfl (h := ?_)
  have tf := tfm
  have ot_ : (false || true) = true := rfl
  refine AW.mv 1 1001 (h := ?_)
  refine AW.mv 2 1002 (h := ?_)
  repeat refine AW.seq ?_
  refine AW.reg ?_
  iterate 1 refine AOL.s1 (h := ?_)
  refine AOL.nil ?_
  refine AW.kq [0, 1] (h := ?_)
  repeat refine AW.seq ?_
  refine AW.reg ?_
  iterate 2 refine AOL.s1 (h := ?_)
  refine AOL.callM (l := 0) (b := 1000) (gadget_Maker_fresh_c hm hx) rfl (by kernel_rfl) rfl rfl rfl rfl rfl (hst := by simp only [St.drops, St.drop, mapT, mapH, kill, kills, del, St.put, ins, reduceIte, Nat.reduceAdd, Nat.reduceLT, Nat.reduceEqDiff, Bool.false_eq_true]; exact rfl) ?_
  iterate 1 refine AOL.s1 (h := ?_)
  refine AOL.nil ?_
  refine AW.kq [4] (h := ?_)
  repeat refine AW.seq ?_
  refine AW.ret ?_
  refine ⟨_, mkOut (freshM m x), rfl, ?_, ?_⟩
  · exact fun p hp => hp
  · exact Tells.self
def pubM (m : Mk) (x : Int) : Mk := if m.v > m.p + 1 then m else freshM ⟨m.v, m.p + 1, m.rows, m.vals⟩ x
def pubI (m : Mk) : Int := if m.v > m.p + 1 then -1 else (m.vals.length : Int)
def pubE (m : Mk) : Value := if m.v > m.p + 1 then .iface 41 (.int .i64 1) else .nilIface
abbrev pubR (m : Mk) : List AV := [i (pubI m), .val (pubE m)]
set_option maxHeartbeats 1000000 in
theorem gadget_Maker_Public_c {m : Mk} {x : Int} (hm : Mok 1 m) (hx : w64 x) (hp : 0 ≤ m.p ∧ m.p < 1000000) : Fn Tryz.prog 11 [.ptr 0 0, u x] [(0, mkB m 1 2), (1, rwB m.rows), (2, vlB m.vals)] (Tells (.tup (pubR m)) (mkOut (pubM m x))) := by
  refine Fn.enter Tryz.func11 Tryz.ntmps11 rfl (h := ?_)
  have tf := tfm
  have ot_ : (false || true) = true := rfl
  have tfr := tfr
  have hw : IntKind.i64.wrap (m.p + 1) = m.p + 1 := wrapI_o (by omega) (by omega)
  refine AW.mv 1 1001 (h := ?_)
  refine AW.mv 2 1002 (h := ?_)
  repeat refine AW.seq ?_
  refine AW.reg ?_
  iterate 2 refine AOL.s1 (h := ?_)
  refine AOL.nil ?_
  refine AW.kq [0, 1] (h := ?_)
  repeat refine AW.seq ?_
  refine AW.drw 11 [] (by kernel_rfl) (h := ?_)
  iterate 11 refine ADL.dm 1 (h := ?_)
  refine ADL.done hmix rfl rfl (hT := ?_)
  iterate 1 refine AOL.s1 (h := ?_)
  refine AOL.nil ?_
  refine AW.kq [0, 1, 17] (h := ?_)
  repeat refine AW.seq ?_
  refine AW.cond rfl (fun c_ => ?_) (fun c_ => ?_)
  · have e1 : pubM m x = m := if_pos (by simpa using c_)
    have e2 : pubR m = [i (-1), er 1] := by unfold pubR pubI pubE; rw [if_pos (by simpa using c_), if_pos (by simpa using c_)]
    rw [e1, e2]
    repeat refine AW.seq ?_
    refine AW.reg ?_
    iterate 3 refine AOL.s1 (h := ?_)
    refine AOL.nil ?_
    refine AW.kq [4, 5] (h := ?_)
    repeat refine AW.seq ?_
    refine AW.ret ?_
    refine ⟨_, mkOut m, rfl, ?_, ?_⟩
    · exact fun p hp => hp
    · exact Tells.self
  have e1 : pubM m x = freshM ⟨m.v, m.p + 1, m.rows, m.vals⟩ x := if_neg (by simp at c_; omega)
  have e2 : pubR m = [i m.vals.length, nil_] := by unfold pubR pubI pubE; rw [if_neg (by simp at c_; omega), if_neg (by simp at c_; omega)]
  rw [e1, e2]
  refine AW.skip ?_
  repeat refine AW.seq ?_
  refine AW.reg ?_
  iterate 10 refine AOL.s1 (h := ?_)
  refine AOL.nil ?_
  refine AW.kq [0, 1] (h := ?_)
  repeat refine AW.seq ?_
  refine AW.reg ?_
  iterate 2 refine AOL.s1 (h := ?_)
  refine AOL.callM (l := 0) (b := 1000) (gadget_Maker_fresh_c (m := ⟨m.v, m.p + 1, m.rows, m.vals⟩) hm hx) rfl (by kernel_rfl) rfl rfl rfl rfl rfl (hst := by simp only [St.drops, St.drop, mapT, mapH, kill, kills, del, St.put, ins, reduceIte, Nat.reduceAdd, Nat.reduceLT, Nat.reduceEqDiff, Bool.false_eq_true]; exact rfl) ?_
  iterate 2 refine AOL.s1 (h := ?_)
  refine AOL.nil ?_
  refine AW.kq [4, 5] (h := ?_)
  repeat refine AW.seq ?_
  refine AW.ret ?_
  refine ⟨_, mkOut (freshM ⟨m.v, m.p + 1, m.rows, m.vals⟩ x), rfl, ?_, ?_⟩
  · exact fun p hp => hp
  · exact Tells.self
def valM (V : List Int) (a : Int) : Int := V[(isM V a).toNat]?.getD 0
abbrev one1 (v : Int) : List Tm := [⟨v, 1⟩]
theorem w64_1 : w64 1 := by decide
theorem tok_1 (v : Int) : tok (one1 v) := ⟨by simp, fun t ht => by simp only [List.mem_singleton] at ht; subst ht; exact w64_1⟩
theorem val_w (V : List Int) (L : List Tm) : w64 (valF V 0 L) := valF_w L (by decide)
def prodM (m : Mk) (a b : List Tm) : Mk := rowM (freshM m (valF m.vals 0 a * valF m.vals 0 b % 288230376287764481)) a b (one1 m.vals.length)
theorem Mok.prod {k : Nat} {m : Mk} (h : Mok (k + 2) m) (a b : List Tm) : Mok k (prodM m a b) := (Mok.fresh h _).row _ _ _
set_option maxHeartbeats 1000000 in
theorem gadget_Maker_product_c {m : Mk} {a b : List Tm} (hm : Mok 2 m) (ha : tok a) (hb : tok b) : Fn Tryz.prog 63 [.ptr 0 0, slF tm a, slF tm b] [(0, mkB m 1 2), (1, rwB m.rows), (2, vlB m.vals)] (Tells (i m.vals.length) (mkOut (prodM m a b))) := by
  refine Fn.enter Tryz.func63 Tryz.ntmps63 rfl (h := ?_)
  have tf := tfm
  have ot_ : (false || true) = true := rfl
  have tfr := tfr
  have hv := hm.2.2.1
  have cM := modular_Mul_c hR (val_w m.vals a) (val_w m.vals b)
  have cF := gadget_Maker_fresh_c (Mok.mono hm (by decide)) (w64_r (valF m.vals 0 a * valF m.vals 0 b))
  have cR := gadget_Maker_row_c (Mok.fresh hm (valF m.vals 0 a * valF m.vals 0 b % 288230376287764481)) ha hb (tok_1 m.vals.length)
  refine AW.mv 1 1001 (h := ?_)
  refine AW.mv 2 1002 (h := ?_)
  repeat refine AW.seq ?_
  refine AW.reg ?_
  iterate 1 refine AOL.s1 (h := ?_)
  refine AOL.nil ?_
  refine AW.kq [0, 1, 2] (h := ?_)
  repeat refine AW.seq ?_
  refine AW.drw 14 [] (by kernel_rfl) (h := ?_)
  iterate 6 refine ADL.dm 1 (h := ?_)
  refine ADL.callF rfl (valC (tok_len ha) hv ha.2 rfl) (by kernel_rfl) (h := ?_)
  iterate 5 refine ADL.dm 1 (h := ?_)
  refine ADL.callF rfl (valC (tok_len hb) hv hb.2 rfl) (by kernel_rfl) (h := ?_)
  refine ADL.call rfl (cM) (by kernel_rfl) rfl rfl (h := ?_)
  refine ADL.done hmix rfl rfl (hT := ?_)
  refine AOL.callM (l := 0) (b := 1000) (cF) rfl (by kernel_rfl) rfl rfl rfl rfl rfl (hst := by simp only [St.drops, St.drop, mapT, mapH, kill, kills, del, St.put, ins, reduceIte, Nat.reduceAdd, Nat.reduceLT, Nat.reduceEqDiff, Bool.false_eq_true]; exact rfl) ?_
  iterate 1 refine AOL.s1 (h := ?_)
  refine AOL.nil ?_
  refine AW.kq [0, 1, 2, 7] (h := ?_)
  repeat refine AW.seq ?_
  refine AW.reg ?_
  iterate 4 refine AOL.s1 (h := ?_)
  refine AOL.callD rfl (gadget_just_c) (by kernel_rfl) rfl rfl (h := ?_)
  refine AOL.callM (l := 0) (b := 1000) (cR) rfl (by kernel_rfl) rfl rfl rfl rfl rfl (hst := by simp only [St.drops, St.drop, mapT, mapH, kill, kills, del, St.put, ins, reduceIte, Nat.reduceAdd, Nat.reduceLT, Nat.reduceEqDiff, Bool.false_eq_true]; exact rfl) ?_
  refine AOL.nil ?_
  refine AW.kq [7] (h := ?_)
  repeat refine AW.seq ?_
  refine AW.reg ?_
  iterate 2 refine AOL.s1 (h := ?_)
  refine AOL.nil ?_
  refine AW.kq [6] (h := ?_)
  repeat refine AW.seq ?_
  refine AW.ret ?_
  refine ⟨_, mkOut (prodM m a b), rfl, ?_, ?_⟩
  · exact fun p hp => hp
  · exact Tells.self
abbrev two1 (v w k : Int) : List Tm := [⟨v, 1⟩, ⟨w, k⟩]
theorem tok_2 {v w k : Int} (hk : w64 k) : tok (two1 v w k) := by
  refine ⟨by simp, fun t ht => ?_⟩
  simp only [List.mem_cons, List.not_mem_nil, or_false] at ht
  rcases ht with rfl | rfl
  · exact w64_1
  · exact hk
theorem w64_m1 : w64 288230376287764480 := by decide
abbrev isMk (m : Mk) (a : Int) : Int := isM m.vals a
def mulM (m : Mk) (a b : Int) : Mk := prodM m (one1 (isMk m a)) (one1 (isMk m b))
set_option maxHeartbeats 1000000 in
theorem gadget_Maker_Mul_c {m : Mk} {a b : Int} (hm : Mok 2 m) : Fn Tryz.prog 38 [.ptr 0 0, i a, i b] [(0, mkB m 1 2), (1, rwB m.rows), (2, vlB m.vals)] (Tells (i m.vals.length) (mkOut (mulM m a b))) := by
  refine Fn.enter Tryz.func38 Tryz.ntmps38 rfl (h := ?_)
  have tf := tfm
  have ot_ : (false || true) = true := rfl
  have tfr := tfr
  refine AW.mv 1 1001 (h := ?_)
  refine AW.mv 2 1002 (h := ?_)
  repeat refine AW.seq ?_
  refine AW.reg ?_
  iterate 1 refine AOL.s1 (h := ?_)
  refine AOL.nil ?_
  refine AW.kq [0, 1, 2] (h := ?_)
  repeat refine AW.seq ?_
  refine AW.reg ?_
  iterate 3 refine AOL.s1 (h := ?_)
  refine AOL.callF rfl (isF rfl rfl rfl) (by kernel_rfl) (h := ?_)
  refine AOL.callD rfl (gadget_just_c) (by kernel_rfl) rfl rfl (h := ?_)
  iterate 2 refine AOL.s1 (h := ?_)
  refine AOL.callF rfl (isF rfl rfl rfl) (by kernel_rfl) (h := ?_)
  refine AOL.callD rfl (gadget_just_c) (by kernel_rfl) rfl rfl (h := ?_)
  refine AOL.callM (l := 0) (b := 1000) (gadget_Maker_product_c hm (tok_1 (isMk m a)) (tok_1 (isMk m b))) rfl (by kernel_rfl) rfl rfl rfl rfl rfl (hst := by simp only [St.drops, St.drop, mapT, mapH, kill, kills, del, St.put, ins, reduceIte, Nat.reduceAdd, Nat.reduceLT, Nat.reduceEqDiff, Bool.false_eq_true]; exact rfl) ?_
  iterate 1 refine AOL.s1 (h := ?_)
  refine AOL.nil ?_
  refine AW.kq [6] (h := ?_)
  repeat refine AW.seq ?_
  refine AW.ret ?_
  refine ⟨_, mkOut (mulM m a b), rfl, ?_, ?_⟩
  · exact fun p hp => hp
  · exact Tells.self
def sameM (m : Mk) (a b : Int) : Mk := rowM m (two1 (isMk m a) (isMk m b) 288230376287764480) (one1 0) []
theorem tok_0 : tok [] := ⟨by simp, fun t ht => by cases ht⟩
theorem row_nil {m : Mk} {a b : List Tm} (hm : Mok 1 m) (ha : tok a) (hb : tok b) : Fn Tryz.prog 40 [.ptr 0 0, slF tm a, slF tm b, .val (.slice none 0 0)] [(0, mkB m 1 2), (1, rwB m.rows), (2, vlB m.vals)] (Tells (.tup []) (mkOut (rowM m a b []))) :=
  (gadget_Maker_row_c hm ha hb tok_0).wk (Wks.cons (Wk.refl _) (Wks.cons (Wk.refl _) (Wks.cons (Wk.refl _) (Wks.cons Wk.nilS Wks.nil))))
set_option maxHeartbeats 1000000 in
theorem gadget_Maker_Same_c {m : Mk} {a b : Int} (hm : Mok 1 m) : Fn Tryz.prog 16 [.ptr 0 0, i a, i b] [(0, mkB m 1 2), (1, rwB m.rows), (2, vlB m.vals)] (Tells (.tup []) (mkOut (sameM m a b))) := by
  refine Fn.enter Tryz.func16 Tryz.ntmps16 rfl (h := ?_)
  have tf := tfm
  have ot_ : (false || true) = true := rfl
  have tfr := tfr
  refine AW.mv 1 1001 (h := ?_)
  refine AW.mv 2 1002 (h := ?_)
  repeat refine AW.seq ?_
  refine AW.reg ?_
  iterate 3 refine AOL.s1 (h := ?_)
  refine AOL.callF rfl (isF rfl rfl rfl) (by kernel_rfl) (h := ?_)
  refine AOL.callD rfl (gadget_one_c) (by kernel_rfl) rfl rfl (h := ?_)
  iterate 2 refine AOL.s1 (h := ?_)
  refine AOL.callF rfl (isF rfl rfl rfl) (by kernel_rfl) (h := ?_)
  refine AOL.callD rfl (gadget_one_c) (by kernel_rfl) rfl rfl (h := ?_)
  iterate 1 refine AOL.s1 (h := ?_)
  refine AOL.fz 1240 rfl (fun h => by cases h) (h := ?_)
  refine AOL.callD rfl (gadget_just_c) (by kernel_rfl) rfl rfl (h := ?_)
  refine AOL.callM (l := 0) (b := 1000) (row_nil (a := two1 (isMk m a) (isMk m b) 288230376287764480) hm (tok_2 w64_m1) (tok_1 0)) rfl (by kernel_rfl) rfl rfl rfl rfl rfl (hst := by simp only [St.drops, St.drop, mapT, mapH, kill, kills, del, St.put, ins, reduceIte, Nat.reduceAdd, Nat.reduceLT, Nat.reduceEqDiff, Bool.false_eq_true]; exact rfl) ?_
  refine AOL.nil ?_
  refine ⟨_, mkOut (sameM m a b), rfl, ?_, ?_⟩
  · exact fun p hp => hp
  · exact Tells.self
def ownT (V : List Int) (L : List Tm) : List Tm := L.map fun t => ⟨isM V t.v, t.k⟩
theorem tok_own {V : List Int} {L : List Tm} (h : tok L) : tok (ownT V L) := by
  refine ⟨by simp only [ownT, List.length_map]; exact h.1, fun t ht => ?_⟩
  obtain ⟨s, hs, rfl⟩ := List.mem_map.1 ht
  exact h.2 s hs
def linM (m : Mk) (L : List Tm) : Mk := rowM (freshM m (valF m.vals 0 (ownT m.vals L))) (ownT m.vals L) (one1 0) (one1 m.vals.length)
theorem Mok.lin {k : Nat} {m : Mk} (h : Mok (k + 2) m) (L : List Tm) : Mok k (linM m L) := (Mok.fresh h _).row _ _ _
theorem own_at (V : List Int) {L : List Tm} {k : Nat} (h : k < L.length) : (ownT V (L.take k) ++ L.drop k)[k]? = some L[k] := by
  rw [List.getElem?_append_right (by simp [ownT]; omega)]
  simp [ownT, Nat.min_eq_left (Nat.le_of_lt h), h]
theorem own_set (V : List Int) {L : List Tm} {k : Nat} (h : k < L.length) : (fm tm (ownT V (L.take k) ++ L.drop k)).set (k * 2) (i (isM V L[k].v)) = fm tm (ownT V (L.take (k + 1)) ++ L.drop (k + 1)) := by
  have hl : (ownT V (L.take k)).length = k := by simp [ownT]; omega
  rw [List.drop_eq_getElem_cons h, List.take_add_one, List.getElem?_eq_getElem h]
  simp only [ownT, List.map_append, Option.toList_some, List.map_cons, List.map_nil, fm_app, List.append_assoc]
  rw [List.set_append_right _ _ (by rw [fm_len tm_len, List.length_map, List.length_take]; omega), fm_len tm_len, List.length_map, List.length_take]
  rw [show k * 2 - min k L.length * 2 = 0 by omega]
  rfl
set_option maxHeartbeats 4000000 in
theorem gadget_Maker_Linear_c {m : Mk} {L : List Tm} (hm : Mok 2 m) (hL : tok L) : Fn Tryz.prog 35 [.ptr 0 0, slF tm L] [(0, mkB m 1 2), (1, rwB m.rows), (2, vlB m.vals)] (Tells (i m.vals.length) (mkOut (linM m L))) := by
  refine Fn.enter Tryz.func35 Tryz.ntmps35 rfl (h := ?_)
  have tf := tfm
  have ot_ : (false || true) = true := rfl
  have tfr := tfr
  have lL := hL.1
  have hv := hm.2.2.1
  have cF := gadget_Maker_fresh_c (Mok.mono hm (by decide)) (val_w m.vals (ownT m.vals L))
  have cR := gadget_Maker_row_c (Mok.fresh hm (valF m.vals 0 (ownT m.vals L))) (tok_own (V := m.vals) hL) (tok_1 0) (tok_1 m.vals.length)
  have hn : (ownT m.vals L).length = L.length := by simp [ownT]
  refine AW.mv 1 1001 (h := ?_)
  refine AW.mv 2 1002 (h := ?_)
  repeat refine AW.seq ?_
  refine AW.reg ?_
  iterate 1 refine AOL.s1 (h := ?_)
  refine AOL.nil ?_
  refine AW.kq [0, 1] (h := ?_)
  repeat refine AW.seq ?_
  refine AW.reg ?_
  iterate 1 refine AOL.s1 (h := ?_)
  refine AOL.callO 1144 (clone_own hL) rfl (by kernel_rfl) rfl (by first | rfl | exact frees_fm (fun _ => rfl) _ | exact a64_free _ | exact by8_free _) (by intro l_ hl_; simp [labs, labss] at hl_ <;> exact hl_) (by decide) (by simp only [St.drop, mapT, mapH, kill, kills, del, St.put, ins, ren, rens, reduceIte, Nat.reduceLT, Nat.reduceEqDiff, Bool.false_eq_true]; exact rfl) ?_
  iterate 1 refine AOL.s1 (h := ?_)
  refine AOL.nil ?_
  refine AW.kq [0, 5] (h := ?_)
  repeat refine AW.seq ?_
  refine AW.reg ?_
  iterate 3 refine AOL.s1 (h := ?_)
  refine AOL.nil ?_
  refine AW.kq [0, 5, 11, 12] (h := ?_)
  repeat refine AW.seq ?_
  refine AW.block ?_
  repeat refine AW.seq ?_
  refine AW.loopK [0, 5, 11, 12] (fun n s => ∃ (k : Nat) (M : List Tm), s = ⟨42, [(0, .ptr 0 0), (5, .ref 1144 0 L.length 2), (11, i L.length), (12, i k)], [(0, mkB m 1001 1002), (1001, rwB m.rows), (1002, vlB m.vals), (1144, ⟨80, false, fm tm M⟩)]⟩ ∧ k ≤ L.length ∧ n = L.length - k ∧ id (M = ownT m.vals (L.take k) ++ L.drop k)) (L.length) ?_ ?_
  · exact ⟨0, L, rfl, Nat.zero_le _, rfl, rfl⟩
  rintro n s ⟨k, M, rfl, hkl, rfl, hM⟩
  repeat refine AW.seq ?_
  refine AW.reg ?_
  iterate 1 refine AOL.s1 (h := ?_)
  refine AOL.nil ?_
  refine AW.kq [0, 5, 11, 12, 13] (h := ?_)
  repeat refine AW.seq ?_
  refine AW.cond rfl (fun c_ => ?_) (fun c_ => ?_)
  · have h1 : k < L.length := by simpa using c_
    have k0 : (0:Int) ≤ k := by omega
    have k1 : (k:Int) < L.length := by omega
    have hw := incq h1 (tok_len hL)
    have hd : (fm tm M).drop (k * 2) = i L[k].v :: u L[k].k :: fm tm (M.drop (k + 1)) := tm_at (by rw [show M = _ from hM]; exact own_at m.vals h1)
    have hlM : (fm tm M).length = L.length * 2 := by rw [fm_len tm_len, show M = _ from hM]; simp [ownT]; omega
    have hb : k * 2 + 1 ≤ L.length * 2 := by omega
    have hst : (fm tm M).set (k * 2) (i (isM m.vals L[k].v)) = fm tm (ownT m.vals (L.take (k + 1)) ++ L.drop (k + 1)) := by rw [show M = _ from hM]; exact own_set m.vals h1
    clear hM c_
    generalize L[k] = t at *
    obtain ⟨tv, tk⟩ := t
    refine AW.skip ?_
    repeat refine AW.seq ?_
    refine AW.block ?_
    repeat refine AW.seq ?_
    refine AW.reg ?_
    iterate 2 refine AOL.s1 (h := ?_)
    refine AOL.nil ?_
    refine AW.kq [0, 5, 6, 11, 12] (h := ?_)
    repeat refine AW.seq ?_
    refine AW.reg ?_
    iterate 8 refine AOL.s1 (h := ?_)
    refine AOL.callF rfl (isF rfl rfl rfl) (by kernel_rfl) (h := ?_)
    iterate 3 refine AOL.s1 (h := ?_)
    refine AOL.nil ?_
    repeat refine AW.seq ?_
    refine AW.reg ?_
    iterate 2 refine AOL.s1 (h := ?_)
    refine AOL.nil ?_
    refine ⟨L.length - (k + 1), by omega, k + 1, _, by rw [← hst]; rfl, h1, rfl, rfl⟩
  · have hk : k = L.length := by simp at c_; omega
    subst hk
    rw [List.take_of_length_le (Nat.le_refl _), List.drop_of_length_le (Nat.le_refl _), List.append_nil] at hM
    obtain rfl : M = ownT m.vals L := hM
    have hfz : AV.sl L.length (sub 0 (L.length * 2) (fm tm (ownT m.vals L))) = slF tm (ownT m.vals L) := by
      rw [sub_all (by rw [fm_len tm_len, hn]; exact Nat.le_refl _)]
      show AV.sl _ _ = AV.sl _ _
      rw [hn]
    refine AW.fz 1144 rfl (fun h => by cases h) (h := ?_)
    rw [hfz]
    clear hn hfz
    repeat refine AW.seq ?_
    refine AW.exit ?_
    repeat (first | refine Kseq.ex ?_ | refine Kloop.ex ?_ | refine Kblock.miss (by decide) ?_)
    refine Kblock.hit ?_
    refine AW.kq [0, 5] (h := ?_)
    repeat refine AW.seq ?_
    refine AW.reg ?_
    iterate 6 refine AOL.s1 (h := ?_)
    refine AOL.callF rfl (valC (tok_len (tok_own hL)) hv (tok_own hL).2 rfl) (by kernel_rfl) (h := ?_)
    refine AOL.callM (l := 0) (b := 1000) (cF) rfl (by kernel_rfl) rfl rfl rfl rfl rfl (hst := by simp only [St.drops, St.drop, mapT, mapH, kill, kills, del, St.put, ins, reduceIte, Nat.reduceAdd, Nat.reduceLT, Nat.reduceEqDiff, Bool.false_eq_true]; exact rfl) ?_
    iterate 1 refine AOL.s1 (h := ?_)
    refine AOL.nil ?_
    refine AW.kq [0, 5, 7] (h := ?_)
    repeat refine AW.seq ?_
    refine AW.reg ?_
    iterate 2 refine AOL.s1 (h := ?_)
    refine AOL.callD rfl (gadget_just_c) (by kernel_rfl) rfl rfl (h := ?_)
    iterate 1 refine AOL.s1 (h := ?_)
    refine AOL.callD rfl (gadget_just_c) (by kernel_rfl) rfl rfl (h := ?_)
    refine AOL.callM (l := 0) (b := 1000) (cR) rfl (by kernel_rfl) rfl rfl rfl rfl rfl (hst := by simp only [St.drops, St.drop, mapT, mapH, kill, kills, del, St.put, ins, reduceIte, Nat.reduceAdd, Nat.reduceLT, Nat.reduceEqDiff, Bool.false_eq_true]; exact rfl) ?_
    refine AOL.nil ?_
    refine AW.kq [7] (h := ?_)
    repeat refine AW.seq ?_
    refine AW.reg ?_
    iterate 2 refine AOL.s1 (h := ?_)
    refine AOL.nil ?_
    refine AW.kq [4] (h := ?_)
    repeat refine AW.seq ?_
    refine AW.ret ?_
    refine ⟨_, mkOut (linM m L), rfl, ?_, ?_⟩
    · exact fun p hp => hp
    · exact Tells.self
def choM (m : Mk) (c a b : Int) : Mk :=
  rowM (freshM m ((valM m.vals b + valM m.vals c * valF m.vals 0 (sumT (two1 (isMk m a) (isMk m b) 288230376287764480)) % 288230376287764481) % 288230376287764481)) (one1 (isMk m c)) (two1 (isMk m a) (isMk m b) 288230376287764480) (two1 m.vals.length (isMk m b) 288230376287764480)
theorem Mok.cho {k : Nat} {m : Mk} (h : Mok (k + 2) m) (c a b : Int) : Mok k (choM m c a b) := (Mok.fresh h _).row _ _ _
theorem valM_at {V : List Int} (hv : wV V) (h0 : 0 < V.length) (a : Int) : ∃ n : Nat, isM V a = n ∧ (n:Int) < V.length ∧ (fm u1 V).drop n = u (valM V a) :: fm u1 (V.drop (n + 1)) ∧ w64 (valM V a) := by
  obtain ⟨j0, j1⟩ := isM_in h0 a
  obtain ⟨n, hn⟩ : ∃ n : Nat, isM V a = n := ⟨(isM V a).toNat, by omega⟩
  have hV : valM V a = V[n]?.getD 0 := by unfold valM; rw [hn]; rfl
  rw [hn] at j1
  obtain ⟨v, hv1, hv2, hv3⟩ := at_nat j1 hv
  refine ⟨n, hn, j1, ?_, ?_⟩
  · rw [hV, hv1]; exact hv3
  · rw [hV, hv1]; exact hv2
theorem sumT_w (L : List Tm) : wT (sumT L) := fun t ht => by have := (sumT_is L).pos t ht; exact ⟨by omega, by omega⟩
theorem sumT_len (L : List Tm) : (sumT L).length ≤ L.length := by
  have h1 : ∀ (r : List Tm) (p : Option Int) (out : List Tm), (accS p out r).length ≤ out.length + r.length := by
    intro r
    induction r with
    | nil => intro p out; simp [accS]
    | cons t r ih =>
      intro p out
      simp only [accS]
      split
      · have := ih (some t.v) out; simp only [List.length_cons]; omega
      · refine Nat.le_trans (ih _ _) ?_
        rw [addL_len]
        split
        · simp only [List.length_cons]; omega
        · simp only [List.length_append, List.length_cons, List.length_nil]; omega
  have h2 : (sumT L).length ≤ (accS none [] (srt L)).length := List.length_filter_le _ _
  have h3 := h1 (srt L) none []
  rw [(srt_perm L).length_eq] at h3
  simp at h3; omega
set_option maxHeartbeats 4000000 in
theorem gadget_Maker_Choose_c {m : Mk} {c a b : Int} (hm : Mok 2 m) : Fn Tryz.prog 37 [.ptr 0 0, i c, i a, i b] [(0, mkB m 1 2), (1, rwB m.rows), (2, vlB m.vals)] (Tells (i m.vals.length) (mkOut (choM m c a b))) := by
  refine Fn.enter Tryz.func37 Tryz.ntmps37 rfl (h := ?_)
  have tf := tfm
  have ot_ : (false || true) = true := rfl
  have tfr := tfr
  have hv := hm.2.2.1
  obtain ⟨nc, hc1, hc2, hc3, hc4⟩ := valM_at hv hm.2.2.2 c
  obtain ⟨nb, hb1, hb2, hb3, hb4⟩ := valM_at hv hm.2.2.2 b
  have lT := tok_2 (v := isMk m a) (w := nb) w64_m1
  have cS := rank_Sum_c (tok_len lT) lT.2
  have hL := tok_len lT
  have hS : (sumT (two1 (isMk m a) (nb) 288230376287764480)).length < 1000000000 := Nat.lt_of_le_of_lt (sumT_len _) hL
  have hW := sumT_w (two1 (isMk m a) (nb) 288230376287764480)
  have cM := modular_Mul_c hR hc4 (val_w m.vals (sumT (two1 (isMk m a) (nb) 288230376287764480)))
  have cA := modular_Add_c hR hb4 (w64_r (valM m.vals c * valF m.vals 0 (sumT (two1 (isMk m a) (nb) 288230376287764480))))
  have cF := gadget_Maker_fresh_c (Mok.mono hm (by decide)) (w64_r (valM m.vals b + valM m.vals c * valF m.vals 0 (sumT (two1 (isMk m a) (nb) 288230376287764480)) % 288230376287764481))
  have cR := gadget_Maker_row_c (Mok.fresh hm ((valM m.vals b + valM m.vals c * valF m.vals 0 (sumT (two1 (isMk m a) (nb) 288230376287764480)) % 288230376287764481) % 288230376287764481)) (tok_1 (nc)) lT (tok_2 (v := m.vals.length) (w := nb) w64_m1)
  have e : choM m c a b = rowM (freshM m ((valM m.vals b + valM m.vals c * valF m.vals 0 (sumT (two1 (isMk m a) nb 288230376287764480)) % 288230376287764481) % 288230376287764481)) (one1 nc) (two1 (isMk m a) nb 288230376287764480) (two1 m.vals.length nb 288230376287764480) := by
    unfold choM isMk; rw [hb1, hc1]
  rw [e]
  replace e : id (_ = _) := e
  refine AW.mv 1 1001 (h := ?_)
  refine AW.mv 2 1002 (h := ?_)
  repeat refine AW.seq ?_
  refine AW.reg ?_
  iterate 1 refine AOL.s1 (h := ?_)
  refine AOL.nil ?_
  refine AW.kq [0, 1, 2, 3] (h := ?_)
  repeat refine AW.seq ?_
  refine AW.reg ?_
  iterate 2 refine AOL.s1 (h := ?_)
  refine AOL.callF rfl (isF rfl rfl rfl) (by kernel_rfl) (h := ?_)
  iterate 2 refine AOL.s1 (h := ?_)
  refine AOL.callF rfl (isF rfl rfl rfl) (by kernel_rfl) (h := ?_)
  iterate 2 refine AOL.s1 (h := ?_)
  refine AOL.callF rfl (isF rfl rfl rfl) (by kernel_rfl) (h := ?_)
  iterate 3 refine AOL.s1 (h := ?_)
  refine AOL.nil ?_
  refine AW.kq [0, 1, 2, 3] (h := ?_)
  repeat refine AW.seq ?_
  refine AW.reg ?_
  iterate 1 refine AOL.s1 (h := ?_)
  refine AOL.callD rfl (gadget_one_c) (by kernel_rfl) rfl rfl (h := ?_)
  iterate 1 refine AOL.s1 (h := ?_)
  refine AOL.callD rfl (gadget_one_c) (by kernel_rfl) rfl rfl (h := ?_)
  iterate 1 refine AOL.s1 (h := ?_)
  refine AOL.fz 1400 rfl (fun h => by cases h) (h := ?_)
  iterate 1 refine AOL.s1 (h := ?_)
  refine AOL.nil ?_
  refine AW.kq [0, 1, 3, 9] (h := ?_)
  repeat refine AW.seq ?_
  refine AW.drw 14 [] (by kernel_rfl) (h := ?_)
  iterate 8 refine ADL.dm 1 (h := ?_)
  refine ADL.call rfl (cS) (by kernel_rfl) rfl rfl (h := ?_)
  iterate 4 refine ADL.dm 1 (h := ?_)
  refine ADL.callF rfl (valC hS hv hW rfl) (by kernel_rfl) (h := ?_)
  refine ADL.done hmix rfl rfl (hT := ?_)
  refine AOL.callD rfl (cM) (by kernel_rfl) rfl rfl (h := ?_)
  iterate 1 refine AOL.s1 (h := ?_)
  refine AOL.nil ?_
  refine AW.kq [0, 1, 3, 9, 10] (h := ?_)
  repeat refine AW.seq ?_
  refine AW.reg ?_
  iterate 9 refine AOL.s1 (h := ?_)
  refine AOL.callD rfl (cA) (by kernel_rfl) rfl rfl (h := ?_)
  refine AOL.callM (l := 0) (b := 1000) (cF) rfl (by kernel_rfl) rfl rfl rfl rfl rfl (hst := by simp only [St.drops, St.drop, mapT, mapH, kill, kills, del, St.put, ins, reduceIte, Nat.reduceAdd, Nat.reduceLT, Nat.reduceEqDiff, Bool.false_eq_true]; exact rfl) ?_
  iterate 1 refine AOL.s1 (h := ?_)
  refine AOL.nil ?_
  refine AW.kq [0, 1, 3, 9, 11] (h := ?_)
  repeat refine AW.seq ?_
  refine AW.reg ?_
  iterate 2 refine AOL.s1 (h := ?_)
  refine AOL.callD rfl (gadget_just_c) (by kernel_rfl) rfl rfl (h := ?_)
  iterate 2 refine AOL.s1 (h := ?_)
  refine AOL.callD rfl (gadget_one_c) (by kernel_rfl) rfl rfl (h := ?_)
  iterate 1 refine AOL.s1 (h := ?_)
  refine AOL.callD rfl (gadget_one_c) (by kernel_rfl) rfl rfl (h := ?_)
  iterate 1 refine AOL.s1 (h := ?_)
  refine AOL.fz 1960 rfl (fun h => by cases h) (h := ?_)
  refine AOL.callM (l := 0) (b := 1000) (cR) rfl (by kernel_rfl) rfl rfl rfl rfl rfl (hst := by simp only [St.drops, St.drop, mapT, mapH, kill, kills, del, St.put, ins, reduceIte, Nat.reduceAdd, Nat.reduceLT, Nat.reduceEqDiff, Bool.false_eq_true]; exact rfl) ?_
  refine AOL.nil ?_
  refine AW.kq [11] (h := ?_)
  repeat refine AW.seq ?_
  refine AW.reg ?_
  iterate 2 refine AOL.s1 (h := ?_)
  refine AOL.nil ?_
  refine AW.kq [8] (h := ?_)
  repeat refine AW.seq ?_
  refine AW.ret ?_
  refine ⟨_, mkOut (rowM (freshM m ((valM m.vals b + valM m.vals c * valF m.vals 0 (sumT (two1 (isMk m a) nb 288230376287764480)) % 288230376287764481) % 288230376287764481)) (one1 nc) (two1 (isMk m a) nb 288230376287764480) (two1 m.vals.length nb 288230376287764480)), rfl, ?_, ?_⟩
  · exact fun p hp => hp
  · exact Tells.self
end Go.Proofs.YtngphcdhdllnnaaGreat.E.M
end
