/- Sums of terms: what they are. -/
import Derived.Test.YtjeafkodcmbabaaDoorRankA
import Derived.Test.YtjeafkodcmbabaaDoorProg
import Derived.KernelRfl
set_option linter.unusedVariables false
set_option linter.unusedSimpArgs false
set_option maxRecDepth 10000
open Go Go.Proofs.YtjeafkodcmbabaaDoor.E Go.Proofs
namespace Go.Proofs.YtjeafkodcmbabaaDoor.E.M
def kS (v : Int) : List Tm → Int
  | [] => 0
  | t :: l => (if t.v = v then t.k else 0) + kS v l
theorem kS_app (v : Int) : ∀ a b : List Tm, kS v (a ++ b) = kS v a + kS v b
  | [], b => by simp [kS]
  | t :: a, b => by simp only [List.cons_append, kS, kS_app v a b]; omega
theorem kS_perm {v : Int} {a b : List Tm} (h : a.Perm b) : kS v a = kS v b := by
  induction h with
  | nil => rfl
  | cons t _ ih => simp only [kS, ih]
  | swap s t l => simp only [kS]; omega
  | trans _ _ h1 h2 => exact h1.trans h2
theorem kS_zero {v : Int} : ∀ {l : List Tm}, (∀ t ∈ l, t.v ≠ v) → kS v l = 0
  | [], _ => rfl
  | t :: l, h => by
    simp only [kS]
    rw [if_neg (h t (by simp)), kS_zero fun s hs => h s (List.mem_cons_of_mem _ hs)]; rfl
/-- what the sum of terms is: its variables rise, none counts 0, each counts what all of it do -/
structure IsSum (L out : List Tm) : Prop where
  up : out.Pairwise (fun a b => a.v < b.v)
  pos : ∀ t ∈ out, 0 ≤ t.v ∧ 1 ≤ t.k ∧ t.k < 288230376287764481
  eq : ∀ v, 0 ≤ v → kS v out = kS v L % 288230376287764481
theorem sum_uniq : ∀ {a b : List Tm}, a.Pairwise (fun a b => a.v < b.v) → b.Pairwise (fun a b => a.v < b.v) → (∀ t ∈ a, 0 ≤ t.v ∧ 1 ≤ t.k) → (∀ t ∈ b, 0 ≤ t.v ∧ 1 ≤ t.k) → (∀ v, 0 ≤ v → kS v a = kS v b) → a = b
  | [], [], _, _, _, _, _ => rfl
  | [], t :: b, _, hb, _, pb, h => by
    have h1 := h t.v (pb t (by simp)).1
    simp only [kS, if_true] at h1
    rw [kS_zero (fun s hs => by have := (List.pairwise_cons.1 hb).1 s hs; omega)] at h1
    have := (pb t (by simp)).2; omega
  | t :: a, [], ha, _, pa, _, h => by
    have h1 := h t.v (pa t (by simp)).1
    simp only [kS, if_true] at h1
    rw [kS_zero (fun s hs => by have := (List.pairwise_cons.1 ha).1 s hs; omega)] at h1
    have := (pa t (by simp)).2; omega
  | t :: a, s :: b, ha, hb, pa, pb, h => by
    obtain ⟨ha1, ha2⟩ := List.pairwise_cons.1 ha
    obtain ⟨hb1, hb2⟩ := List.pairwise_cons.1 hb
    have t0 := pa t (by simp)
    have s0 := pb s (by simp)
    have za : ∀ v, v ≤ t.v → kS v a = 0 := fun v hv => kS_zero fun x hx => by have := ha1 x hx; omega
    have zb : ∀ v, v ≤ s.v → kS v b = 0 := fun v hv => kS_zero fun x hx => by have := hb1 x hx; omega
    have e : t.v = s.v := by
      rcases Int.lt_trichotomy t.v s.v with c | c | c
      · have h1 := h t.v t0.1
        simp only [kS, if_true] at h1
        rw [if_neg (by omega), za _ (Int.le_refl _), zb _ (by omega)] at h1; omega
      · exact c
      · have h1 := h s.v s0.1
        simp only [kS, if_true] at h1
        rw [if_neg (by omega), za _ (by omega), zb _ (Int.le_refl _)] at h1; omega
    have ek : t.k = s.k := by
      have h1 := h t.v t0.1
      simp only [kS, if_true] at h1
      rw [if_pos e.symm, za _ (Int.le_refl _), zb _ (by omega)] at h1; omega
    have : t = s := by cases t; cases s; simp_all
    subst this
    rw [sum_uniq ha2 hb2 (fun x hx => pa x (List.mem_cons_of_mem _ hx)) (fun x hx => pb x (List.mem_cons_of_mem _ hx)) (fun v hv => by
      have h1 := h v hv
      simp only [kS] at h1; omega)]
theorem IsSum.uniq {L a b : List Tm} (ha : IsSum L a) (hb : IsSum L b) : a = b :=
  sum_uniq ha.up hb.up (fun t h => ⟨(ha.pos t h).1, (ha.pos t h).2.1⟩) (fun t h => ⟨(hb.pos t h).1, (hb.pos t h).2.1⟩) fun v hv => by rw [ha.eq v hv, hb.eq v hv]
theorem IsSum.perm {L M a : List Tm} (ha : IsSum L a) (h : M.Perm L) : IsSum M a := ⟨ha.up, ha.pos, fun v hv => by rw [ha.eq v hv, kS_perm h]⟩
/-- the last one counts more -/
def addL (k : Int) : List Tm → List Tm
  | [] => []
  | [t] => [⟨t.v, (t.k + k) % 288230376287764481⟩]
  | t :: s :: l => t :: addL k (s :: l)
def accS : Option Int → List Tm → List Tm → List Tm
  | _, out, [] => out
  | p, out, t :: r => if t.v < 0 then accS (some t.v) out r else accS (some t.v) (addL t.k (if p = some t.v then out else out ++ [⟨t.v, 0⟩])) r
theorem addL_snoc (k : Int) (t : Tm) : ∀ l : List Tm, addL k (l ++ [t]) = l ++ [⟨t.v, (t.k + k) % 288230376287764481⟩]
  | [] => rfl
  | [s] => rfl
  | s :: r :: l => by
    have := addL_snoc k t (r :: l)
    simp only [List.cons_append] at this ⊢
    rw [addL, this]
theorem addL_len (k : Int) : ∀ l : List Tm, (addL k l).length = l.length
  | [] => rfl
  | [s] => rfl
  | s :: r :: l => by simp only [addL, List.length_cons, addL_len k (r :: l)]
structure AccI (p : Option Int) (out : List Tm) : Prop where
  up : out.Pairwise (fun a b => a.v < b.v)
  pos : ∀ t ∈ out, 0 ≤ t.v ∧ 0 ≤ t.k ∧ t.k < 288230376287764481
  lt : ∀ v, p = some v → ∀ t ∈ out, t.v ≤ v
  nil : p = none → out = []
  last : ∀ v, p = some v → 0 ≤ v → ∃ l t, out = l ++ [t] ∧ t.v = v
theorem AccI.snoc {l : List Tm} {t : Tm} (h : ∀ s ∈ l, s.v < t.v) (hu : l.Pairwise (fun a b => a.v < b.v)) (hp : ∀ t ∈ l, 0 ≤ t.v ∧ 0 ≤ t.k ∧ t.k < 288230376287764481) (t0 : 0 ≤ t.v) (t1 : 0 ≤ t.k) (t2 : t.k < 288230376287764481) : AccI (some t.v) (l ++ [t]) where
  up := List.pairwise_append.2 ⟨hu, List.pairwise_singleton _ _, fun a ha b hb => by simp only [List.mem_singleton] at hb; subst hb; exact h a ha⟩
  pos := fun s hs => by
    rcases List.mem_append.1 hs with hs | hs
    · exact hp s hs
    · simp only [List.mem_singleton] at hs; subst hs; exact ⟨t0, t1, t2⟩
  lt := fun v hv s hs => by
    cases hv
    rcases List.mem_append.1 hs with hs | hs
    · have := h s hs; omega
    · simp only [List.mem_singleton] at hs; subst hs; exact Int.le_refl _
  nil := fun h => by cases h
  last := fun v hv _ => by cases hv; exact ⟨l, t, rfl, rfl⟩
theorem accS_spec : ∀ {r : List Tm} {p : Option Int} {out : List Tm}, AccI p out → r.Pairwise (fun a b => a.v ≤ b.v) → (∀ v, p = some v → ∀ t ∈ r, v ≤ t.v) →
    (accS p out r).Pairwise (fun a b => a.v < b.v) ∧ (∀ t ∈ accS p out r, 0 ≤ t.v ∧ 0 ≤ t.k ∧ t.k < 288230376287764481) ∧ ∀ v, 0 ≤ v → kS v (accS p out r) % 288230376287764481 = (kS v out + kS v r) % 288230376287764481
  | [], p, out, hI, _, _ => ⟨hI.up, hI.pos, fun v _ => by simp only [accS, kS, Int.add_zero]⟩
  | t :: r, p, out, hI, hr, hp => by
    obtain ⟨hr1, hr2⟩ := List.pairwise_cons.1 hr
    have hn : ∀ v, some t.v = some v → ∀ s ∈ r, v ≤ s.v := fun v hv s hs => by cases hv; exact hr1 s hs
    simp only [accS]
    by_cases c : t.v < 0
    · rw [if_pos c]
      have hI' : AccI (some t.v) out := by
        refine ⟨hI.up, hI.pos, ?_, (by intro h; cases h), ?_⟩
        · intro v hv s hs
          cases hv
          cases p with
          | none => rw [hI.nil rfl] at hs; cases hs
          | some q => have h1 := hI.lt q rfl s hs; have h2 := hp q rfl t (by simp); omega
        · intro v hv h0; cases hv; omega
      obtain ⟨h1, h2, h3⟩ := accS_spec hI' hr2 hn
      refine ⟨h1, h2, fun v hv => ?_⟩
      rw [h3 v hv]
      simp only [kS]
      rw [if_neg (by omega), Int.zero_add]
    · rw [if_neg c]
      have key : ∃ l k0, (if p = some t.v then out else out ++ [⟨t.v, 0⟩]) = l ++ [⟨t.v, k0⟩] ∧ (∀ s ∈ l, s.v < t.v) ∧ l.Pairwise (fun a b => a.v < b.v) ∧ (∀ t ∈ l, 0 ≤ t.v ∧ 0 ≤ t.k ∧ t.k < 288230376287764481) ∧ (∀ v, kS v out = kS v (l ++ [⟨t.v, k0⟩])) := by
        by_cases e : p = some t.v
        · rw [if_pos e]
          obtain ⟨l, s, rfl, hs⟩ := hI.last t.v e (by omega)
          obtain ⟨sv, sk⟩ := s
          simp only at hs
          subst hs
          have hu := List.pairwise_append.1 hI.up
          exact ⟨l, sk, rfl, fun x hx => hu.2.2 x hx ⟨t.v, sk⟩ (List.mem_singleton.2 rfl), hu.1, fun x hx => hI.pos x (List.mem_append_left _ hx), fun v => rfl⟩
        · rw [if_neg e]
          refine ⟨out, 0, rfl, ?_, hI.up, hI.pos, fun v => by rw [kS_app]; simp [kS]⟩
          intro s hs
          cases p with
          | none => rw [hI.nil rfl] at hs; cases hs
          | some q =>
            have h1 := hI.lt q rfl s hs
            have h2 := hp q rfl t (by simp)
            have h3 : q ≠ t.v := fun h => e (by rw [h])
            omega
      obtain ⟨l, k0, e, k1, k2, k3, k4⟩ := key
      rw [e, addL_snoc]
      have hm := Int.emod_nonneg (k0 + t.k) (show (288230376287764481:Int) ≠ 0 by decide)
      have hm' := Int.emod_lt_of_pos (k0 + t.k) (show (0:Int) < 288230376287764481 by decide)
      obtain ⟨h1, h2, h3⟩ := accS_spec (AccI.snoc (t := ⟨t.v, (k0 + t.k) % 288230376287764481⟩) k1 k2 k3 (by show 0 ≤ t.v; omega) hm hm') hr2 hn
      refine ⟨h1, h2, fun v hv => ?_⟩
      rw [h3 v hv, k4 v, kS_app, kS_app]
      simp only [kS]
      split <;> omega
def kept0 (L : List Tm) : List Tm := L.filter fun t => !(t.k == 0)
theorem kS_kept0 (v : Int) : ∀ L : List Tm, kS v (kept0 L) = kS v L
  | [] => rfl
  | t :: l => by
    simp only [kept0, List.filter_cons]
    cases h : (t.k == 0)
    · simp only [Bool.not_false, if_true, kS]; rw [show kS v (List.filter (fun t => !(t.k == 0)) l) = kS v l from kS_kept0 v l]
    · simp only [Bool.not_true, Bool.false_eq_true, if_false, kS]
      rw [show kS v (List.filter (fun t => !(t.k == 0)) l) = kS v l from kS_kept0 v l]
      have : t.k = 0 := by simpa using h
      rw [this]; simp
theorem kS_bound {v : Int} : ∀ {out : List Tm}, out.Pairwise (fun a b => a.v < b.v) → (∀ t ∈ out, 0 ≤ t.k ∧ t.k < 288230376287764481) → 0 ≤ kS v out ∧ kS v out < 288230376287764481
  | [], _, _ => by simp [kS]
  | t :: l, hu, hp => by
    obtain ⟨h1, h2⟩ := List.pairwise_cons.1 hu
    simp only [kS]
    have t0 := hp t (by simp)
    split
    · rename_i e
      rw [kS_zero fun s hs => by have := h1 s hs; omega]; omega
    · have := kS_bound h2 (fun s hs => hp s (List.mem_cons_of_mem _ hs)) (v := v); omega
theorem accS_sum {S L : List Tm} (hS : S.Perm L) (hs : S.Pairwise (fun a b => a.v ≤ b.v)) : IsSum L (kept0 (accS none [] S)) := by
  obtain ⟨h1, h2, h3⟩ := accS_spec (p := none) (out := []) ⟨List.Pairwise.nil, by simp, by simp, fun _ => rfl, by simp⟩ hs (fun v hv => by cases hv)
  refine ⟨h1.filter _, fun t ht => ?_, fun v hv => ?_⟩
  · obtain ⟨ht1, ht2⟩ := List.mem_filter.1 ht
    have := h2 t ht1
    have h0 : t.k ≠ 0 := by simpa using ht2
    omega
  · have hb := kS_bound (v := v) (h1.filter fun t => !(t.k == 0)) (fun t ht => (h2 t (List.mem_filter.1 ht).1).2)
    have e := h3 v hv
    rw [← kS_kept0] at e
    simp only [kS, Int.zero_add, kS_perm hS] at e
    rw [← e]
    exact (Int.emod_eq_of_lt hb.1 hb.2).symm
def insT (t : Tm) : List Tm → List Tm
  | [] => [t]
  | s :: l => if t.v ≤ s.v then t :: s :: l else s :: insT t l
theorem insT_perm (t : Tm) : ∀ l, (insT t l).Perm (t :: l)
  | [] => List.Perm.refl _
  | s :: l => by
    simp only [insT]
    split
    · exact List.Perm.refl _
    · exact ((insT_perm t l).cons s).trans (List.Perm.swap _ _ _)
theorem insT_up (t : Tm) : ∀ {l : List Tm}, l.Pairwise (fun a b => a.v ≤ b.v) → (insT t l).Pairwise (fun a b => a.v ≤ b.v)
  | [], _ => List.pairwise_singleton _ _
  | s :: l, h => by
    obtain ⟨h1, h2⟩ := List.pairwise_cons.1 h
    simp only [insT]
    split
    · rename_i c
      refine List.pairwise_cons.2 ⟨fun x hx => ?_, h⟩
      rcases List.mem_cons.1 hx with rfl | hx
      · exact c
      · have := h1 x hx; omega
    · rename_i c
      refine List.pairwise_cons.2 ⟨fun x hx => ?_, insT_up t h2⟩
      rcases List.mem_cons.1 ((insT_perm t l).mem_iff.1 hx) with rfl | hx
      · omega
      · exact h1 x hx
def srt : List Tm → List Tm
  | [] => []
  | t :: l => insT t (srt l)
theorem srt_perm : ∀ l, (srt l).Perm l
  | [] => List.Perm.refl _
  | t :: l => (insT_perm t (srt l)).trans ((srt_perm l).cons t)
theorem srt_up : ∀ l, (srt l).Pairwise (fun a b => a.v ≤ b.v)
  | [] => List.Pairwise.nil
  | t :: l => insT_up t (srt_up l)
/-- the sum of terms -/
def sumT (L : List Tm) : List Tm := kept0 (accS none [] (srt L))
theorem sumT_is (L : List Tm) : IsSum L (sumT L) := accS_sum (srt_perm L) (srt_up L)
theorem accS_eq {S L : List Tm} (hS : S.Perm L) (hs : S.Pairwise (fun a b => a.v ≤ b.v)) : kept0 (accS none [] S) = sumT L := (accS_sum hS hs).uniq (sumT_is L)
end Go.Proofs.YtjeafkodcmbabaaDoor.E.M

