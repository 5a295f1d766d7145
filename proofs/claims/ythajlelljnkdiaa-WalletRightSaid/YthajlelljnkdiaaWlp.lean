/- A wallet's move: places, paths, and what makes a move right: plain lists and numbers. -/
import Derived.Test.YthajlelljnkdiaaWlc
import Derived.Test.YthajlelljnkdiaaWalC
import Derived.Test.YthajlelljnkdiaaProg
import Derived.KernelRfl
set_option linter.unusedVariables false
set_option linter.unusedSimpArgs false
set_option maxRecDepth 10000
open Go Go.Proofs.Ythajlelljnkdiaa.E Go.Proofs
namespace Go.Proofs.Ythajlelljnkdiaa.E.M
def mks : List Tx → List Int
  | [] => []
  | t :: r => t.m0 :: t.m1 :: mks r
theorem w64_0 : w64 0 := by decide
theorem mks_len : ∀ L : List Tx, (mks L).length = 2 * L.length
  | [] => rfl
  | t :: r => by simp only [mks, List.length_cons, mks_len r]; omega
theorem mks_drop : ∀ {L r : List Tx} {j : Nat}, L.drop j = r → (mks L).drop (2 * j) = mks r
  | L, r, 0, h => by simpa using congrArg mks h
  | [], r, j + 1, h => by simp at h; subst h; simp [mks]
  | t :: L, r, j + 1, h => by
    show (t.m0 :: t.m1 :: mks L).drop (2 * j + 2) = _
    exact mks_drop (L := L) (by simpa using h)
theorem mks_w {L : List Tx} (h : ∀ t ∈ L, wTx t) : wV (mks L) := by
  induction L with
  | nil => intro v hv; cases hv
  | cons t r ih =>
    intro v hv
    have ht := h t List.mem_cons_self
    simp only [mks, List.mem_cons] at hv
    rcases hv with rfl | rfl | hv
    · exact ht.2.2.1
    · exact ht.2.2.2.1
    · exact ih (fun t ht => h t (List.mem_cons_of_mem _ ht)) v hv
/-- what is told of a note that a key has -/
structure GoodH (k : Int) (V : List Int) (h : Hd) (p : Nat) : Prop where
  at_ : h.2.1 = (p : Int)
  lt : p < V.length
  mrk : V.getD p 0 = mrkH h.1
  may : maynH h.1 = true
  own : h.1.2.1 = twoH k 2
  w : wN h.1
theorem oneH_good {k : Int} {L : List Tx} {p : Nat} {s : Sd} {m : Int} {V : List Int} (hp : p < V.length) (hm : V.getD p 0 = m) : ∀ h ∈ oneH k L (p : Int) s m, GoodH k V h p := by
  intro h hh
  unfold oneH at hh
  split at hh
  · rename_i hc
    simp only [List.mem_singleton] at hh
    subst hh
    refine ⟨rfl, hp, by rw [hm]; exact hc.2.symm, ?_, rfl, opnN_w⟩
    have := hc.1
    unfold opnB at this
    simp only [Bool.and_eq_true] at this
    exact this.2
  · cases hh
theorem scnG_good {k : Int} {L0 : List Tx} {V : List Int} : ∀ {r : List Tx} {j : Nat}, V.drop (2 * j) = mks r → ∀ h ∈ scnG k L0 j r, ∃ p, GoodH k V h p
  | [], j, _, h, hh => by cases hh
  | t :: r, j, hd, h, hh => by
    have hd : V.drop (2 * j) = t.m0 :: t.m1 :: mks r := hd
    have h1 := dconsq hd
    have h2 := dconsq h1.2.1
    have e3 : V.drop (2 * (j + 1)) = mks r := by rw [show 2 * (j + 1) = 2 * j + 1 + 1 by omega]; exact h2.2.1
    simp only [scnG, List.mem_append] at hh
    rcases hh with (hh | hh) | hh
    · exact ⟨2 * j, oneH_good h1.1 (by rw [List.getD_eq_getElem?_getD, h1.2.2]; rfl) h hh⟩
    · exact ⟨2 * j + 1, oneH_good h2.1 (by rw [List.getD_eq_getElem?_getD, h2.2.2]; rfl) h hh⟩
    · exact scnG_good e3 h hh
theorem scnF_good {k : Int} {L : List Tx} : ∀ h ∈ scnF k L, ∃ p, GoodH k (mks L) h p := scnG_good (by simp)
theorem scnG_len {k : Int} {L0 : List Tx} : ∀ (r : List Tx) (j : Nat), (scnG k L0 j r).length ≤ 2 * r.length
  | [], j => Nat.zero_le _
  | t :: r, j => by
    have h1 := oneH_len k L0 ((2 * j : Nat) : Int) t.s0 t.m0
    have h2 := oneH_len k L0 ((2 * j + 1 : Nat) : Int) t.s1 t.m1
    have h3 := scnG_len (k := k) (L0 := L0) r (j + 1)
    simp only [scnG, List.length_append, List.length_cons]; omega
theorem scnF_len (k : Int) (L : List Tx) : (scnF k L).length ≤ 2 * L.length := scnG_len L 0
/-- climbing by one more -/
def stpH (x n h : Int) : Int := if n % 2 = 1 then twoH x h else twoH h x
theorem climb_snoc : ∀ (l : List Int) (x : Int) (n : Nat) (h : Int), climbH (l ++ [x]) (n : Int) h = stpH x ((n / 2 ^ l.length : Nat) : Int) (climbH l (n : Int) h)
  | [], x, n, h => by
    simp [climbH, stpH]
  | y :: l, x, n, h => by
    have e : (n : Int) / 2 = ((n / 2 : Nat) : Int) := by omega
    show climbH (l ++ [x]) ((n:Int) / 2) _ = stpH x _ (climbH l ((n:Int) / 2) _)
    rw [e, climb_snoc l x (n / 2), Nat.div_div_eq_div_mul, List.length_cons, Nat.pow_succ, Nat.mul_comm (2 ^ l.length) 2]
theorem climb_path {V : List Int} {a : Nat} (ha : a < V.length) : ∀ k, climbH (pathS V a k) (a : Int) (atH V 0 a) = atH V k (a / 2 ^ k)
  | 0 => by simp [pathS, climbH]
  | k + 1 => by
    rw [pathS, climb_snoc, pathS_len, climb_path ha k]
    have e : a / 2 ^ (k + 1) = a / 2 ^ k / 2 := by rw [Nat.pow_succ, Nat.div_div_eq_div_mul]
    have h1 : a / 2 ^ (k + 1) * 2 ^ (k + 1) < V.length := Nat.lt_of_le_of_lt (Nat.div_mul_le_self _ _) ha
    rw [atH_s h1, e]
    generalize a / 2 ^ k = q
    unfold stpH
    by_cases h : q % 2 = 1
    · rw [if_pos (by omega), if_pos h]
      rw [show 2 * (q / 2) = q - 1 by omega, show q - 1 + 1 = q by omega]
    · rw [if_neg (by omega), if_neg h]
      rw [show 2 * (q / 2) = q by omega]
theorem atH_bw {L : List Int} (hL : ∀ v ∈ L, v < 288230376287764481) : ∀ (l k : Nat), atH L l k < 288230376287764481
  | 0, k => by
    by_cases h : k < L.length
    · rw [atH_0 h, List.getD_eq_getElem?_getD, List.getElem?_eq_getElem h]; exact hL _ (List.getElem_mem h)
    · rw [atH_e (by simpa using h)]; exact (empH_l _).2
  | l + 1, k => by
    by_cases h : k * 2 ^ (l + 1) < L.length
    · rw [atH_s h]; exact (twoH_l _ _).2
    · rw [atH_e h]; exact (empH_l _).2
theorem pathS_all {L : List Int} (hL : ∀ v ∈ L, v < 288230376287764481) (a : Nat) : ∀ k, (pathS L a k).all bw = true
  | 0 => rfl
  | k + 1 => by
    rw [pathS, List.all_append, pathS_all hL a k]
    simp only [List.all_cons, List.all_nil, Bool.and_true, Bool.true_and, bw]
    exact decide_eq_true (atH_bw hL _ _)
theorem pathS_w {L : List Int} (hL : wV L) (a : Nat) : ∀ k, wV (pathS L a k)
  | 0 => fun v hv => by cases hv
  | k + 1 => fun v hv => by
    rw [pathS] at hv
    rcases List.mem_append.1 hv with hv | hv
    · exact pathS_w hL a k v hv
    · simp only [List.mem_singleton] at hv; subst hv; exact atH_w hL _ _
/-- an input that is right -/
structure GoodI (d : Nat) (k root : Int) (x : Ip) : Prop where
  w : wI x
  own : x.n.2.1 = twoH x.k 2
  val : 0 ≤ x.n.1 ∧ x.n.1 < 4294967296
  fit : inF x d = true
  path : x.p.all bw = true
  climb : x.n.1 = 0 ∨ climbH x.p (nonneg x.a) (mrkH x.n) = root
theorem good_used {k : Int} {V : List Int} {h : Hd} {p d : Nat} (g : GoodH k V h p) (hk : w64 k) (hkR : k < 288230376287764481) (hV : wV V) (hR : ∀ v ∈ V, v < 288230376287764481) (hl : V.length ≤ 2 ^ d) (hd : d ≤ 3) : GoodI d k (atH V d 0) ⟨k, h.1, h.2.1, pathS V p d⟩ := by
  have hp2 : p < 2 ^ d := Nat.lt_of_lt_of_le g.lt hl
  have h8 : 2 ^ d ≤ 8 := by
    have : 2 ^ d ≤ 2 ^ 3 := Nat.pow_le_pow_right (by decide) hd
    omega
  have hm := g.may
  simp only [maynH, Bool.and_eq_true, decide_eq_true_eq] at hm
  have ha := g.at_
  refine ⟨⟨hk, g.w, ?_, pathS_w hV _ _, ?_⟩, g.own, ⟨g.w.1.1, hm.1.1⟩, ?_, pathS_all hR _ _, .inr ?_⟩
  · show h.2.1 < _; rw [ha]; omega
  · show (pathS V p d).length < _; rw [pathS_len]; omega
  · have e1 : (2:Int) ^ ((d:Int).toNat) = ((2 ^ d : Nat) : Int) := by rw [Int.toNat_natCast]; simp
    unfold inF
    simp only [pathS_len, decide_true, Bool.true_and]
    rw [e1, ha, decide_eq_true (by omega), decide_eq_true (by omega)]
    unfold bw
    rw [decide_eq_true hkR, decide_eq_true (by omega), decide_eq_true hm.1.2, decide_eq_true hm.2]
    rfl
  · show climbH (pathS V p d) (nonneg h.2.1) (mrkH h.1) = _
    have e : nonneg h.2.1 = (p:Int) := by rw [ha]; unfold nonneg; rw [if_neg (by omega)]
    have e0 : atH V 0 p = mrkH h.1 := by rw [atH_0 g.lt]; exact g.mrk
    rw [e, ← e0, climb_path g.lt, Nat.div_eq_of_lt hp2]
theorem good_none {k o rho root : Int} {d : Nat} (hk : w64 k) (hkR : k < 288230376287764481) (ho : o = twoH k 2) (hr : w64 rho) (hrR : rho < 288230376287764481) (hd : d ≤ 3) : GoodI d k root ⟨k, (0, o, rho), 0, List.replicate d 0⟩ := by
  subst ho
  have wo := twoH_l k 2
  refine ⟨⟨hk, ⟨w64_0, wo.w, hr⟩, ?_, ?_, ?_⟩, rfl, ⟨Int.le_refl 0, (by decide : (0:Int) < 4294967296)⟩, ?_, ?_, .inl rfl⟩
  · exact (by decide : (0:Int) < 9223372036854775808)
  · intro v hv; rw [List.mem_replicate] at hv; rw [hv.2]; exact w64_0
  · show (List.replicate d (0:Int)).length < _; rw [List.length_replicate]; omega
  · have e1 : (0:Int) < (2:Int) ^ ((d:Int).toNat) := Int.pow_pos (by decide)
    unfold inF
    simp only [List.length_replicate, decide_true, Bool.true_and]
    rw [decide_eq_true (by decide : (0:Int) ≤ 0), decide_eq_true e1]
    unfold bw
    rw [decide_eq_true hkR, decide_eq_true (by decide), decide_eq_true wo.2, decide_eq_true hrR]
    rfl
  · rw [List.all_eq_true]; intro v hv; rw [List.mem_replicate] at hv; rw [hv.2]; decide
/-- a move that is right, and fits -/
def goodM (d : Nat) (m : Mv) : Prop := wM m ∧ fitsH m d = true ∧ rightH m = true
theorem good_move {d : Nat} {k root inn ou pay left ao r0 r1 : Int} {x y : Ip} (hd : 1 ≤ d) (hd3 : d ≤ 3) (gx : GoodI d k root x) (gy : GoodI d k root y) (hx : x.k = k)
    (hr : w64 root) (hrR : root < 288230376287764481) (hi : 0 ≤ inn ∧ inn < 4294967296) (ho : 0 ≤ ou ∧ ou < 4294967296) (hp : 0 ≤ pay ∧ pay < 4294967296) (hl : 0 ≤ left ∧ left < 4294967296) (ha : w64 ao) (haR : ao < 288230376287764481)
    (h0 : w64 r0) (h0R : r0 < 288230376287764481) (h1 : w64 r1) (h1R : r1 < 288230376287764481) (hs : inn + x.n.1 + y.n.1 = ou + pay + left) :
    goodM d ⟨root, inn, ou, 0, x, y, (pay, ao, r0), (left, twoH k 2, r1)⟩ := by
  have wo := twoH_l k 2
  have b : ∀ n : Int, n < 288230376287764481 → bw n = true := fun n h => decide_eq_true h
  have wi : w64 inn := ⟨by omega, by omega⟩
  have wu : w64 ou := ⟨by omega, by omega⟩
  have wp : w64 pay := ⟨by omega, by omega⟩
  have wl : w64 left := ⟨by omega, by omega⟩
  refine ⟨⟨hr, wi, wu, w64_0, gx.w, gy.w, ⟨wp, ha, h0⟩, ⟨wl, wo.w, h1⟩⟩, ?_, ?_⟩
  · unfold fitsH hdF outF
    simp only
    rw [gx.fit, gy.fit, gx.path, gy.path, b _ hrR, b _ (by omega : inn < _), b _ (by omega : ou < _), b 0 (by decide), b _ (by omega : pay < _), b _ haR, b _ h0R, b _ (by omega : left < _), b _ wo.2, b _ h1R, decide_eq_true (by omega)]
    rfl
  · have vx := gx.val
    have vy := gy.val
    unfold rightH okI
    simp only
    rw [decide_eq_true gx.own, decide_eq_true gy.own, decide_eq_true hp.2, decide_eq_true hl.2]
    have cx : (decide (x.n.1 = 0) || decide (climbH x.p (nonneg x.a) (mrkH x.n) = root)) = true := by
      rcases gx.climb with h | h
      · rw [decide_eq_true h]; rfl
      · rw [decide_eq_true h, Bool.or_true]
    have cy : (decide (y.n.1 = 0) || decide (climbH y.p (nonneg y.a) (mrkH y.n) = root)) = true := by
      rcases gy.climb with h | h
      · rw [decide_eq_true h]; rfl
      · rw [decide_eq_true h, Bool.or_true]
    rw [cx, cy]
    have hR : rAdd (rAdd inn x.n.1) y.n.1 = rAdd (rAdd ou pay) left := by
      unfold rAdd
      rw [Int.emod_eq_of_lt (a := inn + x.n.1) (by omega) (by omega), Int.emod_eq_of_lt (a := ou + pay) (by omega) (by omega), hs]
    rw [decide_eq_true hR]
    rfl
theorem may_0 {L : List Int} {d : Int} (h : mayH L d = 0) : (∀ v ∈ L, v < 288230376287764481) ∧ (L.length : Int) ≤ 2 ^ d.toNat := by
  unfold mayH at h
  split at h
  · cases h
  · split at h
    · cases h
    · rename_i h2
      split at h
      · cases h
      · rename_i h3
        refine ⟨fun v hv => ?_, by omega⟩
        rcases Int.lt_or_le v 288230376287764481 with h4 | h4
        · exact h4
        · exact absurd (List.any_eq_true.2 ⟨v, hv, decide_eq_true h4⟩) h2
def toH (h : Hd) : H := ⟨h.1.1, h.1.2.1, h.1.2.2, h.2.1, h.2.2⟩
theorem cells_fm : ∀ L : List Hd, cells (L.map toH) = fm hdc L
  | [] => rfl
  | h :: L => by show u _ :: u _ :: u _ :: i _ :: bo _ :: cells (L.map toH) = _; rw [cells_fm L]; rfl
theorem planR_lt {L : List H} {need : Int} : (planR L need).1.length ≤ 2 ∧ ∀ x ∈ (planR L need).1, x < L.length := by
  unfold planR
  split
  · exact ⟨by simp, fun x hx => by cases hx⟩
  · split
    · rename_i x hx
      have := List.mem_of_find?_eq_some hx
      refine ⟨by simp, fun y hy => ?_⟩
      simp only [List.mem_singleton] at hy
      subst hy
      exact List.mem_range.1 this
    · split
      · rename_i a b hp
        have hm : ∀ {q : Nat → Nat → Bool} {l : List Nat} {a b : Nat}, pairs q l = some (a, b) → a ∈ l ∧ b ∈ l := by
          intro q l
          induction l with
          | nil => intro a b h; cases h
          | cons z l ih =>
            intro a b h
            simp only [pairs] at h
            split at h
            · rename_i y hy
              simp only [Option.some.injEq, Prod.mk.injEq] at h
              obtain ⟨rfl, rfl⟩ := h
              exact ⟨List.mem_cons_self, List.mem_cons_of_mem _ (List.mem_of_find?_eq_some hy)⟩
            · obtain ⟨h1, h2⟩ := ih h
              exact ⟨List.mem_cons_of_mem _ h1, List.mem_cons_of_mem _ h2⟩
        obtain ⟨h1, h2⟩ := hm hp
        refine ⟨by simp, fun y hy => ?_⟩
        simp only [List.mem_cons, List.not_mem_nil, or_false] at hy
        rcases hy with rfl | rfl
        · exact List.mem_range.1 h1
        · exact List.mem_range.1 h2
      · exact ⟨by simp, fun x hx => by cases hx⟩
end Go.Proofs.Ythajlelljnkdiaa.E.M

