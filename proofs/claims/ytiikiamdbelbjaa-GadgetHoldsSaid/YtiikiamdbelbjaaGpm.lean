/- What the rows of a maker's deeds say: the plain law. -/
import Derived.Test.YtiikiamdbelbjaaGpl
import Derived.Test.YtiikiamdbelbjaaProg
import Derived.KernelRfl
set_option linter.unusedVariables false
set_option linter.unusedSimpArgs false
set_option maxRecDepth 10000
open Go Go.Proofs.Ytiikiamdbelbjaa.E Go.Proofs
namespace Go.Proofs.Ytiikiamdbelbjaa.E.M
theorem lin_1 (V : List Int) (v : Int) : lin V (one1 v) = gV V v := by simp [lin]
theorem lin_2 (V : List Int) (v w k : Int) : lin V (two1 v w k) = gV V v + k * gV V w := by simp [lin]
theorem lin_3 (V : List Int) (v a ka w kw : Int) : lin V (three1 v a ka w kw) = gV V v + (ka * gV V a + kw * gV V w) := by simp [lin]
theorem blw_1 {n : Nat} {v : Int} (h : v < n) : blw n (one1 v) := fun t ht => by simp only [List.mem_singleton] at ht; subst ht; exact h
theorem blw_2 {n : Nat} {v w k : Int} (h : v < n) (h2 : w < n) : blw n (two1 v w k) := fun t ht => by
  simp only [List.mem_cons, List.not_mem_nil, or_false] at ht
  rcases ht with rfl | rfl
  · exact h
  · exact h2
theorem blw_3 {n : Nat} {v a ka w kw : Int} (h : v < n) (h2 : a < n) (h3 : w < n) : blw n (three1 v a ka w kw) := fun t ht => by
  simp only [List.mem_cons, List.not_mem_nil, or_false] at ht
  rcases ht with rfl | rfl | rfl
  · exact h
  · exact h2
  · exact h3
theorem blw_nil {n : Nat} : blw n [] := fun t ht => by cases ht
theorem fresh_vals (m : Mk) (x : Int) : (freshM m x).vals = m.vals ++ [x % 288230376287764481] := rfl
theorem fresh_len (m : Mk) (x : Int) : (freshM m x).vals.length = m.vals.length + 1 := by simp [freshM]
theorem row_vals (m : Mk) (a b c : List Tm) : (rowM m a b c).vals = m.vals := rfl
/-- a law of a deed: all stays good, and what was told is told on -/
structure Law (m m' : Mk) (X : List Int) : Prop where
  good : Good m'
  vals : m'.vals = m.vals ++ X
  all : AllH m' ↔ AllH m
theorem Law.refl {m : Mk} (h : Good m) : Law m m [] := ⟨h, by simp, Iff.rfl⟩
theorem Law.trans {m m1 m2 : Mk} {X Y : List Int} (h : Law m m1 X) (k : Law m1 m2 Y) : Law m m2 (X ++ Y) := ⟨k.good, by rw [k.vals, h.vals, List.append_assoc], k.all.trans h.all⟩
theorem Law.len {m m' : Mk} {X : List Int} (h : Law m m' X) : m'.vals.length = m.vals.length + X.length := by rw [h.vals, List.length_append]
theorem Law.g {m m' : Mk} {X : List Int} (h : Law m m' X) {v : Int} (hv : v < m.vals.length) : gV m'.vals v = gV m.vals v := by rw [h.vals, gV_app hv]
theorem prod_law {m : Mk} (h : Good m) {a b : List Tm} (ha : blw m.vals.length a) (hb : blw m.vals.length b) (la : a.length < 1000000) (lb : b.length < 1000000) :
    Law m (prodM m a b) [lin m.vals a * lin m.vals b % 288230376287764481] := by
  have hx : valF m.vals 0 a * valF m.vals 0 b % 288230376287764481 % 288230376287764481 = lin m.vals a * lin m.vals b % 288230376287764481 := by
    rw [Int.emod_emod, val_lin, val_lin, ← Int.mul_emod]
  have hl := fresh_len m (valF m.vals 0 a * valF m.vals 0 b % 288230376287764481)
  have hv : (freshM m (valF m.vals 0 a * valF m.vals 0 b % 288230376287764481)).vals = m.vals ++ [lin m.vals a * lin m.vals b % 288230376287764481] := by rw [fresh_vals, hx]
  refine ⟨(h.fresh _).row (blw_mono (by omega) ha) (blw_mono (by omega) hb) (blw_1 (by omega)) la lb (by simp), hv, ?_⟩
  unfold prodM
  rw [AllH.row, AllH.fresh h, hv, lin_app _ ha, lin_app _ hb, lin_1, gV_last, Int.emod_emod]
  simp
theorem ownT_blw {V : List Int} (h : 0 < V.length) (L : List Tm) : blw V.length (ownT V L) := fun t ht => by
  obtain ⟨s, _, rfl⟩ := List.mem_map.1 ht
  exact (isM_in h s.v).2
theorem lin_law {m : Mk} (h : Good m) {L : List Tm} (hL : L.length < 1000000) : Law m (linM m L) [lin m.vals (ownT m.vals L) % 288230376287764481] := by
  have hx : valF m.vals 0 (ownT m.vals L) % 288230376287764481 = lin m.vals (ownT m.vals L) % 288230376287764481 := by
    rw [val_lin, Int.emod_emod]
  have hl := fresh_len m (valF m.vals 0 (ownT m.vals L))
  have hv : (freshM m (valF m.vals 0 (ownT m.vals L))).vals = m.vals ++ [lin m.vals (ownT m.vals L) % 288230376287764481] := by rw [fresh_vals, hx]
  have hb := ownT_blw h.ne L
  have h0 := h.ne
  refine ⟨(h.fresh _).row (blw_mono (by omega) hb) (blw_1 (by omega)) (blw_1 (by omega)) (by simp only [ownT, List.length_map]; exact hL) (by simp) (by simp), hv, ?_⟩
  unfold linM
  rw [AllH.row, AllH.fresh h, hv, lin_app _ hb, lin_1, lin_1, gV_last, gV_app (by omega), h.g0, Int.emod_emod, Int.mul_one]
  simp
theorem ownT_id {V : List Int} {L : List Tm} (h : ∀ t ∈ L, 0 ≤ t.v ∧ t.v < V.length) : ownT V L = L := by
  unfold ownT
  conv => rhs; rw [← List.map_id L]
  refine List.map_congr_left fun t ht => ?_
  have := h t ht
  unfold isM
  rw [if_neg (by omega)]; rfl
theorem valM_lt {m : Mk} (h : Good m) (a : Int) : 0 ≤ valM m.vals a ∧ valM m.vals a < 288230376287764481 := by rw [valM_g h.ne]; exact h.glt _
theorem same_law {m : Mk} (h : Good m) (a b : Int) : Good (sameM m a b) ∧ (AllH (sameM m a b) ↔ AllH m ∧ valM m.vals a = valM m.vals b) := by
  have i1 := isM_in h.ne a
  have i2 := isM_in h.ne b
  have v1 := valM_lt h a
  have v2 := valM_lt h b
  have h0 := h.ne
  refine ⟨h.row (blw_2 i1.2 i2.2) (blw_1 (by omega)) blw_nil (by simp) (by simp) (by simp), ?_⟩
  unfold sameM
  rw [AllH.row, lin_2, lin_1, h.g0, ← valM_g h0, ← valM_g h0]
  simp only [lin]
  constructor
  · rintro ⟨k1, k2⟩; exact ⟨k1, by omega⟩
  · rintro ⟨k1, k2⟩; exact ⟨k1, by omega⟩
theorem cho_law {m : Mk} (h : Good m) (c a b : Int) : ∃ x, Law m (choM m c a b) [x] := by
  have i0 := isM_in h.ne c
  have i1 := isM_in h.ne a
  have i2 := isM_in h.ne b
  have v2 := valM_lt h b
  have h0 := h.ne
  have hx : (valM m.vals b + valM m.vals c * valF m.vals 0 (sumT (two1 (isMk m a) (isMk m b) 288230376287764480)) % 288230376287764481) % 288230376287764481 % 288230376287764481 = (valM m.vals b + valM m.vals c * (valM m.vals a + 288230376287764480 * valM m.vals b)) % 288230376287764481 := by
    rw [val_sum, val_lin, lin_2, ← valM_g h0, ← valM_g h0, Int.emod_emod]
    rw [Int.mul_emod (valM m.vals c) ((valM m.vals a + 288230376287764480 * valM m.vals b) % 288230376287764481), Int.emod_emod, ← Int.mul_emod]
    generalize valM m.vals c * (valM m.vals a + 288230376287764480 * valM m.vals b) = z
    omega
  refine ⟨_, ⟨?_, by show (freshM m _).vals = _; rw [fresh_vals, hx], ?_⟩⟩
  · have hl := fresh_len m ((valM m.vals b + valM m.vals c * valF m.vals 0 (sumT (two1 (isMk m a) (isMk m b) 288230376287764480)) % 288230376287764481) % 288230376287764481)
    exact (h.fresh _).row (blw_1 (by show isM m.vals c < _; omega)) (blw_2 (by show isM m.vals a < _; omega) (by show isM m.vals b < _; omega)) (blw_2 (by omega) (by show isM m.vals b < _; omega)) (by simp) (by simp) (by simp)
  · unfold choM
    rw [AllH.row, AllH.fresh h, fresh_vals, hx, lin_1, lin_2, lin_2, gV_last, gV_app i0.2, gV_app i1.2, gV_app i2.2, ← valM_g h0, ← valM_g h0, ← valM_g h0]
    simp only [and_iff_left_iff_imp]
    intro _
    generalize valM m.vals c * (valM m.vals a + 288230376287764480 * valM m.vals b) = z
    omega
theorem ipow7 (j : Nat) (hj : j < 3) : ipow 288230376287764481 7 (j + 1) = 7 ^ (j + 1) % 288230376287764481 := by
  rw [ipow_eq (by decide) (by decide) (by constructor <;> omega)]
  rw [show ((j : Int) + 1).toNat = j + 1 by omega]
theorem cube_mod (L S : Int) (h : S = L % 288230376287764481) : L * L % 288230376287764481 * L % 288230376287764481 = rMul S (rMul S S) := by
  subst h
  unfold rMul
  simp only [Int.mul_emod, Int.emod_emod, Int.mul_comm]
theorem twoS_law (a : Int) : ∀ (n j : Nat) (m : Mk) (x c : Int), Good m → j + n = 3 → c = 7 ^ j % 288230376287764481 → 0 ≤ a → a < m.vals.length → 0 ≤ x → x < m.vals.length →
    ∃ X, Law m (twoS a n j m x).1 X ∧ 0 ≤ (twoS a n j m x).2 ∧ (twoS a n j m x).2 < (twoS a n j m x).1.vals.length ∧ gV (twoS a n j m x).1.vals (twoS a n j m x).2 = trn (gV m.vals a) n c (gV m.vals x)
  | 0, j, m, x, c, h, _, _, a0, a1, x0, x1 => ⟨[], Law.refl h, x0, x1, rfl⟩
  | n + 1, j, m, x, c, h, hj, hc, a0, a1, x0, x1 => by
    have h0 := h.ne
    have hp := ipow7 j (by omega)
    have hc' : rMul c 7 = 7 ^ (j + 1) % 288230376287764481 := by
      unfold rMul; rw [hc, Int.pow_succ, Int.mul_emod (7 ^ j % 288230376287764481), Int.emod_emod, ← Int.mul_emod]
    have b0 : blw m.vals.length (twoL a x j) := blw_3 x1 a1 (by omega)
    have l1 := prod_law h b0 b0 (by simp) (by simp)
    have n1 := l1.len
    have b1 : blw (prodM m (twoL a x j) (twoL a x j)).vals.length (twoL a x j) := blw_mono (by omega) b0
    have l2 := prod_law l1.good (a := one1 m.vals.length) (b := twoL a x j) (blw_1 (by simp at n1; omega)) b1 (by simp) (by simp)
    have n2 := l2.len
    simp only [List.length_singleton] at n1 n2
    have ll : lin (prodM m (twoL a x j) (twoL a x j)).vals (twoL a x j) = lin m.vals (twoL a x j) := by rw [l1.vals, lin_app _ b0]
    have lg : gV (prodM m (twoL a x j) (twoL a x j)).vals m.vals.length = lin m.vals (twoL a x j) * lin m.vals (twoL a x j) % 288230376287764481 := by rw [l1.vals, gV_last]
    rw [lin_1, lg, ll] at l2
    obtain ⟨X, l3, y0, y1, hy⟩ := twoS_law a n (j + 1) _ ((prodM m (twoL a x j) (twoL a x j)).vals.length : Int) (rMul c 7) l2.good (by omega) hc' a0 (by omega) (by omega) (by omega)
    refine ⟨_, (l1.trans l2).trans l3, y0, y1, ?_⟩
    show gV (twoS a n (j + 1) _ _).1.vals (twoS a n (j + 1) _ _).2 = _
    rw [hy, trn]
    have e1 : gV (prodM (prodM m (twoL a x j) (twoL a x j)) (one1 m.vals.length) (twoL a x j)).vals a = gV m.vals a := (l1.trans l2).g a1
    have e2 : gV (prodM (prodM m (twoL a x j) (twoL a x j)) (one1 m.vals.length) (twoL a x j)).vals (prodM m (twoL a x j) (twoL a x j)).vals.length = lin m.vals (twoL a x j) * lin m.vals (twoL a x j) % 288230376287764481 * lin m.vals (twoL a x j) % 288230376287764481 := by rw [l2.vals, gV_last]
    rw [e1, e2, cube_mod _ (rAdd (gV m.vals x) (rAdd (gV m.vals a) (rMul c 7)))]
    rw [lin_3, h.g0, hp, hc']
    unfold rAdd
    generalize (7:Int) ^ (j + 1) % 288230376287764481 = z
    omega
theorem two_law {m : Mk} (h : Good m) (a b : Int) : ∃ X, Law m (twoM m a b) X ∧ 0 ≤ twoR m a b ∧ twoR m a b < (twoM m a b).vals.length ∧ gV (twoM m a b).vals (twoR m a b) = twoH (valM m.vals a) (valM m.vals b) := by
  have h0 := h.ne
  have i1 := isM_in h0 a
  have i2 := isM_in h0 b
  obtain ⟨X, l1, x0, x1, hx⟩ : ∃ X, Law m (twoE m a b).1 X ∧ 0 ≤ (twoE m a b).2 ∧ (twoE m a b).2 < (twoE m a b).1.vals.length ∧ gV (twoE m a b).1.vals (twoE m a b).2 = trn (gV m.vals (isM m.vals a)) 3 1 (gV m.vals (isM m.vals b)) := twoS_law (isM m.vals a) 3 0 m (isM m.vals b) 1 h rfl (by decide) i1.1 i1.2 i2.1 i2.2
  have n1 := l1.len
  have l2 := lin_law l1.good (L := three1 (twoE m a b).2 (isM m.vals a) 2 (isM m.vals b) 1) (by simp)
  rw [ownT_id (V := (twoE m a b).1.vals) (by
    intro t ht
    simp only [List.mem_cons, List.not_mem_nil, or_false] at ht
    rcases ht with rfl | rfl | rfl
    · exact ⟨x0, x1⟩
    · exact ⟨i1.1, by rw [n1]; have := i1.2; show isM m.vals a < _; omega⟩
    · exact ⟨i2.1, by rw [n1]; have := i2.2; show isM m.vals b < _; omega⟩)] at l2
  have n2 := l2.len
  simp only [List.length_singleton] at n2
  refine ⟨_, l1.trans l2, by unfold twoR; omega, by unfold twoR twoM; rw [n2]; omega, ?_⟩
  unfold twoM twoR
  rw [l2.vals, gV_last, lin_3, hx, l1.g i1.2, l1.g i2.2, ← valM_g h0, ← valM_g h0]
  unfold twoH turnH rAdd
  generalize trn _ 3 1 _ = z
  omega
theorem man_law : ∀ (V : List Int) (m : Mk) (x : Int), Good m → 0 ≤ x → x < m.vals.length → ∃ X, Law m (manS V m x).1 X ∧ 0 ≤ (manS V m x).2 ∧ (manS V m x).2 < (manS V m x).1.vals.length
  | [], m, x, h, x0, x1 => ⟨[], Law.refl h, x0, x1⟩
  | v :: V, m, x, h, x0, x1 => by
    obtain ⟨X, l1, y0, y1, hy⟩ := two_law h x v
    obtain ⟨Y, l2, z0, z1⟩ := man_law V _ _ l1.good y0 y1
    exact ⟨_, l1.trans l2, z0, z1⟩
theorem many_law {m : Mk} (h : Good m) (V : List Int) : ∃ X, Law m (manE m V).1 X ∧ 0 ≤ (manE m V).2 ∧ (manE m V).2 < (manE m V).1.vals.length := by
  have l1 := lin_law h (L := [⟨0, V.length⟩]) (by simp)
  have n1 := l1.len
  simp only [List.length_singleton] at n1
  obtain ⟨X, l2, x0, x1⟩ := man_law V _ m.vals.length l1.good (by omega) (by omega)
  exact ⟨_, l1.trans l2, x0, x1⟩
end Go.Proofs.Ytiikiamdbelbjaa.E.M

