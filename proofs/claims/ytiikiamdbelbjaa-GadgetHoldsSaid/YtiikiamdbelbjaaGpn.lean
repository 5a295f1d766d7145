/- What the rows of any deed say, and how a system looks: the plain law. -/
import Derived.Test.YtiikiamdbelbjaaGpm
import Derived.Test.YtiikiamdbelbjaaProg
import Derived.KernelRfl
set_option linter.unusedVariables false
set_option linter.unusedSimpArgs false
set_option maxRecDepth 10000
open Go Go.Proofs.Ytiikiamdbelbjaa.E Go.Proofs
namespace Go.Proofs.Ytiikiamdbelbjaa.E.M
theorem lin_append (V : List Int) : ∀ a b : List Tm, lin V (a ++ b) = lin V a + lin V b
  | [], b => by simp [lin]
  | t :: a, b => by simp only [List.cons_append, lin, lin_append V a b]; omega
theorem bit_next (v : Int) (j : Nat) : v % 2 ^ (j + 1) = v % 2 ^ j + 2 ^ j * (v / 2 ^ j % 2) := by
  have hP : (0:Int) < 2 ^ j := Int.pow_pos (by decide)
  have e1 := Int.mul_ediv_add_emod v (2 ^ j)
  have e2 := Int.mul_ediv_add_emod (v / 2 ^ j) 2
  have r0 := Int.emod_nonneg v (show (2:Int) ^ j ≠ 0 by omega)
  have r1 := Int.emod_lt_of_pos v hP
  rw [Int.pow_succ]
  rcases Int.emod_two_eq (v / 2 ^ j) with hb | hb
  · rw [hb] at e2 ⊢
    refine (div_of (Q := v / 2 ^ j / 2) (by omega) ?_ (by omega) (by omega)).2
    rw [Int.mul_zero, Int.add_zero, Int.mul_comm (v / 2 ^ j / 2), Int.mul_assoc]
    rw [Int.add_zero] at e2
    rw [e2, e1]
  · rw [hb] at e2 ⊢
    refine (div_of (Q := v / 2 ^ j / 2) (by omega) ?_ (by omega) (by omega)).2
    have e3 : v / 2 ^ j / 2 * (2 ^ j * 2) = 2 ^ j * (2 * (v / 2 ^ j / 2)) := by
      rw [Int.mul_comm (v / 2 ^ j / 2), Int.mul_assoc]
    have e4 : 2 * (v / 2 ^ j / 2) = v / 2 ^ j - 1 := by omega
    rw [e3, e4, Int.mul_sub, Int.mul_one]
    omega
theorem isM_of {V : List Int} {a : Int} (h0 : 0 ≤ a) (h1 : a < V.length) : isM V a = a := by unfold isM; rw [if_neg (by omega)]
theorem bit_law1 {m : Mk} (h : Good m) {x : Int} (hx : x = 0 ∨ x = 1) : Law m (rowM (freshM m x) (one1 m.vals.length) (two1 m.vals.length 0 288230376287764480) []) [x] := by
  have h0 := h.ne
  have hl := fresh_len m x
  have e : x % 288230376287764481 = x := by omega
  have hv : (freshM m x).vals = m.vals ++ [x] := by rw [fresh_vals, e]
  refine ⟨(h.fresh x).row (blw_1 (by omega)) (blw_2 (by omega) (by omega)) blw_nil (by simp) (by simp) (by simp), hv, ?_⟩
  rw [AllH.row, AllH.fresh h, hv, lin_1, lin_2, gV_last, gV_app (by omega), h.g0]
  simp only [lin, and_iff_left_iff_imp]
  intro _
  rcases hx with rfl | rfl <;> decide
theorem bitS_law (a : Int) : ∀ (n j : Nat) (m : Mk) (o : List Int) (s : List Tm), Good m → 0 ≤ a → a < m.vals.length → lin m.vals s = gV m.vals a % 2 ^ j → blw m.vals.length s → s.length = j → j + n ≤ 58 →
    ∃ X, Law m (bitS a n j m o s).1 X ∧ lin (bitS a n j m o s).1.vals (bitS a n j m o s).2.2 = gV m.vals a % 2 ^ (j + n) ∧ blw (bitS a n j m o s).1.vals.length (bitS a n j m o s).2.2 ∧ (bitS a n j m o s).2.2.length = j + n
  | 0, j, m, o, s, h, _, _, hl, hb, hs, _ => ⟨[], Law.refl h, by simpa [bitS] using hl, hb, by simpa [bitS] using hs⟩
  | n + 1, j, m, o, s, h, a0, a1, hl, hb, hs, hj => by
    have hx : bitV m.vals a j = 0 ∨ bitV m.vals a j = 1 := by unfold bitV; exact Int.emod_two_eq _
    have l1 := bit_law1 h hx
    have n1 := l1.len
    simp only [List.length_singleton] at n1
    have hv : bitV m.vals a j = gV m.vals a / 2 ^ j % 2 := by unfold bitV; rw [valM_g h.ne, isM_of a0 a1]
    have hg := l1.g a1
    obtain ⟨X, l2, g1, g2, g3⟩ := bitS_law a n (j + 1) _ (o ++ [(m.vals.length : Int)]) (s ++ [⟨m.vals.length, 2 ^ j⟩]) l1.good a0 (by omega) (by
      rw [hg, lin_append, l1.vals, lin_app _ hb, hl, bit_next, hv]
      simp only [lin, gV_last, Int.add_zero]) (by
      intro t ht
      rcases List.mem_append.1 ht with ht | ht
      · have := hb t ht; omega
      · simp only [List.mem_singleton] at ht; subst ht; show (m.vals.length : Int) < _; omega) (by rw [List.length_append, hs]; rfl) (by omega)
    rw [hg] at g1
    refine ⟨_, l1.trans l2, ?_, g2, ?_⟩
    · rw [show j + (n + 1) = j + 1 + n by omega]; exact g1
    · rw [show j + (n + 1) = j + 1 + n by omega]; exact g3
theorem div_zero {v : Int} (h0 : 0 ≤ v) (n : Nat) : v % 2 ^ n = v ↔ v / 2 ^ n = 0 := by
  have hP : (0:Int) < 2 ^ n := Int.pow_pos (by decide)
  have e1 := Int.mul_ediv_add_emod v (2 ^ n)
  constructor
  · intro h
    have : 2 ^ n * (v / 2 ^ n) = 0 := by omega
    rcases Int.mul_eq_zero.1 this with h | h
    · omega
    · exact h
  · intro h; rw [h] at e1; omega
theorem bit_law {m : Mk} (h : Good m) (a n : Int) : Good (bitM m a n) ∧ (AllH (bitM m a n) ↔ AllH m ∧ valM m.vals a / 2 ^ bitN n = 0) := by
  have i1 := isM_in h.ne a
  have h0 := h.ne
  have hN := bitN_le n
  obtain ⟨X, l1, g1, g2, g3⟩ : ∃ X, Law m (bitE m a n).1 X ∧ lin (bitE m a n).1.vals (bitE m a n).2.2 = gV m.vals (isM m.vals a) % 2 ^ (0 + bitN n) ∧ blw (bitE m a n).1.vals.length (bitE m a n).2.2 ∧ (bitE m a n).2.2.length = 0 + bitN n :=
    bitS_law (isM m.vals a) (bitN n) 0 m [] [] h i1.1 i1.2 (by simp only [lin, Int.pow_zero, Int.emod_one]) blw_nil rfl (by omega)
  rw [Nat.zero_add] at g1 g3
  have n1 := l1.len
  refine ⟨l1.good.row g2 (blw_1 (by omega)) (blw_1 (by rw [n1]; have := i1.2; show isM m.vals a < _; omega)) (by omega) (by simp) (by simp), ?_⟩
  unfold bitM
  rw [AllH.row, l1.all, g1, lin_1, lin_1, l1.good.g0, l1.g i1.2, ← valM_g h0, Int.mul_one]
  have hv := valM_lt h a
  rw [← div_zero hv.1]
  have hP : (0:Int) < 2 ^ bitN n := Int.pow_pos (by decide)
  have r0 := Int.emod_nonneg (valM m.vals a) (show (2:Int) ^ bitN n ≠ 0 by omega)
  have r1 : valM m.vals a % 2 ^ bitN n ≤ valM m.vals a := by
    have e1 := Int.mul_ediv_add_emod (valM m.vals a) (2 ^ bitN n)
    have e2 := Int.mul_nonneg (Int.le_of_lt hP) (Int.ediv_nonneg hv.1 (Int.le_of_lt hP))
    omega
  rw [Int.emod_eq_of_lt r0 (by omega), Int.emod_eq_of_lt hv.1 hv.2]
theorem pub_law {m : Mk} (h : Good m) (x : Int) : Good (pubM m x) ∧ (AllH (pubM m x) ↔ AllH m) := by
  unfold pubM
  split
  · exact ⟨h, Iff.rfl⟩
  · have hf := h.fresh x
    have p0 := h.p0
    have p1 := h.p1
    have hl := fresh_len m x
    exact ⟨⟨hf.v, by show 0 ≤ m.p + 1; omega, by show m.p + 1 < ((freshM m x).vals.length : Int); omega, hf.one, hf.lt, hf.rows⟩, AllH.fresh h x⟩
/-- what a deed asks for -/
def wantD (m : Mk) (d : Dd) : Prop := (pkF d.what = 6 → valM m.vals d.a = valM m.vals d.b) ∧ (pkF d.what = 4 → valM m.vals d.a / 2 ^ bitN d.n = 0)
theorem call_law {m : Mk} (h : Good m) {d : Dd} (hL : d.L.length < 1000000) : Good (callMk m d) ∧ (AllH (callMk m d) ↔ AllH m ∧ wantD m d) := by
  have i1 := isM_in h.ne d.a
  have i2 := isM_in h.ne d.b
  unfold callMk wantD
  generalize pkF d.what = w
  have tr : ∀ {m' : Mk} {P : Prop}, (w = 6 → False) → (w = 4 → False) → Good m' ∧ (AllH m' ↔ AllH m) → Good m' ∧ (AllH m' ↔ AllH m ∧ (w = 6 → valM m.vals d.a = valM m.vals d.b) ∧ (w = 4 → valM m.vals d.a / 2 ^ bitN d.n = 0)) := by
    intro m' P h6 h4 hh
    exact ⟨hh.1, hh.2.trans ⟨fun k => ⟨k, fun e => (h6 e).elim, fun e => (h4 e).elim⟩, fun k => k.1⟩⟩
  have L2 : ∀ {m' : Mk} {X : List Int}, Law m m' X → Good m' ∧ (AllH m' ↔ AllH m) := fun l => ⟨l.good, l.all⟩
  split
  · rename_i e; exact tr (P := True) (by intro c; subst c; cases e) (by intro c; subst c; cases e) (pub_law h d.k)
  split
  · rename_i e; exact tr (P := True) (by intro c; subst c; cases e) (by intro c; subst c; cases e) ⟨h.fresh _, AllH.fresh h _⟩
  split
  · rename_i e; exact tr (P := True) (by intro c; subst c; cases e) (by intro c; subst c; cases e) (L2 (lin_law h hL))
  split
  · rename_i e; exact tr (P := True) (by intro c; subst c; cases e) (by intro c; subst c; cases e) (L2 (prod_law h (blw_1 i1.2) (blw_1 i2.2) (by simp) (by simp)))
  split
  · rename_i e
    have hb := bit_law h d.a d.n
    refine ⟨hb.1, hb.2.trans ?_⟩
    have e4 : w = 4 := by simpa using e
    subst e4
    exact ⟨fun k => ⟨k.1, (fun c => by cases c), fun _ => k.2⟩, fun k => ⟨k.1, k.2.2 rfl⟩⟩
  split
  · rename_i e
    obtain ⟨x, l⟩ := cho_law h d.n d.a d.b
    exact tr (P := True) (by intro c; subst c; cases e) (by intro c; subst c; cases e) (L2 l)
  split
  · rename_i e
    have hb := same_law h d.a d.b
    refine ⟨hb.1, hb.2.trans ?_⟩
    have e4 : w = 6 := by simpa using e
    subst e4
    exact ⟨fun k => ⟨k.1, fun _ => k.2, (fun c => by cases c)⟩, fun k => ⟨k.1, k.2.1 rfl⟩⟩
  split
  · rename_i e
    obtain ⟨X, l, _⟩ := two_law h d.a d.b
    exact tr (P := True) (by intro c; subst c; cases e) (by intro c; subst c; cases e) (L2 l)
  · rename_i e4 _ e6 _
    obtain ⟨X, l, _⟩ := many_law h d.V
    exact tr (P := True) (by intro c; subst c; exact e6 rfl) (by intro c; subst c; exact e4 rfl) (L2 l)
theorem Mok.pub {k : Nat} {m : Mk} (h : Mok (k + 1) m) (x : Int) : Mok k (pubM m x) := by
  unfold pubM
  split
  · exact Mok.mono h (by omega)
  · exact Mok.fresh (m := ⟨m.v, m.p + 1, m.rows, m.vals⟩) h x
theorem call_ok {k : Nat} {m : Mk} (h : Mok (117 + k) m) {d : Dd} (hV : d.V.length ≤ 5) : Mok k (callMk m d) := by
  unfold callMk
  split
  · exact Mok.pub (Mok.mono h (by omega)) _
  split
  · exact Mok.fresh (Mok.mono h (by omega)) _
  split
  · exact Mok.lin (Mok.mono h (by omega)) _
  split
  · exact Mok.prod (Mok.mono h (by omega)) _ _
  split
  · exact bitM_ok h _ _
  split
  · exact Mok.cho (Mok.mono h (by omega)) _ _ _
  split
  · exact Mok.row (Mok.mono h (by omega)) _ _ _
  split
  · exact twoM_ok (Mok.mono h (by omega)) _ _
  · exact manE_ok (Mok.mono h (by omega))
/-! ### the shape -/
structure Shp (m m' : Mk) : Prop where
  v : m.v = m'.v
  p : m.p = m'.p
  rows : m.rows = m'.rows
  len : m.vals.length = m'.vals.length
theorem Shp.is {m m' : Mk} (h : Shp m m') (a : Int) : isM m.vals a = isM m'.vals a := by unfold isM; rw [h.len]
theorem Shp.fresh {m m' : Mk} (h : Shp m m') (x x' : Int) : Shp (freshM m x) (freshM m' x') := ⟨by simp [freshM, h.len], h.p, h.rows, by simp [freshM, h.len]⟩
theorem Shp.row {m m' : Mk} (h : Shp m m') (a b c : List Tm) : Shp (rowM m a b c) (rowM m' a b c) := ⟨h.v, h.p, by simp [rowM, h.rows], h.len⟩
theorem Shp.prod {m m' : Mk} (h : Shp m m') (a b : List Tm) : Shp (prodM m a b) (prodM m' a b) := by
  unfold prodM; rw [h.len]; exact (h.fresh _ _).row _ _ _
theorem Shp.own {m m' : Mk} (h : Shp m m') (L : List Tm) : ownT m.vals L = ownT m'.vals L := by
  unfold ownT; exact List.map_congr_left fun t _ => by rw [h.is]
theorem Shp.lin {m m' : Mk} (h : Shp m m') (L : List Tm) : Shp (linM m L) (linM m' L) := by
  unfold linM; rw [h.len, h.own]; exact (h.fresh _ _).row _ _ _
theorem Shp.pub {m m' : Mk} (h : Shp m m') (x x' : Int) : Shp (pubM m x) (pubM m' x') := by
  unfold pubM; rw [h.v, h.p]
  split
  · exact h
  · exact Shp.fresh (m := ⟨m'.v, m'.p + 1, m.rows, m.vals⟩) (m' := ⟨m'.v, m'.p + 1, m'.rows, m'.vals⟩) ⟨rfl, rfl, h.rows, h.len⟩ x x'
theorem Shp.bitS (a : Int) : ∀ (n j : Nat) {m m' : Mk} (o : List Int) (s : List Tm), Shp m m' → Shp (bitS a n j m o s).1 (bitS a n j m' o s).1 ∧ (bitS a n j m o s).2 = (bitS a n j m' o s).2
  | 0, _, _, _, _, _, h => ⟨h, rfl⟩
  | n + 1, j, m, m', o, s, h => by
    simp only [M.bitS]
    rw [h.len]
    exact Shp.bitS a n (j + 1) _ _ ((h.fresh _ _).row _ _ _)
theorem Shp.bit {m m' : Mk} (h : Shp m m') (a n : Int) : Shp (bitM m a n) (bitM m' a n) := by
  have hb := Shp.bitS (isM m'.vals a) (bitN n) 0 [] [] h
  unfold bitM bitE
  rw [h.is, hb.2]
  exact hb.1.row _ _ _
theorem Shp.cho {m m' : Mk} (h : Shp m m') (c a b : Int) : Shp (choM m c a b) (choM m' c a b) := by
  unfold choM isMk; rw [h.is, h.is, h.is, h.len]; exact (h.fresh _ _).row _ _ _
theorem Shp.twoS (a : Int) : ∀ (n j : Nat) {m m' : Mk} (x : Int), Shp m m' → Shp (twoS a n j m x).1 (twoS a n j m' x).1 ∧ (twoS a n j m x).2 = (twoS a n j m' x).2
  | 0, _, _, _, _, h => ⟨h, rfl⟩
  | n + 1, j, m, m', x, h => by
    simp only [M.twoS]
    have h1 := h.prod (twoL a x j) (twoL a x j)
    rw [h1.len, h.len]
    exact Shp.twoS a n (j + 1) _ (h1.prod _ _)
theorem Shp.two {m m' : Mk} (h : Shp m m') (a b : Int) : Shp (twoM m a b) (twoM m' a b) ∧ twoR m a b = twoR m' a b := by
  have hb := Shp.twoS (isM m'.vals a) 3 0 (isM m'.vals b) h
  unfold twoM twoR twoE
  rw [h.is, h.is, hb.2, hb.1.len]
  exact ⟨hb.1.lin _, rfl⟩
theorem Shp.manS : ∀ (V : List Int) {m m' : Mk} (x : Int), Shp m m' → Shp (manS V m x).1 (manS V m' x).1 ∧ (manS V m x).2 = (manS V m' x).2
  | [], _, _, _, h => ⟨h, rfl⟩
  | v :: V, m, m', x, h => by
    simp only [M.manS]
    have h1 := h.two x v
    rw [h1.2]
    exact Shp.manS V _ h1.1
theorem Shp.call {m m' : Mk} (h : Shp m m') {d d' : Dd} (e1 : d.what = d'.what) (e2 : d.a = d'.a) (e3 : d.b = d'.b) (e4 : d.n = d'.n) (e5 : d.L = d'.L) (e6 : d.V = d'.V) : Shp (callMk m d) (callMk m' d') := by
  unfold callMk
  rw [e1, e2, e3, e4, e5, e6]
  split
  · exact h.pub _ _
  split
  · exact h.fresh _ _
  split
  · exact h.lin _
  split
  · unfold mulM isMk; rw [h.is, h.is]; exact h.prod _ _
  split
  · exact h.bit _ _
  split
  · exact h.cho _ _ _
  split
  · unfold sameM isMk; rw [h.is, h.is]; exact h.row _ _ _
  split
  · exact (h.two _ _).1
  · unfold manE; rw [h.len]; exact (Shp.manS _ _ (h.lin _)).1
end Go.Proofs.Ytiikiamdbelbjaa.E.M

