/- The only values by which a hash's rows hold: the plain law. -/
import Derived.Test.YtiikiamdbelbjaaGpo
import Derived.Test.YtiikiamdbelbjaaProg
import Derived.KernelRfl
set_option linter.unusedVariables false
set_option linter.unusedSimpArgs false
set_option maxRecDepth 10000
open Go Go.Proofs.Ytiikiamdbelbjaa.E Go.Proofs
namespace Go.Proofs.Ytiikiamdbelbjaa.E.M
/-- each row tells a variable of its own by those ahead of it -/
structure Tell (n0 : Nat) (m : Mk) : Prop where
  rows : ∀ (j : Nat) (r : Rw), m.rows[j]? = some r → ∃ a b, r = ⟨sumT a, sumT b, sumT (one1 ((n0 + j : Nat) : Int))⟩ ∧ blw (n0 + j) a ∧ blw (n0 + j) b
  len : n0 + m.rows.length = m.vals.length
theorem Tell.add {n0 : Nat} {m : Mk} (h : Tell n0 m) (x : Int) {a b : List Tm} (ha : blw m.vals.length a) (hb : blw m.vals.length b) : Tell n0 (rowM (freshM m x) a b (one1 m.vals.length)) := by
  have hl := h.len
  refine ⟨fun j r hr => ?_, by simp only [rowM, freshM, List.length_append, List.length_singleton]; omega⟩
  have hr : (m.rows ++ [⟨sumT a, sumT b, sumT (one1 m.vals.length)⟩])[j]? = some r := hr
  rcases Nat.lt_or_ge j m.rows.length with c | c
  · rw [List.getElem?_append_left c] at hr
    exact h.rows j r hr
  · rw [List.getElem?_append_right c] at hr
    obtain ⟨hj, e⟩ := List.getElem?_eq_some_iff.1 hr
    have hj : j - m.rows.length < 1 := hj
    have hj0 : j = m.rows.length := by omega
    subst hj0
    simp only [Nat.sub_self, List.getElem_cons_zero] at e
    exact ⟨a, b, by rw [← e, hl], by rw [hl]; exact ha, by rw [hl]; exact hb⟩
theorem Tell.prod {n0 : Nat} {m : Mk} (h : Tell n0 m) {a b : List Tm} (ha : blw m.vals.length a) (hb : blw m.vals.length b) : Tell n0 (prodM m a b) := h.add _ ha hb
theorem Tell.lin {n0 : Nat} {m : Mk} (h : Tell n0 m) (g : Good m) (L : List Tm) : Tell n0 (linM m L) := h.add _ (ownT_blw g.ne L) (blw_1 (by have := g.ne; omega))
theorem Tell.twoS {n0 : Nat} (a : Int) : ∀ (n j : Nat) (m : Mk) (x : Int), Good m → Tell n0 m → a < m.vals.length → x < m.vals.length → Good (twoS a n j m x).1 ∧ Tell n0 (twoS a n j m x).1
  | 0, _, _, _, g, h, _, _ => ⟨g, h⟩
  | n + 1, j, m, x, g, h, a1, x1 => by
    have h0 := g.ne
    have b0 : blw m.vals.length (twoL a x j) := blw_3 x1 a1 (by omega)
    have l1 := prod_law g b0 b0 (by simp) (by simp)
    have n1 := l1.len
    simp only [List.length_singleton] at n1
    have b1 : blw (prodM m (twoL a x j) (twoL a x j)).vals.length (twoL a x j) := blw_mono (by omega) b0
    have b2 : blw (prodM m (twoL a x j) (twoL a x j)).vals.length (one1 m.vals.length) := blw_1 (by omega)
    have l2 := prod_law l1.good b2 b1 (by simp) (by simp)
    have n2 := l2.len
    simp only [List.length_singleton] at n2
    exact Tell.twoS a n (j + 1) _ _ l2.good ((h.prod b0 b0).prod b2 b1) (by omega) (by omega)
theorem Tell.two {n0 : Nat} {m : Mk} (h : Tell n0 m) (g : Good m) (a b : Int) : Tell n0 (twoM m a b) := by
  have t := Tell.twoS (isM m.vals a) 3 0 m (isM m.vals b) g h (isM_in g.ne a).2 (isM_in g.ne b).2
  exact t.2.lin t.1 _
theorem gV_set {V : List Int} {n : Nat} {y v : Int} (h : v < n) : gV (V.set n y) v = gV V v := by
  unfold gV
  rw [List.length_set]
  split
  · rw [List.getElem?_set_ne (by omega)]
  · rfl
theorem gV_set_at {V : List Int} {n : Nat} (h : n < V.length) (y : Int) : gV (V.set n y) n = y := by
  unfold gV
  rw [List.length_set, if_pos ⟨by omega, by omega⟩]
  simp [h]
theorem lin_set {V : List Int} {n : Nat} (y : Int) : ∀ {L : List Tm}, blw n L → lin (V.set n y) L = lin V L
  | [], _ => rfl
  | t :: l, h => by simp only [M.lin]; rw [gV_set (h t (by simp)), lin_set y fun s hs => h s (List.mem_cons_of_mem _ hs)]
theorem only_law {n0 : Nat} {m : Mk} (g : Good m) (ha : AllH m) (h : Tell n0 m) {n : Nat} (h0 : n0 ≤ n) (h1 : n < m.vals.length) {y : Int} (y0 : 0 ≤ y) (y1 : y < 288230376287764481) (hy : y ≠ m.vals[n]) : ¬ ∀ r ∈ m.rows, rowH (m.vals.set n y) r := by
  intro hall
  have hl := h.len
  have hj : n - n0 < m.rows.length := by omega
  have hr := List.getElem?_eq_getElem hj
  obtain ⟨a, b, e, ba, bb⟩ := h.rows _ _ hr
  have hm := List.getElem_mem hj
  have k1 := ha _ hm
  have k2 := hall _ hm
  rw [show n0 + (n - n0) = n by omega] at e ba bb
  rw [e, rowH_sum, lin_1] at k1 k2
  rw [lin_set y ba, lin_set y bb, gV_set_at h1] at k2
  rw [gV_at h1] at k1
  have := g.lt _ (List.getElem_mem h1)
  rw [k1] at k2
  omega
abbrev o1M (a : Int) : Mk := pubM mk0 a
abbrev o2M (a b : Int) : Mk := pubM (o1M a) b
abbrev o3M (a b : Int) : Mk := twoM (o2M a b) 1 2
theorem o1_eq (a : Int) : o1M a = ⟨2, 1, [], [1, a % 288230376287764481]⟩ := by unfold o1M pubM; rw [if_neg (by decide)]; rfl
theorem o2_eq (a b : Int) : o2M a b = ⟨3, 2, [], [1, a % 288230376287764481, b % 288230376287764481]⟩ := by unfold o2M; rw [o1_eq]; unfold pubM; rw [if_neg (by simp)]; rfl
theorem o3_law (a b : Int) : Good (o3M a b) ∧ AllH (o3M a b) ∧ Tell 3 (o3M a b) := by
  have g1 := pub_law good0 a
  have g2 := pub_law g1.1 b
  obtain ⟨X, l, _⟩ := two_law g2.1 1 2
  refine ⟨l.good, l.all.2 (g2.2.2 (g1.2.2 allh0)), Tell.two ?_ g2.1 1 2⟩
  rw [show pubM (pubM mk0 a) b = _ from o2_eq a b]
  exact ⟨fun j r hr => by simp at hr, rfl⟩
theorem hd_set {V : List Int} {n : Nat} (h : 0 < n) (y : Int) : (V.set n y).head? = V.head? := by
  cases V with
  | nil => rfl
  | cons a l =>
    obtain ⟨k, rfl⟩ : ∃ k, n = k + 1 := ⟨n - 1, by omega⟩
    rfl
theorem only_holds (a b : Int) {n : Nat} (n0 : 3 ≤ n) (n1 : n < (o3M a b).vals.length) (l1 : (o3M a b).vals.length ≤ 4096) (l2 : (o3M a b).rows.length ≤ 4096) {by_ : Int} (hb : by_ % 288230376287764481 ≠ 0) :
    ∃ j : Nat, holdsF (sysM (o3M a b)) ((o3M a b).vals.set n (((o3M a b).vals[n] + by_) % 288230376287764481)) = spot j 8 := by
  obtain ⟨g, ha, ht⟩ := o3_law a b
  have hx := g.lt _ (List.getElem_mem n1)
  have y0 := Int.emod_nonneg ((o3M a b).vals[n] + by_) (show (288230376287764481:Int) ≠ 0 by decide)
  have y1 := Int.emod_lt_of_pos ((o3M a b).vals[n] + by_) (show (0:Int) < 288230376287764481 by decide)
  have hn := only_law g ha ht n0 n1 y0 y1 (by omega)
  have hh := holds_iff g l1 l2 (V := (o3M a b).vals.set n (((o3M a b).vals[n] + by_) % 288230376287764481)) (by rw [List.length_set]) (by rw [hd_set (by omega)]; exact g.one) (fun v hv => by
    rcases List.mem_or_eq_of_mem_set hv with h' | rfl
    · exact (g.lt _ h').2
    · exact y1)
  rcases hh.2 with h | h
  · exact absurd (hh.1.1 h) hn
  · exact h
theorem only_holds2 (a b : Int) {n : Nat} (n0 : 3 ≤ n) {x : Int} (hx : (o3M a b).vals[n]? = some x) (l1 : (o3M a b).vals.length ≤ 4096) (l2 : (o3M a b).rows.length ≤ 4096) {by_ : Int} (hb : by_ % 288230376287764481 ≠ 0) :
    ∃ j : Nat, holdsF (sysM (o3M a b)) ((o3M a b).vals.set n ((x + by_) % 288230376287764481)) = spot j 8 := by
  obtain ⟨n1, rfl⟩ := List.getElem?_eq_some_iff.1 hx
  exact only_holds a b n0 n1 l1 l2 hb
end Go.Proofs.Ytiikiamdbelbjaa.E.M

