/- What the rows of a maker say: the plain law. -/
import Derived.Test.YtiikiamdbelbjaaGah
import Derived.Test.YtiikiamdbelbjaaQapC
import Derived.Test.YtiikiamdbelbjaaHsh
import Derived.Test.YtiikiamdbelbjaaProg
import Derived.KernelRfl
set_option linter.unusedVariables false
set_option linter.unusedSimpArgs false
set_option maxRecDepth 10000
open Go Go.Proofs.Ytiikiamdbelbjaa.E Go.Proofs
namespace Go.Proofs.Ytiikiamdbelbjaa.E.M
abbrev RZ : Int := 288230376287764481
def gV (V : List Int) (v : Int) : Int := if 0 ≤ v ∧ v < (V.length : Int) then V[v.toNat]?.getD 0 else 0
def lin (V : List Int) : List Tm → Int
  | [] => 0
  | t :: l => t.k * gV V t.v + lin V l
theorem valF_lin (V : List Int) : ∀ (L : List Tm) {o : Int}, 0 ≤ o → o < 288230376287764481 → valF V o L = (o + lin V L) % 288230376287764481
  | [], o, h0, h1 => by simp only [valF, lin]; omega
  | t :: l, o, h0, h1 => by
    simp only [valF, lin, gV]
    split
    · rename_i h
      rw [valF_lin V l (Int.emod_nonneg _ (by decide)) (Int.emod_lt_of_pos _ (by decide))]
      generalize t.k * (V[t.v.toNat]?.getD 0) = x
      omega
    · rename_i h
      rw [valF_lin V l h0 h1, Int.mul_zero, Int.zero_add]
def sumN : Nat → (Nat → Int) → Int
  | 0, _ => 0
  | n + 1, f => sumN n f + f n
theorem sumN_add (f g : Nat → Int) : ∀ n, sumN n (fun v => f v + g v) = sumN n f + sumN n g
  | 0 => rfl
  | n + 1 => by simp only [sumN, sumN_add f g n]; omega
theorem sumN_zero : ∀ {n : Nat} {f : Nat → Int}, (∀ v, v < n → f v = 0) → sumN n f = 0
  | 0, _, _ => rfl
  | n + 1, f, h => by simp only [sumN]; rw [sumN_zero fun v hv => h v (by omega), h n (by omega)]; rfl
theorem sumN_congr : ∀ {n : Nat} {f g : Nat → Int}, (∀ v, v < n → f v = g v) → sumN n f = sumN n g
  | 0, _, _, _ => rfl
  | n + 1, f, g, h => by simp only [sumN]; rw [sumN_congr fun v hv => h v (by omega), h n (by omega)]
theorem sumN_mod : ∀ {n : Nat} {f g : Nat → Int}, (∀ v, v < n → f v % 288230376287764481 = g v % 288230376287764481) → sumN n f % 288230376287764481 = sumN n g % 288230376287764481
  | 0, _, _, _ => rfl
  | n + 1, f, g, h => by
    simp only [sumN]
    have h1 := sumN_mod (n := n) fun v hv => h v (by omega)
    have h2 := h n (by omega)
    omega
theorem sumN_one (w : Int) (x : Int) : ∀ {n : Nat}, sumN n (fun v => (if w = (v : Int) then x else 0)) = if 0 ≤ w ∧ w < n then x else 0
  | 0 => by simp only [sumN]; rw [if_neg (by omega)]
  | n + 1 => by
    simp only [sumN, sumN_one w x (n := n)]
    by_cases h : w = n
    · rw [if_pos h, if_neg (by omega), if_pos (by omega)]; omega
    · rw [if_neg h]
      by_cases h2 : 0 ≤ w ∧ w < (n : Int)
      · rw [if_pos h2, if_pos (by omega)]; omega
      · rw [if_neg h2, if_neg (by omega)]; rfl
theorem lin_kS (V : List Int) : ∀ L : List Tm, lin V L = sumN V.length (fun v => kS (v : Int) L * gV V v)
  | [] => by
    rw [sumN_zero]
    · rfl
    · intro v _; simp only [kS, Int.zero_mul]
  | t :: l => by
    have e : (fun v : Nat => kS (v : Int) (t :: l) * gV V v) = fun v : Nat => (if t.v = (v : Int) then t.k * gV V t.v else 0) + kS (v : Int) l * gV V v := by
      funext v
      simp only [kS, Int.add_mul]
      split
      · rename_i h; rw [h]
      · rw [Int.zero_mul]
    rw [e, sumN_add, sumN_one, lin, ← lin_kS V l]
    congr 1
    unfold gV
    split <;> simp
theorem lin_sum (V : List Int) {L out : List Tm} (h : IsSum L out) : lin V out % 288230376287764481 = lin V L % 288230376287764481 := by
  rw [lin_kS, lin_kS]
  refine sumN_mod fun v hv => ?_
  rw [h.eq v (by omega), Int.mul_emod, Int.emod_emod, ← Int.mul_emod]
theorem val_lin (V : List Int) (L : List Tm) : valF V 0 L = lin V L % 288230376287764481 := by
  rw [valF_lin V L (by decide) (by decide), Int.zero_add]
theorem val_sum (V : List Int) (L : List Tm) : valF V 0 (sumT L) = valF V 0 L := by rw [val_lin, val_lin, lin_sum V (sumT_is L)]
theorem kS_ne {v : Int} {L : List Tm} (h : kS v L ≠ 0) : ∃ s ∈ L, s.v = v := by
  refine Classical.byContradiction fun hn => h (kS_zero fun s hs e => hn ⟨s, hs, e⟩)
theorem kS_at {t : Tm} : ∀ {out : List Tm}, out.Pairwise (fun a b => a.v < b.v) → t ∈ out → kS t.v out = t.k
  | s :: l, hu, ht => by
    obtain ⟨h1, h2⟩ := List.pairwise_cons.1 hu
    simp only [kS]
    rcases List.mem_cons.1 ht with rfl | ht
    · rw [if_pos rfl, kS_zero fun s hs => by have := h1 s hs; omega]; omega
    · have := h1 t ht
      rw [if_neg (by omega), kS_at h2 ht]; omega
theorem sumT_mem {L : List Tm} {t : Tm} (ht : t ∈ sumT L) : ∃ s ∈ L, s.v = t.v := by
  have h := sumT_is L
  have hp := h.pos t ht
  have h1 := kS_at h.up ht
  have h2 := h.eq t.v hp.1
  refine kS_ne fun e => ?_
  rw [e] at h2; omega
theorem snd_up {vars : Int} : ∀ {L : List Tm} {last : Int}, L.Pairwise (fun a b => a.v < b.v) → (∀ t ∈ L, last < t.v ∧ t.v < vars ∧ 1 ≤ t.k ∧ t.k < 288230376287764481) → sndF vars last L = true
  | [], _, _, _ => rfl
  | t :: l, last, hu, h => by
    obtain ⟨h1, h2⟩ := List.pairwise_cons.1 hu
    have ht := h t (by simp)
    simp only [sndF]
    rw [if_neg (by omega)]
    exact snd_up h2 fun s hs => by have := h s (List.mem_cons_of_mem _ hs); have := h1 s hs; omega
/-- all variables of a list are below n -/
abbrev blw (n : Nat) (L : List Tm) : Prop := ∀ t ∈ L, t.v < (n : Int)
theorem snd_sum {n : Nat} {L : List Tm} (h : blw n L) : sndF n (-1) (sumT L) = true := by
  have hs := sumT_is L
  refine snd_up hs.up fun t ht => ?_
  have hp := hs.pos t ht
  obtain ⟨s, hs1, hs2⟩ := sumT_mem ht
  have := h s hs1
  omega
theorem blw_sum {n : Nat} {L : List Tm} (h : blw n L) : blw n (sumT L) := fun t ht => by
  obtain ⟨s, hs1, hs2⟩ := sumT_mem ht
  rw [← hs2]; exact h s hs1
theorem gV_app {V : List Int} {v : Int} (h : v < V.length) (X : List Int) : gV (V ++ X) v = gV V v := by
  unfold gV
  by_cases h0 : 0 ≤ v
  · rw [if_pos ⟨h0, by rw [List.length_append]; omega⟩, if_pos ⟨h0, h⟩, List.getElem?_append_left (by omega)]
  · rw [if_neg (by omega), if_neg (by omega)]
theorem lin_app {V : List Int} (X : List Int) : ∀ {L : List Tm}, blw V.length L → lin (V ++ X) L = lin V L
  | [], _ => rfl
  | t :: l, h => by simp only [lin]; rw [gV_app (h t (by simp)), lin_app X fun s hs => h s (List.mem_cons_of_mem _ hs)]
theorem val_app {V : List Int} (X : List Int) {L : List Tm} (h : blw V.length L) : valF (V ++ X) 0 L = valF V 0 L := by rw [val_lin, val_lin, lin_app X h]
theorem gV_last (V : List Int) (x : Int) : gV (V ++ [x]) V.length = x := by
  unfold gV
  rw [if_pos ⟨by omega, by simp; omega⟩]; simp
theorem gV_at {V : List Int} {n : Nat} (h : n < V.length) : gV V n = V[n] := by
  unfold gV
  rw [if_pos ⟨by omega, by omega⟩]; simp [h]
theorem valM_g {V : List Int} (h : 0 < V.length) (a : Int) : valM V a = gV V (isM V a) := by
  have := isM_in h a
  unfold gV valM
  rw [if_pos this]
/-- a row holds -/
def rowH (V : List Int) (r : Rw) : Prop := valF V 0 r.a * valF V 0 r.b % 288230376287764481 = valF V 0 r.c
theorem rowH_sum (V : List Int) (a b c : List Tm) : rowH V ⟨sumT a, sumT b, sumT c⟩ ↔ lin V a * lin V b % 288230376287764481 = lin V c % 288230376287764481 := by
  unfold rowH
  rw [val_sum, val_sum, val_sum, val_lin, val_lin, val_lin, ← Int.mul_emod]
abbrev rblw (n : Nat) (r : Rw) : Prop := blw n r.a ∧ blw n r.b ∧ blw n r.c
theorem rowH_app {V : List Int} (X : List Int) {r : Rw} (h : rblw V.length r) : rowH (V ++ X) r ↔ rowH V r := by
  unfold rowH; rw [val_app X h.1, val_app X h.2.1, val_app X h.2.2]
/-- what a maker is like -/
structure Good (m : Mk) : Prop where
  v : m.v = m.vals.length
  p0 : 0 ≤ m.p
  p1 : m.p < m.vals.length
  one : m.vals.head? = some 1
  lt : ∀ v ∈ m.vals, 0 ≤ v ∧ v < 288230376287764481
  rows : ∀ r ∈ m.rows, ∃ a b c, r = ⟨sumT a, sumT b, sumT c⟩ ∧ blw m.vals.length a ∧ blw m.vals.length b ∧ blw m.vals.length c ∧ a.length < 1000000 ∧ b.length < 1000000 ∧ c.length < 1000000
/-- all rows hold -/
def AllH (m : Mk) : Prop := ∀ r ∈ m.rows, rowH m.vals r
theorem Good.ne {m : Mk} (h : Good m) : 0 < m.vals.length := by
  have := h.one
  cases hv : m.vals with
  | nil => rw [hv] at this; cases this
  | cons a l => simp
theorem Good.g0 {m : Mk} (h : Good m) : gV m.vals 0 = 1 := by
  have h0 := h.ne
  have h1 := h.one
  have e := gV_at h0
  rw [show ((0 : Nat) : Int) = 0 from rfl] at e
  rw [e]
  rw [List.head?_eq_getElem?, List.getElem?_eq_getElem h0] at h1
  exact Option.some.inj h1
theorem Good.glt {m : Mk} (h : Good m) (v : Int) : 0 ≤ gV m.vals v ∧ gV m.vals v < 288230376287764481 := by
  unfold gV
  split
  · rename_i hv
    have hl : v.toNat < m.vals.length := by omega
    rw [List.getElem?_eq_getElem hl]
    exact h.lt _ (List.getElem_mem hl)
  · decide
theorem blw_mono {n k : Nat} (h : n ≤ k) {L : List Tm} (hb : blw n L) : blw k L := fun t ht => by have := hb t ht; omega
theorem Good.fresh {m : Mk} (h : Good m) (x : Int) : Good (freshM m x) where
  v := by simp [freshM]
  p0 := h.p0
  p1 := by have := h.p1; simp only [freshM, List.length_append, List.length_singleton]; omega
  one := by
    have := h.one
    simp only [freshM]
    cases hv : m.vals with
    | nil => rw [hv] at this; cases this
    | cons a l => rw [hv] at this; simpa using this
  lt := fun v hv => by
    rcases List.mem_append.1 hv with hv | hv
    · exact h.lt v hv
    · simp only [List.mem_singleton] at hv; subst hv
      exact ⟨Int.emod_nonneg _ (by decide), Int.emod_lt_of_pos _ (by decide)⟩
  rows := fun r hr => by
    obtain ⟨a, b, c, e, ha, hb, hc, hl⟩ := h.rows r hr
    have hle : m.vals.length ≤ (freshM m x).vals.length := by simp [freshM]
    exact ⟨a, b, c, e, blw_mono hle ha, blw_mono hle hb, blw_mono hle hc, hl⟩
theorem Good.row {m : Mk} (h : Good m) {a b c : List Tm} (ha : blw m.vals.length a) (hb : blw m.vals.length b) (hc : blw m.vals.length c) (la : a.length < 1000000) (lb : b.length < 1000000) (lc : c.length < 1000000) : Good (rowM m a b c) where
  v := h.v
  p0 := h.p0
  p1 := h.p1
  one := h.one
  lt := h.lt
  rows := fun r hr => by
    rcases List.mem_append.1 hr with hr | hr
    · exact h.rows r hr
    · simp only [List.mem_singleton] at hr; subst hr
      exact ⟨a, b, c, rfl, ha, hb, hc, la, lb, lc⟩
theorem Good.rblw {m : Mk} (h : Good m) {r : Rw} (hr : r ∈ m.rows) : M.rblw m.vals.length r := by
  obtain ⟨a, b, c, rfl, ha, hb, hc, _⟩ := h.rows r hr
  exact ⟨blw_sum ha, blw_sum hb, blw_sum hc⟩
theorem AllH.fresh {m : Mk} (h : Good m) (x : Int) : AllH (freshM m x) ↔ AllH m := by
  unfold AllH
  constructor
  · intro k r hr; exact (rowH_app [x % 288230376287764481] (h.rblw hr)).1 (k r hr)
  · intro k r hr; exact (rowH_app [x % 288230376287764481] (h.rblw hr)).2 (k r hr)
theorem AllH.row {m : Mk} (a b c : List Tm) : AllH (rowM m a b c) ↔ AllH m ∧ lin m.vals a * lin m.vals b % 288230376287764481 = lin m.vals c % 288230376287764481 := by
  unfold AllH
  simp only [rowM, List.mem_append, List.mem_singleton]
  constructor
  · intro k; exact ⟨fun r hr => k r (.inl hr), (rowH_sum m.vals a b c).1 (k _ (.inr rfl))⟩
  · rintro ⟨k1, k2⟩ r (hr | rfl)
    · exact k1 r hr
    · exact (rowH_sum m.vals a b c).2 k2
end Go.Proofs.Ytiikiamdbelbjaa.E.M

