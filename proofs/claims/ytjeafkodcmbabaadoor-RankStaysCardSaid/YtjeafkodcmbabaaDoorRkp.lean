/- The document's sum of terms is the sum: the plain law. -/
import Derived.Test.YtjeafkodcmbabaaDoorSma
import Derived.Test.YtjeafkodcmbabaaDoorProg
import Derived.KernelRfl
set_option linter.unusedVariables false
set_option linter.unusedSimpArgs false
set_option maxRecDepth 10000
open Go Go.Proofs.YtjeafkodcmbabaaDoor.E Go.Proofs
namespace Go.Proofs.YtjeafkodcmbabaaDoor.E.M
def nxF (last : Int) : Int → List Tm → Int
  | nx, [] => nx
  | nx, t :: r => nxF last (if t.v > last ∧ (nx < 0 ∨ t.v < nx) then t.v else nx) r
def smF (v : Int) : Int → List Tm → Int
  | k, [] => k
  | k, t :: r => smF v (if t.v = v then (k + t.k) % 288230376287764481 else k) r
def cntF (a : Int) : List Tm → Nat
  | [] => 0
  | t :: l => (if t.v > a then 1 else 0) + cntF a l
theorem cnt_le {a b : Int} (h : a ≤ b) : ∀ L : List Tm, cntF b L ≤ cntF a L
  | [] => Nat.le_refl _
  | t :: l => by
    have := cnt_le h l
    simp only [cntF]
    split <;> split <;> omega
theorem cnt_lt {a b : Int} (h : a < b) : ∀ {L : List Tm}, (∃ t ∈ L, t.v = b) → cntF b L < cntF a L
  | [], ⟨t, ht, _⟩ => by cases ht
  | s :: l, ⟨t, ht, e⟩ => by
    have h0 := cnt_le (Int.le_of_lt h) l
    simp only [cntF]
    rcases List.mem_cons.1 ht with rfl | ht
    · rw [if_neg (by omega), if_pos (by omega)]; omega
    · have := cnt_lt h ⟨t, ht, e⟩
      split <;> split <;> omega
theorem cnt_len (a : Int) : ∀ L : List Tm, cntF a L ≤ L.length
  | [] => Nat.le_refl _
  | t :: l => by
    have := cnt_len a l
    simp only [cntF, List.length_cons]
    split <;> omega
theorem nx_spec {last : Int} (h0 : -1 ≤ last) : ∀ {L : List Tm} {nx : Int}, (nx = -1 ∨ last < nx) →
    (nxF last nx L = -1 ∧ nx = -1 ∧ ∀ t ∈ L, t.v ≤ last) ∨ (last < nxF last nx L ∧ (∀ t ∈ L, last < t.v → nxF last nx L ≤ t.v) ∧ (nx = -1 ∨ nxF last nx L ≤ nx) ∧ (nxF last nx L = nx ∨ ∃ t ∈ L, t.v = nxF last nx L))
  | [], nx, h => by
    simp only [nxF]
    rcases h with h | h
    · exact .inl ⟨h, h, by simp⟩
    · exact .inr ⟨h, by simp, .inr (Int.le_refl _), by simp⟩
  | t :: r, nx, h => by
    simp only [nxF]
    by_cases c : t.v > last ∧ (nx < 0 ∨ t.v < nx)
    · rw [if_pos c]
      rcases nx_spec h0 (L := r) (nx := t.v) (.inr c.1) with ⟨_, b, _⟩ | ⟨a, b, d, e⟩
      · omega
      · refine .inr ⟨a, ?_, ?_, ?_⟩
        · intro s hs hl
          rcases List.mem_cons.1 hs with rfl | hs
          · rcases d with d | d <;> omega
          · exact b s hs hl
        · rcases h with h | h
          · exact .inl h
          · right; rcases d with d | d <;> omega
        · rcases e with e | ⟨s, hs, e⟩
          · exact .inr ⟨t, List.mem_cons_self, e.symm⟩
          · exact .inr ⟨s, List.mem_cons_of_mem _ hs, e⟩
    · rw [if_neg c]
      rcases nx_spec h0 (L := r) (nx := nx) h with ⟨a, b, d⟩ | ⟨a, b, d, e⟩
      · refine .inl ⟨a, b, ?_⟩
        intro s hs
        rcases List.mem_cons.1 hs with rfl | hs
        · omega
        · exact d s hs
      · refine .inr ⟨a, ?_, d, ?_⟩
        · intro s hs hl
          rcases List.mem_cons.1 hs with rfl | hs
          · rcases d with d | d <;> omega
          · exact b s hs hl
        · rcases e with e | ⟨s, hs, e⟩
          · exact .inl e
          · exact .inr ⟨s, List.mem_cons_of_mem _ hs, e⟩
theorem sm_kS (v : Int) : ∀ (L : List Tm) {k : Int}, 0 ≤ k → k < 288230376287764481 → smF v k L = (k + kS v L) % 288230376287764481
  | [], k, h0, h1 => by simp only [smF, kS]; omega
  | t :: r, k, h0, h1 => by
    simp only [smF, kS]
    split
    · rw [sm_kS v r (Int.emod_nonneg _ (by decide)) (Int.emod_lt_of_pos _ (by decide))]; omega
    · rw [sm_kS v r h0 h1]; omega
structure SumI (L : List Tm) (last : Int) (out : List Tm) : Prop where
  lo : -1 ≤ last
  up : out.Pairwise (fun a b => a.v < b.v)
  pos : ∀ t ∈ out, 0 ≤ t.v ∧ t.v ≤ last ∧ 1 ≤ t.k ∧ t.k < 288230376287764481
  eq : ∀ v, 0 ≤ v → v ≤ last → kS v out = kS v L % 288230376287764481
  len : out.length + cntF last L ≤ L.length
theorem SumI.start (L : List Tm) : SumI L (-1) [] := ⟨by omega, .nil, by simp, fun v h0 h1 => by omega, by simpa using cnt_len (-1) L⟩
theorem SumI.stop {L out : List Tm} {last : Int} (h : SumI L last out) (hn : nxF last (-1) L < 0) : out = sumT L := by
  refine IsSum.uniq (L := L) ⟨h.up, fun t ht => ?_, fun v hv => ?_⟩ (sumT_is L)
  · have := h.pos t ht; omega
  · have hL : ∀ t ∈ L, t.v ≤ last := by
      have h0 := h.lo
      rcases nx_spec h0 (L := L) (nx := -1) (.inl rfl) with ⟨_, _, d⟩ | ⟨a, _⟩
      · exact d
      · omega
    rcases Int.lt_or_le last v with c | c
    · rw [kS_zero (l := out) fun t ht => by have := h.pos t ht; omega, kS_zero (l := L) fun t ht => by have := hL t ht; omega]; rfl
    · exact h.eq v hv c
theorem SumI.step {L out : List Tm} {last n : Int} (h : SumI L last out) (hn : nxF last (-1) L = n) (n0 : ¬ n < 0) : cntF n L < cntF last L ∧ (smF n 0 L = 0 → SumI L n out) ∧ (smF n 0 L ≠ 0 → SumI L n (out ++ [⟨n, smF n 0 L⟩])) := by
  have h0 := h.lo
  have hk := sm_kS n L (k := 0) (by omega) (by omega)
  rw [Int.zero_add] at hk
  have hs := nx_spec h0 (L := L) (nx := -1) (.inl rfl)
  rw [hn] at hs
  rcases hs with ⟨a, _⟩ | ⟨a, b, _, e⟩
  · omega
  have hin : ∃ t ∈ L, t.v = n := by
    rcases e with e | e
    · omega
    · exact e
  have hc := cnt_lt a hin
  have hz : ∀ v, last < v → v < n → kS v L = 0 := fun v h1 h2 => kS_zero fun t ht e => by have := b t ht (by omega); omega
  have ho : ∀ v, last < v → kS v out = 0 := fun v h1 => kS_zero fun t ht e => by have := h.pos t ht; omega
  refine ⟨hc, fun k0 => ⟨by omega, h.up, fun t ht => ?_, fun v hv h1 => ?_, ?_⟩, fun k1 => ⟨by omega, ?_, fun t ht => ?_, fun v hv h1 => ?_, ?_⟩⟩
  · have := h.pos t ht; omega
  · rcases Int.lt_or_le last v with c | c
    · rw [ho v c]
      by_cases d : v = n
      · subst d; rw [← hk, k0]
      · rw [hz v c (by omega)]; rfl
    · exact h.eq v hv c
  · have := h.len; omega
  · refine List.pairwise_append.2 ⟨h.up, List.pairwise_singleton _ _, fun s hs t ht => ?_⟩
    simp only [List.mem_singleton] at ht; subst ht
    have := h.pos s hs; show s.v < n; omega
  · rcases List.mem_append.1 ht with ht | ht
    · have := h.pos t ht; omega
    · simp only [List.mem_singleton] at ht; subst ht
      show 0 ≤ n ∧ n ≤ n ∧ 1 ≤ smF n 0 L ∧ smF n 0 L < 288230376287764481
      omega
  · rw [kS_app]
    show kS v out + ((if n = v then smF n 0 L else 0) + 0) = _
    by_cases d : n = v
    · subst d; rw [if_pos rfl, ho n a, hk]; omega
    · rw [if_neg d]
      rcases Int.lt_or_le last v with c | c
      · rw [ho v c, hz v c (by omega)]; rfl
      · rw [h.eq v hv c]; omega
  · have := h.len; rw [List.length_append]; show out.length + 1 + _ ≤ _; omega
end Go.Proofs.YtjeafkodcmbabaaDoor.E.M

