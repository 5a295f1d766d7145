/- What is handed in: points and bytes. -/
import Derived.Test.YtibmidoepeghpaaCurY
import Derived.Test.YtibmidoepeghpaaProg
import Derived.KernelRfl
set_option linter.unusedVariables false
set_option linter.unusedSimpArgs false
set_option maxRecDepth 10000
open Go Go.Proofs.Ytibmidoepeghpaa.E Go.Proofs
namespace Go.Proofs.Ytibmidoepeghpaa.E.M
theorem wf_w64c {a : Int} (h : (Lit.int .u64 a).wf = true) : w64 a := by
  simp [Lit.wf, IntKind.min, IntKind.max, IntKind.bits, IntKind.signed] at h
  omega
theorem wf_b8 {a : Int} (h : (Lit.int .u8 a).wf = true) : b8 a := by
  simp [Lit.wf, IntKind.min, IntKind.max, IntKind.bits, IntKind.signed] at h
  unfold b8
  omega
theorem open_ptc {c : AV} (h : PV Try.prog 6 24 c) : ∃ (b : Bool) (x y : Int), c = pt (b, x, y) ∧ w64 x ∧ w64 y := by
  obtain ⟨avs, ⟨a1, b1, rfl, ⟨v, rfl⟩, a2, b2, rfl, ⟨o, ho, rfl⟩, a3, b3, rfl, ⟨r, hr, rfl⟩, hb3⟩, hc⟩ := h
  have e3 : b3 = [] := hb3
  subst e3
  exact ⟨v, o, r, hc, wf_w64c ho, wf_w64c hr⟩
theorem ta_u8s : ∀ {es : List (List AV)}, (∀ x ∈ es, TA Try.prog 5 5 x) → ∃ L : List Int, L.length = es.length ∧ by8 L = es.flatten ∧ ∀ b ∈ L, b8 b
  | [], _ => ⟨[], rfl, rfl, by simp⟩
  | e :: es, h => by
    obtain ⟨g, hg, rfl⟩ := h e List.mem_cons_self
    obtain ⟨L, h1, h2, h3⟩ := ta_u8s fun x hx => h x (List.mem_cons_of_mem _ hx)
    refine ⟨g :: L, by simp [h1], by rw [List.flatten_cons, ← h2]; rfl, ?_⟩
    intro g' hg'
    rcases List.mem_cons.1 hg' with rfl | hg'
    · exact wf_b8 hg
    · exact h3 _ hg'
theorem open_u8s {c : AV} (h : PV Try.prog 6 33 c) : ∃ L : List Int, c = sl8 L ∧ L.length ≤ 9223372036854775807 ∧ ∀ b ∈ L, b8 b := by
  obtain ⟨avs, ⟨es, hl, rfl, he⟩, hc⟩ := h
  have hc : [AV.sl es.length es.flatten] = [c] := hc
  simp only [List.cons.injEq, and_true] at hc
  subst hc
  obtain ⟨L, h1, h2, h3⟩ := ta_u8s he
  exact ⟨L, by rw [sl8, h1, h2], by rw [h1]; exact hl, h3⟩
end Go.Proofs.Ytibmidoepeghpaa.E.M

