/- What is handed in: numbers and points. -/
import Derived.Test.YtdbpjegocmdplaaPairC
import Derived.Test.YtdbpjegocmdplaaProg
import Derived.KernelRfl
set_option linter.unusedVariables false
set_option linter.unusedSimpArgs false
set_option maxRecDepth 10000
open Go Go.Proofs.Ytdbpjegocmdplaa.E Go.Proofs
namespace Go.Proofs.Ytdbpjegocmdplaa.E.M
theorem wf_w64 {a : Int} (h : (Lit.int .u64 a).wf = true) : w64 a := by
  simp [Lit.wf, IntKind.min, IntKind.max, IntKind.bits, IntKind.signed] at h
  omega
theorem open_u64 {c : AV} (h : PV Try.prog 6 25 c) : ∃ n, c = u n ∧ w64 n := by
  obtain ⟨avs, ⟨n, hn, rfl⟩, hc⟩ := h
  have hc : [AV.val (.int .u64 n)] = [c] := hc
  simp only [List.cons.injEq, and_true] at hc
  exact ⟨n, hc.symm, wf_w64 hn⟩
/-- a point's cells -/
abbrev ptc (t : P3) : List AV := [bo t.1, u t.2.1, u t.2.2]
theorem ptc_len (t : P3) : (ptc t).length = 3 := rfl
theorem ta_pt {x : List AV} (h : TA Try.prog 5 32 x) : ∃ t : P3, x = ptc t ∧ w64 t.2.1 ∧ w64 t.2.2 := by
  obtain ⟨a1, b1, rfl, ⟨v, rfl⟩, a2, b2, rfl, ⟨o, ho, rfl⟩, a3, b3, rfl, ⟨r, hr, rfl⟩, hb3⟩ := h
  have e3 : b3 = [] := hb3
  subst e3
  exact ⟨(v, o, r), rfl, wf_w64 ho, wf_w64 hr⟩
theorem ta_pts : ∀ {es : List (List AV)}, (∀ x ∈ es, TA Try.prog 5 32 x) → ∃ L : List P3, L.length = es.length ∧ fm ptc L = es.flatten ∧ ∀ g ∈ L, w64 g.2.1 ∧ w64 g.2.2
  | [], _ => ⟨[], rfl, rfl, by simp⟩
  | e :: es, h => by
    obtain ⟨g, rfl, hg⟩ := ta_pt (h e List.mem_cons_self)
    obtain ⟨L, h1, h2, h3⟩ := ta_pts fun x hx => h x (List.mem_cons_of_mem _ hx)
    refine ⟨g :: L, by simp [h1], by simp [fm, h2], ?_⟩
    intro g' hg'
    rcases List.mem_cons.1 hg' with rfl | hg'
    · exact hg
    · exact h3 _ hg'
theorem open_pts {c : AV} (h : PV Try.prog 6 33 c) : ∃ L : List P3, c = slF ptc L ∧ L.length ≤ 9223372036854775807 ∧ ∀ g ∈ L, w64 g.2.1 ∧ w64 g.2.2 := by
  obtain ⟨avs, ⟨es, hl, rfl, he⟩, hc⟩ := h
  have hc : [AV.sl es.length es.flatten] = [c] := hc
  simp only [List.cons.injEq, and_true] at hc
  subst hc
  obtain ⟨L, h1, h2, h3⟩ := ta_pts he
  exact ⟨L, by rw [slF, h1, h2], by rw [h1]; exact hl, h3⟩
theorem open_pt {c : AV} (h : PV Try.prog 6 32 c) : ∃ (b : Bool) (x y : Int), c = pt (b, x, y) ∧ w64 x ∧ w64 y := by
  obtain ⟨avs, ⟨a1, b1, rfl, ⟨v, rfl⟩, a2, b2, rfl, ⟨o, ho, rfl⟩, a3, b3, rfl, ⟨r, hr, rfl⟩, hb3⟩, hc⟩ := h
  have e3 : b3 = [] := hb3
  subst e3
  exact ⟨v, o, r, hc, wf_w64 ho, wf_w64 hr⟩
end Go.Proofs.Ytdbpjegocmdplaa.E.M

