/- What is handed in: systems, lists of terms, values. -/
import Derived.Test.YtjeafkodcmbabaaDoorQapC
import Derived.Test.YtjeafkodcmbabaaDoorProg
import Derived.KernelRfl
set_option linter.unusedVariables false
set_option linter.unusedSimpArgs false
set_option maxRecDepth 10000
open Go Go.Proofs.YtjeafkodcmbabaaDoor.E Go.Proofs
namespace Go.Proofs.YtjeafkodcmbabaaDoor.E.M
abbrev i64b (a : Int) : Prop := -9223372036854775808 ≤ a ∧ a < 9223372036854775808
theorem wf_w64q {a : Int} (h : (Lit.int .u64 a).wf = true) : w64 a := by
  simp [Lit.wf, IntKind.min, IntKind.max, IntKind.bits, IntKind.signed] at h
  omega
theorem wf_i64q {a : Int} (h : (Lit.int .i64 a).wf = true) : i64b a := by
  simp [Lit.wf, IntKind.min, IntKind.max, IntKind.bits, IntKind.signed] at h
  unfold i64b
  omega
theorem ta_u64s {k : Nat} : ∀ {es : List (List AV)}, (∀ x ∈ es, TA Tryd.prog (k + 1) 36 x) → ∃ L : List Int, L.length = es.length ∧ fm u1 L = es.flatten ∧ wV L
  | [], _ => ⟨[], rfl, rfl, by intro v hv; cases hv⟩
  | e :: es, h => by
    obtain ⟨g, hg, rfl⟩ := h e List.mem_cons_self
    obtain ⟨L, h1, h2, h3⟩ := ta_u64s fun x hx => h x (List.mem_cons_of_mem _ hx)
    refine ⟨g :: L, by simp [h1], by rw [List.flatten_cons, ← h2]; rfl, ?_⟩
    intro g' hg'
    rcases List.mem_cons.1 hg' with rfl | hg'
    · exact wf_w64q hg
    · exact h3 _ hg'
theorem open_u64s {c : AV} (h : PV Tryd.prog 6 25 c) : ∃ L : List Int, c = ul L ∧ L.length ≤ 9223372036854775807 ∧ wV L := by
  obtain ⟨avs, ⟨es, hl, rfl, he⟩, hc⟩ := h
  have hc : [AV.sl es.length es.flatten] = [c] := hc
  simp only [List.cons.injEq, and_true] at hc
  subst hc
  obtain ⟨L, h1, h2, h3⟩ := ta_u64s he
  exact ⟨L, by rw [show ul L = .sl L.length (fm u1 L) from rfl, h1, h2], by rw [h1]; exact hl, h3⟩
theorem ta_terms {k : Nat} : ∀ {es : List (List AV)}, (∀ x ∈ es, TA Tryd.prog (k + 2) 41 x) → ∃ L : List Tm, L.length = es.length ∧ fm tm L = es.flatten ∧ wT L
  | [], _ => ⟨[], rfl, rfl, by intro v hv; cases hv⟩
  | e :: es, h => by
    obtain ⟨a1, b1, rfl, ⟨v, hv, rfl⟩, a2, b2, rfl, ⟨o, ho, rfl⟩, hb2⟩ := h e List.mem_cons_self
    have e2 : b2 = [] := hb2
    subst e2
    obtain ⟨L, h1, h2, h3⟩ := ta_terms fun x hx => h x (List.mem_cons_of_mem _ hx)
    refine ⟨⟨v, o⟩ :: L, by simp [h1], by rw [List.flatten_cons, ← h2]; rfl, ?_⟩
    intro g' hg'
    rcases List.mem_cons.1 hg' with rfl | hg'
    · exact wf_w64q ho
    · exact h3 _ hg'
theorem ta_terml {k : Nat} {x : List AV} (h : TA Tryd.prog (k + 3) 28 x) : ∃ L : List Tm, x = [slF tm L] ∧ wT L := by
  obtain ⟨es, hl, rfl, he⟩ := h
  obtain ⟨L, h1, h2, h3⟩ := ta_terms he
  exact ⟨L, by rw [show slF tm L = .sl L.length (fm tm L) from rfl, h1, h2], h3⟩
theorem ta_rows : ∀ {es : List (List AV)}, (∀ x ∈ es, TA Tryd.prog 4 30 x) → ∃ L : List Rw, L.length = es.length ∧ fm rw_ L = es.flatten ∧ ∀ r ∈ L, wT r.a ∧ wT r.b ∧ wT r.c
  | [], _ => ⟨[], rfl, rfl, by intro v hv; cases hv⟩
  | e :: es, h => by
    obtain ⟨a1, b1, rfl, h1, a2, b2, rfl, h2, a3, b3, rfl, h3, hb3⟩ := h e List.mem_cons_self
    have e3 : b3 = [] := hb3
    subst e3
    obtain ⟨A, rfl, wA⟩ := ta_terml (k := 0) h1
    obtain ⟨B, rfl, wB⟩ := ta_terml (k := 0) h2
    obtain ⟨C, rfl, wC⟩ := ta_terml (k := 0) h3
    obtain ⟨L, h1, h2, h3⟩ := ta_rows fun x hx => h x (List.mem_cons_of_mem _ hx)
    refine ⟨⟨A, B, C⟩ :: L, by simp [h1], by rw [List.flatten_cons, ← h2]; rfl, ?_⟩
    intro g' hg'
    rcases List.mem_cons.1 hg' with rfl | hg'
    · exact ⟨wA, wB, wC⟩
    · exact h3 _ hg'
theorem open_rank {c : AV} (h : PV Tryd.prog 6 24 c) : ∃ s : Rk, c = .agg (rk s) ∧ i64b s.v ∧ i64b s.p ∧ wR s := by
  obtain ⟨avs, ⟨a1, b1, rfl, ⟨v, hv, rfl⟩, a2, b2, rfl, ⟨o, ho, rfl⟩, a3, b3, rfl, ⟨es, hl, rfl, he⟩, hb3⟩, hc⟩ := h
  have e3 : b3 = [] := hb3
  subst e3
  obtain ⟨L, h1, h2, h3⟩ := ta_rows he
  refine ⟨⟨v, o, L⟩, ?_, wf_i64q hv, wf_i64q ho, h3⟩
  have hc : c = .agg _ := hc
  rw [hc]
  show AV.agg [i v, i o, .sl es.length es.flatten] = AV.agg [i v, i o, .sl L.length (fm rw_ L)]
  rw [h1, h2]
theorem open_terms {c : AV} (h : PV Tryd.prog 6 28 c) : ∃ L : List Tm, c = slF tm L ∧ L.length ≤ 9223372036854775807 ∧ wT L := by
  obtain ⟨avs, ⟨es, hl, rfl, he⟩, hc⟩ := h
  have hc : [AV.sl es.length es.flatten] = [c] := hc
  simp only [List.cons.injEq, and_true] at hc
  subst hc
  obtain ⟨L, h1, h2, h3⟩ := ta_terms (k := 3) he
  exact ⟨L, by rw [show slF tm L = .sl L.length (fm tm L) from rfl, h1, h2], by rw [h1]; exact hl, h3⟩
end Go.Proofs.YtjeafkodcmbabaaDoor.E.M

