/- What is handed in: numbers, lists of them, deeds of a maker. -/
import Derived.Test.YtiikiamdbelbjaaGah
import Derived.Test.YtiikiamdbelbjaaProg
import Derived.KernelRfl
set_option linter.unusedVariables false
set_option linter.unusedSimpArgs false
set_option maxRecDepth 10000
open Go Go.Proofs.Ytiikiamdbelbjaa.E Go.Proofs
namespace Go.Proofs.Ytiikiamdbelbjaa.E.M
theorem wf_w64q {a : Int} (h : (Lit.int .u64 a).wf = true) : w64 a := by
  simp [Lit.wf, IntKind.min, IntKind.max, IntKind.bits, IntKind.signed] at h
  omega
theorem wf_i64q {a : Int} (h : (Lit.int .i64 a).wf = true) : i64b a := by
  simp [Lit.wf, IntKind.min, IntKind.max, IntKind.bits, IntKind.signed] at h
  unfold i64b
  omega
theorem open_u64q {c : AV} (h : PV Try.prog 6 22 c) : ∃ n, c = u n ∧ w64 n := by
  obtain ⟨avs, ⟨n, hn, rfl⟩, hc⟩ := h
  have hc : [AV.val (.int .u64 n)] = [c] := hc
  simp only [List.cons.injEq, and_true] at hc
  exact ⟨n, hc.symm, wf_w64q hn⟩
theorem open_intq {c : AV} (h : PV Try.prog 6 3 c) : ∃ n, c = i n ∧ i64b n := by
  obtain ⟨avs, ⟨n, hn, rfl⟩, hc⟩ := h
  have hc : [AV.val (.int .i64 n)] = [c] := hc
  simp only [List.cons.injEq, and_true] at hc
  exact ⟨n, hc.symm, wf_i64q hn⟩
theorem ta_u64s {k : Nat} : ∀ {es : List (List AV)}, (∀ x ∈ es, TA Try.prog (k + 1) 22 x) → ∃ L : List Int, L.length = es.length ∧ fm u1 L = es.flatten ∧ wV L
  | [], _ => ⟨[], rfl, rfl, by intro v hv; cases hv⟩
  | e :: es, h => by
    obtain ⟨g, hg, rfl⟩ := h e List.mem_cons_self
    obtain ⟨L, h1, h2, h3⟩ := ta_u64s fun x hx => h x (List.mem_cons_of_mem _ hx)
    refine ⟨g :: L, by simp [h1], by rw [List.flatten_cons, ← h2]; rfl, ?_⟩
    intro g' hg'
    rcases List.mem_cons.1 hg' with rfl | hg'
    · exact wf_w64q hg
    · exact h3 _ hg'
theorem open_u64s {c : AV} (h : PV Try.prog 6 34 c) : ∃ L : List Int, c = ul L ∧ L.length ≤ 9223372036854775807 ∧ wV L := by
  obtain ⟨avs, ⟨es, hl, rfl, he⟩, hc⟩ := h
  have hc : [AV.sl es.length es.flatten] = [c] := hc
  simp only [List.cons.injEq, and_true] at hc
  subst hc
  obtain ⟨L, h1, h2, h3⟩ := ta_u64s he
  exact ⟨L, by rw [show ul L = .sl L.length (fm u1 L) from rfl, h1, h2], by rw [h1]; exact hl, h3⟩
theorem ta_terms {k : Nat} : ∀ {es : List (List AV)}, (∀ x ∈ es, TA Try.prog (k + 2) 55 x) → ∃ L : List Tm, L.length = es.length ∧ fm tm L = es.flatten ∧ wT L
  | [], _ => ⟨[], rfl, rfl, by intro v hv; cases hv⟩
  | e :: es, h => by
    obtain ⟨a1, b1, rfl, ⟨v, hv, rfl⟩, a2, b2, rfl, ⟨o, ho, rfl⟩, hb2⟩ := h e List.mem_cons_self
    have e2 : b2 = [] := hb2
    subst e2
    obtain ⟨L, h1, h2, h3⟩ := ta_terms fun x hx => h x (List.mem_cons_of_mem _ hx)
    refine ⟨⟨v, o⟩ :: L, by simp [h1], by rw [List.flatten_cons, ← h2]; rfl, ?_⟩
    intro g' hg'
    rcases List.mem_cons.1 hg' with rfl | hg'
    · exact wf_w64q ho
    · exact h3 _ hg'
theorem ta_terml {k : Nat} {x : List AV} (h : TA Try.prog (k + 3) 48 x) : ∃ L : List Tm, x = [slF tm L] ∧ wT L ∧ L.length ≤ 9223372036854775807 := by
  obtain ⟨es, hl, rfl, he⟩ := h
  obtain ⟨L, h1, h2, h3⟩ := ta_terms he
  exact ⟨L, by rw [show slF tm L = .sl L.length (fm tm L) from rfl, h1, h2], h3, by rw [h1]; exact hl⟩
theorem ta_ints {k : Nat} : ∀ {es : List (List AV)}, (∀ x ∈ es, TA Try.prog (k + 1) 3 x) → ∃ L : List Int, L.length = es.length ∧ fm i1 L = es.flatten
  | [], _ => ⟨[], rfl, rfl⟩
  | e :: es, h => by
    obtain ⟨g, hg, rfl⟩ := h e List.mem_cons_self
    obtain ⟨L, h1, h2⟩ := ta_ints fun x hx => h x (List.mem_cons_of_mem _ hx)
    exact ⟨g :: L, by simp [h1], by rw [List.flatten_cons, ← h2]; rfl⟩
theorem ta_intl {k : Nat} {x : List AV} (h : TA Try.prog (k + 2) 41 x) : ∃ L : List Int, x = [il L] ∧ L.length ≤ 9223372036854775807 := by
  obtain ⟨es, hl, rfl, he⟩ := h
  obtain ⟨L, h1, h2⟩ := ta_ints he
  exact ⟨L, by rw [show il L = .sl L.length (fm i1 L) from rfl, h1, h2], by rw [h1]; exact hl⟩
/-- a deed that is handed in -/
abbrev wD (d : Dd) : Prop := i64b d.what ∧ w64 d.k ∧ wT d.L ∧ d.L.length < 9223372036854775808 ∧ d.V.length < 9223372036854775808
theorem ta_deed {x : List AV} (h : TA Try.prog 5 50 x) : ∃ d : Dd, x = dd d ∧ wD d := by
  obtain ⟨_, _, rfl, ⟨v1, h1, rfl⟩, _, _, rfl, ⟨v2, h2, rfl⟩, _, _, rfl, ⟨v3, h3, rfl⟩, _, _, rfl, ⟨v4, h4, rfl⟩, _, _, rfl, ⟨v5, h5, rfl⟩, _, _, rfl, h6, _, _, rfl, h7, hb⟩ := h
  cases hb
  obtain ⟨L, rfl, w6, l6⟩ := ta_terml (k := 1) h6
  obtain ⟨V, rfl, l7⟩ := ta_intl (k := 2) h7
  exact ⟨⟨v1, v2, v3, v4, v5, L, V⟩, rfl, wf_i64q h1, wf_w64q h5, w6, by show L.length < _; omega, by show V.length < _; omega⟩
theorem ta_deeds : ∀ {es : List (List AV)}, (∀ x ∈ es, TA Try.prog 5 50 x) → ∃ L : List Dd, L.length = es.length ∧ fm dd L = es.flatten ∧ ∀ d ∈ L, wD d
  | [], _ => ⟨[], rfl, rfl, fun v hv => by cases hv⟩
  | e :: es, h => by
    obtain ⟨g, rfl, hg⟩ := ta_deed (h e List.mem_cons_self)
    obtain ⟨L, h1, h2, h3⟩ := ta_deeds fun x hx => h x (List.mem_cons_of_mem _ hx)
    refine ⟨g :: L, by simp [h1], by simp [fm, h2], ?_⟩
    intro g' hg'
    rcases List.mem_cons.1 hg' with rfl | hg'
    · exact hg
    · exact h3 _ hg'
theorem open_deeds {c : AV} (h : PV Try.prog 6 46 c) : ∃ L : List Dd, c = slF dd L ∧ L.length ≤ 9223372036854775807 ∧ ∀ d ∈ L, wD d := by
  obtain ⟨avs, ⟨es, hl, rfl, he⟩, hc⟩ := h
  have hc : [AV.sl es.length es.flatten] = [c] := hc
  simp only [List.cons.injEq, and_true] at hc
  subst hc
  obtain ⟨L, h1, h2, h3⟩ := ta_deeds he
  exact ⟨L, by rw [slF, h1, h2], by rw [h1]; exact hl, h3⟩
end Go.Proofs.Ytiikiamdbelbjaa.E.M

