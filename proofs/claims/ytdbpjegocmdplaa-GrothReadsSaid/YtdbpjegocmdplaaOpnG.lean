/- What is handed in: proofs, bytes, draws, systems, numbers. -/
import Derived.Test.YtdbpjegocmdplaaGroH
import Derived.Test.YtdbpjegocmdplaaProg
import Derived.KernelRfl
set_option linter.unusedVariables false
set_option linter.unusedSimpArgs false
set_option maxRecDepth 10000
open Go Go.Proofs.Ytdbpjegocmdplaa.E Go.Proofs
namespace Go.Proofs.Ytdbpjegocmdplaa.E.M
theorem wf_b8 {a : Int} (h : (Lit.int .u8 a).wf = true) : b8 a := by
  simp [Lit.wf, IntKind.min, IntKind.max, IntKind.bits, IntKind.signed] at h
  unfold b8
  omega
theorem ta_u8s : ∀ {es : List (List AV)}, (∀ x ∈ es, TA Try.prog 5 5 x) → ∃ L : List Int, L.length = es.length ∧ by8 L = es.flatten ∧ ∀ b ∈ L, b8 b
  | [], _ => ⟨[], rfl, rfl, by simp⟩
  | e :: es, h => by
    obtain ⟨g, hg, rfl⟩ := h e List.mem_cons_self
    obtain ⟨L, h1, h2, h3⟩ := ta_u8s fun x hx => h x (List.mem_cons_of_mem _ hx)
    refine ⟨g :: L, by simp [h1], by rw [List.flatten_cons, ← h2]; rfl, ?_⟩
    intro g' hg'
    rcases List.mem_cons.1 hg' with rfl | hg'
    · exact wf_b8 hg
    · exact h3 _ hg'
theorem open_u8s {c : AV} (h : PV Try.prog 6 48 c) : ∃ L : List Int, c = sl8 L ∧ L.length ≤ 9223372036854775807 ∧ ∀ b ∈ L, b8 b := by
  obtain ⟨avs, ⟨es, hl, rfl, he⟩, hc⟩ := h
  have hc : [AV.sl es.length es.flatten] = [c] := hc
  simp only [List.cons.injEq, and_true] at hc
  subst hc
  obtain ⟨L, h1, h2, h3⟩ := ta_u8s he
  exact ⟨L, by rw [sl8, h1, h2], by rw [h1]; exact hl, h3⟩
abbrev i64b (a : Int) : Prop := -9223372036854775808 ≤ a ∧ a < 9223372036854775808
theorem wf_w64q {a : Int} (h : (Lit.int .u64 a).wf = true) : w64 a := by
  simp [Lit.wf, IntKind.min, IntKind.max, IntKind.bits, IntKind.signed] at h
  omega
theorem wf_i64q {a : Int} (h : (Lit.int .i64 a).wf = true) : i64b a := by
  simp [Lit.wf, IntKind.min, IntKind.max, IntKind.bits, IntKind.signed] at h
  unfold i64b
  omega
theorem open_u64q {c : AV} (h : PV Try.prog 6 25 c) : ∃ n, c = u n ∧ w64 n := by
  obtain ⟨avs, ⟨n, hn, rfl⟩, hc⟩ := h
  have hc : [AV.val (.int .u64 n)] = [c] := hc
  simp only [List.cons.injEq, and_true] at hc
  exact ⟨n, hc.symm, wf_w64q hn⟩
theorem open_intq {c : AV} (h : PV Try.prog 6 3 c) : ∃ n, c = i n ∧ i64b n := by
  obtain ⟨avs, ⟨n, hn, rfl⟩, hc⟩ := h
  have hc : [AV.val (.int .i64 n)] = [c] := hc
  simp only [List.cons.injEq, and_true] at hc
  exact ⟨n, hc.symm, wf_i64q hn⟩
theorem ta_u64s {k : Nat} : ∀ {es : List (List AV)}, (∀ x ∈ es, TA Try.prog (k + 1) 25 x) → ∃ L : List Int, L.length = es.length ∧ fm u1 L = es.flatten ∧ wV L
  | [], _ => ⟨[], rfl, rfl, by intro v hv; cases hv⟩
  | e :: es, h => by
    obtain ⟨g, hg, rfl⟩ := h e List.mem_cons_self
    obtain ⟨L, h1, h2, h3⟩ := ta_u64s fun x hx => h x (List.mem_cons_of_mem _ hx)
    refine ⟨g :: L, by simp [h1], by rw [List.flatten_cons, ← h2]; rfl, ?_⟩
    intro g' hg'
    rcases List.mem_cons.1 hg' with rfl | hg'
    · exact wf_w64q hg
    · exact h3 _ hg'
theorem open_u64s {c : AV} (h : PV Try.prog 6 28 c) : ∃ L : List Int, c = ul L ∧ L.length ≤ 9223372036854775807 ∧ wV L := by
  obtain ⟨avs, ⟨es, hl, rfl, he⟩, hc⟩ := h
  have hc : [AV.sl es.length es.flatten] = [c] := hc
  simp only [List.cons.injEq, and_true] at hc
  subst hc
  obtain ⟨L, h1, h2, h3⟩ := ta_u64s he
  exact ⟨L, by rw [ul_def, h1, h2], by rw [h1]; exact hl, h3⟩
theorem ta_terms {k : Nat} : ∀ {es : List (List AV)}, (∀ x ∈ es, TA Try.prog (k + 2) 90 x) → ∃ L : List Tm, L.length = es.length ∧ fm tm L = es.flatten ∧ wT L
  | [], _ => ⟨[], rfl, rfl, by intro v hv; cases hv⟩
  | e :: es, h => by
    obtain ⟨a1, b1, rfl, ⟨v, hv, rfl⟩, a2, b2, rfl, ⟨o, ho, rfl⟩, hb2⟩ := h e List.mem_cons_self
    have e2 : b2 = [] := hb2
    subst e2
    obtain ⟨L, h1, h2, h3⟩ := ta_terms fun x hx => h x (List.mem_cons_of_mem _ hx)
    refine ⟨⟨v, o⟩ :: L, by simp [h1], by rw [List.flatten_cons, ← h2]; rfl, ?_⟩
    intro g' hg'
    rcases List.mem_cons.1 hg' with rfl | hg'
    · exact wf_w64q ho
    · exact h3 _ hg'
theorem ta_terml {k : Nat} {x : List AV} (h : TA Try.prog (k + 3) 91 x) : ∃ L : List Tm, x = [slF tm L] ∧ wT L := by
  obtain ⟨es, hl, rfl, he⟩ := h
  obtain ⟨L, h1, h2, h3⟩ := ta_terms he
  exact ⟨L, by rw [show slF tm L = .sl L.length (fm tm L) from rfl, h1, h2], h3⟩
theorem ta_rows : ∀ {es : List (List AV)}, (∀ x ∈ es, TA Try.prog 4 93 x) → ∃ L : List Rw, L.length = es.length ∧ fm rw_ L = es.flatten ∧ ∀ r ∈ L, wT r.a ∧ wT r.b ∧ wT r.c
  | [], _ => ⟨[], rfl, rfl, by intro v hv; cases hv⟩
  | e :: es, h => by
    obtain ⟨a1, b1, rfl, h1, a2, b2, rfl, h2, a3, b3, rfl, h3, hb3⟩ := h e List.mem_cons_self
    have e3 : b3 = [] := hb3
    subst e3
    obtain ⟨A, rfl, wA⟩ := ta_terml (k := 0) h1
    obtain ⟨B, rfl, wB⟩ := ta_terml (k := 0) h2
    obtain ⟨C, rfl, wC⟩ := ta_terml (k := 0) h3
    obtain ⟨L, h1, h2, h3⟩ := ta_rows fun x hx => h x (List.mem_cons_of_mem _ hx)
    refine ⟨⟨A, B, C⟩ :: L, by simp [h1], by rw [List.flatten_cons, ← h2]; rfl, ?_⟩
    intro g' hg'
    rcases List.mem_cons.1 hg' with rfl | hg'
    · exact ⟨wA, wB, wC⟩
    · exact h3 _ hg'
theorem open_rank {c : AV} (h : PV Try.prog 6 24 c) : ∃ s : Rk, c = .agg (rk s) ∧ i64b s.v ∧ i64b s.p ∧ wR s := by
  obtain ⟨avs, ⟨a1, b1, rfl, ⟨v, hv, rfl⟩, a2, b2, rfl, ⟨o, ho, rfl⟩, a3, b3, rfl, ⟨es, hl, rfl, he⟩, hb3⟩, hc⟩ := h
  have e3 : b3 = [] := hb3
  subst e3
  obtain ⟨L, h1, h2, h3⟩ := ta_rows he
  refine ⟨⟨v, o, L⟩, ?_, wf_i64q hv, wf_i64q ho, h3⟩
  have hc : c = .agg _ := hc
  rw [hc]
  show AV.agg [i v, i o, .sl es.length es.flatten] = AV.agg [i v, i o, .sl L.length (fm rw_ L)]
  rw [h1, h2]
theorem light_len {s : Rk} (h : lightF s = true) : Len s ∧ s.l.length ≤ 200 := by
  unfold lightF at h
  split at h
  · cases h
  · rename_i hl
    refine ⟨⟨by omega, ?_⟩, by omega⟩
    intro r hr
    have := List.all_eq_true.1 h r hr
    simp only [fewF, Bool.and_eq_true, decide_eq_true_eq] at this
    omega
theorem wR_lenK {s : Rk} (h : Len s) (hw : wR s) : LenK s := ⟨h, fun r hr => ⟨fun t ht => ((hw r hr).1 t ht).1, fun t ht => ((hw r hr).2.1 t ht).1, fun t ht => ((hw r hr).2.2 t ht).1⟩⟩
theorem open_proof {c : AV} (h : PV Try.prog 6 43 c) : ∃ x y z : P3, c = pf x y z ∧ wP3 x ∧ wP3 y ∧ wP3 z := by
  obtain ⟨avs, ⟨a1, b1, rfl, h1, a2, b2, rfl, h2, a3, b3, rfl, h3, hb3⟩, hc⟩ := h
  have e3 : b3 = [] := hb3
  subst e3
  obtain ⟨x, rfl, wx⟩ := ta_pt h1
  obtain ⟨y, rfl, wy⟩ := ta_pt h2
  obtain ⟨z, rfl, wz⟩ := ta_pt h3
  exact ⟨x, y, z, hc, wx, wy, wz⟩
theorem open_draws {c : AV} (h : PV Try.prog 6 27 c) : ∃ al be ga de ta : Int, c = .agg [u al, u be, u ga, u de, u ta] ∧ w64 al ∧ w64 be ∧ w64 ga ∧ w64 de ∧ w64 ta := by
  obtain ⟨avs, ⟨a1, b1, rfl, ⟨v1, h1, rfl⟩, a2, b2, rfl, ⟨v2, h2, rfl⟩, a3, b3, rfl, ⟨v3, h3, rfl⟩, a4, b4, rfl, ⟨v4, h4, rfl⟩, a5, b5, rfl, ⟨v5, h5, rfl⟩, hb5⟩, hc⟩ := h
  have e5 : b5 = [] := hb5
  subst e5
  exact ⟨v1, v2, v3, v4, v5, hc, wf_w64q h1, wf_w64q h2, wf_w64q h3, wf_w64q h4, wf_w64q h5⟩
end Go.Proofs.Ytdbpjegocmdplaa.E.M

