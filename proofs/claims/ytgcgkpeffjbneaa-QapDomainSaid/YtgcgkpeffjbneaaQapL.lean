/- What is handed in: systems, numbers; the document's examples of layer 14: contracts over E. -/
import Derived.Test.YtgcgkpeffjbneaaQapK
import Derived.Test.YtgcgkpeffjbneaaProg
import Derived.KernelRfl
set_option linter.unusedVariables false
set_option linter.unusedSimpArgs false
set_option maxRecDepth 10000
open Go Go.Proofs.Ytgcgkpeffjbneaa.E Go.Proofs
namespace Go.Proofs.Ytgcgkpeffjbneaa.E.M
abbrev i64b (a : Int) : Prop := -9223372036854775808 ≤ a ∧ a < 9223372036854775808
theorem wf_w64q {a : Int} (h : (Lit.int .u64 a).wf = true) : w64 a := by
  simp [Lit.wf, IntKind.min, IntKind.max, IntKind.bits, IntKind.signed] at h
  omega
theorem wf_i64q {a : Int} (h : (Lit.int .i64 a).wf = true) : i64b a := by
  simp [Lit.wf, IntKind.min, IntKind.max, IntKind.bits, IntKind.signed] at h
  unfold i64b
  omega
theorem open_u64q {c : AV} (h : PV Try.prog 6 36 c) : ∃ n, c = u n ∧ w64 n := by
  obtain ⟨avs, ⟨n, hn, rfl⟩, hc⟩ := h
  have hc : [AV.val (.int .u64 n)] = [c] := hc
  simp only [List.cons.injEq, and_true] at hc
  exact ⟨n, hc.symm, wf_w64q hn⟩
theorem open_intq {c : AV} (h : PV Try.prog 6 3 c) : ∃ n, c = i n ∧ i64b n := by
  obtain ⟨avs, ⟨n, hn, rfl⟩, hc⟩ := h
  have hc : [AV.val (.int .i64 n)] = [c] := hc
  simp only [List.cons.injEq, and_true] at hc
  exact ⟨n, hc.symm, wf_i64q hn⟩
theorem ta_u64s {k : Nat} : ∀ {es : List (List AV)}, (∀ x ∈ es, TA Try.prog (k + 1) 36 x) → ∃ L : List Int, L.length = es.length ∧ fm u1 L = es.flatten ∧ wV L
  | [], _ => ⟨[], rfl, rfl, by intro v hv; cases hv⟩
  | e :: es, h => by
    obtain ⟨g, hg, rfl⟩ := h e List.mem_cons_self
    obtain ⟨L, h1, h2, h3⟩ := ta_u64s fun x hx => h x (List.mem_cons_of_mem _ hx)
    refine ⟨g :: L, by simp [h1], by rw [List.flatten_cons, ← h2]; rfl, ?_⟩
    intro g' hg'
    rcases List.mem_cons.1 hg' with rfl | hg'
    · exact wf_w64q hg
    · exact h3 _ hg'
theorem open_u64s {c : AV} (h : PV Try.prog 6 34 c) : ∃ L : List Int, c = ul L ∧ L.length ≤ 9223372036854775807 ∧ wV L := by
  obtain ⟨avs, ⟨es, hl, rfl, he⟩, hc⟩ := h
  have hc : [AV.sl es.length es.flatten] = [c] := hc
  simp only [List.cons.injEq, and_true] at hc
  subst hc
  obtain ⟨L, h1, h2, h3⟩ := ta_u64s he
  exact ⟨L, by rw [ul_def, h1, h2], by rw [h1]; exact hl, h3⟩
theorem ta_terms {k : Nat} : ∀ {es : List (List AV)}, (∀ x ∈ es, TA Try.prog (k + 2) 51 x) → ∃ L : List Tm, L.length = es.length ∧ fm tm L = es.flatten ∧ wT L
  | [], _ => ⟨[], rfl, rfl, by intro v hv; cases hv⟩
  | e :: es, h => by
    obtain ⟨a1, b1, rfl, ⟨v, hv, rfl⟩, a2, b2, rfl, ⟨o, ho, rfl⟩, hb2⟩ := h e List.mem_cons_self
    have e2 : b2 = [] := hb2
    subst e2
    obtain ⟨L, h1, h2, h3⟩ := ta_terms fun x hx => h x (List.mem_cons_of_mem _ hx)
    refine ⟨⟨v, o⟩ :: L, by simp [h1], by rw [List.flatten_cons, ← h2]; rfl, ?_⟩
    intro g' hg'
    rcases List.mem_cons.1 hg' with rfl | hg'
    · exact wf_w64q ho
    · exact h3 _ hg'
theorem ta_terml {k : Nat} {x : List AV} (h : TA Try.prog (k + 3) 40 x) : ∃ L : List Tm, x = [slF tm L] ∧ wT L := by
  obtain ⟨es, hl, rfl, he⟩ := h
  obtain ⟨L, h1, h2, h3⟩ := ta_terms he
  exact ⟨L, by rw [show slF tm L = .sl L.length (fm tm L) from rfl, h1, h2], h3⟩
theorem ta_rows : ∀ {es : List (List AV)}, (∀ x ∈ es, TA Try.prog 4 42 x) → ∃ L : List Rw, L.length = es.length ∧ fm rw_ L = es.flatten ∧ ∀ r ∈ L, wT r.a ∧ wT r.b ∧ wT r.c
  | [], _ => ⟨[], rfl, rfl, by intro v hv; cases hv⟩
  | e :: es, h => by
    obtain ⟨a1, b1, rfl, h1, a2, b2, rfl, h2, a3, b3, rfl, h3, hb3⟩ := h e List.mem_cons_self
    have e3 : b3 = [] := hb3
    subst e3
    obtain ⟨A, rfl, wA⟩ := ta_terml (k := 0) h1
    obtain ⟨B, rfl, wB⟩ := ta_terml (k := 0) h2
    obtain ⟨C, rfl, wC⟩ := ta_terml (k := 0) h3
    obtain ⟨L, h1, h2, h3⟩ := ta_rows fun x hx => h x (List.mem_cons_of_mem _ hx)
    refine ⟨⟨A, B, C⟩ :: L, by simp [h1], by rw [List.flatten_cons, ← h2]; rfl, ?_⟩
    intro g' hg'
    rcases List.mem_cons.1 hg' with rfl | hg'
    · exact ⟨wA, wB, wC⟩
    · exact h3 _ hg'
theorem open_rank {c : AV} (h : PV Try.prog 6 25 c) : ∃ s : Rk, c = .agg (rk s) ∧ i64b s.v ∧ i64b s.p ∧ wR s := by
  obtain ⟨avs, ⟨a1, b1, rfl, ⟨v, hv, rfl⟩, a2, b2, rfl, ⟨o, ho, rfl⟩, a3, b3, rfl, ⟨es, hl, rfl, he⟩, hb3⟩, hc⟩ := h
  have e3 : b3 = [] := hb3
  subst e3
  obtain ⟨L, h1, h2, h3⟩ := ta_rows he
  refine ⟨⟨v, o, L⟩, ?_, wf_i64q hv, wf_i64q ho, h3⟩
  have hc : c = .agg _ := hc
  rw [hc]
  show AV.agg [i v, i o, .sl es.length es.flatten] = AV.agg [i v, i o, .sl L.length (fm rw_ L)]
  rw [h1, h2]
theorem light_len {s : Rk} (h : lightF s = true) : Len s ∧ s.l.length ≤ 200 := by
  unfold lightF at h
  split at h
  · cases h
  · rename_i hl
    refine ⟨⟨by omega, ?_⟩, by omega⟩
    intro r hr
    have := List.all_eq_true.1 h r hr
    simp only [fewF, Bool.and_eq_true, decide_eq_true_eq] at this
    omega
theorem wR_lenK {s : Rk} (h : Len s) (hw : wR s) : LenK s := ⟨h, fun r hr => ⟨fun t ht => ((hw r hr).1 t ht).1, fun t ht => ((hw r hr).2.1 t ht).1, fun t ht => ((hw r hr).2.2 t ht).1⟩⟩
abbrev tx : List Tm := [⟨0, 1⟩]
abbrev rx : Rw := ⟨tx, tx, tx⟩
abbrev sx (n : Nat) : Rk := ⟨1, 0, List.replicate n rx⟩
theorem sx_len (n : Nat) (h : n ≤ 5) : Len (sx n) := by
  refine ⟨by simp; omega, ?_⟩
  intro r hr
  rw [List.eq_of_mem_replicate hr]
  simp
theorem up_size0 : Fn Try.prog 7 [.agg [i 1, i 0, .val (.slice none 0 0)]] [] (fun r _ => r = .tup [i 0, nil_]) :=
  Fn.wk (as' := [.agg (rk (sx 0))]) (qap_Size_c (sx_len 0 (by decide))) (.cons (.agg (.cons (.refl _) (.cons (.refl _) (.cons .nilS .nil)))) .nil)
theorem up_size5 : Fn Try.prog 7 [.agg (rk (sx 5))] [] (fun r _ => r = .tup [i 3, nil_]) := qap_Size_c (sx_len 5 (by decide))
theorem up_quo : Fn Try.prog 15 [.agg (rk (sx 1)), ul [1]] [] (fun r _ => r = .tup [ul [], nil_]) := by
  have w1 : ∀ r ∈ (sx 1).l, wT r.a ∧ wT r.b ∧ wT r.c := by
    intro r hr
    rw [List.eq_of_mem_replicate hr]
    refine ⟨?_, ?_, ?_⟩ <;> (intro t ht; simp at ht; subst ht; decide)
  refine (qap_Quotient_o (k := 0) (N := 1) (sx_len 1 (by decide)) (by decide) w1 (by intro v hv; simp at hv; subst hv; decide) (by decide) ?_ (by decide) rfl).mono ?_
  · unfold holdsF
    rw [if_pos (by decide), if_neg (by decide)]
    show (if _ then _ else _) = _
    rw [if_pos (by decide)]
    rfl
  · have h1 : vanOk 1 (quoP (sx 1) [1]) = true := by decide +kernel
    have h2 : (quoP (sx 1) [1]).length = 1 := by decide +kernel
    rintro r h (⟨h, _⟩ | ⟨_, _, h⟩ | ⟨_, h, _⟩)
    · rw [h1] at h; cases h
    · exact h
    · rw [h2] at h; exact absurd h (Nat.lt_irrefl _)
set_option maxHeartbeats 4000000 in
theorem obollaw14_up_c : Fn Try.prog 6 [] [] (fun r h_ => r = bo true) := by
  refine Fn.enter Try.func6 Try.ntmps6 rfl (h := ?_)
  have tf := tf
  have ot_ : (false || true) = true := rfl
  have cq := up_quo
  have c0 := up_size0
  have c5 := up_size5
  have z1 : (1:Nat) ≤ 16777216 := by decide
  have z5 : (5:Nat) * 3 ≤ 16777216 := by decide
  have z6 : (15:Nat) ≤ 16777216 := by decide
  have z7 : (3:Nat) ≤ 16777216 := by decide
  have z8 : (2:Nat) ≤ 16777216 := by decide
  repeat refine AW.seq ?_
  refine AW.reg ?_
  iterate 1 refine AOL.s1 (h := ?_)
  refine AOL.nil ?_
  refine AW.kq [] (h := ?_)
  repeat refine AW.seq ?_
  refine AW.reg ?_
  iterate 9 refine AOL.s1 (h := ?_)
  refine AOL.nil ?_
  refine AW.kq [1] (h := ?_)
  refine AW.fz 1144 rfl (fun h => by cases h) (h := ?_)
  refine AW.fz 1176 rfl (fun h => by cases h) (h := ?_)
  refine AW.fz 1208 rfl (fun h => by cases h) (h := ?_)
  repeat refine AW.seq ?_
  refine AW.reg ?_
  iterate 1 refine AOL.s1 (h := ?_)
  refine AOL.callD rfl (c0) (by kernel_rfl) rfl rfl (h := ?_)
  iterate 5 refine AOL.s1 (h := ?_)
  refine AOL.nil ?_
  refine AW.kq [1, 2, 3] (h := ?_)
  repeat refine AW.seq ?_
  refine AW.reg ?_
  iterate 7 refine AOL.s1 (h := ?_)
  refine AOL.fz 1416 rfl (fun h => by cases h) (h := ?_)
  refine AOL.callD rfl (c5) (by kernel_rfl) rfl rfl (h := ?_)
  iterate 5 refine AOL.s1 (h := ?_)
  refine AOL.nil ?_
  refine AW.kq [1, 2, 3, 4, 5] (h := ?_)
  repeat refine AW.seq ?_
  refine AW.reg ?_
  iterate 4 refine AOL.s1 (h := ?_)
  refine AOL.fz 1528 rfl (fun h => by cases h) (h := ?_)
  refine AOL.fz 1560 rfl (fun h => by cases h) (h := ?_)
  refine AOL.callD rfl (cq) (by kernel_rfl) rfl rfl (h := ?_)
  iterate 5 refine AOL.s1 (h := ?_)
  refine AOL.nil ?_
  refine AW.kq [2, 3, 4, 5, 7] (h := ?_)
  repeat refine AW.seq ?_
  refine AW.reg ?_
  iterate 3 refine AOL.s1 (h := ?_)
  skip
  iterate 3 refine AOL.s1 (h := ?_)
  iterate 1 refine AOL.s1 (h := ?_)
  skip
  iterate 3 refine AOL.s1 (h := ?_)
  iterate 1 refine AOL.s1 (h := ?_)
  skip
  iterate 3 refine AOL.s1 (h := ?_)
  iterate 1 refine AOL.s1 (h := ?_)
  skip
  iterate 3 refine AOL.s1 (h := ?_)
  iterate 1 refine AOL.s1 (h := ?_)
  refine AOL.nil ?_
  refine AW.kq [0] (h := ?_)
  repeat refine AW.seq ?_
  refine AW.ret ?_
  refine ⟨_, [], rfl, HOk.nil _, ?_⟩
  rfl
end Go.Proofs.Ytgcgkpeffjbneaa.E.M

