/- What is handed in to WalletRight: numbers, transactions, a wish. -/
import Derived.Test.YthajlelljnkdiaaWlc
import Derived.Test.YthajlelljnkdiaaProg
import Derived.KernelRfl
set_option linter.unusedVariables false
set_option linter.unusedSimpArgs false
set_option maxRecDepth 10000
open Go Go.Proofs.Ythajlelljnkdiaa.E Go.Proofs
namespace Go.Proofs.Ythajlelljnkdiaa.E.M
theorem wf_b8 {a : Int} (h : (Lit.int .u8 a).wf = true) : 0 ≤ a ∧ a < 256 := by
  simp [Lit.wf, IntKind.min, IntKind.max, IntKind.bits, IntKind.signed] at h
  omega
theorem wf_w64q {a : Int} (h : (Lit.int .u64 a).wf = true) : w64 a := by
  simp [Lit.wf, IntKind.min, IntKind.max, IntKind.bits, IntKind.signed] at h
  exact ⟨h.1, by omega⟩
abbrev i64b (a : Int) : Prop := -9223372036854775808 ≤ a ∧ a < 9223372036854775808
theorem wf_i64q {a : Int} (h : (Lit.int .i64 a).wf = true) : i64b a := by
  simp [Lit.wf, IntKind.min, IntKind.max, IntKind.bits, IntKind.signed] at h
  exact ⟨h.1, by omega⟩
theorem open_intq {c : AV} (h : PV Try.prog 6 3 c) : ∃ n, c = i n ∧ i64b n := by
  obtain ⟨avs, ⟨n, hn, rfl⟩, hc⟩ := h
  have hc : [AV.val (.int .i64 n)] = [c] := hc
  simp only [List.cons.injEq, and_true] at hc
  exact ⟨n, hc.symm, wf_i64q hn⟩
theorem ta_u8s : ∀ {es : List (List AV)}, (∀ x ∈ es, TA Try.prog 1 5 x) → ∃ L : List Int, L.length = es.length ∧ by8 L = es.flatten ∧ dig L
  | [], _ => ⟨[], rfl, rfl, fun v hv => by cases hv⟩
  | e :: es, h => by
    obtain ⟨g, hg, rfl⟩ := h e List.mem_cons_self
    obtain ⟨L, h1, h2, h3⟩ := ta_u8s fun x hx => h x (List.mem_cons_of_mem _ hx)
    refine ⟨g :: L, by simp [h1], by rw [List.flatten_cons, ← h2]; rfl, ?_⟩
    intro g' hg'
    rcases List.mem_cons.1 hg' with rfl | hg'
    · exact wf_b8 hg
    · exact h3 _ hg'
theorem ta_ed {k : Nat} {x : List AV} (h : TA Try.prog (k + 2) 25 x) : ∃ p : Int × Int, x = [u p.1, u p.2] ∧ wE p := by
  obtain ⟨_, _, rfl, ⟨v1, h1, rfl⟩, _, _, rfl, ⟨v2, h2, rfl⟩, hb⟩ := h
  cases hb
  exact ⟨(v1, v2), rfl, wf_w64q h1, wf_w64q h2⟩
theorem ta_pt {k : Nat} {x : List AV} (h : TA Try.prog (k + 2) 63 x) : ∃ a b c : AV, x = [a, b, c] := by
  obtain ⟨_, _, rfl, ⟨v1, rfl⟩, _, _, rfl, ⟨v2, _, rfl⟩, _, _, rfl, ⟨v3, _, rfl⟩, hb⟩ := h
  cases hb
  exact ⟨_, _, _, rfl⟩
theorem ta_sealed {x : List AV} (h : TA Try.prog 3 59 x) : ∃ s : Sd, x = [u s.1.1, u s.1.2, sl8 s.2] ∧ wE s.1 ∧ dig s.2 := by
  obtain ⟨_, _, rfl, h1, _, _, rfl, ⟨es, hl, rfl, he⟩, hb⟩ := h
  cases hb
  obtain ⟨p, rfl, wp⟩ := ta_ed (k := 0) h1
  obtain ⟨L, l1, l2, l3⟩ := ta_u8s he
  exact ⟨(p, L), by rw [← l1, ← l2]; rfl, wp, l3⟩
theorem ta_two {k : Nat} {x : List AV} (h : TA Try.prog (k + 2) 60 x) : ∃ a b : Int, x = [u a, u b] ∧ w64 a ∧ w64 b := by
  obtain ⟨_, _, rfl, ⟨v1, h1, rfl⟩, _, _, rfl, ⟨v2, h2, rfl⟩, hb⟩ := h
  cases hb
  exact ⟨_, _, rfl, wf_w64q h1, wf_w64q h2⟩
theorem ta_seals {x : List AV} (h : TA Try.prog 4 61 x) : ∃ s t : Sd, x = [u s.1.1, u s.1.2, sl8 s.2, u t.1.1, u t.1.2, sl8 t.2] ∧ wE s.1 ∧ dig s.2 ∧ wE t.1 ∧ dig t.2 := by
  obtain ⟨_, _, rfl, h1, _, _, rfl, h2, hb⟩ := h
  cases hb
  obtain ⟨s, rfl, a1, a2⟩ := ta_sealed h1
  obtain ⟨t, rfl, b1, b2⟩ := ta_sealed h2
  exact ⟨s, t, rfl, a1, a2, b1, b2⟩
theorem ta_proof {x : List AV} (h : TA Try.prog 4 65 x) : ∃ q0 q1 q2 q3 q4 q5 q6 q7 q8 : AV, x = [q0, q1, q2, q3, q4, q5, q6, q7, q8] := by
  obtain ⟨_, _, rfl, h1, _, _, rfl, h2, _, _, rfl, h3, hb⟩ := h
  cases hb
  obtain ⟨_, _, _, rfl⟩ := ta_pt (k := 1) h1
  obtain ⟨_, _, _, rfl⟩ := ta_pt (k := 1) h2
  obtain ⟨_, _, _, rfl⟩ := ta_pt (k := 1) h3
  exact ⟨_, _, _, _, _, _, _, _, _, rfl⟩
theorem ta_sig {x : List AV} (h : TA Try.prog 4 67 x) : ∃ q0 q1 q2 : AV, x = [q0, q1, q2] := by
  obtain ⟨_, _, rfl, h1, _, _, rfl, ⟨v2, _, rfl⟩, hb⟩ := h
  cases hb
  obtain ⟨p, rfl, _⟩ := ta_ed (k := 1) h1
  exact ⟨_, _, _, rfl⟩
theorem ta_tx {x : List AV} (h : TA Try.prog 5 69 x) : ∃ t : Tx, x = txc t ∧ wTx t := by
  obtain ⟨_, _, rfl, ⟨v1, _, rfl⟩, _, _, rfl, ⟨v2, _, rfl⟩, _, _, rfl, ⟨v3, _, rfl⟩, _, _, rfl, h4, _, _, rfl, h5, _, _, rfl, ⟨v6, _, rfl⟩, _, _, rfl, h7, _, _, rfl, h8, _, _, rfl, h9, _, _, rfl, h10, _, _, rfl, h11, _, _, rfl, h12, hb⟩ := h
  cases hb
  obtain ⟨p4, rfl, _⟩ := ta_ed (k := 2) h4
  obtain ⟨p5, rfl, _⟩ := ta_ed (k := 2) h5
  obtain ⟨e0, e1, rfl, we0, we1⟩ := ta_two (k := 2) h7
  obtain ⟨m0, m1, rfl, wm0, wm1⟩ := ta_two (k := 2) h8
  obtain ⟨s0, s1, rfl, w1, w2, w3, w4⟩ := ta_seals h9
  obtain ⟨r0, r1, rfl, _, _⟩ := ta_two (k := 2) h10
  obtain ⟨q0, q1, q2, q3, q4, q5, q6, q7, q8, rfl⟩ := ta_proof h11
  obtain ⟨z0, z1, z2, rfl⟩ := ta_sig h12
  exact ⟨⟨u v1, u v2, u v3, u p4.1, u p4.2, u p5.1, u p5.2, u v6, e0, e1, m0, m1, s0, s1, u r0, u r1, q0, q1, q2, q3, q4, q5, q6, q7, q8, z0, z1, z2⟩, rfl, we0, we1, wm0, wm1, w1, w2, w3, w4⟩
theorem ta_txs : ∀ {es : List (List AV)}, (∀ x ∈ es, TA Try.prog 5 69 x) → ∃ L : List Tx, L.length = es.length ∧ fm txc L = es.flatten ∧ ∀ t ∈ L, wTx t
  | [], _ => ⟨[], rfl, rfl, fun v hv => by cases hv⟩
  | e :: es, h => by
    obtain ⟨g, rfl, hg⟩ := ta_tx (h e List.mem_cons_self)
    obtain ⟨L, h1, h2, h3⟩ := ta_txs fun x hx => h x (List.mem_cons_of_mem _ hx)
    refine ⟨g :: L, by simp [h1], by rw [List.flatten_cons, ← h2]; rfl, ?_⟩
    intro g' hg'
    rcases List.mem_cons.1 hg' with rfl | hg'
    · exact hg
    · exact h3 _ hg'
theorem open_txs {c : AV} (h : PV Try.prog 6 22 c) : ∃ L : List Tx, c = slF txc L ∧ ∀ t ∈ L, wTx t := by
  obtain ⟨avs, ⟨es, hl, rfl, he⟩, hc⟩ := h
  have hc : [AV.sl es.length es.flatten] = [c] := hc
  simp only [List.cons.injEq, and_true] at hc
  subst hc
  obtain ⟨L, h1, h2, h3⟩ := ta_txs he
  exact ⟨L, by rw [← h1, ← h2], h3⟩
theorem ta_eight {x : List AV} (h : TA Try.prog 5 28 x) : ∃ d0 d1 d2 d3 d4 d5 d6 d7 : Int, x = [u d0, u d1, u d2, u d3, u d4, u d5, u d6, u d7] ∧ w64 d0 ∧ w64 d1 ∧ w64 d2 ∧ w64 d3 ∧ w64 d4 ∧ w64 d5 ∧ w64 d6 ∧ w64 d7 := by
  obtain ⟨_, _, rfl, ⟨v0, h0, rfl⟩, _, _, rfl, ⟨v1, h1, rfl⟩, _, _, rfl, ⟨v2, h2, rfl⟩, _, _, rfl, ⟨v3, h3, rfl⟩, _, _, rfl, ⟨v4, h4, rfl⟩, _, _, rfl, ⟨v5, h5, rfl⟩, _, _, rfl, ⟨v6, h6, rfl⟩, _, _, rfl, ⟨v7, h7, rfl⟩, hb⟩ := h
  cases hb
  exact ⟨_, _, _, _, _, _, _, _, rfl, wf_w64q h0, wf_w64q h1, wf_w64q h2, wf_w64q h3, wf_w64q h4, wf_w64q h5, wf_w64q h6, wf_w64q h7⟩
theorem ta_addr {x : List AV} (h : TA Try.prog 5 27 x) : ∃ (o : Int) (p : Int × Int), x = [u o, u p.1, u p.2] ∧ w64 o ∧ wE p := by
  obtain ⟨_, _, rfl, ⟨v1, h1, rfl⟩, _, _, rfl, h2, hb⟩ := h
  cases hb
  obtain ⟨p, rfl, wp⟩ := ta_ed (k := 2) h2
  exact ⟨_, _, rfl, wf_w64q h1, wp⟩
theorem open_wish {c : AV} (h : PV Try.prog 6 30 c) : ∃ w : Ws, c = .agg (wsc w) ∧ wWs w := by
  obtain ⟨avs, ⟨_, _, rfl, ⟨v1, h1, rfl⟩, _, _, rfl, ⟨v2, h2, rfl⟩, _, _, rfl, ⟨v3, h3, rfl⟩, _, _, rfl, ⟨v4, h4, rfl⟩, _, _, rfl, ⟨v5, h5, rfl⟩, _, _, rfl, h6, _, _, rfl, ⟨v7, h7, rfl⟩, _, _, rfl, h8, _, _, rfl, h9, hb⟩, hc⟩ := h
  cases hb
  obtain ⟨p6, rfl, w6⟩ := ta_ed (k := 3) h6
  obtain ⟨o8, p8, rfl, w8, w9⟩ := ta_addr h8
  obtain ⟨d0, d1, d2, d3, d4, d5, d6, d7, rfl, e0, e1, e2, e3, e4, e5, e6, e7⟩ := ta_eight h9
  exact ⟨⟨v1, v2, v3, v4, v5, p6, v7, o8, p8, d0, d1, d2, d3, d4, d5, d6, d7⟩, hc, wf_w64q h1, wf_w64q h2, wf_w64q h3, wf_w64q h4, wf_w64q h5, w6, wf_w64q h7, w8, w9, e0, e1, e2, e3, e4, e5, e6, e7⟩
end Go.Proofs.Ythajlelljnkdiaa.E.M

