/- The statement WalletPlans. -/
import Derived.Test.YtbpehniekpimdaaRows
import Derived.Test.YtbpehniekpimdaaWalD
import Derived.WalkKit
import Derived.ProofKit
import Derived.OpenShut
import Derived.ShutString
import Derived.ChangeOld
import Derived.Below
import Derived.SizedLaws
import Derived.Carry
import Derived.Lib.SmallJoins
namespace Go.Proofs.Ytbpehniekpimdaa.E.Wal
open Go Go.Proofs.Ytbpehniekpimdaa.E
set_option linter.unusedVariables false
theorem wf_w64 {a : Int} (h : (Lit.int .u64 a).wf = true) : w64 a := by
  simp [Lit.wf, IntKind.min, IntKind.max, IntKind.bits, IntKind.signed] at h
  unfold w64; omega
/-- a note that is held, as its cells -/
theorem ta_held {x : List AV} (h : TA Try.prog 5 35 x) : ∃ g : H, x = cells [g] ∧ w64 g.v := by
  obtain ⟨a, b, rfl, ⟨a1, b1, rfl, ⟨v, hv, rfl⟩, a2, b2, rfl, ⟨o, ho, rfl⟩, a3, b3, rfl, ⟨r, hr, rfl⟩, hb3⟩, a4, b4, rfl, ⟨t, ht, rfl⟩, a5, b5, rfl, ⟨s, rfl⟩, hb5⟩ := h
  have e3 : b3 = [] := hb3
  have e5 : b5 = [] := hb5
  subst e3 e5
  exact ⟨⟨v, o, r, t, s⟩, rfl, wf_w64 hv⟩
theorem ta_list : ∀ {es : List (List AV)}, (∀ x ∈ es, TA Try.prog 5 35 x) → ∃ L : List H, L.length = es.length ∧ cells L = es.flatten ∧ ∀ g ∈ L, w64 g.v
  | [], _ => ⟨[], rfl, rfl, by simp⟩
  | e :: es, h => by
    obtain ⟨g, rfl, hg⟩ := ta_held (h e List.mem_cons_self)
    obtain ⟨L, h1, h2, h3⟩ := ta_list fun x hx => h x (List.mem_cons_of_mem _ hx)
    refine ⟨g :: L, by simp [h1], by simp [cells, h2], ?_⟩
    intro g' hg'
    rcases List.mem_cons.1 hg' with rfl | hg'
    · exact hg
    · exact h3 _ hg'
theorem gh_all {L : List H} (h : ∀ g ∈ L, w64 g.v) (x : Nat) : w64 (gh L x).v := by
  unfold gh
  rw [List.getD_eq_getElem?_getD]
  cases hx : L[x]? with
  | none => exact ⟨by decide, by decide⟩
  | some g => exact h g (List.mem_of_getElem? hx)
theorem open_held {c : AV} (h : PV Try.prog 6 22 c) : ∃ L : List H, c = hs L ∧ L.length ≤ 9223372036854775807 ∧ ∀ x, w64 (gh L x).v := by
  obtain ⟨avs, ⟨es, hl, rfl, he⟩, hc⟩ := h
  have hc : [AV.sl es.length es.flatten] = [c] := hc
  simp only [List.cons.injEq, and_true] at hc
  subst hc
  obtain ⟨L, h1, h2, h3⟩ := ta_list he
  refine ⟨L, by rw [hs, h1, h2], by rw [h1]; exact hl, gh_all h3⟩
theorem open_u64 {c : AV} (h : PV Try.prog 6 23 c) : ∃ n, c = u n ∧ w64 n := by
  obtain ⟨avs, ⟨n, hn, rfl⟩, hc⟩ := h
  have hc : [AV.val (.int .u64 n)] = [c] := hc
  simp only [List.cons.injEq, and_true] at hc
  exact ⟨n, hc.symm, wf_w64 hn⟩
end Go.Proofs.Ytbpehniekpimdaa.E.Wal
namespace Go.Proofs.Ytbpehniekpimdaa.walletPlans
open Go.ChangeShapes Go.WideShapes Go.ChangeAt Go.RowKit Go.Proofs.Ytbpehniekpimdaa.E Go.Proofs.Ytbpehniekpimdaa.E.Wal
set_option linter.unusedVariables false
theorem own : ownKnob Try.prog.godebug = none := by kernel_rfl
theorem laidOut : laidOutB Try.prog = true := by kernel_rfl
set_option maxRecDepth 100000 in
theorem lifted (os : Os) (started : os.Started) (H : Type) (enc : TypeId × Value → H) :
    ReturnsInHanded {} Try.checked os 3 .any (Rows.walletPlansSpec.pre6 enc Try.prog Try.f3 Rows.walletPlansRow.domain false) (Rows.walletPlansSpec.post enc Try.prog Try.f3 false true false false) := by
  refine returnsInHanded_of_change_sized (C := Try.checked) own started (by kernel_rfl) Try.func3
    (ChangeSpec.witness6 (enc := enc) (C := Try.checked) false ⟨#[], #[.slice none 0 0, .int .u64 0], []⟩ 8 (by kernel_rfl) (by kernel_rfl) (by kernel_rfl) (by kernel_rfl)) ?_
  intro W base args ds gs before hval0 hW hcnd hsz0 _
  have hval : ∀ (j : Nat) t v, Try.f3.params[j]? = some t → args[j]? = some v → Value.okWide Try.prog W .any base t v := hval0
  have hW' := hW
  obtain ⟨p, q, hA0, hV, rfl, hfz, hnd⟩ := hW
  have hA : DataW.TrodAll enc Try.prog W 0 (fun _ => true) true Try.f3.params.toList args.toList ds p := hA0
  rw [Try.params3] at hA hval
  obtain ⟨v0, vs0, d0, ds0, p0, q0, hargs, rfl, rfl, h0, r0⟩ := trodAll_cons hA
  obtain ⟨v1, vs1, d1, ds1, p1, q1, rfl, rfl, rfl, h1, r1⟩ := trodAll_cons r0
  obtain ⟨rfl, rfl, rfl⟩ := trodAll_nil r1
  obtain rfl : args = #[v0, v1] := by cases args; simp_all
  obtain ⟨rfl, rfl⟩ := trodVars_none hV
  have k0 := h0
  have lt0 : ∀ x ∈ p0, x.block < W.heap.size := by obtain ⟨m, hm⟩ := k0; exact DataW.trod_lt m _ _ _ hm
  obtain ⟨c0, pv0, a0⟩ := open_arg 6 (t := 22) (by kernel_rfl) (hval 0 22 v0 rfl rfl) h0
  have k1 := h1
  have lt1 : ∀ x ∈ p1, x.block < W.heap.size := by obtain ⟨m, hm⟩ := k1; exact DataW.trod_lt m _ _ _ hm
  obtain ⟨c1, pv1, a1⟩ := open_arg 6 (t := 23) (by kernel_rfl) (hval 1 23 v1 rfl rfl) h1
  obtain ⟨L, rfl, hL, hv⟩ := open_held pv0
  obtain ⟨need, rfl, hn⟩ := open_u64 pv1
  clear hA0 hval0 hsz0
  refine (E.Fn.law (obollaw21_WalletPlans_c hL hn hv) (args := [v0, v1]) ⟨_, _, rfl, a0, _, _, rfl, a1, rfl⟩).mono fun e W' ⟨he, bel⟩ => ?_
  subst he
  exact ⟨_, rfl, _, _, _, [], _, [], hW', trodAll_mk1 (shut_bool Try.underlying4 _), (trodAll_cons_mk (Below.trod laidOut (by kernel_rfl) (of_decide_eq_true (by kernel_rfl)) k0 bel lt0) (trodAll_cons_mk (Below.trod laidOut (by kernel_rfl) (of_decide_eq_true (by kernel_rfl)) k1 bel lt1) trodAll_mk0)), rfl, bel.frame _, fun h => by cases h⟩
theorem over : Rows.walletPlansRow.holds Try.pinned (OpenSpec.ofChange Rows.walletPlansSpec) :=
  OpenClaim.holds_of_wide 3 Try.f3 rfl rfl rfl rfl rfl rfl rfl ⟨rfl, rfl, rfl, rfl, rfl⟩ rfl rfl rfl rfl rfl (by kernel_rfl) Try.func3 (by kernel_rfl)
    (of_decide_eq_true (by kernel_rfl)) (by unfold Func.isWrapper; first | (rw [if_pos (by decide +kernel)]; kernel_rfl) | (rw [if_neg (by decide +kernel)]; exact ⟨rfl, rfl⟩))
    (fun os started H enc _ => lifted os started H enc)
theorem proved : Rows.WalletPlansSaid := over
#print axioms proved
end Go.Proofs.Ytbpehniekpimdaa.walletPlans
namespace Go.Proofs.Ytbpehniekpimdaa
/-- The row, under a short name, for the claim. -/
theorem walletPlans_holds : Rows.WalletPlansSaid := walletPlans.proved
end Go.Proofs.Ytbpehniekpimdaa
