/- Texts joined: ZTGroH, ZTGroI, ZTGroJ, ZTGroK, ZTGroL, ZTGroM, ZTPairE, ZTGrpA, ZTGrpB, ZTQuad, ZTPairF. -/
import Derived.Test.YtdbpjegocmdplaaZU9
import Derived.Test.YtdbpjegocmdplaaProg
import Derived.KernelRfl
import Derived.Test.YtdbpjegocmdplaaZU1
import Derived.Test.YtdbpjegocmdplaaZU5
section
/- The document's example, by which all statements of the layer begin: a contract over E. -/
set_option linter.unusedVariables false
set_option linter.unusedSimpArgs false
set_option maxRecDepth 10000
open Go Go.Proofs.Ytdbpjegocmdplaa.E Go.Proofs
namespace Go.Proofs.Ytdbpjegocmdplaa.E.M
abbrev uA : P3 := (false, 390142022856864031, 619416464133550328)
abbrev uB : P3 := (false, 990816189318049492, 478270375491607323)
abbrev uG : P3 := (false, 607770835786549790, 462934026441976783)
abbrev uD : P3 := (false, 161820438288270125, 159915574753481379)
abbrev uLA : List P3 := [(true, 0, 0), (true, 0, 0), (false, 247390119040843104, 830327839767444578), (true, 0, 0)]
abbrev uLB : List P3 := [(true, 0, 0), (true, 0, 0), (true, 0, 0), (false, 247390119040843104, 830327839767444578)]
abbrev uLL : List P3 := [(false, 80253235902019092, 846098853205030436), (false, 568824817186724143, 949590028944829181)]
abbrev uIC : List P3 := [(true, 0, 0), (false, 173250950867901686, 325310901446581731)]
abbrev xA : P3 := (false, 767482899265036410, 800092554803567318)
abbrev xB : P3 := (false, 495335676311527978, 144734656031018301)
abbrev xC : P3 := (false, 348837076355219783, 452192841222597849)
abbrev prS : Rk := ⟨4, 1, [⟨[⟨2, 1⟩], [⟨3, 1⟩], [⟨1, 1⟩]⟩]⟩
theorem pr_len : Len prS := ⟨by decide, by intro r hr; simp at hr; subst hr; exact ⟨by decide, by decide, by decide⟩⟩
theorem pr_w : wR prS := by
  intro r hr; simp at hr; subst hr
  refine ⟨?_, ?_, ?_⟩ <;> (intro t ht; simp at ht; subst ht; decide)
theorem pr_chk : chkF prS = true := by decide
theorem pr_lg : lg prS.l.length = 0 := by decide
theorem pr_a : atL Rw.a prS 13 = [0, 0, 1, 0] := by decide +kernel
theorem pr_b : atL Rw.b prS 13 = [0, 0, 0, 1] := by decide +kernel
theorem pr_c : atL Rw.c prS 13 = [0, 1, 0, 0] := by decide +kernel
theorem pr_z : zF 0 13 = 12 := by decide +kernel
theorem pr_z1 : zF 0 1 = 0 := by decide +kernel
theorem up_gA : gT 3 = uA := by decide +kernel
theorem up_gB : gT 5 = uB := by decide +kernel
theorem up_gG : gT 7 = uG := by decide +kernel
theorem up_gD : gT 11 = uD := by decide +kernel
theorem up_LA : aT [0, 0, 1, 0] 4 = uLA := by decide +kernel
theorem up_LB : aT [0, 0, 0, 1] 4 = uLB := by decide +kernel
theorem up_LL : lT 1 3 5 (ipow 288230376287764481 11 288230376287764479) [0, 0, 1, 0] [0, 0, 0, 1] [0, 1, 0, 0] 4 = uLL := by decide +kernel
theorem up_IC : iT 1 3 5 (ipow 288230376287764481 7 288230376287764479) [0, 0, 1, 0] [0, 0, 0, 1] [0, 1, 0, 0] 4 = uIC := by decide +kernel
theorem up_set : Fn Try.prog 9 [.agg (rk prS), .agg [u 3, u 5, u 7, u 11, u 13]] [] (fun r _ => r = .tup [.agg (pkc uA uB uD uLA uLB uLL []), .agg (vkc uA uB uG uD uIC), nil_]) := by
  have c := groth_Setup_c (s := prS) (al := 3) (be := 5) (ga := 7) (de := 11) (ta := 13) pr_len (by decide) (by decide) (by decide) (by decide) (by decide)
  refine c.mono ?_
  rintro r _ rfl
  unfold setF
  rw [if_neg (by rw [pr_chk]; decide), if_neg (by decide), if_neg (by rw [pr_lg, pr_z]; decide)]
  rw [pr_lg, pr_a, pr_b, pr_c, pr_z]
  unfold keysF
  rw [up_gA, up_gB, up_gG, up_gD]
  rw [show (prS.v).toNat = 4 from rfl, show prS.p = 1 from rfl, up_LA, up_LB, up_LL, up_IC]
  rfl
theorem up_set1 : Fn Try.prog 9 [.agg (rk prS), .agg [u 3, u 5, u 7, u 11, u 1]] [] (fun r _ => r = .tup [.agg zP, .agg zV, er 7]) := by
  have c := groth_Setup_c (s := prS) (al := 3) (be := 5) (ga := 7) (de := 11) (ta := 1) pr_len (by decide) (by decide) (by decide) (by decide) (by decide)
  refine c.mono ?_
  rintro r _ rfl
  unfold setF
  rw [if_neg (by rw [pr_chk]; decide), if_neg (by decide), if_pos (by rw [pr_lg, pr_z1]; decide)]
theorem pr_holds : holdsF prS [1, 12, 3, 4] = nil_ := by
  unfold holdsF
  rw [if_pos pr_chk, if_neg (by decide)]
  show (if _ then _ else _) = _
  rw [if_pos (by decide)]
  rfl
theorem pr_van : vanOk (2 ^ lg prS.l.length) (quoP prS [1, 12, 3, 4]) = true := by decide +kernel
theorem pr_hs : hsF prS [1, 12, 3, 4] = [] := by decide +kernel
theorem up_xA : proA uA uD uLA [1, 12, 3, 4] 17 = xA := by decide +kernel
theorem up_xB : proA uB uD uLB [1, 12, 3, 4] 19 = xB := by decide +kernel
theorem up_xC : proC uD xA xB uLL [] 1 [1, 12, 3, 4] [] 17 19 = xC := by decide +kernel
theorem w4 : wV [1, 12, 3, 4] := by intro v hv; simp at hv; rcases hv with rfl | rfl | rfl | rfl <;> decide
theorem up_pro : Fn Try.prog 10 [.agg (pkc uA uB uD uLA uLB uLL []), .agg (rk prS), ul [1, 12, 3, 4], u 17, u 19] [] (fun r _ => r = .tup [pf xA xB xC, nil_]) := by
  have cq := quo_ok (s := prS) (V := [1, 12, 3, 4]) pr_len pr_w w4 (by decide) pr_chk pr_holds pr_van
  rw [pr_hs] at cq
  have c := groth_Prove_o (s := prS) (pa := uA) (pb := uB) (pd := uD) (LA := uLA) (LB := uLB) (LL := uLL) (LH := []) (V := [1, 12, 3, 4]) (H := []) (r := 17) (t := 19) pr_len pr_chk cq (by decide) (by decide) (by decide) (by decide) (by decide) (by decide) (by decide) rfl rfl rfl (by decide) w4 rfl (by decide) (by decide) (by decide) (by decide)
  refine c.mono ?_
  rintro r _ rfl
  rw [if_neg (by decide), up_xA, up_xB, show (prS.p).toNat = 1 from rfl, up_xC]
theorem up_p1 : prodV [xA, negG uA, negG (togF (true, 0, 0) [(false, 173250950867901686, 325310901446581731)] [12]), negG xC] [xB, uB, uG, uD] = ((1, 0), true) := by decide +kernel
theorem up_p2 : ¬ (prodV [xA, negG uA, negG (togF (true, 0, 0) [(false, 173250950867901686, 325310901446581731)] [13]), negG xC] [xB, uB, uG, uD]).1 = (1, 0) := by decide +kernel
theorem up_in : ((uA :: uB :: uG :: uD :: uIC).any fun g => !inG g) = false := by decide +kernel
theorem up_in2 : (!inG xA || !inG xB || !inG xC) = false := by decide +kernel
theorem up_v1 : verF uA uB uG uD uIC [12] xA xB xC = nil_ := by
  unfold verF
  rw [if_neg (by decide), if_neg (by rw [up_in]; decide), if_neg (by rw [up_in2]; decide)]
  unfold eqF
  show (match prodV [xA, negG uA, negG (togF (true, 0, 0) [(false, 173250950867901686, 325310901446581731)] [12]), negG xC] [xB, uB, uG, uD] with | (_, false) => er 9 | (e, true) => if e = (1, 0) then nil_ else er 9) = nil_
  rw [up_p1]
  rfl
theorem up_v2 : verF uA uB uG uD uIC [13] xA xB xC = er 9 := by
  unfold verF
  rw [if_neg (by decide), if_neg (by rw [up_in]; decide), if_neg (by rw [up_in2]; decide)]
  unfold eqF
  show (match prodV [xA, negG uA, negG (togF (true, 0, 0) [(false, 173250950867901686, 325310901446581731)] [13]), negG xC] [xB, uB, uG, uD] with | (_, false) => er 9 | (e, true) => if e = (1, 0) then nil_ else er 9) = er 9
  have h := up_p2
  generalize prodV [xA, negG uA, negG (togF (true, 0, 0) [(false, 173250950867901686, 325310901446581731)] [13]), negG xC] [xB, uB, uG, uD] = e at *
  obtain ⟨e, o⟩ := e
  cases o
  · rfl
  · exact if_neg h
theorem w1_ {v : Int} (h : w64 v) : wV [v] := by intro w hw; simp at hw; subst hw; exact h
theorem up_ver1 : Fn Try.prog 11 [.agg (vkc uA uB uG uD uIC), ul [12], pf xA xB xC] [] (fun r _ => r = nil_) := by
  have c := groth_Verify_c (A := uA) (B := uB) (C := uG) (D := uD) (I := uIC) (V := [12]) (a := xA) (b := xB) (c := xC) (by decide) (by decide) (by decide) (by decide) (by decide) (by decide) (w1_ (by decide)) (by decide) (by decide) (by decide) (by decide)
  rw [up_v1] at c
  exact c
theorem up_ver2 : Fn Try.prog 11 [.agg (vkc uA uB uG uD uIC), ul [13], pf xA xB xC] [] (fun r _ => r = er 9) := by
  have c := groth_Verify_c (A := uA) (B := uB) (C := uG) (D := uD) (I := uIC) (V := [13]) (a := xA) (b := xB) (c := xC) (by decide) (by decide) (by decide) (by decide) (by decide) (by decide) (w1_ (by decide)) (by decide) (by decide) (by decide) (by decide)
  rw [up_v2] at c
  exact c
set_option maxHeartbeats 4000000 in
theorem obollaw15_product_c : Fn Try.prog 18 [] [] (fun r _ => r = .agg (rk prS)) := by
  refine Fn.enter Try.func18 Try.ntmps18 rfl (h := ?_)
  have tf := tf
  have tfr := tfr
  repeat refine AW.seq ?_
  refine AW.reg ?_
  iterate 1 refine AOL.s1 (h := ?_)
  refine AOL.nil ?_
  refine AW.kq [0] (h := ?_)
  repeat refine AW.seq ?_
  refine AW.reg ?_
  iterate 2 refine AOL.s1 (h := ?_)
  refine AOL.fz 1032 rfl (fun h => by cases h) (h := ?_)
  iterate 2 refine AOL.s1 (h := ?_)
  refine AOL.fz 1064 rfl (fun h => by cases h) (h := ?_)
  iterate 2 refine AOL.s1 (h := ?_)
  refine AOL.fz 1096 rfl (fun h => by cases h) (h := ?_)
  iterate 2 refine AOL.s1 (h := ?_)
  refine AOL.fz 1128 rfl (fun h => by cases h) (h := ?_)
  iterate 2 refine AOL.s1 (h := ?_)
  refine AOL.nil ?_
  refine AW.kq [0] (h := ?_)
  repeat refine AW.seq ?_
  refine AW.ret ?_
  refine ⟨_, [], rfl, HOk.nil _, ?_⟩
  rfl
theorem obollaw15_draws_c : Fn Try.prog 19 [] [] (fun r _ => r = .agg [u 3, u 5, u 7, u 11, u 13]) := by
  refine Fn.enter Try.func19 Try.ntmps19 rfl (h := ?_)
  have tf := tf
  have tfr := tfr
  have tfg := tfg
  repeat refine AW.seq ?_
  refine AW.reg ?_
  iterate 1 refine AOL.s1 (h := ?_)
  refine AOL.nil ?_
  refine AW.kq [0] (h := ?_)
  repeat refine AW.seq ?_
  refine AW.reg ?_
  iterate 2 refine AOL.s1 (h := ?_)
  refine AOL.nil ?_
  refine AW.kq [0] (h := ?_)
  repeat refine AW.seq ?_
  refine AW.ret ?_
  refine ⟨_, [], rfl, HOk.nil _, ?_⟩
  rfl
set_option maxHeartbeats 16000000 in
theorem obollaw15_up_c : Fn Try.prog 7 [] [] (fun r _ => r = bo true) := by
  have c1 := obollaw15_product_c
  have c2 := obollaw15_draws_c
  have c3 := up_set
  have c4 := up_pro
  have c5 := up_set1
  have c6 := up_ver1
  have c7 := up_ver2
  refine Fn.enter Try.func7 Try.ntmps7 rfl (h := ?_)
  have tf := tf
  have tfr := tfr
  have tfl := tfl
  have tfg := tfg
  have ot_ : (false || true) = true := rfl
  repeat refine AW.seq ?_
  refine AW.reg ?_
  iterate 1 refine AOL.s1 (h := ?_)
  refine AOL.nil ?_
  refine AW.kq [] (h := ?_)
  repeat refine AW.seq ?_
  refine AW.reg ?_
  refine AOL.callD rfl (c1) (by kernel_rfl) rfl rfl (h := ?_)
  refine AOL.callD rfl (c2) (by kernel_rfl) rfl rfl (h := ?_)
  refine AOL.callD rfl (c3) (by kernel_rfl) rfl rfl (h := ?_)
  iterate 9 refine AOL.s1 (h := ?_)
  refine AOL.nil ?_
  refine AW.kq [1, 2, 3] (h := ?_)
  repeat refine AW.seq ?_
  refine AW.db [(8, 1064, ⟨43, true, pfc xA xB xC⟩)] 9 [1064] (by kernel_rfl) (h := ?_)
  iterate 1 refine ADLB.d1 (h := ?_)
  refine ADLB.call rfl rfl (c1) (by kernel_rfl) rfl rfl (by simp only [List.cons_append, List.nil_append]; exact rfl) ?_
  iterate 1 refine ADLB.d1 (h := ?_)
  refine ADLB.call rfl rfl (c4) (by kernel_rfl) rfl rfl (by simp only [List.cons_append, List.nil_append]; exact rfl) ?_
  iterate 4 refine ADLB.d1 (h := ?_)
  refine ADLB.sb 7 (h := ?_)
  refine ADLB.fin hmix rfl rfl rfl rfl (hT := ?_)
  iterate 1 refine AOL.s1 (h := ?_)
  refine AOL.nil ?_
  refine AW.kq [2, 3, 4, 5] (h := ?_)
  repeat refine AW.seq ?_
  refine AW.reg ?_
  refine AOL.callD rfl (c2) (by kernel_rfl) rfl rfl (h := ?_)
  iterate 2 refine AOL.s1 (h := ?_)
  refine AOL.nil ?_
  refine AW.kq [2, 3, 4, 5, 6] (h := ?_)
  repeat refine AW.seq ?_
  refine AW.reg ?_
  iterate 2 refine AOL.s1 (h := ?_)
  refine AOL.nil ?_
  refine AW.kq [2, 3, 4, 5, 6] (h := ?_)
  repeat refine AW.seq ?_
  refine AW.db [(9, 1112, ⟨35, true, zP⟩), (10, 1128, ⟨37, true, zV⟩)] 11 [1112, 1128] (by kernel_rfl) (h := ?_)
  refine ADLB.call rfl rfl (c1) (by kernel_rfl) rfl rfl (by simp only [List.cons_append, List.nil_append]; exact rfl) ?_
  iterate 1 refine ADLB.d1 (h := ?_)
  refine ADLB.call rfl rfl (c5) (by kernel_rfl) rfl rfl (by simp only [List.cons_append, List.nil_append]; exact rfl) ?_
  iterate 6 refine ADLB.d1 (h := ?_)
  refine ADLB.sb 7 (h := ?_)
  refine ADLB.sb 8 (h := ?_)
  refine ADLB.fin hmix rfl rfl rfl rfl (hT := ?_)
  iterate 1 refine AOL.s1 (h := ?_)
  refine AOL.nil ?_
  refine AW.kq [2, 3, 4, 5, 9] (h := ?_)
  repeat refine AW.seq ?_
  refine AW.reg ?_
  iterate 14 refine AOL.s1 (h := ?_)
  refine AOL.fz 1736 rfl (fun h => by cases h) (h := ?_)
  iterate 1 refine AOL.s1 (h := ?_)
  refine AOL.callD rfl (c6) (by kernel_rfl) rfl rfl (h := ?_)
  iterate 5 refine AOL.s1 (h := ?_)
  refine AOL.fz 1848 rfl (fun h => by cases h) (h := ?_)
  iterate 1 refine AOL.s1 (h := ?_)
  refine AOL.callD rfl (c7) (by kernel_rfl) rfl rfl (h := ?_)
  iterate 4 refine AOL.s1 (h := ?_)
  refine AOL.nil ?_
  refine AW.kq [0] (h := ?_)
  repeat refine AW.seq ?_
  refine AW.ret ?_
  refine ⟨_, [], rfl, HOk.nil _, ?_⟩
  rfl
end Go.Proofs.Ytdbpjegocmdplaa.E.M
end
section
/- The statement GrothWrites over E. -/
set_option linter.unusedVariables false
set_option linter.unusedSimpArgs false
set_option maxRecDepth 10000
open Go Go.Proofs.Ytdbpjegocmdplaa.E Go.Proofs
namespace Go.Proofs.Ytdbpjegocmdplaa.E.M
end Go.Proofs.Ytdbpjegocmdplaa.E.M
end
section
/- The statement GrothReads over E. -/
set_option linter.unusedVariables false
set_option linter.unusedSimpArgs false
set_option maxRecDepth 10000
open Go Go.Proofs.Ytdbpjegocmdplaa.E Go.Proofs
namespace Go.Proofs.Ytdbpjegocmdplaa.E.M
def fromQ : Nat → Nat → P3 → P3 → P3 → List Int → Option (P3 × P3 × P3)
  | 0, _, x, y, z, r => if r = [] then some (x, y, z) else none
  | k + 1, j, x, y, z, r => match oneR r with
    | none => none
    | some (a, r') => fromQ k (j + 1) (if j = 0 then a else x) (if j = 1 then a else y) (if j = 2 then a else z) r'
def qR : Option (P3 × P3 × P3) → AV
  | none => failR
  | some (x, y, z) => .tup [pf x y z, nil_]
theorem fromR_Q : ∀ (k j : Nat) (x y z : P3) (r : List Int), fromR k j x y z r = qR (fromQ k j x y z r)
  | 0, j, x, y, z, r => by
    simp only [fromR, fromQ]
    split <;> rfl
  | k + 1, j, x, y, z, r => by
    simp only [fromR, fromQ]
    cases oneR r with
    | none => rfl
    | some p => obtain ⟨a, r'⟩ := p; exact fromR_Q k (j + 1) _ _ _ r'
theorem eqPf : eqT Try.prog 43 = some [.bool, .int, .int, .bool, .int, .int, .bool, .int, .int] := eqT_of (by kernel_rfl) (by kernel_rfl) (by kernel_rfl)
end Go.Proofs.Ytdbpjegocmdplaa.E.M
end
section
/- The statement GrothStays over E. -/
set_option linter.unusedVariables false
set_option linter.unusedSimpArgs false
set_option maxRecDepth 10000
open Go Go.Proofs.Ytdbpjegocmdplaa.E Go.Proofs
namespace Go.Proofs.Ytdbpjegocmdplaa.E.M
def smallG (s : Rk) : Bool := light14 s && (decide (s.v ≤ 12) || decide (s.v > 4096))
set_option maxHeartbeats 4000000 in
theorem obollaw15_small_c {s : Rk} : Fn Try.prog 8 [.agg (rk s)] [] (fun r _ => r = bo (smallG s)) := by
  have cl := obolref14_Light_c (s := s)
  unfold smallG
  refine Fn.enter Try.func8 Try.ntmps8 rfl (h := ?_)
  have tf := tf
  have tfr := tfr
  have ot_ : (false || true) = true := rfl
  have bt : (true == true) = true := rfl
  have ft : (false == true) = false := rfl
  have tf_ : (true == false) = false := rfl
  have ff : (false == false) = true := rfl
  generalize light14 s = l at *
  obtain ⟨sv, sp, sl_⟩ := s
  simp only
  repeat refine AW.seq ?_
  refine AW.reg ?_
  iterate 2 refine AOL.s1 (h := ?_)
  refine AOL.nil ?_
  refine AW.kq [1] (h := ?_)
  repeat refine AW.seq ?_
  refine AW.reg ?_
  iterate 1 refine AOL.s1 (h := ?_)
  refine AOL.callD rfl (cl) (by kernel_rfl) rfl rfl (h := ?_)
  iterate 1 refine AOL.s1 (h := ?_)
  refine AOL.nil ?_
  refine AW.kq [1, 3] (h := ?_)
  repeat refine AW.seq ?_
  cases l with
  | false =>
    refine AW.reg ?_
    iterate 12 refine AOL.s1 (h := ?_)
    refine AOL.nil ?_
    refine AW.kq [2] (h := ?_)
    repeat refine AW.seq ?_
    refine AW.ret ?_
    refine ⟨_, [], rfl, HOk.nil _, ?_⟩
    rfl
  | true =>
  cases hx : decide (sv ≤ 12) with
  | true =>
    refine AW.reg ?_
    iterate 12 refine AOL.s1 (h := ?_)
    refine AOL.nil ?_
    refine AW.kq [2] (h := ?_)
    repeat refine AW.seq ?_
    refine AW.ret ?_
    refine ⟨_, [], rfl, HOk.nil _, ?_⟩
    rfl
  | false =>
  cases hy : decide (sv > 4096) with
  | false =>
    refine AW.reg ?_
    iterate 12 refine AOL.s1 (h := ?_)
    refine AOL.nil ?_
    refine AW.kq [2] (h := ?_)
    repeat refine AW.seq ?_
    refine AW.ret ?_
    refine ⟨_, [], rfl, HOk.nil _, ?_⟩
    rfl
  | true =>
  refine AW.reg ?_
  iterate 12 refine AOL.s1 (h := ?_)
  refine AOL.nil ?_
  refine AW.kq [2] (h := ?_)
  repeat refine AW.seq ?_
  refine AW.ret ?_
  refine ⟨_, [], rfl, HOk.nil _, ?_⟩
  rfl
theorem small_light {s : Rk} (h : smallG s = true) : light14 s = true := by
  unfold smallG at h
  simp only [Bool.and_eq_true] at h
  exact h.1
theorem light14_len {s : Rk} (h : light14 s = true) : Len s := by
  unfold light14 at h
  simp only [Bool.and_eq_true] at h
  have h := h.1.1
  unfold lightF at h
  split at h
  · cases h
  · rename_i hl
    refine ⟨by omega, ?_⟩
    intro r hr
    have := List.all_eq_true.1 h r hr
    simp only [fewF, Bool.and_eq_true, decide_eq_true_eq] at this
    omega
/-- what Setup tells -/
theorem setF_kinds (s : Rk) (al be ga de ta : Int) : (∃ n : Int, setF s al be ga de ta = .tup [.agg zP, .agg zV, er n]) ∨ (chkF s = true ∧ zF (lg s.l.length) ta ≠ 0 ∧ ([al, be, ga, de, ta].any fun v => decide (v ≥ 288230376287764481)) = false ∧ ([al, be, ga, de, ta].any fun v => (0:Int) == v) = false ∧ setF s al be ga de ta = keysF s.v.toNat (lg s.l.length) s.p (atL Rw.a s ta) (atL Rw.b s ta) (atL Rw.c s ta) (zF (lg s.l.length) ta) al be ga de ta) := by
  unfold setF
  cases hc : chkF s with
  | false => exact .inl ⟨3, if_pos rfl⟩
  | true =>
    rw [if_neg (by decide)]
    cases h1 : ([al, be, ga, de, ta].any fun v => decide (v ≥ 288230376287764481)) with
    | true => exact .inl ⟨1, if_pos rfl⟩
    | false =>
      rw [if_neg (by decide)]
      cases h2 : ([al, be, ga, de, ta].any fun v => (0:Int) == v) with
      | true => exact .inl ⟨7, if_pos rfl⟩
      | false =>
        cases h3 : (zF (lg s.l.length) ta == 0) with
        | true => exact .inl ⟨7, if_pos rfl⟩
        | false =>
          rw [if_neg (by decide)]
          exact .inr ⟨rfl, by simpa using h3, rfl, rfl, rfl⟩
theorem ul_sub {V : List Int} {p : Nat} (hp : 1 + p ≤ V.length) : ∀ H, aSlice Try.prog 28 H (.sl V.length (fm u1 V)) (some (i 1)) (some (i ((1 + p : Nat) : Int))) none = some (ul ((V.drop 1).take p)) := by
  intro H
  have tf := tf
  have tfr := tfr
  have c1 : ((0:Int) ≤ 1) = True := by simp
  have c2 : ((1:Int) ≤ ((1 + p : Nat) : Int)) = True := by simp; omega
  have c3 : (((1 + p : Nat) : Int) ≤ V.length) = True := by simp; omega
  have n1 : Int.toNat 1 = 1 := rfl
  have e : (fm u1 V).drop 1 = fm u1 (V.drop 1) := by
    cases V <;> rfl
  have e2 : (fm u1 (V.drop 1)).take p = fm u1 ((V.drop 1).take p) := by
    have h2 : fm u1 (V.drop 1) = fm u1 ((V.drop 1).take p) ++ fm u1 ((V.drop 1).drop p) := by rw [← fm_app, List.take_append_drop]
    rw [h2, List.take_append_of_le_length (by rw [fml, List.length_take, List.length_drop]; omega), List.take_of_length_le (by rw [fml, List.length_take]; omega)]
  have l : ((V.drop 1).take p).length = p := by rw [List.length_take, List.length_drop]; omega
  simp only [aSlice, tf, tfr, bnd, intOf?, c1, c2, c3, and_self, if_true, Int.toNat_natCast, n1, Nat.mul_one, e, Nat.add_sub_cancel_left]
  rw [e2, ul_def, l]
theorem mem_gT {P : Nat → Bool} {f : Nat → Int} {n : Nat} : ∀ g ∈ (((List.range n).filter P).map fun t => gT (f t)), wP3 g := by
  intro g hg
  obtain ⟨t, _, rfl⟩ := List.mem_map.1 hg
  exact (gT_pt _).w3
theorem aT_w (A : List Int) (n : Nat) : ∀ g ∈ aT A n, wP3 g := by
  intro g hg
  obtain ⟨t, _, rfl⟩ := List.mem_map.1 hg
  exact (gT_pt _).w3
theorem hL_w (h ta : Int) (n : Nat) : ∀ g ∈ hL h ta n, wP3 g := by
  intro g hg
  obtain ⟨t, _, rfl⟩ := List.mem_map.1 hg
  exact (gT_pt _).w3
theorem range_le (p n : Nat) (hp : p < n) : ((List.range n).filter fun (t : Nat) => decide ((t : Int) ≤ (p : Int))) = List.range (p + 1) ∧ ((List.range n).filter fun (t : Nat) => !decide ((t : Int) ≤ (p : Int))) = (List.range (n - 1 - p)).map (· + (p + 1)) := by
  obtain ⟨q, rfl⟩ : ∃ q, n = (p + 1) + q := ⟨n - (p + 1), by omega⟩
  rw [List.range_add, List.filter_append, List.filter_append]
  have e : p + 1 + q - 1 - p = q := by omega
  rw [e]
  constructor
  · rw [List.filter_eq_self.2, List.filter_eq_nil_iff.2, List.append_nil]
    · intro a ha; obtain ⟨t, _, rfl⟩ := List.mem_map.1 ha; simp; omega
    · intro a ha; have := List.mem_range.1 ha; simp; omega
  · rw [List.filter_eq_nil_iff.2, List.filter_eq_self.2, List.nil_append]
    · apply List.map_congr_left; intro a _; omega
    · intro a ha; obtain ⟨t, _, rfl⟩ := List.mem_map.1 ha; simp; omega
    · intro a ha; have := List.mem_range.1 ha; simp; omega
theorem iT_len {p n : Nat} (hp : p < n) (al be gi : Int) (A B C : List Int) : (iT p al be gi A B C n).length = p + 1 := by
  unfold iT; rw [List.length_map, (range_le p n hp).1, List.length_range]
theorem lT_len {p n : Nat} (hp : p < n) (al be di : Int) (A B C : List Int) : (lT p al be di A B C n).length = n - 1 - p := by
  unfold lT; rw [List.length_map, (range_le p n hp).2, List.length_map, List.length_range]
end Go.Proofs.Ytdbpjegocmdplaa.E.M
end
section
/- The statement GrothTells over E, but for the numbers. -/
set_option linter.unusedVariables false
set_option linter.unusedSimpArgs false
set_option maxRecDepth 10000
open Go Go.Proofs.Ytdbpjegocmdplaa.E Go.Proofs
namespace Go.Proofs.Ytdbpjegocmdplaa.E.M
set_option maxHeartbeats 16000000 in
theorem groth_Prove_n {s : Rk} {pa pb pd : P3} {LB LL LH : List P3} {V H : List Int} {r t : Int} (hS : Len s) (hc : chkF s = true) (cq : Fn Try.prog 30 [.agg (rk s), ul V] [] (fun r _ => r = .tup [ul H, nil_])) :
    Fn Try.prog 10 [.agg (pkc pa pb pd [] LB LL LH), .agg (rk s), ul V, u r, u t] [] (fun r_ h_ => r_ = .tup [pf0, er 1]) := by
  have cS := qap_Size_c hS
  unfold sizeF at cS
  rw [if_pos hc] at cS
  obtain ⟨n, hn, n1, n2, p0, pn, hl⟩ := chk_vg hc
  have hne : (((0 : Nat) : Int) != (n : Int)) = true := by simp; omega
  have hne2 : ((0 : Int) != (n : Int)) = true := by simp; omega
  generalize lg s.l.length = k at *
  obtain ⟨sv, sp, sl_⟩ := s
  simp only at hn cS cq
  subst hn
  obtain ⟨pa0, pa1, pa2⟩ := pa
  obtain ⟨pb0, pb1, pb2⟩ := pb
  obtain ⟨pd0, pd1, pd2⟩ := pd
  clear pn p0 hl n1 n2 hc hS
  unfold pkc
  rw [show pl ([] : List P3) = .sl 0 [] from rfl]
  refine Fn.enter Try.func10 Try.ntmps10 rfl (h := ?_)
  have tf := tf
  have tfr := tfr
  have tfl := tfl
  have tfg := tfg
  have ot_ : (false || true) = true := rfl
  have bf : (true == false) = false := rfl
  have bf2 : (false == false) = true := rfl
  repeat refine AW.seq ?_
  refine AW.reg ?_
  iterate 4 refine AOL.s1 (h := ?_)
  refine AOL.nil ?_
  refine AW.kq [2, 3, 4, 5, 6, 10] (h := ?_)
  repeat refine AW.seq ?_
  refine AW.reg ?_
  iterate 2 refine AOL.s1 (h := ?_)
  refine AOL.callD rfl (cq) (by kernel_rfl) rfl rfl (h := ?_)
  iterate 5 refine AOL.s1 (h := ?_)
  refine AOL.nil ?_
  refine AW.kq [2, 3, 4, 5, 6, 10, 12, 13] (h := ?_)
  repeat refine AW.seq ?_
  refine AW.reg ?_
  iterate 2 refine AOL.s1 (h := ?_)
  refine AOL.nil ?_
  refine AW.kq [2, 3, 4, 5, 6, 10, 12, 13, 24] (h := ?_)
  repeat refine AW.seq ?_
  refine AW.cond rfl (fun c_ => ?_) (fun c_ => ?_)
  · cases c_
  refine AW.skip ?_
  repeat refine AW.seq ?_
  refine AW.reg ?_
  iterate 1 refine AOL.s1 (h := ?_)
  refine AOL.callD rfl (cS) (by kernel_rfl) rfl rfl (h := ?_)
  iterate 5 refine AOL.s1 (h := ?_)
  refine AOL.nil ?_
  refine AW.kq [2, 3, 4, 5, 6, 10, 12, 13, 14] (h := ?_)
  repeat refine AW.seq ?_
  refine AW.reg ?_
  iterate 2 refine AOL.s1 (h := ?_)
  refine AOL.nil ?_
  refine AW.kq [2, 3, 4, 5, 6, 10, 12, 13, 14, 33] (h := ?_)
  repeat refine AW.seq ?_
  refine AW.cond rfl (fun c_ => ?_) (fun c_ => ?_)
  · cases c_
  refine AW.skip ?_
  repeat refine AW.seq ?_
  clear cq cS
  cases hr : decide (r ≥ 288230376287764481) with
  | true =>
    refine AW.drw 42 [] (by kernel_rfl) (h := ?_)
    iterate 42 refine ADL.dm 1 (h := ?_)
    refine ADL.done hmix rfl rfl (hT := ?_)
    iterate 1 refine AOL.s1 (h := ?_)
    refine AOL.nil ?_
    refine AW.kq [2, 3, 4, 5, 6, 10, 12, 78] (h := ?_)
    repeat refine AW.seq ?_
    refine AW.cond rfl (fun c_ => ?_) (fun c_ => ?_)
    · repeat refine AW.seq ?_
      refine AW.reg ?_
      iterate 4 refine AOL.s1 (h := ?_)
      refine AOL.nil ?_
      refine AW.kq [10, 11] (h := ?_)
      repeat refine AW.seq ?_
      refine AW.ret ?_
      refine ⟨_, [], rfl, HOk.nil _, ?_⟩
      rfl
    cases c_
  | false =>
  cases ht : decide (t ≥ 288230376287764481) with
  | true =>
    refine AW.drw 42 [] (by kernel_rfl) (h := ?_)
    iterate 42 refine ADL.dm 1 (h := ?_)
    refine ADL.done hmix rfl rfl (hT := ?_)
    iterate 1 refine AOL.s1 (h := ?_)
    refine AOL.nil ?_
    refine AW.kq [2, 3, 4, 5, 6, 10, 12, 78] (h := ?_)
    repeat refine AW.seq ?_
    refine AW.cond rfl (fun c_ => ?_) (fun c_ => ?_)
    · repeat refine AW.seq ?_
      refine AW.reg ?_
      iterate 4 refine AOL.s1 (h := ?_)
      refine AOL.nil ?_
      refine AW.kq [10, 11] (h := ?_)
      repeat refine AW.seq ?_
      refine AW.ret ?_
      refine ⟨_, [], rfl, HOk.nil _, ?_⟩
      rfl
    cases c_
  | false =>
  refine AW.drw 42 [] (by kernel_rfl) (h := ?_)
  iterate 42 refine ADL.dm 1 (h := ?_)
  refine ADL.done hmix rfl rfl (hT := ?_)
  iterate 1 refine AOL.s1 (h := ?_)
  refine AOL.nil ?_
  refine AW.kq [2, 3, 4, 5, 6, 10, 12, 78] (h := ?_)
  repeat refine AW.seq ?_
  refine AW.cond rfl (fun c_ => ?_) (fun c_ => ?_)
  · repeat refine AW.seq ?_
    refine AW.reg ?_
    iterate 4 refine AOL.s1 (h := ?_)
    refine AOL.nil ?_
    refine AW.kq [10, 11] (h := ?_)
    repeat refine AW.seq ?_
    refine AW.ret ?_
    refine ⟨_, [], rfl, HOk.nil _, ?_⟩
    rfl
  cases c_
/-- Prove by the key of nothing, whatever the system: an error -/
theorem groth_Prove_z {s : Rk} {V : List Int} {r t : Int} (hS : Len s) (hW : wR s) (hV : wV V) (lV : V.length < 1000000000) : ∃ e, errG e ∧ Fn Try.prog 10 [.agg zP, .agg (rk s), ul V, u r, u t] [] (fun r_ h_ => r_ = .tup [pf0, e]) := by
  have hw : Wks [.agg zP, .agg (rk s), ul V, u r, u t] [.agg (pkc (false, 0, 0) (false, 0, 0) (false, 0, 0) [] [] [] []), .agg (rk s), ul V, u r, u t] := by
    refine .cons (.agg ?_) (.refl _)
    exact @Wks.app [bo false, u 0, u 0, bo false, u 0, u 0, bo false, u 0, u 0] [bo false, u 0, u 0, bo false, u 0, u 0, bo false, u 0, u 0] _ _ (Wks.refl _) (.cons .nilS (.cons .nilS (.cons .nilS (.cons .nilS .nil)))) rfl
  rcases quo_c hS hW hV lV with ⟨e, he, cq⟩ | ⟨hc, _, _, cq⟩
  · exact ⟨e, he, Fn.wk (groth_Prove_e he cq) hw⟩
  · exact ⟨er 1, .inl ⟨1, rfl⟩, Fn.wk (groth_Prove_n hS hc cq) hw⟩
set_option maxHeartbeats 8000000 in
theorem tells_g {s : Rk} {al be ga de ta : Int} {V : List Int} {r t : Int} (h : (!smallG s || decide ((V.length : Int) > 5000)) = true) : Fn Try.prog 6 [.agg (rk s), .agg [u al, u be, u ga, u de, u ta], ul V, u r, u t] [] (fun r _ => r = bo true) := by
  have cu := obollaw15_up_c
  have csm := obollaw15_small_c (s := s)
  cases hs : smallG s with
  | false =>
    rw [hs] at csm
    refine Fn.enter Try.func6 Try.ntmps6 rfl (h := ?_)
    have tf := tf
    have tfr := tfr
    have tfl := tfl
    have tfb := tfb
    have tfg := tfg
    have eqPf := eqPf
    have ot_ : (false || true) = true := rfl
    have nt : (!true) = false := rfl
    have nf : (!false) = true := rfl
    have bt : (true == true) = true := rfl
    have ft : (false == true) = false := rfl
    have tf_ : (true == false) = false := rfl
    have ff : (false == false) = true := rfl
    repeat refine AW.seq ?_
    refine AW.reg ?_
    iterate 3 refine AOL.s1 (h := ?_)
    refine AOL.nil ?_
    refine AW.kq [2, 3, 4, 5, 6] (h := ?_)
    repeat refine AW.seq ?_
    refine AW.reg ?_
    refine AOL.callD rfl (cu) (by kernel_rfl) rfl rfl (h := ?_)
    iterate 1 refine AOL.s1 (h := ?_)
    refine AOL.nil ?_
    refine AW.kq [2, 3, 4, 5, 6, 11] (h := ?_)
    repeat refine AW.seq ?_
    refine AW.reg ?_
    iterate 1 refine AOL.s1 (h := ?_)
    refine AOL.callD rfl (csm) (by kernel_rfl) rfl rfl (h := ?_)
    iterate 1 refine AOL.s1 (h := ?_)
    refine AOL.nil ?_
    refine AW.kq [2, 3, 4, 5, 6, 11, 12] (h := ?_)
    repeat refine AW.seq ?_
    refine AW.reg ?_
    iterate 7 refine AOL.s1 (h := ?_)
    refine AOL.nil ?_
    refine AW.kq [2, 3, 4, 5, 6, 11, 32] (h := ?_)
    repeat refine AW.seq ?_
    refine AW.cond rfl (fun c_ => ?_) (fun c_ => ?_)
    · repeat refine AW.seq ?_
      refine AW.reg ?_
      iterate 2 refine AOL.s1 (h := ?_)
      refine AOL.nil ?_
      refine AW.kq [10] (h := ?_)
      repeat refine AW.seq ?_
      refine AW.ret ?_
      refine ⟨_, [], rfl, HOk.nil _, ?_⟩
      rfl
    cases c_
  | true =>
  rw [hs] at csm h
  have hd : decide ((V.length : Int) > 5000) = true := by simpa using h
  clear h
  refine Fn.enter Try.func6 Try.ntmps6 rfl (h := ?_)
  have tf := tf
  have tfr := tfr
  have tfl := tfl
  have tfb := tfb
  have tfg := tfg
  have eqPf := eqPf
  have ot_ : (false || true) = true := rfl
  have nt : (!true) = false := rfl
  have nf : (!false) = true := rfl
  have bt : (true == true) = true := rfl
  have ft : (false == true) = false := rfl
  have tf_ : (true == false) = false := rfl
  have ff : (false == false) = true := rfl
  repeat refine AW.seq ?_
  refine AW.reg ?_
  iterate 3 refine AOL.s1 (h := ?_)
  refine AOL.nil ?_
  refine AW.kq [2, 3, 4, 5, 6] (h := ?_)
  repeat refine AW.seq ?_
  refine AW.reg ?_
  refine AOL.callD rfl (cu) (by kernel_rfl) rfl rfl (h := ?_)
  iterate 1 refine AOL.s1 (h := ?_)
  refine AOL.nil ?_
  refine AW.kq [2, 3, 4, 5, 6, 11] (h := ?_)
  repeat refine AW.seq ?_
  refine AW.reg ?_
  iterate 1 refine AOL.s1 (h := ?_)
  refine AOL.callD rfl (csm) (by kernel_rfl) rfl rfl (h := ?_)
  iterate 1 refine AOL.s1 (h := ?_)
  refine AOL.nil ?_
  refine AW.kq [2, 3, 4, 5, 6, 11, 12] (h := ?_)
  repeat refine AW.seq ?_
  refine AW.reg ?_
  iterate 7 refine AOL.s1 (h := ?_)
  refine AOL.nil ?_
  refine AW.kq [2, 3, 4, 5, 6, 11, 32] (h := ?_)
  repeat refine AW.seq ?_
  refine AW.cond rfl (fun c_ => ?_) (fun c_ => ?_)
  · repeat refine AW.seq ?_
    refine AW.reg ?_
    iterate 2 refine AOL.s1 (h := ?_)
    refine AOL.nil ?_
    refine AW.kq [10] (h := ?_)
    repeat refine AW.seq ?_
    refine AW.ret ?_
    refine ⟨_, [], rfl, HOk.nil _, ?_⟩
    rfl
  cases c_
set_option maxHeartbeats 16000000 in
theorem tells_s1 {s : Rk} {al be ga de ta : Int} {V : List Int} {r t : Int} {n m : Int} (hs : smallG s = true) (hV : decide ((V.length : Int) > 5000) = false) (cs : Fn Try.prog 9 [.agg (rk s), .agg [u al, u be, u ga, u de, u ta]] [] (fun r _ => r = .tup [.agg zP, .agg zV, er n]))
    (cp : Fn Try.prog 10 [.agg zP, .agg (rk s), ul V, u r, u t] [] (fun r _ => r = .tup [pf0, er m])) : Fn Try.prog 6 [.agg (rk s), .agg [u al, u be, u ga, u de, u ta], ul V, u r, u t] [] (fun r _ => r = bo true) := by
  have cu := obollaw15_up_c
  have csm := obollaw15_small_c (s := s)
  rw [hs] at csm
  refine Fn.enter Try.func6 Try.ntmps6 rfl (h := ?_)
  have tf := tf
  have tfr := tfr
  have tfl := tfl
  have tfb := tfb
  have tfg := tfg
  have eqPf := eqPf
  have ot_ : (false || true) = true := rfl
  have nt : (!true) = false := rfl
  have nf : (!false) = true := rfl
  have bt : (true == true) = true := rfl
  have ft : (false == true) = false := rfl
  have tf_ : (true == false) = false := rfl
  have ff : (false == false) = true := rfl
  repeat refine AW.seq ?_
  refine AW.reg ?_
  iterate 3 refine AOL.s1 (h := ?_)
  refine AOL.nil ?_
  refine AW.kq [2, 3, 4, 5, 6] (h := ?_)
  repeat refine AW.seq ?_
  refine AW.reg ?_
  refine AOL.callD rfl (cu) (by kernel_rfl) rfl rfl (h := ?_)
  iterate 1 refine AOL.s1 (h := ?_)
  refine AOL.nil ?_
  refine AW.kq [2, 3, 4, 5, 6, 11] (h := ?_)
  repeat refine AW.seq ?_
  refine AW.reg ?_
  iterate 1 refine AOL.s1 (h := ?_)
  refine AOL.callD rfl (csm) (by kernel_rfl) rfl rfl (h := ?_)
  iterate 1 refine AOL.s1 (h := ?_)
  refine AOL.nil ?_
  refine AW.kq [2, 3, 4, 5, 6, 11, 12] (h := ?_)
  repeat refine AW.seq ?_
  refine AW.reg ?_
  iterate 7 refine AOL.s1 (h := ?_)
  refine AOL.nil ?_
  refine AW.kq [2, 3, 4, 5, 6, 11, 32] (h := ?_)
  repeat refine AW.seq ?_
  refine AW.cond rfl (fun c_ => ?_) (fun c_ => ?_)
  · cases c_
  refine AW.skip ?_
  repeat refine AW.seq ?_
  refine AW.reg ?_
  iterate 2 refine AOL.s1 (h := ?_)
  refine AOL.callD rfl (cs) (by kernel_rfl) rfl rfl (h := ?_)
  iterate 9 refine AOL.s1 (h := ?_)
  refine AOL.nil ?_
  refine AW.kq [2, 3, 4, 5, 11, 13, 14, 15] (h := ?_)
  repeat refine AW.seq ?_
  refine AW.reg ?_
  iterate 5 refine AOL.s1 (h := ?_)
  refine AOL.callD rfl (cp) (by kernel_rfl) rfl rfl (h := ?_)
  iterate 6 refine AOL.s1 (h := ?_)
  refine AOL.nil ?_
  refine AW.kq [2, 5, 11, 14, 15, 16, 17] (h := ?_)
  repeat refine AW.seq ?_
  refine AW.reg ?_
  iterate 6 refine AOL.s1 (h := ?_)
  refine AOL.nil ?_
  refine AW.kq [2, 5, 11, 14, 16, 55] (h := ?_)
  repeat refine AW.seq ?_
  refine AW.cond rfl (fun c_ => ?_) (fun c_ => ?_)
  · repeat refine AW.seq ?_
    refine AW.reg ?_
    iterate 2 refine AOL.s1 (h := ?_)
    refine AOL.nil ?_
    refine AW.kq [10] (h := ?_)
    repeat refine AW.seq ?_
    refine AW.ret ?_
    refine ⟨_, [], rfl, HOk.nil _, ?_⟩
    rfl
  cases c_
set_option maxHeartbeats 16000000 in
theorem tells_s2 {s : Rk} {al be ga de ta : Int} {V : List Int} {r t : Int} {n m : Int} (hs : smallG s = true) (hV : decide ((V.length : Int) > 5000) = false) (cs : Fn Try.prog 9 [.agg (rk s), .agg [u al, u be, u ga, u de, u ta]] [] (fun r _ => r = .tup [.agg zP, .agg zV, er n]))
    (cp : Fn Try.prog 10 [.agg zP, .agg (rk s), ul V, u r, u t] [] (fun r _ => r = .tup [pf0, spot m 8])) : Fn Try.prog 6 [.agg (rk s), .agg [u al, u be, u ga, u de, u ta], ul V, u r, u t] [] (fun r _ => r = bo true) := by
  have cu := obollaw15_up_c
  have csm := obollaw15_small_c (s := s)
  rw [hs] at csm
  refine Fn.enter Try.func6 Try.ntmps6 rfl (h := ?_)
  have tf := tf
  have tfr := tfr
  have tfl := tfl
  have tfb := tfb
  have tfg := tfg
  have eqPf := eqPf
  have ot_ : (false || true) = true := rfl
  have nt : (!true) = false := rfl
  have nf : (!false) = true := rfl
  have bt : (true == true) = true := rfl
  have ft : (false == true) = false := rfl
  have tf_ : (true == false) = false := rfl
  have ff : (false == false) = true := rfl
  repeat refine AW.seq ?_
  refine AW.reg ?_
  iterate 3 refine AOL.s1 (h := ?_)
  refine AOL.nil ?_
  refine AW.kq [2, 3, 4, 5, 6] (h := ?_)
  repeat refine AW.seq ?_
  refine AW.reg ?_
  refine AOL.callD rfl (cu) (by kernel_rfl) rfl rfl (h := ?_)
  iterate 1 refine AOL.s1 (h := ?_)
  refine AOL.nil ?_
  refine AW.kq [2, 3, 4, 5, 6, 11] (h := ?_)
  repeat refine AW.seq ?_
  refine AW.reg ?_
  iterate 1 refine AOL.s1 (h := ?_)
  refine AOL.callD rfl (csm) (by kernel_rfl) rfl rfl (h := ?_)
  iterate 1 refine AOL.s1 (h := ?_)
  refine AOL.nil ?_
  refine AW.kq [2, 3, 4, 5, 6, 11, 12] (h := ?_)
  repeat refine AW.seq ?_
  refine AW.reg ?_
  iterate 7 refine AOL.s1 (h := ?_)
  refine AOL.nil ?_
  refine AW.kq [2, 3, 4, 5, 6, 11, 32] (h := ?_)
  repeat refine AW.seq ?_
  refine AW.cond rfl (fun c_ => ?_) (fun c_ => ?_)
  · cases c_
  refine AW.skip ?_
  repeat refine AW.seq ?_
  refine AW.reg ?_
  iterate 2 refine AOL.s1 (h := ?_)
  refine AOL.callD rfl (cs) (by kernel_rfl) rfl rfl (h := ?_)
  iterate 9 refine AOL.s1 (h := ?_)
  refine AOL.nil ?_
  refine AW.kq [2, 3, 4, 5, 11, 13, 14, 15] (h := ?_)
  repeat refine AW.seq ?_
  refine AW.reg ?_
  iterate 5 refine AOL.s1 (h := ?_)
  refine AOL.callD rfl (cp) (by kernel_rfl) rfl rfl (h := ?_)
  iterate 6 refine AOL.s1 (h := ?_)
  refine AOL.nil ?_
  refine AW.kq [2, 5, 11, 14, 15, 16, 17] (h := ?_)
  repeat refine AW.seq ?_
  refine AW.reg ?_
  iterate 6 refine AOL.s1 (h := ?_)
  refine AOL.nil ?_
  refine AW.kq [2, 5, 11, 14, 16, 55] (h := ?_)
  repeat refine AW.seq ?_
  refine AW.cond rfl (fun c_ => ?_) (fun c_ => ?_)
  · repeat refine AW.seq ?_
    refine AW.reg ?_
    iterate 2 refine AOL.s1 (h := ?_)
    refine AOL.nil ?_
    refine AW.kq [10] (h := ?_)
    repeat refine AW.seq ?_
    refine AW.ret ?_
    refine ⟨_, [], rfl, HOk.nil _, ?_⟩
    rfl
  cases c_
set_option maxHeartbeats 16000000 in
theorem tells_p1 {s : Rk} {al be ga de ta : Int} {V : List Int} {r t : Int} {m : Int} {A B C D : P3} {LA LB LL LH LI : List P3} (hs : smallG s = true) (hV : decide ((V.length : Int) > 5000) = false) (cs : Fn Try.prog 9 [.agg (rk s), .agg [u al, u be, u ga, u de, u ta]] [] (fun r _ => r = .tup [.agg (pkc A B D LA LB LL LH), .agg (vkc A B C D LI), nil_]))
    (cp : Fn Try.prog 10 [.agg (pkc A B D LA LB LL LH), .agg (rk s), ul V, u r, u t] [] (fun r _ => r = .tup [pf0, er m])) : Fn Try.prog 6 [.agg (rk s), .agg [u al, u be, u ga, u de, u ta], ul V, u r, u t] [] (fun r _ => r = bo true) := by
  have cu := obollaw15_up_c
  have csm := obollaw15_small_c (s := s)
  rw [hs] at csm
  obtain ⟨A0, A1, A2⟩ := A
  obtain ⟨B0, B1, B2⟩ := B
  obtain ⟨C0, C1, C2⟩ := C
  obtain ⟨D0, D1, D2⟩ := D
  refine Fn.enter Try.func6 Try.ntmps6 rfl (h := ?_)
  have tf := tf
  have tfr := tfr
  have tfl := tfl
  have tfb := tfb
  have tfg := tfg
  have eqPf := eqPf
  have ot_ : (false || true) = true := rfl
  have nt : (!true) = false := rfl
  have nf : (!false) = true := rfl
  have bt : (true == true) = true := rfl
  have ft : (false == true) = false := rfl
  have tf_ : (true == false) = false := rfl
  have ff : (false == false) = true := rfl
  repeat refine AW.seq ?_
  refine AW.reg ?_
  iterate 3 refine AOL.s1 (h := ?_)
  refine AOL.nil ?_
  refine AW.kq [2, 3, 4, 5, 6] (h := ?_)
  repeat refine AW.seq ?_
  refine AW.reg ?_
  refine AOL.callD rfl (cu) (by kernel_rfl) rfl rfl (h := ?_)
  iterate 1 refine AOL.s1 (h := ?_)
  refine AOL.nil ?_
  refine AW.kq [2, 3, 4, 5, 6, 11] (h := ?_)
  repeat refine AW.seq ?_
  refine AW.reg ?_
  iterate 1 refine AOL.s1 (h := ?_)
  refine AOL.callD rfl (csm) (by kernel_rfl) rfl rfl (h := ?_)
  iterate 1 refine AOL.s1 (h := ?_)
  refine AOL.nil ?_
  refine AW.kq [2, 3, 4, 5, 6, 11, 12] (h := ?_)
  repeat refine AW.seq ?_
  refine AW.reg ?_
  iterate 7 refine AOL.s1 (h := ?_)
  refine AOL.nil ?_
  refine AW.kq [2, 3, 4, 5, 6, 11, 32] (h := ?_)
  repeat refine AW.seq ?_
  refine AW.cond rfl (fun c_ => ?_) (fun c_ => ?_)
  · cases c_
  refine AW.skip ?_
  repeat refine AW.seq ?_
  refine AW.reg ?_
  iterate 2 refine AOL.s1 (h := ?_)
  refine AOL.callD rfl (cs) (by kernel_rfl) rfl rfl (h := ?_)
  iterate 9 refine AOL.s1 (h := ?_)
  refine AOL.nil ?_
  refine AW.kq [2, 3, 4, 5, 11, 13, 14, 15] (h := ?_)
  repeat refine AW.seq ?_
  refine AW.reg ?_
  iterate 5 refine AOL.s1 (h := ?_)
  refine AOL.callD rfl (cp) (by kernel_rfl) rfl rfl (h := ?_)
  iterate 6 refine AOL.s1 (h := ?_)
  refine AOL.nil ?_
  refine AW.kq [2, 5, 11, 14, 15, 16, 17] (h := ?_)
  repeat refine AW.seq ?_
  refine AW.reg ?_
  iterate 6 refine AOL.s1 (h := ?_)
  refine AOL.nil ?_
  refine AW.kq [2, 5, 11, 14, 16, 55] (h := ?_)
  repeat refine AW.seq ?_
  refine AW.cond rfl (fun c_ => ?_) (fun c_ => ?_)
  · repeat refine AW.seq ?_
    refine AW.reg ?_
    iterate 2 refine AOL.s1 (h := ?_)
    refine AOL.nil ?_
    refine AW.kq [10] (h := ?_)
    repeat refine AW.seq ?_
    refine AW.ret ?_
    refine ⟨_, [], rfl, HOk.nil _, ?_⟩
    rfl
  cases c_
set_option maxHeartbeats 16000000 in
theorem tells_p2 {s : Rk} {al be ga de ta : Int} {V : List Int} {r t : Int} {m : Int} {A B C D : P3} {LA LB LL LH LI : List P3} (hs : smallG s = true) (hV : decide ((V.length : Int) > 5000) = false) (cs : Fn Try.prog 9 [.agg (rk s), .agg [u al, u be, u ga, u de, u ta]] [] (fun r _ => r = .tup [.agg (pkc A B D LA LB LL LH), .agg (vkc A B C D LI), nil_]))
    (cp : Fn Try.prog 10 [.agg (pkc A B D LA LB LL LH), .agg (rk s), ul V, u r, u t] [] (fun r _ => r = .tup [pf0, spot m 8])) : Fn Try.prog 6 [.agg (rk s), .agg [u al, u be, u ga, u de, u ta], ul V, u r, u t] [] (fun r _ => r = bo true) := by
  have cu := obollaw15_up_c
  have csm := obollaw15_small_c (s := s)
  rw [hs] at csm
  obtain ⟨A0, A1, A2⟩ := A
  obtain ⟨B0, B1, B2⟩ := B
  obtain ⟨C0, C1, C2⟩ := C
  obtain ⟨D0, D1, D2⟩ := D
  refine Fn.enter Try.func6 Try.ntmps6 rfl (h := ?_)
  have tf := tf
  have tfr := tfr
  have tfl := tfl
  have tfb := tfb
  have tfg := tfg
  have eqPf := eqPf
  have ot_ : (false || true) = true := rfl
  have nt : (!true) = false := rfl
  have nf : (!false) = true := rfl
  have bt : (true == true) = true := rfl
  have ft : (false == true) = false := rfl
  have tf_ : (true == false) = false := rfl
  have ff : (false == false) = true := rfl
  repeat refine AW.seq ?_
  refine AW.reg ?_
  iterate 3 refine AOL.s1 (h := ?_)
  refine AOL.nil ?_
  refine AW.kq [2, 3, 4, 5, 6] (h := ?_)
  repeat refine AW.seq ?_
  refine AW.reg ?_
  refine AOL.callD rfl (cu) (by kernel_rfl) rfl rfl (h := ?_)
  iterate 1 refine AOL.s1 (h := ?_)
  refine AOL.nil ?_
  refine AW.kq [2, 3, 4, 5, 6, 11] (h := ?_)
  repeat refine AW.seq ?_
  refine AW.reg ?_
  iterate 1 refine AOL.s1 (h := ?_)
  refine AOL.callD rfl (csm) (by kernel_rfl) rfl rfl (h := ?_)
  iterate 1 refine AOL.s1 (h := ?_)
  refine AOL.nil ?_
  refine AW.kq [2, 3, 4, 5, 6, 11, 12] (h := ?_)
  repeat refine AW.seq ?_
  refine AW.reg ?_
  iterate 7 refine AOL.s1 (h := ?_)
  refine AOL.nil ?_
  refine AW.kq [2, 3, 4, 5, 6, 11, 32] (h := ?_)
  repeat refine AW.seq ?_
  refine AW.cond rfl (fun c_ => ?_) (fun c_ => ?_)
  · cases c_
  refine AW.skip ?_
  repeat refine AW.seq ?_
  refine AW.reg ?_
  iterate 2 refine AOL.s1 (h := ?_)
  refine AOL.callD rfl (cs) (by kernel_rfl) rfl rfl (h := ?_)
  iterate 9 refine AOL.s1 (h := ?_)
  refine AOL.nil ?_
  refine AW.kq [2, 3, 4, 5, 11, 13, 14, 15] (h := ?_)
  repeat refine AW.seq ?_
  refine AW.reg ?_
  iterate 5 refine AOL.s1 (h := ?_)
  refine AOL.callD rfl (cp) (by kernel_rfl) rfl rfl (h := ?_)
  iterate 6 refine AOL.s1 (h := ?_)
  refine AOL.nil ?_
  refine AW.kq [2, 5, 11, 14, 15, 16, 17] (h := ?_)
  repeat refine AW.seq ?_
  refine AW.reg ?_
  iterate 6 refine AOL.s1 (h := ?_)
  refine AOL.nil ?_
  refine AW.kq [2, 5, 11, 14, 16, 55] (h := ?_)
  repeat refine AW.seq ?_
  refine AW.cond rfl (fun c_ => ?_) (fun c_ => ?_)
  · repeat refine AW.seq ?_
    refine AW.reg ?_
    iterate 2 refine AOL.s1 (h := ?_)
    refine AOL.nil ?_
    refine AW.kq [10] (h := ?_)
    repeat refine AW.seq ?_
    refine AW.ret ?_
    refine ⟨_, [], rfl, HOk.nil _, ?_⟩
    rfl
  cases c_
set_option maxHeartbeats 40000000 in
theorem tells_ok {s : Rk} {al be ga de ta : Int} {V : List Int} {r t : Int} {A B C D : P3} {LA LB LL LH LI : List P3} {a b c : P3} {p : Nat} {bs : List Int} (hs : smallG s = true) (hV : decide ((V.length : Int) > 5000) = false) (hp : s.p = p) (hpV : 1 + p ≤ V.length) (cs : Fn Try.prog 9 [.agg (rk s), .agg [u al, u be, u ga, u de, u ta]] [] (fun r _ => r = .tup [.agg (pkc A B D LA LB LL LH), .agg (vkc A B C D LI), nil_]))
    (cp : Fn Try.prog 10 [.agg (pkc A B D LA LB LL LH), .agg (rk s), ul V, u r, u t] [] (fun r _ => r = .tup [pf a b c, nil_])) (cv : Fn Try.prog 11 [.agg (vkc A B C D LI), ul ((V.drop 1).take p), pf a b c] [] (fun r _ => r = nil_))
    (cw : Fn Try.prog 12 [pf a b c] [] (fun r _ => r = .tup [sl8 bs, nil_])) (cr : Fn Try.prog 15 [sl8 bs] [] (fun r _ => r = .tup [pf a b c, nil_])) : Fn Try.prog 6 [.agg (rk s), .agg [u al, u be, u ga, u de, u ta], ul V, u r, u t] [] (fun r _ => r = bo true) := by
  have cu := obollaw15_up_c
  have csm := obollaw15_small_c (s := s)
  rw [hs] at csm
  have lV : V.length ≤ 5000 := by simp only [decide_eq_false_iff_not] at hV; omega
  have dS := ul_sub hpV
  generalize (V.drop 1).take p = Vs at *
  have w3 : IntKind.i64.wrap (1 + (p:Int)) = ((1 + p : Nat) : Int) := by rw [wrapI_o (by omega) (by omega)]; omega
  obtain ⟨sv, sp, sl_⟩ := s
  simp only at hp
  subst hp
  obtain ⟨A0, A1, A2⟩ := A
  obtain ⟨B0, B1, B2⟩ := B
  obtain ⟨C0, C1, C2⟩ := C
  obtain ⟨D0, D1, D2⟩ := D
  obtain ⟨a0, a1, a2⟩ := a
  obtain ⟨b0, b1, b2⟩ := b
  obtain ⟨c0, c1, c2⟩ := c
  refine Fn.enter Try.func6 Try.ntmps6 rfl (h := ?_)
  have tf := tf
  have tfr := tfr
  have tfl := tfl
  have tfb := tfb
  have tfg := tfg
  have eqPf := eqPf
  have ot_ : (false || true) = true := rfl
  have nt : (!true) = false := rfl
  have nf : (!false) = true := rfl
  have bt : (true == true) = true := rfl
  have ft : (false == true) = false := rfl
  have tf_ : (true == false) = false := rfl
  have ff : (false == false) = true := rfl
  repeat refine AW.seq ?_
  refine AW.reg ?_
  iterate 3 refine AOL.s1 (h := ?_)
  refine AOL.nil ?_
  refine AW.kq [2, 3, 4, 5, 6] (h := ?_)
  repeat refine AW.seq ?_
  refine AW.reg ?_
  refine AOL.callD rfl (cu) (by kernel_rfl) rfl rfl (h := ?_)
  iterate 1 refine AOL.s1 (h := ?_)
  refine AOL.nil ?_
  refine AW.kq [2, 3, 4, 5, 6, 11] (h := ?_)
  repeat refine AW.seq ?_
  refine AW.reg ?_
  iterate 1 refine AOL.s1 (h := ?_)
  refine AOL.callD rfl (csm) (by kernel_rfl) rfl rfl (h := ?_)
  iterate 1 refine AOL.s1 (h := ?_)
  refine AOL.nil ?_
  refine AW.kq [2, 3, 4, 5, 6, 11, 12] (h := ?_)
  repeat refine AW.seq ?_
  refine AW.reg ?_
  iterate 7 refine AOL.s1 (h := ?_)
  refine AOL.nil ?_
  refine AW.kq [2, 3, 4, 5, 6, 11, 32] (h := ?_)
  repeat refine AW.seq ?_
  refine AW.cond rfl (fun c_ => ?_) (fun c_ => ?_)
  · cases c_
  refine AW.skip ?_
  repeat refine AW.seq ?_
  refine AW.reg ?_
  iterate 2 refine AOL.s1 (h := ?_)
  refine AOL.callD rfl (cs) (by kernel_rfl) rfl rfl (h := ?_)
  iterate 9 refine AOL.s1 (h := ?_)
  refine AOL.nil ?_
  refine AW.kq [2, 3, 4, 5, 11, 13, 14, 15] (h := ?_)
  repeat refine AW.seq ?_
  refine AW.reg ?_
  iterate 5 refine AOL.s1 (h := ?_)
  refine AOL.callD rfl (cp) (by kernel_rfl) rfl rfl (h := ?_)
  iterate 6 refine AOL.s1 (h := ?_)
  refine AOL.nil ?_
  refine AW.kq [2, 5, 11, 14, 15, 16, 17] (h := ?_)
  repeat refine AW.seq ?_
  refine AW.reg ?_
  iterate 6 refine AOL.s1 (h := ?_)
  refine AOL.nil ?_
  refine AW.kq [2, 5, 11, 14, 16, 55] (h := ?_)
  repeat refine AW.seq ?_
  refine AW.cond rfl (fun c_ => ?_) (fun c_ => ?_)
  · cases c_
  refine AW.skip ?_
  repeat refine AW.seq ?_
  refine AW.drw 7 [] (by kernel_rfl) (h := ?_)
  iterate 7 refine ADL.dm 1 (h := ?_)
  refine ADL.done hmix rfl rfl (hT := ?_)
  refine AOL.callD rfl (cv) (by kernel_rfl) rfl rfl (h := ?_)
  iterate 1 refine AOL.s1 (h := ?_)
  refine AOL.nil ?_
  refine AW.kq [11, 16, 18] (h := ?_)
  repeat refine AW.seq ?_
  refine AW.reg ?_
  iterate 1 refine AOL.s1 (h := ?_)
  refine AOL.callD rfl (cw) (by kernel_rfl) rfl rfl (h := ?_)
  iterate 5 refine AOL.s1 (h := ?_)
  refine AOL.nil ?_
  refine AW.kq [11, 16, 18, 19, 20] (h := ?_)
  repeat refine AW.seq ?_
  refine AW.reg ?_
  iterate 1 refine AOL.s1 (h := ?_)
  refine AOL.callD rfl (cr) (by kernel_rfl) rfl rfl (h := ?_)
  iterate 6 refine AOL.s1 (h := ?_)
  refine AOL.nil ?_
  refine AW.kq [11, 16, 18, 20, 21, 22] (h := ?_)
  repeat refine AW.seq ?_
  refine AW.reg ?_
  iterate 19 refine AOL.s1 (h := ?_)
  refine AOL.nil ?_
  refine AW.kq [10] (h := ?_)
  repeat refine AW.seq ?_
  refine AW.ret ?_
  refine ⟨_, [], rfl, HOk.nil _, ?_⟩
  rfl
end Go.Proofs.Ytdbpjegocmdplaa.E.M
end
section
/- The numbers of layers 13 and 14 «as» a field's: values of polynomials, the transform, the quotient. -/
set_option linter.unusedVariables false
set_option linter.unusedSimpArgs false
set_option maxRecDepth 10000
open Go Go.Proofs.Ytdbpjegocmdplaa.E Go.Proofs
namespace Go.Proofs.Ytdbpjegocmdplaa.E.M
section
variable {r : Nat} [NeZero r]
open Obol (of of_add of_mul of_sub of_zero of_one of_neg of_emod)
theorem om (hr : (r : Int) = 288230376287764481) (a : Int) : of r (a % 288230376287764481) = of r a := by rw [← hr, of_emod]
def fp (x : Fin r) : Nat → Fin r
  | 0 => 1
  | k + 1 => fp x k * x
theorem fp_add (x : Fin r) (j : Nat) : ∀ k, fp x (j + k) = fp x j * fp x k
  | 0 => by simp only [fp, Nat.add_zero]; grind
  | k + 1 => by rw [← Nat.add_assoc]; simp only [fp, fp_add x j k]; grind
theorem fp_one : ∀ k, fp (1 : Fin r) k = 1
  | 0 => rfl
  | k + 1 => by simp only [fp, fp_one k]; grind
theorem fp_mul (x y : Fin r) : ∀ k, fp (x * y) k = fp x k * fp y k
  | 0 => by simp only [fp]; grind
  | k + 1 => by simp only [fp, fp_mul x y k]; grind
theorem fp_fp (x : Fin r) (j : Nat) : ∀ k, fp (fp x j) k = fp x (j * k)
  | 0 => rfl
  | k + 1 => by simp only [fp, fp_fp x j k, Nat.mul_succ, fp_add]
theorem fp_swap (x : Fin r) (j k : Nat) : fp (fp x j) k = fp (fp x k) j := by rw [fp_fp, fp_fp, Nat.mul_comm]
theorem of_pow (a : Int) : ∀ k, of r (a ^ k) = fp (of r a) k
  | 0 => by simp only [Int.pow_zero, fp]; exact of_one
  | k + 1 => by rw [Int.pow_succ, of_mul, of_pow a k]; rfl
def ev : List Int → Fin r → Fin r
  | [], _ => 0
  | a :: L, x => of r a + x * ev L x
abbrev gd (L : List Int) (j : Nat) : Fin r := of r (L[j]?.getD 0)
theorem ev_app (x : Fin r) (M : List Int) : ∀ L : List Int, ev (L ++ M) x = ev L x + fp x L.length * ev M x
  | [] => by simp only [List.nil_append, ev, List.length_nil, fp]; grind
  | a :: L => by simp only [List.cons_append, ev, List.length_cons, fp, ev_app x M L]; grind
theorem ev_set (x : Fin r) (v : Int) : ∀ (L : List Int) (j : Nat), j < L.length → ev (L.set j v) x = ev L x + fp x j * (of r v - gd L j)
  | [], j, h => absurd h (Nat.not_lt_zero _)
  | a :: L, 0, h => by simp only [List.set_cons_zero, ev, fp, gd, List.getElem?_cons_zero, Option.getD_some]; grind
  | a :: L, j + 1, h => by
    simp only [List.set_cons_succ, ev, fp, gd, List.getElem?_cons_succ]
    rw [ev_set x v L j (by simpa using h)]
    simp only [gd]
    grind
theorem ev_zeros (x : Fin r) : ∀ L : List Int, (∀ v ∈ L, v = 0) → ev L x = 0
  | [], _ => rfl
  | a :: L, h => by
    simp only [ev]
    rw [ev_zeros x L fun v hv => h v (List.mem_cons_of_mem _ hv), h a (by simp), of_zero]; grind
theorem ev_rep (x : Fin r) (n : Nat) : ev (List.replicate n 0) x = 0 := ev_zeros x _ fun v hv => List.eq_of_mem_replicate hv
theorem ev_congr (x : Fin r) : ∀ {L M : List Int}, L.length = M.length → (∀ j, (gd L j : Fin r) = gd M j) → ev L x = ev M x
  | [], [], _, _ => rfl
  | [], _ :: _, h, _ => by simp at h
  | _ :: _, [], h, _ => by simp at h
  | a :: L, b :: M, h, k => by
    simp only [ev]
    have h0 := k 0
    simp only [gd, List.getElem?_cons_zero, Option.getD_some] at h0
    rw [h0, ev_congr x (by simpa using h) fun j => by have := k (j + 1); simpa only [gd, List.getElem?_cons_succ] using this]
theorem mem_tw {p : Int → Bool} : ∀ {l : List Int} {v : Int}, v ∈ l.takeWhile p → p v = true
  | [], v, h => by simp at h
  | a :: l, v, h => by
    rw [List.takeWhile_cons] at h
    split at h
    · rename_i ha
      rcases List.mem_cons.1 h with rfl | h
      · exact ha
      · exact mem_tw h
    · simp at h
theorem ev_short (x : Fin r) (L : List Int) : ev (shortL L) x = ev L x := by
  have e : L = shortL L ++ (L.reverse.takeWhile (· == 0)).reverse := by
    unfold shortL
    rw [← List.reverse_append, List.takeWhile_append_dropWhile, List.reverse_reverse]
  have h := ev_app x (L.reverse.takeWhile (· == 0)).reverse (shortL L)
  rw [← e, ev_zeros x (L.reverse.takeWhile (· == 0)).reverse (by
    intro v hv
    have := List.mem_reverse.1 hv
    have hb := mem_tw this
    simpa using hb)] at h
  rw [h]; grind
theorem ev_mulRow (hr : (r : Int) = 288230376287764481) (x : Fin r) (a : Int) : ∀ (q L : List Int) (j : Nat), j + q.length ≤ L.length → ev (mulRow L j a q) x = ev L x + fp x j * (of r a * ev q x)
  | [], L, j, h => by simp only [mulRow, ev]; grind
  | b :: q, L, j, h => by
    simp only [List.length_cons] at h
    simp only [mulRow, ev]
    rw [ev_mulRow hr x a q _ (j + 1) (by rw [addAt_len]; omega)]
    unfold addAt
    rw [ev_set x _ L j (by omega), om hr, of_add, om hr, of_mul]
    simp only [gd, fp]
    grind
theorem ev_mulAll (hr : (r : Int) = 288230376287764481) (x : Fin r) (q : List Int) : ∀ (p L : List Int) (j : Nat), j + p.length + q.length ≤ L.length + 1 → ev (mulAll L j p q) x = ev L x + fp x j * (ev p x * ev q x)
  | [], L, j, h => by simp only [mulAll, ev]; grind
  | a :: p, L, j, h => by
    simp only [List.length_cons] at h
    simp only [mulAll, ev]
    rw [ev_mulAll hr x q p _ (j + 1) (by rw [mulRow_len]; omega), ev_mulRow hr x a q L j (by omega)]
    simp only [fp]
    grind
theorem ev_mulL (hr : (r : Int) = 288230376287764481) (x : Fin r) (p q : List Int) : ev (mulL p q) x = ev p x * ev q x := by
  unfold mulL
  rw [ev_mulAll hr x q p _ 0 (by simp), ev_rep]
  simp only [fp]
  grind
theorem ev_subF (hr : (r : Int) = 288230376287764481) (x : Fin r) : ∀ (C : List Int) (j : Nat) (P : List Int), j ≤ P.length → ev (subF j C P) x = ev P x - fp x j * ev C x
  | [], j, P, h => by simp only [subF, ev]; grind
  | c :: C, j, P, h => by
    simp only [subF, ev]
    have hP : ∃ P', (if j = P.length then P ++ [0] else P) = P' ∧ j < P'.length ∧ ev P' x = ev P x := by
      refine ⟨_, rfl, ?_, ?_⟩
      · split
        · simp; omega
        · omega
      · split
        · rw [ev_app]; simp only [ev, of_zero]; grind
        · rfl
    obtain ⟨P', e, h1, h2⟩ := hP
    rw [e]
    rw [ev_subF hr x C (j + 1) _ (by rw [List.length_set]; omega), ev_set x _ P' j h1, om hr, of_sub, h2]
    simp only [gd, fp]
    grind
theorem ev_red (hr : (r : Int) = 288230376287764481) (x : Fin r) (p : List Int) : ev ((List.range p.length).map (redF p)) x = ev p x := by
  refine ev_congr x (by simp) fun j => ?_
  simp only [gd]
  rcases Nat.lt_or_ge j p.length with h | h
  · rw [List.getElem?_map, List.getElem?_range h]
    simp only [Option.map_some, Option.getD_some, redF]
    rw [om hr]
  · rw [List.getElem?_eq_none (by simpa using h), List.getElem?_eq_none h]
theorem getD_set {L : List Int} {j k : Nat} {v : Int} (h : j ≠ k) : (L.set j v)[k]?.getD 0 = L[k]?.getD 0 := by rw [List.getElem?_set_ne h]
theorem ev_van (hr : (r : Int) = 288230376287764481) (x : Fin r) {n : Nat} (hn : 0 < n) : ∀ (m : Nat) (rest out : List Int), m ≤ out.length → n + m ≤ rest.length → (∀ j, j < m → out[j]?.getD 0 = 0) →
    ev (vanF n m rest out).1 x + (fp x n - 1) * ev (vanF n m rest out).2 x = ev rest x + (fp x n - 1) * ev out x
  | 0, rest, out, _, _, _ => rfl
  | m + 1, rest, out, h1, h2, h3 => by
    simp only [vanF]
    rw [ev_van hr x hn m _ _ (by rw [List.length_set]; omega) (by rw [List.length_set, List.length_set]; omega) (fun j hj => by rw [getD_set (by omega)]; exact h3 j (by omega))]
    rw [ev_set x _ _ (n + m) (by rw [List.length_set]; omega), ev_set x _ _ m (by omega), ev_set x _ _ m (by omega)]
    simp only [gd]
    rw [getD_set (by omega), om hr, of_add, of_zero, h3 m (by omega), of_zero, fp_add]
    grind
theorem van_ev (hr : (r : Int) = 288230376287764481) (x : Fin r) {n : Nat} (hn : 0 < n) {p : List Int} (hp : n ≤ p.length) (hok : vanOk n p = true) : ev p x = (fp x n - 1) * ev (vanV n p) x := by
  have h := ev_van hr x hn (p.length - n) ((List.range p.length).map (redF p)) (List.replicate (p.length - n) 0) (by simp) (by simp; omega) (fun j hj => by rw [List.getElem?_replicate]; split <;> rfl)
  rw [ev_rep, ev_red hr] at h
  have h0 : ev (vanR n p).1 x = 0 := by
    have e : shortL (vanR n p).1 = [] := by unfold vanOk at hok; simpa using hok
    rw [← ev_short, e]; rfl
  have h1 : ev (vanF n (p.length - n) ((List.range p.length).map (redF p)) (List.replicate (p.length - n) 0)).1 x = 0 := h0
  rw [h1] at h
  have h2 : ev (vanV n p) x = ev (vanF n (p.length - n) ((List.range p.length).map (redF p)) (List.replicate (p.length - n) 0)).2 x := ev_short x _
  rw [h2]
  grind
/-! ### sums -/
def sm : Nat → (Nat → Fin r) → Fin r
  | 0, _ => 0
  | n + 1, f => sm n f + f n
theorem sm_congr {f g : Nat → Fin r} : ∀ n, (∀ i, i < n → f i = g i) → sm n f = sm n g
  | 0, _ => rfl
  | n + 1, h => by simp only [sm, sm_congr n fun i hi => h i (by omega), h n (by omega)]
theorem sm_mul (c : Fin r) (f : Nat → Fin r) : ∀ n, c * sm n f = sm n fun i => c * f i
  | 0 => by simp only [sm]; grind
  | n + 1 => by simp only [sm, ← sm_mul c f n]; grind
theorem sm_add (f g : Nat → Fin r) : ∀ n, sm n f + sm n g = sm n fun i => f i + g i
  | 0 => by simp only [sm]; grind
  | n + 1 => by simp only [sm, ← sm_add f g n]; grind
theorem sm_zero : ∀ n, sm n (fun _ => (0 : Fin r)) = 0
  | 0 => rfl
  | n + 1 => by simp only [sm, sm_zero n]; grind
theorem sm_swap (f : Nat → Nat → Fin r) (m : Nat) : ∀ n, sm n (fun i => sm m (f i)) = sm m fun j => sm n fun i => f i j
  | 0 => by simp only [sm]; rw [sm_zero]
  | n + 1 => by simp only [sm]; rw [sm_swap f m n, sm_add]
theorem sm_shift (f : Nat → Fin r) : ∀ n, sm (n + 1) f = f 0 + sm n fun i => f (i + 1)
  | 0 => by simp only [sm]; grind
  | n + 1 => by rw [sm, sm_shift f n]; simp only [sm]; grind
theorem sm_more (f : Nat → Fin r) (m : Nat) : ∀ k, (∀ i, m ≤ i → f i = 0) → sm (m + k) f = sm m f
  | 0, _ => rfl
  | k + 1, h => by rw [← Nat.add_assoc]; simp only [sm]; rw [sm_more f m k h, h (m + k) (by omega)]; grind
theorem ev_sm (x : Fin r) (L : List Int) : ev L x = sm L.length fun i => gd L i * fp x i := by
  have key : ∀ n, n ≤ L.length → ev (L.take n) x = sm n fun i => gd L i * fp x i := by
    intro n
    induction n with
    | zero => intro _; simp only [List.take_zero, ev, sm]
    | succ n ih =>
      intro h
      rw [List.take_add_one, List.getElem?_eq_getElem (by omega), Option.toList_some, ev_app, ih (by omega), List.length_take, Nat.min_eq_left (by omega)]
      simp only [sm, ev, gd]
      rw [List.getElem?_eq_getElem (by omega), Option.getD_some]
      grind
  have := key L.length (Nat.le_refl _)
  rw [List.take_length] at this
  exact this
theorem geo (y : Fin r) : ∀ n, (y - 1) * sm n (fp y) = fp y n - 1
  | 0 => by simp only [sm, fp]; grind
  | n + 1 => by
    have := geo y n
    simp only [sm, fp]
    grind
/-! ### the transform -/
theorem ev_split (y : Fin r) : ∀ p : List Int, ev p y = ev (evL p) (y * y) + y * ev (odL p) (y * y)
  | [] => by simp only [evL, odL, ev]; grind
  | [a] => by simp only [evL, odL, ev]; grind
  | a :: b :: l => by simp only [evL, odL, ev, ev_split y l]; grind
theorem ev_lens : ∀ (p : List Int) (n : Nat), p.length = 2 * n → (evL p).length = n ∧ (odL p).length = n
  | [], n, h => by
    obtain rfl : n = 0 := by simp at h; omega
    exact ⟨rfl, rfl⟩
  | [a], n, h => by simp at h; omega
  | a :: b :: l, n, h => by
    simp only [List.length_cons] at h
    obtain ⟨m, rfl⟩ : ∃ m, n = m + 1 := ⟨n - 1, by omega⟩
    have := ev_lens l m (by omega)
    simp only [evL, odL, List.length_cons, this.1, this.2, and_self]
theorem of_pwq (hr : (r : Int) = 288230376287764481) (w : Int) : ∀ j, of r (pwq w j) = fp (of r w) j
  | 0 => of_one
  | j + 1 => by simp only [pwq, fp]; rw [om hr, of_mul, of_pwq hr w j]
theorem turn_at (hr : (r : Int) = 288230376287764481) : ∀ (k : Nat) (w : Int) (p : List Int), p.length = 2 ^ k → (∀ h, k = h + 1 → fp (of r w) (2 ^ h) = -1) → ∀ i, i < 2 ^ k → (gd (turnF k w p) i : Fin r) = ev p (fp (of r w) i)
  | 0, w, p, hp, _, i, hi => by
    obtain rfl : i = 0 := by simp at hi; exact hi
    obtain ⟨a, rfl⟩ : ∃ a, p = [a] := List.length_eq_one_iff.1 (by simpa using hp)
    simp only [turnF, gd, List.getElem?_cons_zero, Option.getD_some, ev, fp]
    rw [om hr]; grind
  | k + 1, w, p, hp, hw, i, hi => by
    have hh := hw k rfl
    have hlen := ev_lens p (2 ^ k) (by rw [hp, Nat.pow_succ]; omega)
    have hW : of r (w * w % 288230376287764481) = of r w * of r w := by rw [om hr, of_mul]
    have hw' : ∀ h, k = h + 1 → fp (of r (w * w % 288230376287764481)) (2 ^ h) = -1 := by
      intro h hk
      subst hk
      rw [hW, fp_mul, ← fp_add, ← hh, show 2 ^ h + 2 ^ h = 2 ^ (h + 1) by rw [Nat.pow_succ]; omega]
    have he : ∀ j, j < 2 ^ k → of r ((turnF k (w * w % 288230376287764481) (evL p))[j]?.getD 0) = ev (evL p) (fp (of r w) j * fp (of r w) j) := by
      intro j hj
      have := turn_at hr k (w * w % 288230376287764481) (evL p) hlen.1 hw' j hj
      rw [hW, fp_mul] at this; exact this
    have ho : ∀ j, j < 2 ^ k → of r ((turnF k (w * w % 288230376287764481) (odL p))[j]?.getD 0) = ev (odL p) (fp (of r w) j * fp (of r w) j) := by
      intro j hj
      have := turn_at hr k (w * w % 288230376287764481) (odL p) hlen.2 hw' j hj
      rw [hW, fp_mul] at this; exact this
    simp only [gd, turnF]
    rcases Nat.lt_or_ge i (2 ^ k) with h | h
    · rw [List.getElem?_append_left (by simpa using h), List.getElem?_map, List.getElem?_range h]
      simp only [Option.map_some, Option.getD_some, upF]
      rw [om hr, of_add, om hr, of_mul, of_pwq hr, he i h, ho i h, ev_split _ p]
    · obtain ⟨j, rfl⟩ : ∃ j, i = 2 ^ k + j := ⟨i - 2 ^ k, by omega⟩
      have hj : j < 2 ^ k := by rw [Nat.pow_succ] at hi; omega
      rw [List.getElem?_append_right (by simp), List.getElem?_map]
      simp only [List.length_map, List.length_range, Nat.add_sub_cancel_left]
      rw [List.getElem?_range hj]
      simp only [Option.map_some, Option.getD_some, dnF]
      rw [om hr, of_sub, om hr, of_mul, of_pwq hr, he j hj, ho j hj, ev_split _ p, fp_add, hh]
      have e1 : (-1 : Fin r) * fp (of r w) j * (-1 * fp (of r w) j) = fp (of r w) j * fp (of r w) j := by grind
      rw [e1]
      grind
theorem inv_at (hr : (r : Int) = 288230376287764481) {k : Nat} {V : List Int} (hV : V.length = 2 ^ k) (hw : ∀ h, k = h + 1 → fp (of r (winv k)) (2 ^ h) = -1) {i : Nat} (hi : i < 2 ^ k) : (gd (invF k V) i : Fin r) = ev V (fp (of r (winv k)) i) * of r (ninv k) := by
  have h := turn_at hr k (winv k) V hV hw i hi
  unfold invF
  simp only [gd] at h ⊢
  rw [List.getElem?_map]
  rw [List.getElem?_eq_getElem (by rw [turnF_len]; exact hi)] at h ⊢
  simp only [Option.map_some, Option.getD_some, mulR] at h ⊢
  rw [om hr, of_mul, h]
/-- the values between, by the domain's -/
theorem ev_inv (hr : (r : Int) = 288230376287764481) {k : Nat} {V : List Int} (hV : V.length = 2 ^ k) (hw : ∀ h, k = h + 1 → fp (of r (winv k)) (2 ^ h) = -1) (x : Fin r) :
    ev (invF k V) x = sm (2 ^ k) fun j => gd V j * (of r (ninv k) * sm (2 ^ k) (fp (x * fp (of r (winv k)) j))) := by
  rw [ev_sm, invF_len]
  have e1 : sm (2 ^ k) (fun i => gd (invF k V) i * fp x i) = sm (2 ^ k) fun i => sm (2 ^ k) fun j => gd V j * (of r (ninv k) * (fp x i * fp (fp (of r (winv k)) j) i)) := by
    refine sm_congr _ fun i hi => ?_
    rw [inv_at hr hV hw hi, ev_sm, hV]
    have e2 : sm (2 ^ k) (fun j => gd V j * fp (fp (of r (winv k)) i) j) * of r (ninv k) * fp x i = (of r (ninv k) * fp x i) * sm (2 ^ k) (fun j => gd V j * fp (fp (of r (winv k)) i) j) := by grind
    rw [e2, sm_mul]
    refine sm_congr _ fun j hj => ?_
    rw [fp_swap (of r (winv k)) i j]
    grind
  rw [e1, sm_swap]
  refine sm_congr _ fun j hj => ?_
  rw [sm_mul, sm_mul]
  refine sm_congr _ fun i hi => ?_
  rw [fp_mul]
/-! ### the places' numbers -/
/-- what is asked of a domain's powers -/
structure Dom (r : Nat) [NeZero r] (k : Nat) : Prop where
  one : fp (of r (rootF k)) (2 ^ k) = 1
  inv : of r (winv k) * of r (rootF k) = 1
  half : ∀ h, k = h + 1 → fp (of r (winv k)) (2 ^ h) = -1
theorem pow_of (hr : (r : Int) = 288230376287764481) {a e : Int} (ha : 0 ≤ a) (he : w64 e) : of r (ipow 288230376287764481 a e) = fp (of r a) e.toNat := by
  rw [ipow_eq (by decide) ha he, om hr, of_pow]
theorem lag_at (hr : (r : Int) = 288230376287764481) (hp : Obol.IsPrime r) {k : Nat} (hk : k ≤ 12) (D : Dom r k) {x : Int} (hx : w64 x) (hz : of r (zF k x) ≠ 0) {j : Nat} (hj : j < 2 ^ k) :
    (gd (lagF k x) j : Fin r) = of r (ninv k) * sm (2 ^ k) (fp (of r x * fp (of r (winv k)) j)) := by
  have ht := two_le hk
  have hzx : of r (zF k x) = fp (of r x) (2 ^ k) - 1 := by
    unfold zF
    rw [om hr, of_sub, pow_of hr hx.1 ⟨by omega, by omega⟩, of_one, Int.toNat_natCast]
  have hU : fp (of r (winv k)) j * fp (of r (rootF k)) j = 1 := by rw [← fp_mul, D.inv, fp_one]
  have hN : fp (of r (winv k)) (2 ^ k) = 1 := by
    have h1 : fp (of r (winv k)) (2 ^ k) * fp (of r (rootF k)) (2 ^ k) = 1 := by rw [← fp_mul, D.inv, fp_one]
    rw [D.one] at h1
    grind
  have hO : fp (fp (of r (rootF k)) j) (2 ^ k) = 1 := by rw [fp_swap, D.one, fp_one]
  have hg := geo (of r x * fp (of r (winv k)) j) (2 ^ k)
  rw [fp_mul, fp_swap (of r (winv k)) j (2 ^ k), hN, fp_one] at hg
  have hne : of r x - fp (of r (rootF k)) j ≠ 0 := by
    intro h
    have e : of r x = fp (of r (rootF k)) j := by grind
    rw [hzx, e, hO] at hz
    exact hz (by grind)
  have hd : of r ((x - pwq (rootF k) j) % 288230376287764481) = of r x - fp (of r (rootF k)) j := by rw [om hr, of_sub, of_pwq hr]
  have hd0 : ¬ (x - pwq (rootF k) j) % 288230376287764481 = 0 := by
    intro h
    rw [h, of_zero] at hd
    exact hne hd.symm
  have hw : w64 ((x - pwq (rootF k) j) % 288230376287764481) := w64_r _
  have hinv : fp (of r x - fp (of r (rootF k)) j) 288230376287764479 * (of r x - fp (of r (rootF k)) j) = 1 := by
    rw [← hd]
    generalize hy : (x - pwq (rootF k) j) % 288230376287764481 = y at *
    have hyl : y < 288230376287764481 := by rw [← hy]; exact Int.emod_lt_of_pos _ (by decide)
    have h1 : ¬ r ∣ y.toNat := by
      intro h
      have := Nat.le_of_dvd (by omega) h
      omega
    have h2 := Obol.fermat hp h1
    have h3 : (y ^ 288230376287764480 : Int) % 288230376287764481 = 1 := by
      have e : ((y.toNat ^ (r - 1) % r : Nat) : Int) = 1 := by rw [h2]; rfl
      rw [Int.natCast_emod, Int.natCast_pow, Int.toNat_of_nonneg hw.1, hr] at e
      rw [show r - 1 = 288230376287764480 by omega] at e
      exact e
    have h4 := om hr (y ^ 288230376287764480)
    rw [h3, of_one, of_pow] at h4
    rw [h4]
    rfl
  unfold lagF
  simp only [gd]
  rw [List.getElem?_map, List.getElem?_range hj]
  simp only [Option.map_some, Option.getD_some, lagI]
  rw [if_neg hd0, om hr, of_mul, om hr, of_mul, of_pwq hr, pow_of hr hw.1 (by decide), hd]
  unfold byF
  rw [om hr, of_mul, hzx]
  have en : of r (ipow 288230376287764481 (2 ^ k : Nat) 288230376287764479) = of r (ninv k) := rfl
  rw [en]
  show (fp (of r x) (2 ^ k) - 1) * of r (ninv k) * fp (of r (rootF k)) j * fp (of r x - fp (of r (rootF k)) j) 288230376287764479 = _
  generalize sm (2 ^ k) (fp (of r x * fp (of r (winv k)) j)) = S at *
  generalize fp (of r x - fp (of r (rootF k)) j) 288230376287764479 = i at *
  generalize fp (of r (rootF k)) j = w at *
  generalize fp (of r (winv k)) j = u at *
  generalize fp (of r x) (2 ^ k) = z at *
  generalize of r (ninv k) = ν at *
  generalize of r x = X at *
  have e1 : z - 1 = (X * u - 1) * S := by grind
  have e2 : (X * u - 1) * w = X - w := by grind
  have e3 : (z - 1) * w = (X - w) * S := by rw [e1, ← e2]; grind
  have e4 : (z - 1) * ν * w * i = ν * (((z - 1) * w) * i) := by grind
  rw [e4, e3]
  have e5 : (X - w) * S * i = S * (i * (X - w)) := by grind
  rw [e5, hinv]
  grind
theorem ev_lag (hr : (r : Int) = 288230376287764481) (hp : Obol.IsPrime r) {k : Nat} (hk : k ≤ 12) (D : Dom r k) {x : Int} (hx : w64 x) (hz : of r (zF k x) ≠ 0) {V : List Int} (hV : V.length = 2 ^ k) : ev (invF k V) (of r x) = sm (2 ^ k) fun j => gd V j * gd (lagF k x) j := by
  rw [ev_inv hr hV D.half]
  exact sm_congr _ fun j hj => by rw [lag_at hr hp hk D hx hz hj]
/-! ### the lists' values -/
def dt : List Int → List Int → Fin r
  | a :: A, b :: B => of r a * of r b + dt A B
  | _, _ => 0
theorem dt_set (v : Int) : ∀ (L V : List Int) (j : Nat), j < L.length → L.length = V.length → dt (L.set j v) V = dt L V + (of r v - gd L j) * gd V j
  | [], V, j, h, _ => absurd h (Nat.not_lt_zero _)
  | a :: L, [], j, h, e => by simp at e
  | a :: L, b :: V, 0, h, e => by simp only [List.set_cons_zero, dt, gd, List.getElem?_cons_zero, Option.getD_some]; grind
  | a :: L, b :: V, j + 1, h, e => by
    simp only [List.set_cons_succ, dt, gd, List.getElem?_cons_succ]
    rw [dt_set v L V j (by simpa using h) (by simpa using e)]
    simp only [gd]
    grind
theorem dt_rep : ∀ (n : Nat) (V : List Int), dt (List.replicate n 0) V = (0 : Fin r)
  | 0, V => by cases V <;> rfl
  | n + 1, [] => rfl
  | n + 1, b :: V => by simp only [List.replicate_succ, dt, dt_rep n V, of_zero]; grind
/-- a list's value -/
def tv (V : List Int) : List Tm → Fin r
  | [] => 0
  | t :: l => of r t.k * gd V t.v.toNat + tv V l
theorem val_tv (hr : (r : Int) = 288230376287764481) (V : List Int) : ∀ (l : List Tm) (out : Int), inT V.length l → of r (valF V out l) = of r out + tv V l
  | [], out, _ => by simp only [valF, tv]; grind
  | t :: l, out, h => by
    have ht := h t (by simp)
    simp only [valF, tv]
    rw [val_tv hr V l _ fun t' ht' => h t' (List.mem_cons_of_mem _ ht'), if_pos ⟨ht.1, ht.2.1⟩, om hr, of_add, om hr, of_mul]
    simp only [gd]
    grind
theorem add_tv (hr : (r : Int) = 288230376287764481) (V : List Int) (b : Int) : ∀ (l : List Tm) (L : List Int), L.length = V.length → inT V.length l → dt (addF b L l) V = dt L V + of r b * tv V l
  | [], L, _, _ => by simp only [addF, tv]; grind
  | t :: l, L, e, h => by
    have ht := h t (by simp)
    simp only [addF, tv]
    rw [add_tv hr V b l _ (by rw [List.length_set]; exact e) fun t' ht' => h t' (List.mem_cons_of_mem _ ht'), dt_set _ L V _ (by omega) e, om hr, of_add, om hr, of_mul]
    simp only [gd]
    grind
theorem at_dt (hr : (r : Int) = 288230376287764481) (V : List Int) (sel : Rw → List Tm) (base : List Int) : ∀ (l : List Rw) (j : Nat) (L : List Int), L.length = V.length → (∀ w ∈ l, inT V.length (sel w)) →
    dt (atF sel base j l L) V = dt L V + sm l.length fun i => gd base (j + i) * of r (valF V 0 (sel (l[i]?.getD default)))
  | [], j, L, _, _ => by simp only [atF, List.length_nil, sm]; grind
  | w :: l, j, L, e, h => by
    simp only [atF, List.length_cons]
    rw [at_dt hr V sel base l (j + 1) _ (by rw [addF_len]; exact e) (fun w' hw' => h w' (List.mem_cons_of_mem _ hw')), add_tv hr V _ _ L e (h w (by simp)), sm_shift]
    simp only [List.getElem?_cons_zero, Option.getD_some, List.getElem?_cons_succ, Nat.add_zero]
    rw [val_tv hr V _ 0 (h w (by simp)), of_zero]
    have e1 : (fun i => gd base (j + (i + 1)) * of r (valF V 0 (sel (l[i]?.getD default)))) = fun i => gd base (j + 1 + i) * of r (valF V 0 (sel (l[i]?.getD default))) := by
      funext i; rw [show j + (i + 1) = j + 1 + i by omega]
    rw [e1]
    simp only [gd]
    grind
/-- a column's value between: by the lists, and by the transform -/
theorem col_ev (hr : (r : Int) = 288230376287764481) (hp : Obol.IsPrime r) {s : Rk} {V : List Int} {n : Nat} {x : Int} (hl : s.l.length ≤ 4096) (D : Dom r (lg s.l.length)) (hx : w64 x) (hz : of r (zF (lg s.l.length) x) ≠ 0) (hv : s.v = n) (hV : V.length = n) (sel : Rw → List Tm) (hs : ∀ w ∈ s.l, inT n (sel w)) :
    ev (invF (lg s.l.length) (colL V sel (2 ^ lg s.l.length) s.l)) (of r x) = dt (atL sel s x) V := by
  obtain ⟨hk, hN⟩ := lg_le hl
  have hc : (colL V sel (2 ^ lg s.l.length) s.l).length = 2 ^ lg s.l.length := by unfold colL; rw [upL_len _ hN]
  rw [ev_lag hr hp hk D hx hz hc]
  unfold atL
  rw [at_dt hr V sel _ s.l 0 _ (by rw [List.length_replicate, hv, hV]; rfl) (by rw [hV]; exact hs), dt_rep]
  obtain ⟨q, hq⟩ : ∃ q, 2 ^ lg s.l.length = s.l.length + q := ⟨2 ^ lg s.l.length - s.l.length, by omega⟩
  have g1 : ∀ i, i < s.l.length → gd (colL V sel (2 ^ lg s.l.length) s.l) i = of r (valF V 0 (sel (s.l[i]?.getD default))) := by
    intro i hi
    simp only [gd, colL, upL]
    rw [List.getElem?_append_left (by simpa using hi), List.getElem?_map, List.getElem?_range hi]
    rfl
  have g2 : ∀ i, s.l.length ≤ i → gd (colL V sel (2 ^ lg s.l.length) s.l) i = (0 : Fin r) := by
    intro i hi
    simp only [gd, colL, upL]
    rw [List.getElem?_append_right (by simpa using hi), List.getElem?_replicate]
    split <;> exact of_zero
  have e0 : sm (r := r) (2 ^ lg s.l.length) (fun j => gd (colL V sel (2 ^ lg s.l.length) s.l) j * gd (lagF (lg s.l.length) x) j) = sm (r := r) s.l.length (fun j => gd (colL V sel (2 ^ lg s.l.length) s.l) j * gd (lagF (lg s.l.length) x) j) := by
    have := sm_more (r := r) (fun j => gd (colL V sel (2 ^ lg s.l.length) s.l) j * gd (lagF (lg s.l.length) x) j) s.l.length q (fun i hi => by simp only [g2 i hi]; grind)
    rw [← hq] at this
    exact this
  rw [e0]
  have e1 : sm (r := r) s.l.length (fun j => gd (colL V sel (2 ^ lg s.l.length) s.l) j * gd (lagF (lg s.l.length) x) j) = sm s.l.length fun i => gd (lagF (lg s.l.length) x) (0 + i) * of r (valF V 0 (sel (s.l[i]?.getD default))) := by
    refine sm_congr _ fun i hi => ?_
    rw [g1 i hi, Nat.zero_add]; grind
  rw [e1]
  grind
/-- the rows' equation between -/
theorem quo_ev (hr : (r : Int) = 288230376287764481) (hp : Obol.IsPrime r) {s : Rk} {V : List Int} {n : Nat} {x : Int} (hl : s.l.length ≤ 4096) (D : Dom r (lg s.l.length)) (hx : w64 x) (hz : of r (zF (lg s.l.length) x) ≠ 0) (hv : s.v = n) (hV : V.length = n) (hin : ∀ w ∈ s.l, inT n w.a ∧ inT n w.b ∧ inT n w.c) (hok : vanOk (2 ^ lg s.l.length) (quoP s V) = true) :
    (dt (atL Rw.a s x) V : Fin r) * dt (atL Rw.b s x) V - dt (atL Rw.c s x) V = of r (zF (lg s.l.length) x) * ev (hsF s V) (of r x) := by
  obtain ⟨hk, hN⟩ := lg_le hl
  obtain ⟨t1, t2⟩ := two_le hk
  have hzx : of r (zF (lg s.l.length) x) = fp (of r x) (2 ^ lg s.l.length) - 1 := by
    unfold zF
    rw [om hr, of_sub, pow_of hr hx.1 ⟨by omega, by omega⟩, of_one, Int.toNat_natCast]
  have hq : ev (quoP s V) (of r x) = dt (atL Rw.a s x) V * dt (atL Rw.b s x) V - dt (atL Rw.c s x) V := by
    unfold quoP
    rw [ev_subF hr _ _ 0 _ (Nat.zero_le _), ev_short, ev_mulL hr, col_ev hr hp hl D hx hz hv hV Rw.a fun w hw => (hin w hw).1, col_ev hr hp hl D hx hz hv hV Rw.b fun w hw => (hin w hw).2.1, col_ev hr hp hl D hx hz hv hV Rw.c fun w hw => (hin w hw).2.2]
    simp only [fp]
    grind
  have hlen : 2 ^ lg s.l.length ≤ (quoP s V).length := by
    unfold quoP
    rw [subF_len _ _ _ (Nat.zero_le _), invF_len]
    omega
  rw [← hq, van_ev hr _ (by omega) hlen hok, hzx]
  rfl
end
end Go.Proofs.Ytdbpjegocmdplaa.E.M
end
section
/- The document's pairing, by lines and walls: contracts over E. -/
set_option linter.unusedVariables false
set_option linter.unusedSimpArgs false
set_option maxRecDepth 10000
open Go Go.Proofs.Ytdbpjegocmdplaa.E Go.Proofs
namespace Go.Proofs.Ytdbpjegocmdplaa.E.M
def overE (a b : Int × Int) : Int × Int := mulE a (mulE (powE (powE b 1152921505151057923) 1152921505151057922) (powE b 1152921505151057921))
def rstepE (f l w : Int × Int) : Int × Int := overE (mulE f l) w
end Go.Proofs.Ytdbpjegocmdplaa.E.M
end
section
/- The curve's group law over a prime field, without any program. -/
namespace Obol

/-! ### the curve's points are a group: by the curve u u + v v = 1 - u u v v, whose sums have no exceptions -/
section
variable {n : Nat} [NeZero n]

/-- the inverse, «as» a power -/
def finv (x : Fin n) : Fin n := of n ((x.val ^ (n - 2) : Nat) : Int)

theorem finv_mul (hp : IsPrime n) {x : Fin n} (hx : x ≠ 0) : x * finv x = 1 := by
  have h2 := hp.1
  apply Fin.ext
  have hv : (finv x).val = x.val ^ (n - 2) % n := by
    have := of_val (n := n) ((x.val ^ (n - 2) : Nat) : Int)
    exact_mod_cast this
  rw [Fin.val_mul, hv]
  have hx' : ¬ n ∣ x.val := fun hd => hx (Fin.ext (by have := Nat.eq_zero_of_dvd_of_lt hd x.isLt; simpa using this))
  have hf := fermat hp hx'
  show _ = 1 % n
  rw [Nat.mod_eq_of_lt (show 1 < n by omega), ← hf, Nat.mul_mod, Nat.mod_mod, ← Nat.mul_mod, Nat.mul_comm, ← Nat.pow_succ]
  congr 2; omega

/-- what is asked of the prime: -1 and 2 have no root, -2 has one (it is s) -/
structure Good (n : Nat) [NeZero n] (s : Fin n) : Prop where
  prime : IsPrime n
  two : (2 : Fin n) ≠ 0
  noI : ∀ x : Fin n, x * x + 1 ≠ 0
  no2 : ∀ x : Fin n, x * x ≠ 2
  root : s * s = -2

abbrev EPt (n : Nat) := Option (Fin n × Fin n)
def onE : EPt n → Prop
  | none => True
  | some (x, y) => y * y = x * x * x + x

def lineE (l x1 y1 x2 : Fin n) : EPt n := some (l * l - x1 - x2, l * (x1 - (l * l - x1 - x2)) - y1)

def addE : EPt n → EPt n → EPt n
  | none, b => b
  | some a, none => some a
  | some (x1, y1), some (x2, y2) =>
    if x1 = x2 then (if y1 + y2 = 0 then none else lineE ((3 * (x1 * x1) + 1) * finv (y1 + y1)) x1 y1 x2)
    else lineE ((y2 - y1) * finv (x2 - x1)) x1 y1 x2

def phi (s : Fin n) : EPt n → Fin n × Fin n
  | none => (0, 1)
  | some (x, y) => (s * y * finv (x * x + 1), (x + 1) * finv (x - 1))

def addC (a b : Fin n × Fin n) : Fin n × Fin n :=
  ((a.1 * b.2 + a.2 * b.1) * finv (1 - a.1 * b.1 * a.2 * b.2), (a.2 * b.2 - a.1 * b.1) * finv (1 + a.1 * b.1 * a.2 * b.2))
def onC (a : Fin n × Fin n) : Prop := a.1 * a.1 + a.2 * a.2 = 1 - a.1 * a.1 * a.2 * a.2

theorem mul_finv_eq (hp : IsPrime n) {a b d : Fin n} (hd : d ≠ 0) (h : a = b * d) : a * finv d = b := by
  have := finv_mul hp hd
  grind

theorem eq_of_mul (hp : IsPrime n) {a b d : Fin n} (hd : d ≠ 0) (h : a * d = b * d) : a = b :=
  fin_cancel hp hd (by grind)

section
variable {s : Fin n}

theorem Good.x1 (g : Good n s) {x y : Fin n} (h : y * y = x * x * x + x) : x - 1 ≠ 0 := by
  intro e
  apply g.no2 y
  have : x = 1 := by grind
  subst this
  grind

/-- a sum of two squares is 0 only of 0s -/
theorem Good.squares (g : Good n s) {x y : Fin n} (h : x * x + y * y = 0) : x = 0 ∧ y = 0 := by
  by_cases hy : y = 0
  · subst hy
    refine ⟨?_, rfl⟩
    have : x * x = 0 := by grind
    rcases fin_mul_eq_zero g.prime this with h | h <;> exact h
  · exfalso
    have hi := finv_mul g.prime hy
    apply g.noI (x * finv y)
    grind

/-- the sums of the other curve have no 0 below -/
theorem Good.complete (g : Good n s) {a b : Fin n × Fin n} (ha : onC a) (hb : onC b) (e : Fin n) (he : e * e = 1) (h : a.1 * b.1 * a.2 * b.2 = e) : False := by
  obtain ⟨u1, v1⟩ := a
  obtain ⟨u2, v2⟩ := b
  unfold onC at ha hb
  simp only at ha hb h
  have k1 : (u1 - e * v1) * (u1 - e * v1) + (u1 * v1 * (u2 + v2)) * (u1 * v1 * (u2 + v2)) = 0 := by grind
  have k2 : (u1 + e * v1) * (u1 + e * v1) + (u1 * v1 * (u2 - v2)) * (u1 * v1 * (u2 - v2)) = 0 := by grind
  obtain ⟨a1, -⟩ := g.squares k1
  obtain ⟨a2, -⟩ := g.squares k2
  have : 2 * u1 = 0 := by grind
  rcases fin_mul_eq_zero g.prime this with h0 | h0
  · exact g.two h0
  · subst h0
    have e0 : e = 0 := by grind
    subst e0
    have one0 : (1 : Fin n) = 0 := by grind
    apply g.noI 0
    grind

theorem Good.down1 (g : Good n s) {a b : Fin n × Fin n} (ha : onC a) (hb : onC b) : 1 - a.1 * b.1 * a.2 * b.2 ≠ 0 := fun h => g.complete ha hb 1 (by grind) (by grind)
theorem Good.down2 (g : Good n s) {a b : Fin n × Fin n} (ha : onC a) (hb : onC b) : 1 + a.1 * b.1 * a.2 * b.2 ≠ 0 := fun h => g.complete ha hb (-1) (by grind) (by grind)

theorem closedC (u1 v1 u2 v2 A1 A2 B1 B2 : Fin n) (h1 : u1 * u1 + v1 * v1 = 1 - u1 * u1 * v1 * v1) (h2 : u2 * u2 + v2 * v2 = 1 - u2 * u2 * v2 * v2)
    (hA1 : A1 = u1 * v2 + v1 * u2) (hA2 : A2 = v1 * v2 - u1 * u2) (hB1 : B1 = 1 - u1 * u2 * v1 * v2) (hB2 : B2 = 1 + u1 * u2 * v1 * v2) :
    A1 * A1 * (B2 * B2) + A2 * A2 * (B1 * B1) = B1 * B1 * (B2 * B2) - A1 * A1 * (A2 * A2) := by
  subst hA1 hA2 hB1 hB2; grind (ringSteps := 10000000) (splits := 0)

theorem Good.addC_on (g : Good n s) {a b : Fin n × Fin n} (ha : onC a) (hb : onC b) : onC (addC a b) := by
  have d1 := finv_mul g.prime (g.down1 ha hb)
  have d2 := finv_mul g.prime (g.down2 ha hb)
  have k := closedC a.1 a.2 b.1 b.2 _ _ _ _ ha hb rfl rfl rfl rfl
  unfold onC addC
  simp only
  generalize 1 - a.1 * b.1 * a.2 * b.2 = B1 at *
  generalize 1 + a.1 * b.1 * a.2 * b.2 = B2 at *
  generalize a.1 * b.2 + a.2 * b.1 = A1 at *
  generalize a.2 * b.2 - a.1 * b.1 = A2 at *
  generalize finv B1 = i1 at *
  generalize finv B2 = i2 at *
  have e1 : A1 * i1 * (A1 * i1) + A2 * i2 * (A2 * i2) = (A1 * A1 * (B2 * B2) + A2 * A2 * (B1 * B1)) * (i1 * i1 * (i2 * i2)) := by
    have : i1 * i1 * (B1 * B1) = 1 := by grind
    have : i2 * i2 * (B2 * B2) = 1 := by grind
    grind
  have e2 : 1 - A1 * i1 * (A1 * i1) * (A2 * i2) * (A2 * i2) = (B1 * B1 * (B2 * B2) - A1 * A1 * (A2 * A2)) * (i1 * i1 * (i2 * i2)) := by
    have : i1 * i1 * (B1 * B1) = 1 := by grind
    have : i2 * i2 * (B2 * B2) = 1 := by grind
    grind
  rw [e1, e2, k]

theorem assocu (u1 v1 u2 v2 u3 v3 : Fin n) (h1 : u1 * u1 + v1 * v1 = 1 - u1 * u1 * v1 * v1) (h2 : u2 * u2 + v2 * v2 = 1 - u2 * u2 * v2 * v2) (h3 : u3 * u3 + v3 * v3 = 1 - u3 * u3 * v3 * v3)
    (A1 A2 B1 B2 C1 C2 D1 D2 : Fin n) (hA1 : A1 = u1 * v2 + v1 * u2) (hA2 : A2 = v1 * v2 - u1 * u2) (hB1 : B1 = 1 - u1 * u2 * v1 * v2) (hB2 : B2 = 1 + u1 * u2 * v1 * v2)
    (hC1 : C1 = u2 * v3 + v2 * u3) (hC2 : C2 = v2 * v3 - u2 * u3) (hD1 : D1 = 1 - u2 * u3 * v2 * v3) (hD2 : D2 = 1 + u2 * u3 * v2 * v3) :
    (A1 * B2 * v3 + A2 * B1 * u3) * (D1 * D2 - u1 * v1 * C1 * C2) = (u1 * C2 * D1 + v1 * C1 * D2) * (B1 * B2 - A1 * A2 * u3 * v3) := by
  subst hA1 hA2 hB1 hB2 hC1 hC2 hD1 hD2; grind (ringSteps := 10000000) (splits := 0)
theorem assocv (u1 v1 u2 v2 u3 v3 : Fin n) (h1 : u1 * u1 + v1 * v1 = 1 - u1 * u1 * v1 * v1) (h2 : u2 * u2 + v2 * v2 = 1 - u2 * u2 * v2 * v2) (h3 : u3 * u3 + v3 * v3 = 1 - u3 * u3 * v3 * v3)
    (A1 A2 B1 B2 C1 C2 D1 D2 : Fin n) (hA1 : A1 = u1 * v2 + v1 * u2) (hA2 : A2 = v1 * v2 - u1 * u2) (hB1 : B1 = 1 - u1 * u2 * v1 * v2) (hB2 : B2 = 1 + u1 * u2 * v1 * v2)
    (hC1 : C1 = u2 * v3 + v2 * u3) (hC2 : C2 = v2 * v3 - u2 * u3) (hD1 : D1 = 1 - u2 * u3 * v2 * v3) (hD2 : D2 = 1 + u2 * u3 * v2 * v3) :
    (A2 * B1 * v3 - A1 * B2 * u3) * (D1 * D2 + u1 * v1 * C1 * C2) = (v1 * C2 * D1 - u1 * C1 * D2) * (B1 * B2 + A1 * A2 * u3 * v3) := by
  subst hA1 hA2 hB1 hB2 hC1 hC2 hD1 hD2; grind (ringSteps := 10000000) (splits := 0)

theorem addC_comm (a b : Fin n × Fin n) : addC a b = addC b a := by
  unfold addC
  have e1 : a.1 * b.1 * a.2 * b.2 = b.1 * a.1 * b.2 * a.2 := by grind
  have e2 : a.1 * b.2 + a.2 * b.1 = b.1 * a.2 + b.2 * a.1 := by grind
  have e3 : a.2 * b.2 - a.1 * b.1 = b.2 * a.2 - b.1 * a.1 := by grind
  rw [e1, e2, e3]

theorem div_eq_div (hp : IsPrime n) {a b c d : Fin n} (hb : b ≠ 0) (hd : d ≠ 0) (h : a * d = c * b) : a * finv b = c * finv d := by
  have h1 := finv_mul hp hb
  have h2 := finv_mul hp hd
  apply eq_of_mul hp (fin_mul_ne_zero hp hb hd)
  grind

theorem fr1 {A1 A2 B1 B2 i1 i2 U V : Fin n} (d1 : B1 * i1 = 1) (d2 : B2 * i2 = 1) (p1 : U = A1 * i1) (p2 : V = A2 * i2) (x y : Fin n) : U * x + V * y = (A1 * B2 * x + A2 * B1 * y) * (i1 * i2) := by subst p1 p2; grind
theorem fr2 {A1 A2 B1 B2 i1 i2 U V : Fin n} (d1 : B1 * i1 = 1) (d2 : B2 * i2 = 1) (p1 : U = A1 * i1) (p2 : V = A2 * i2) (x y : Fin n) : V * x - U * y = (A2 * B1 * x - A1 * B2 * y) * (i1 * i2) := by subst p1 p2; grind
theorem fr3 {A1 A2 B1 B2 i1 i2 U V : Fin n} (d1 : B1 * i1 = 1) (d2 : B2 * i2 = 1) (p1 : U = A1 * i1) (p2 : V = A2 * i2) (x y : Fin n) : 1 - U * x * V * y = (B1 * B2 - A1 * A2 * x * y) * (i1 * i2) := by subst p1 p2; grind
theorem fr4 {A1 A2 B1 B2 i1 i2 U V : Fin n} (d1 : B1 * i1 = 1) (d2 : B2 * i2 = 1) (p1 : U = A1 * i1) (p2 : V = A2 * i2) (x y : Fin n) : 1 + U * x * V * y = (B1 * B2 + A1 * A2 * x * y) * (i1 * i2) := by subst p1 p2; grind
theorem fr5 {A1 A2 B1 B2 i1 i2 U V : Fin n} (d1 : B1 * i1 = 1) (d2 : B2 * i2 = 1) (p1 : U = A1 * i1) (p2 : V = A2 * i2) (x y : Fin n) : x * V + y * U = (x * A2 * B1 + y * A1 * B2) * (i1 * i2) := by subst p1 p2; grind
theorem fr6 {A1 A2 B1 B2 i1 i2 U V : Fin n} (d1 : B1 * i1 = 1) (d2 : B2 * i2 = 1) (p1 : U = A1 * i1) (p2 : V = A2 * i2) (x y : Fin n) : y * V - x * U = (y * A2 * B1 - x * A1 * B2) * (i1 * i2) := by subst p1 p2; grind
theorem fr7 {A1 A2 B1 B2 i1 i2 U V : Fin n} (d1 : B1 * i1 = 1) (d2 : B2 * i2 = 1) (p1 : U = A1 * i1) (p2 : V = A2 * i2) (x y : Fin n) : 1 - x * U * y * V = (B1 * B2 - x * y * A1 * A2) * (i1 * i2) := by subst p1 p2; grind
theorem fr8 {A1 A2 B1 B2 i1 i2 U V : Fin n} (d1 : B1 * i1 = 1) (d2 : B2 * i2 = 1) (p1 : U = A1 * i1) (p2 : V = A2 * i2) (x y : Fin n) : 1 + x * U * y * V = (B1 * B2 + x * y * A1 * A2) * (i1 * i2) := by subst p1 p2; grind
theorem cross {z1 z2 z3 z4 : Fin n} (h : z1 * z2 = z3 * z4) (i j : Fin n) : z1 * i * (z2 * j) = z3 * j * (z4 * i) := by grind

theorem Good.addC_assoc (g : Good n s) {a b c : Fin n × Fin n} (ha : onC a) (hb : onC b) (hc : onC c) : addC (addC a b) c = addC a (addC b c) := by
  have x1 := g.down1 (g.addC_on ha hb) hc
  have x2 := g.down2 (g.addC_on ha hb) hc
  have y1 := g.down1 ha (g.addC_on hb hc)
  have y2 := g.down2 ha (g.addC_on hb hc)
  have d1 := finv_mul g.prime (g.down1 ha hb)
  have d2 := finv_mul g.prime (g.down2 ha hb)
  have f1 := finv_mul g.prime (g.down1 hb hc)
  have f2 := finv_mul g.prime (g.down2 hb hc)
  have ku := assocu a.1 a.2 b.1 b.2 c.1 c.2 ha hb hc _ _ _ _ _ _ _ _ rfl rfl rfl rfl rfl rfl rfl rfl
  have kv := assocv a.1 a.2 b.1 b.2 c.1 c.2 ha hb hc _ _ _ _ _ _ _ _ rfl rfl rfl rfl rfl rfl rfl rfl
  have hL : addC (addC a b) c = (((addC a b).1 * c.2 + (addC a b).2 * c.1) * finv (1 - (addC a b).1 * c.1 * (addC a b).2 * c.2), ((addC a b).2 * c.2 - (addC a b).1 * c.1) * finv (1 + (addC a b).1 * c.1 * (addC a b).2 * c.2)) := rfl
  have hR : addC a (addC b c) = ((a.1 * (addC b c).2 + a.2 * (addC b c).1) * finv (1 - a.1 * (addC b c).1 * a.2 * (addC b c).2), (a.2 * (addC b c).2 - a.1 * (addC b c).1) * finv (1 + a.1 * (addC b c).1 * a.2 * (addC b c).2)) := rfl
  rw [hL, hR]
  have p1 : (addC a b).1 = (a.1 * b.2 + a.2 * b.1) * finv (1 - a.1 * b.1 * a.2 * b.2) := rfl
  have p2 : (addC a b).2 = (a.2 * b.2 - a.1 * b.1) * finv (1 + a.1 * b.1 * a.2 * b.2) := rfl
  have q1 : (addC b c).1 = (b.1 * c.2 + b.2 * c.1) * finv (1 - b.1 * c.1 * b.2 * c.2) := rfl
  have q2 : (addC b c).2 = (b.2 * c.2 - b.1 * c.1) * finv (1 + b.1 * c.1 * b.2 * c.2) := rfl
  have cm : ∀ x y z w : Fin n, 1 - x * y * z * w = 1 - x * z * y * w ∧ 1 + x * y * z * w = 1 + x * z * y * w := fun x y z w => ⟨by grind, by grind⟩
  rw [(cm a.1 b.1 a.2 b.2).1] at d1 p1
  rw [(cm a.1 b.1 a.2 b.2).2] at d2 p2
  rw [(cm b.1 c.1 b.2 c.2).1] at f1 q1
  rw [(cm b.1 c.1 b.2 c.2).2] at f2 q2
  rw [(cm a.1 a.2 b.1 b.2).1] at d1 p1
  rw [(cm a.1 a.2 b.1 b.2).2] at d2 p2
  rw [(cm b.1 b.2 c.1 c.2).1] at f1 q1
  rw [(cm b.1 b.2 c.1 c.2).2] at f2 q2
  refine Prod.ext ?_ ?_
  · refine div_eq_div g.prime x1 y1 ?_
    rw [fr1 d1 d2 p1 p2, fr7 f1 f2 q1 q2, fr5 f1 f2 q1 q2, fr3 d1 d2 p1 p2]
    exact cross ku _ _
  · refine div_eq_div g.prime x2 y2 ?_
    rw [fr2 d1 d2 p1 p2, fr8 f1 f2 q1 q2, fr6 f1 f2 q1 q2, fr4 d1 d2 p1 p2]
    exact cross kv _ _

end
end
end Obol

namespace Obol
section
variable {n : Nat} [NeZero n] {s : Fin n}

theorem u3poly (x1 y1 x2 y2 D F : Fin n) (h1 : y1 * y1 = x1 * x1 * x1 + x1) (h2 : y2 * y2 = x2 * x2 * x2 + x2) (hD : D = x2 - x1) (hF : F = (y2 - y1) * (y2 - y1) - (x1 + x2) * (D * D)) :
    ((y2 - y1) * (x1 * (D * D) - F) - y1 * (D * D * D)) * D * ((x1 * x1 + 1) * (x2 * x2 + 1) * ((x1 - 1) * (x2 - 1)) + 2 * (y1 * y2) * ((x1 + 1) * (x2 + 1)))
      = (y1 * (x2 * x2 + 1) * (x2 + 1) * (x1 - 1) + (x1 + 1) * (x2 - 1) * y2 * (x1 * x1 + 1)) * (F * F + D * D * (D * D)) := by
  subst hD; subst hF; grind (ringSteps := 10000000) (splits := 0)
theorem v3poly (x1 y1 x2 y2 D F : Fin n) (h1 : y1 * y1 = x1 * x1 * x1 + x1) (h2 : y2 * y2 = x2 * x2 * x2 + x2) (hD : D = x2 - x1) (hF : F = (y2 - y1) * (y2 - y1) - (x1 + x2) * (D * D)) :
    F * ((x1 * x1 + 1) * (x2 * x2 + 1) * (x1 + x2) + 2 * (y1 * y2) * (x1 * x2 + 1)) = D * D * ((x1 * x1 + 1) * (x2 * x2 + 1) * (x1 * x2 + 1) - 2 * (y1 * y2) * (x1 + x2)) := by
  subst hD; subst hF; grind (ringSteps := 10000000) (splits := 0)
theorem tv (x y E F : Fin n) (h1 : y * y = x * x * x + x) (hE : E = y + y) (hF : F = (3 * (x * x) + 1) * (3 * (x * x) + 1) - (x + x) * (E * E)) :
    F * ((x * x + 1) * (x * x + 1) * (x + x) + 2 * (y * y) * (x * x + 1)) = E * E * ((x * x + 1) * (x * x + 1) * (x * x + 1) - 2 * (y * y) * (x + x)) := by
  subst hE; subst hF; grind (ringSteps := 10000000) (splits := 0)
theorem tu (x y E F : Fin n) (h1 : y * y = x * x * x + x) (hE : E = y + y) (hF : F = (3 * (x * x) + 1) * (3 * (x * x) + 1) - (x + x) * (E * E)) :
    ((3 * (x * x) + 1) * (x * (E * E) - F) - y * (E * E * E)) * E * ((x * x + 1) * (x * x + 1) * ((x - 1) * (x - 1)) + 2 * (y * y) * ((x + 1) * (x + 1)))
      = (y * (x * x + 1) * (x + 1) * (x - 1) + (x + 1) * (x - 1) * y * (x * x + 1)) * (F * F + E * E * (E * E)) := by
  subst hE; subst hF; grind (ringSteps := 10000000) (splits := 0)

/-- what ties the sum's numbers to the summands' -/
def Rel (x1 y1 x2 y2 x3 y3 : Fin n) : Prop :=
  x3 * ((x1 * x1 + 1) * (x2 * x2 + 1) * (x1 + x2) + 2 * (y1 * y2) * (x1 * x2 + 1)) = (x1 * x1 + 1) * (x2 * x2 + 1) * (x1 * x2 + 1) - 2 * (y1 * y2) * (x1 + x2) ∧
  y3 * ((x1 * x1 + 1) * (x2 * x2 + 1) * ((x1 - 1) * (x2 - 1)) + 2 * (y1 * y2) * ((x1 + 1) * (x2 + 1)))
      = (y1 * (x2 * x2 + 1) * (x2 + 1) * (x1 - 1) + (x1 + 1) * (x2 - 1) * y2 * (x1 * x1 + 1)) * (x3 * x3 + 1)

theorem cancel2 (D i F x3 A B : Fin n) (hi : i * D = 1) (hF : F = x3 * (D * D)) (h : F * A = D * D * B) : x3 * A = B := by
  have h1 : D * D * (i * i) = 1 := by grind
  have h2 : D * D * (x3 * A) = D * D * B := by grind
  have h3 : D * D * (i * i) * (x3 * A) = D * D * (i * i) * B := by grind
  grind
theorem cancel4 (D i F x3 y3 m A B y1 x1 : Fin n) (hi : i * D = 1) (hF : F = x3 * (D * D)) (hm : y3 = m * i * (x1 - x3) - y1) (h : (m * (x1 * (D * D) - F) - y1 * (D * D * D)) * D * A = B * (F * F + D * D * (D * D))) : y3 * A = B * (x3 * x3 + 1) := by
  have e1 : m * (x1 * (D * D) - F) - y1 * (D * D * D) = y3 * (D * D * D) := by
    subst hF hm
    have : m * i * (x1 - x3) * (D * D * D) = m * (x1 - x3) * (D * D) := by grind
    grind
  have e2 : F * F + D * D * (D * D) = (x3 * x3 + 1) * (D * D * (D * D)) := by subst hF; grind
  rw [e1, e2] at h
  have h4 : D * D * (D * D) * (i * i * (i * i)) = 1 := by
    have : D * D * (i * i) = 1 := by grind
    grind
  have h5 : y3 * A * (D * D * (D * D)) = B * (x3 * x3 + 1) * (D * D * (D * D)) := by grind
  have h6 : y3 * A * (D * D * (D * D) * (i * i * (i * i))) = B * (x3 * x3 + 1) * (D * D * (D * D) * (i * i * (i * i))) := by grind
  rw [h4] at h6
  grind

theorem chord_rel (x1 y1 x2 y2 i : Fin n) (h1 : y1 * y1 = x1 * x1 * x1 + x1) (h2 : y2 * y2 = x2 * x2 * x2 + x2) (hi : i * (x2 - x1) = 1) (x3 y3 : Fin n)
    (hx : x3 = (y2 - y1) * i * ((y2 - y1) * i) - x1 - x2) (hy : y3 = (y2 - y1) * i * (x1 - x3) - y1) : Rel x1 y1 x2 y2 x3 y3 := by
  have hF : (y2 - y1) * (y2 - y1) - (x1 + x2) * ((x2 - x1) * (x2 - x1)) = x3 * ((x2 - x1) * (x2 - x1)) := by
    generalize x2 - x1 = D at *
    subst hx
    have : i * i * (D * D) = 1 := by grind
    grind
  exact ⟨cancel2 _ i _ _ _ _ hi hF (v3poly x1 y1 x2 y2 _ _ h1 h2 rfl rfl), cancel4 _ i _ _ _ (y2 - y1) _ _ _ _ hi hF hy (u3poly x1 y1 x2 y2 _ _ h1 h2 rfl rfl)⟩

theorem tangent_rel (x y i : Fin n) (h1 : y * y = x * x * x + x) (hi : i * (y + y) = 1) (x3 y3 : Fin n)
    (hx : x3 = (3 * (x * x) + 1) * i * ((3 * (x * x) + 1) * i) - x - x) (hy : y3 = (3 * (x * x) + 1) * i * (x - x3) - y) : Rel x y x y x3 y3 := by
  have hF : (3 * (x * x) + 1) * (3 * (x * x) + 1) - (x + x) * ((y + y) * (y + y)) = x3 * ((y + y) * (y + y)) := by
    generalize y + y = E at *
    generalize 3 * (x * x) + 1 = m at *
    subst hx
    have : i * i * (E * E) = 1 := by grind
    grind
  exact ⟨cancel2 _ i _ _ _ _ hi hF (tv x y _ _ h1 rfl rfl), cancel4 _ i _ _ _ (3 * (x * x) + 1) _ _ _ _ hi hF hy (tu x y _ _ h1 rfl rfl)⟩

theorem phi_on (g : Good n s) {a : EPt n} (ha : onE a) : onC (phi s a) := by
  cases a with
  | none => unfold onC phi; grind
  | some a =>
    obtain ⟨x, y⟩ := a
    have hp := finv_mul g.prime (g.noI x)
    have hq := finv_mul g.prime (g.x1 (x := x) (y := y) ha)
    have hs := g.root
    have hc : y * y = x * x * x + x := ha
    unfold onC phi
    simp only
    generalize finv (x * x + 1) = p at *
    generalize finv (x - 1) = q at *
    have e1 : s * y * p * (s * y * p) = -2 * x * p := by
      have : y * y * p = x := by grind
      grind
    rw [e1]
    have hqq : q * q * ((x - 1) * (x - 1)) = 1 := by grind
    apply eq_of_mul g.prime (fin_mul_ne_zero g.prime (g.noI x) (fin_mul_ne_zero g.prime (g.x1 ha) (g.x1 ha)))
    clear e1 hs hc ha
    have k1 : (-2 * x * p + (x + 1) * q * ((x + 1) * q)) * ((x * x + 1) * ((x - 1) * (x - 1))) = -2 * x * ((x - 1) * (x - 1)) + (x + 1) * (x + 1) * (x * x + 1) := by grind
    have k2 : (1 - -2 * x * p * ((x + 1) * q) * ((x + 1) * q)) * ((x * x + 1) * ((x - 1) * (x - 1))) = (x * x + 1) * ((x - 1) * (x - 1)) + 2 * x * ((x + 1) * (x + 1)) := by
      have : p * (q * q) * ((x * x + 1) * ((x - 1) * (x - 1))) = 1 := by grind
      grind
    rw [k1, k2]
    clear k1 k2 hqq hp hq
    grind

theorem Good.s0 (g : Good n s) : s ≠ 0 := fun h => by
  have := g.root
  have := g.two
  subst h
  grind

theorem phi_inj (g : Good n s) {a b : EPt n} (ha : onE a) (hb : onE b) (h : phi s a = phi s b) : a = b := by
  have one : ∀ (x y : Fin n), onE (some (x, y)) → (x + 1) * finv (x - 1) ≠ 1 := by
    intro x y hc e
    have hq := finv_mul g.prime (g.x1 (x := x) (y := y) hc)
    apply g.two
    generalize finv (x - 1) = q at *
    have : (x + 1) * q * (x - 1) = x - 1 := by rw [e]; grind
    grind
  cases a with
  | none =>
    cases b with
    | none => rfl
    | some b => exact absurd (congrArg Prod.snd h).symm (one b.1 b.2 hb)
  | some a =>
    cases b with
    | none => exact absurd (congrArg Prod.snd h) (one a.1 a.2 ha)
    | some b =>
      obtain ⟨x, y⟩ := a
      obtain ⟨x', y'⟩ := b
      have hq := finv_mul g.prime (g.x1 (x := x) (y := y) ha)
      have hq' := finv_mul g.prime (g.x1 (x := x') (y := y') hb)
      have h1 : (x + 1) * finv (x - 1) = (x' + 1) * finv (x' - 1) := congrArg Prod.snd h
      have hx : x = x' := by
        have k : (x + 1) * (x' - 1) = (x' + 1) * (x - 1) := by
          generalize finv (x - 1) = q at *
          generalize finv (x' - 1) = q' at *
          have k1 : (x + 1) * q * ((x - 1) * (x' - 1)) = (x + 1) * (x' - 1) := by grind
          have k2 : (x' + 1) * q' * ((x - 1) * (x' - 1)) = (x' + 1) * (x - 1) := by grind
          rw [← k1, ← k2, h1]
        apply fin_cancel g.prime g.two
        grind
      subst hx
      have h2 : s * y * finv (x * x + 1) = s * y' * finv (x * x + 1) := congrArg Prod.fst h
      have hp := finv_mul g.prime (g.noI x)
      have : y = y' := by
        generalize finv (x * x + 1) = p at *
        apply fin_cancel g.prime g.s0
        have : s * y * p * (x * x + 1) = s * y' * p * (x * x + 1) := by rw [h2]
        grind
      rw [this]

theorem fin_dist (a b c z : Fin n) : a * (b + c) * z = a * b * z + a * c * z := by grind
theorem inv2 {a b p q : Fin n} (h1 : a * p = 1) (h2 : b * q = 1) : p * q * (a * b) = 1 := by grind
theorem le0 {y1 y2 p1 p2 : Fin n} (hs : s * s = -2) : s * y1 * p1 * (s * y2 * p2) = -2 * (y1 * y2) * (p1 * p2) := by grind
theorem le1 {X1 X2 N w p q t q1 q2 : Fin n} (m1 : p * N = 1) (m2 : q * w = 1) (hq : q = q1 * q2) : X1 * q1 * (X2 * q2) - -2 * t * p = (X1 * X2 * N + 2 * t * w) * (p * q) := by
  have e : X1 * q1 * (X2 * q2) = X1 * X2 * q := by subst hq; grind
  rw [e]; grind
theorem le2 {X1 X2 N w p q t q1 q2 : Fin n} (m1 : p * N = 1) (m2 : q * w = 1) (hq : q = q1 * q2) : 1 + -2 * t * p * (X1 * q1) * (X2 * q2) = (N * w - 2 * t * (X1 * X2)) * (p * q) := by
  have e : -2 * t * p * (X1 * q1) * (X2 * q2) = -2 * t * p * (X1 * X2 * q) := by subst hq; grind
  rw [e]
  have : p * q * (N * w) = 1 := by grind
  grind
theorem le3 {X1 X2 N w p q t q1 q2 : Fin n} (m1 : p * N = 1) (m2 : q * w = 1) (hq : q = q1 * q2) : 1 - -2 * t * p * (X1 * q1) * (X2 * q2) = (N * w + 2 * t * (X1 * X2)) * (p * q) := by
  have e : -2 * t * p * (X1 * q1) * (X2 * q2) = -2 * t * p * (X1 * X2 * q) := by subst hq; grind
  rw [e]
  have : p * q * (N * w) = 1 := by grind
  grind
theorem le4 {y X N w p1 p2 q1 q2 : Fin n} (m1 : N * p2 = 1) (m2 : w * q1 = 1) : s * y * p1 * (X * q2) = s * (y * N * X * w) * (p1 * p2 * (q1 * q2)) := by
  have : p2 * N * (q1 * w) = 1 := by grind
  grind
theorem le5 {y X N w p1 p2 q1 q2 : Fin n} (m1 : N * p1 = 1) (m2 : w * q2 = 1) : X * q1 * (s * y * p2) = s * (X * w * y * N) * (p1 * p2 * (q1 * q2)) := by
  have : p1 * N * (q2 * w) = 1 := by grind
  grind
theorem le6 {w q X Y a z : Fin n} (h : w * q = 1) (k : w * X = a * Y) : X * z = a * q * (Y * z) := by
  have : q * (w * X) = q * (a * Y) := by rw [k]
  have : X = a * q * Y := by grind
  rw [this]; grind
theorem le7 {M p X Y y z : Fin n} (h : M * p = 1) (k : y * X = Y * M) : s * Y * z = s * y * p * (X * z) := by
  have : y * X * p = Y * M * p := by rw [k]
  have : Y = y * p * X := by grind
  rw [this]; grind
theorem le8 {x1 x2 x3 t N : Fin n} (r : x3 * (N * (x1 + x2) + 2 * t * (x1 * x2 + 1)) = N * (x1 * x2 + 1) - 2 * t * (x1 + x2)) :
    (x3 - 1) * ((x1 + 1) * (x2 + 1) * N + 2 * t * ((x1 - 1) * (x2 - 1))) = (x3 + 1) * (N * ((x1 - 1) * (x2 - 1)) - 2 * t * ((x1 + 1) * (x2 + 1))) := by grind

theorem phi_hom_rel (g : Good n s) {x1 y1 x2 y2 x3 y3 : Fin n} (h1 : onE (some (x1, y1))) (h2 : onE (some (x2, y2))) (h3 : onE (some (x3, y3))) (r : Rel x1 y1 x2 y2 x3 y3) :
    phi s (some (x3, y3)) = addC (phi s (some (x1, y1))) (phi s (some (x2, y2))) := by
  obtain ⟨r1, r2⟩ := r
  have d1 := g.down1 (phi_on g h1) (phi_on g h2)
  have d2 := g.down2 (phi_on g h1) (phi_on g h2)
  have hp1 := finv_mul g.prime (g.noI x1)
  have hq1 := finv_mul g.prime (g.x1 (x := x1) (y := y1) h1)
  have hp2 := finv_mul g.prime (g.noI x2)
  have hq2 := finv_mul g.prime (g.x1 (x := x2) (y := y2) h2)
  have hp3 := finv_mul g.prime (g.noI x3)
  have hq3 := finv_mul g.prime (g.x1 (x := x3) (y := y3) h3)
  have hs := g.root
  unfold addC
  refine Prod.ext ?_ ?_
  · refine (mul_finv_eq g.prime d1 ?_).symm
    unfold phi
    simp only
    generalize finv (x1 * x1 + 1) = p1 at *
    generalize finv (x1 - 1) = q1 at *
    generalize finv (x2 * x2 + 1) = p2 at *
    generalize finv (x2 - 1) = q2 at *
    generalize finv (x3 * x3 + 1) = p3 at *
    have e : 1 - s * y1 * p1 * (s * y2 * p2) * ((x1 + 1) * q1) * ((x2 + 1) * q2) = ((x1 * x1 + 1) * (x2 * x2 + 1) * ((x1 - 1) * (x2 - 1)) + 2 * (y1 * y2) * ((x1 + 1) * (x2 + 1))) * (p1 * p2 * (q1 * q2)) := by
      rw [le0 hs]; exact le3 (inv2 hp1 hp2) (inv2 hq1 hq2) rfl
    have m1 : s * y1 * p1 * ((x2 + 1) * q2) = s * (y1 * (x2 * x2 + 1) * (x2 + 1) * (x1 - 1)) * (p1 * p2 * (q1 * q2)) := le4 hp2 hq1
    have m2 : (x1 + 1) * q1 * (s * y2 * p2) = s * ((x1 + 1) * (x2 - 1) * y2 * (x1 * x1 + 1)) * (p1 * p2 * (q1 * q2)) := le5 hp1 hq2
    rw [e, m1, m2, ← fin_dist]
    exact le7 hp3 r2
  · refine (mul_finv_eq g.prime d2 ?_).symm
    unfold phi
    simp only
    generalize finv (x1 * x1 + 1) = p1 at *
    generalize finv (x1 - 1) = q1 at *
    generalize finv (x2 * x2 + 1) = p2 at *
    generalize finv (x2 - 1) = q2 at *
    generalize finv (x3 - 1) = q3 at *
    have e : 1 + s * y1 * p1 * (s * y2 * p2) * ((x1 + 1) * q1) * ((x2 + 1) * q2) = ((x1 * x1 + 1) * (x2 * x2 + 1) * ((x1 - 1) * (x2 - 1)) - 2 * (y1 * y2) * ((x1 + 1) * (x2 + 1))) * (p1 * p2 * (q1 * q2)) := by
      rw [le0 hs]; exact le2 (inv2 hp1 hp2) (inv2 hq1 hq2) rfl
    rw [e, le0 hs, le1 (inv2 hp1 hp2) (inv2 hq1 hq2) rfl]
    exact le6 hq3 (le8 r1)

theorem addE_on (g : Good n s) {a b : EPt n} (ha : onE a) (hb : onE b) : onE (addE a b) := by
  cases a with
  | none => exact hb
  | some a =>
    cases b with
    | none => exact ha
    | some b =>
      obtain ⟨x1, y1⟩ := a
      obtain ⟨x2, y2⟩ := b
      have h1 : y1 * y1 = x1 * x1 * x1 + x1 := ha
      have h2 : y2 * y2 = x2 * x2 * x2 + x2 := hb
      unfold addE
      simp only
      split
      · rename_i e
        subst e
        split
        · trivial
        · rename_i hy
          have hi := finv_mul g.prime hy
          have hyy : y1 = y2 := by
            rcases y_cases g.prime h1 h2 with e | e
            · exact e
            · exact absurd e hy
          subst hyy
          exact tangent_on x1 y1 _ (finv (y1 + y1)) h1 (by rw [← hi]; grind) rfl
      · rename_i hx
        have hi := finv_mul g.prime (x := x2 - x1) (fun e => hx (by grind))
        exact chord_on x1 y1 x2 y2 _ (finv (x2 - x1)) h1 h2 (by rw [← hi]; grind) rfl

theorem phi_hom (g : Good n s) {a b : EPt n} (ha : onE a) (hb : onE b) : phi s (addE a b) = addC (phi s a) (phi s b) := by
  have hab := addE_on g ha hb
  cases a with
  | none =>
    have : ∀ c : Fin n × Fin n, c = addC (0, 1) c := by
      intro c
      unfold addC
      have e1 : (1 : Fin n) - 0 * c.1 * 1 * c.2 = 1 := by grind
      have e2 : (1 : Fin n) + 0 * c.1 * 1 * c.2 = 1 := by grind
      have e3 := finv_mul g.prime (x := (1 : Fin n)) (fun e => g.noI 0 (by rw [e]; grind))
      simp only
      rw [e1, e2]
      generalize finv (1 : Fin n) = i at *
      exact Prod.ext (by simp only; grind) (by simp only; grind)
    exact this _
  | some a =>
    cases b with
    | none =>
      have : ∀ c : Fin n × Fin n, c = addC c (0, 1) := by
        intro c
        unfold addC
        have e1 : (1 : Fin n) - c.1 * 0 * c.2 * 1 = 1 := by grind
        have e2 : (1 : Fin n) + c.1 * 0 * c.2 * 1 = 1 := by grind
        have e3 := finv_mul g.prime (x := (1 : Fin n)) (fun e => g.noI 0 (by rw [e]; grind))
        simp only
        rw [e1, e2]
        generalize finv (1 : Fin n) = i at *
        exact Prod.ext (by simp only; grind) (by simp only; grind)
      exact this _
    | some b =>
      obtain ⟨x1, y1⟩ := a
      obtain ⟨x2, y2⟩ := b
      have h1 : y1 * y1 = x1 * x1 * x1 + x1 := ha
      have h2 : y2 * y2 = x2 * x2 * x2 + x2 := hb
      unfold addE at hab ⊢
      simp only at hab ⊢
      by_cases hx : x1 = x2
      · subst hx
        rw [if_pos rfl] at hab ⊢
        by_cases hy : y1 + y2 = 0
        · rw [if_pos hy]
          have hc := phi_on g ha
          have d2 := g.down2 (phi_on g ha) (phi_on g hb)
          have e2 : (phi s (some (x1, y2))).1 = -(phi s (some (x1, y1))).1 := by
            unfold phi
            simp only
            have : y2 = -y1 := by clear hc d2 h1 h2; grind
            rw [this]; grind
          have e3 : (phi s (some (x1, y2))).2 = (phi s (some (x1, y1))).2 := rfl
          unfold addC
          rw [e3] at d2 ⊢
          rw [e2] at d2 ⊢
          unfold onC at hc
          generalize (phi s (some (x1, y1))).1 = u at *
          generalize (phi s (some (x1, y1))).2 = v at *
          refine Prod.ext ?_ ?_
          · show (0 : Fin n) = _
            have : u * v + v * -u = 0 := by clear hc d2; grind
            rw [this]; grind
          · show (1 : Fin n) = _
            exact (mul_finv_eq g.prime d2 (by clear d2; grind)).symm
        · rw [if_neg hy] at hab ⊢
          have hyy : y1 = y2 := by
            rcases y_cases g.prime h1 h2 with e | e
            · exact e
            · exact absurd e hy
          subst hyy
          have hi := finv_mul g.prime hy
          exact phi_hom_rel g ha hb hab (tangent_rel x1 y1 (finv (y1 + y1)) h1 (by rw [← hi]; grind) _ _ rfl rfl)
      · rw [if_neg hx] at hab ⊢
        have hi := finv_mul g.prime (x := x2 - x1) (fun e => hx (by clear hab; grind))
        exact phi_hom_rel g ha hb hab (chord_rel x1 y1 x2 y2 (finv (x2 - x1)) h1 h2 (by rw [← hi]; grind) _ _ rfl rfl)

theorem addE_comm (g : Good n s) {a b : EPt n} (ha : onE a) (hb : onE b) : addE a b = addE b a :=
  phi_inj g (addE_on g ha hb) (addE_on g hb ha) (by rw [phi_hom g ha hb, phi_hom g hb ha, addC_comm])
theorem addE_assoc (g : Good n s) {a b c : EPt n} (ha : onE a) (hb : onE b) (hc : onE c) : addE (addE a b) c = addE a (addE b c) :=
  phi_inj g (addE_on g (addE_on g ha hb) hc) (addE_on g ha (addE_on g hb hc)) (by
    rw [phi_hom g (addE_on g ha hb) hc, phi_hom g ha hb, phi_hom g ha (addE_on g hb hc), phi_hom g hb hc, g.addC_assoc (phi_on g ha) (phi_on g hb) (phi_on g hc)])

end
end Obol

namespace Obol
section
variable {n : Nat} [NeZero n] {s : Fin n}

/-! ### powers -/
def fpow (x : Fin n) : Nat → Fin n
  | 0 => 1
  | k + 1 => fpow x k * x
theorem fpow_succ (x : Fin n) (k : Nat) : fpow x (k + 1) = fpow x k * x := rfl
theorem fpow_add (x : Fin n) (j k : Nat) : fpow x (j + k) = fpow x j * fpow x k := by
  induction k with
  | zero => show fpow x j = fpow x j * 1; grind
  | succ k ih => rw [← Nat.add_assoc, fpow_succ, fpow_succ, ih]; grind
theorem fpow_mul' (x y : Fin n) (k : Nat) : fpow (x * y) k = fpow x k * fpow y k := by
  induction k with
  | zero => show (1 : Fin n) = 1 * 1; grind
  | succ k ih => rw [fpow_succ, fpow_succ, fpow_succ, ih]; grind
theorem fpow_val (x : Fin n) (k : Nat) : (fpow x k).val = x.val ^ k % n := by
  induction k with
  | zero => rfl
  | succ k ih => rw [fpow_succ, Fin.val_mul, ih, Nat.pow_succ]; simp [Nat.mul_mod]
theorem fpow_sq (x : Fin n) (k : Nat) : fpow x (k + k) = fpow (x * x) k := by rw [fpow_add, fpow_mul']
theorem fpow_one (k : Nat) : fpow (1 : Fin n) k = 1 := by
  induction k with
  | zero => rfl
  | succ k ih => rw [fpow_succ, ih]; grind
theorem fpow_neg_odd (x : Fin n) (m : Nat) : fpow (-x) (m + m + 1) = - fpow x (m + m + 1) := by
  have h : (-x) * (-x) = x * x := by grind
  rw [fpow_succ, fpow_succ, fpow_sq, fpow_sq, h]; grind
theorem fpow_ne (hp : IsPrime n) {x : Fin n} (hx : x ≠ 0) (k : Nat) : fpow x k ≠ 0 := by
  induction k with
  | zero =>
    intro h
    exact hx (by have : x * (1 : Fin n) = 0 := by rw [show (1 : Fin n) = 0 from h]; grind
                 grind)
  | succ k ih => exact fin_mul_ne_zero hp ih hx
theorem fpow_fermat (hp : IsPrime n) {x : Fin n} (hx : x ≠ 0) : fpow x (n - 1) = 1 := by
  have h2 := hp.1
  apply Fin.ext
  rw [fpow_val, fermat hp (fun hd => hx (Fin.ext (by have := Nat.eq_zero_of_dvd_of_lt hd x.isLt; simpa using this)))]
  show 1 = 1 % n
  rw [Nat.mod_eq_of_lt (by omega)]

/-- by two numbers the prime is told good: half of it is odd, 2 has no root, s is a root of -2 -/
theorem good_of (hp : IsPrime n) (j : Nat) (hj : n = 4 * j + 3) (h2 : fpow (2 : Fin n) (j + j + 1) = -1) (hs : s * s = -2) : Good n s := by
  have one : (1 : Fin n) ≠ 0 := by
    intro h
    have : (1 : Fin n).val = 0 := by rw [h]; rfl
    have h1 : 1 % n = 0 := this
    rw [Nat.mod_eq_of_lt (by omega)] at h1
    omega
  have two : (2 : Fin n) ≠ 0 := by
    intro h
    have e : fpow (0 : Fin n) (j + j + 1) = 0 := by rw [fpow_succ]; grind
    rw [h, e] at h2
    exact one (by grind)
  have m : n - 1 = (j + j + 1) + (j + j + 1) := by omega
  have ff : ∀ x : Fin n, x ≠ 0 → fpow (x * x) (j + j + 1) = 1 := by
    intro x hx
    rw [← fpow_sq, ← m, fpow_fermat hp hx]
  have bad : (1 : Fin n) ≠ -1 := fun h => two (by grind)
  refine ⟨hp, two, ?_, ?_, hs⟩
  · intro x h
    have hx : x ≠ 0 := by intro e; subst e; exact one (by grind)
    have e : x * x = -1 := by grind
    have := ff x hx
    rw [e, fpow_neg_odd, fpow_one] at this
    exact bad this.symm
  · intro x h
    have hx : x ≠ 0 := by intro e; subst e; exact two (by grind)
    have := ff x hx
    rw [h, h2] at this
    exact bad this.symm

theorem Good.one_ne (g : Good n s) : (1 : Fin n) ≠ 0 := fun h => g.noI 0 (by rw [h]; grind)
theorem mul_zero' (x : Fin n) : x * 0 = 0 := by grind
theorem mul_comm' (x y : Fin n) : x * y = y * x := by grind

/-! ### the points, all of them, and their opposites -/
def negE : EPt n → EPt n
  | none => none
  | some (x, y) => some (x, -y)
theorem negE_on {a : EPt n} (h : onE a) : onE (negE a) := by
  cases a with
  | none => trivial
  | some a =>
    obtain ⟨x, y⟩ := a
    have h : y * y = x * x * x + x := h
    show -y * -y = x * x * x + x
    rw [← h]; grind
theorem addE_neg (a : EPt n) : addE (negE a) a = none := by
  cases a with
  | none => rfl
  | some a =>
    obtain ⟨x, y⟩ := a
    unfold addE negE
    simp only [if_true]
    rw [if_pos (by grind)]

/-! ### multiples -/
def nsm (a : EPt n) : Nat → EPt n
  | 0 => none
  | k + 1 => addE (nsm a k) a
theorem addE_none (a : EPt n) : addE a none = a := by cases a <;> rfl
theorem none_addE (a : EPt n) : addE none a = a := rfl
theorem nsm_succ (a : EPt n) (k : Nat) : nsm a (k + 1) = addE (nsm a k) a := rfl
theorem nsm_on (g : Good n s) {a : EPt n} (ha : onE a) : ∀ k, onE (nsm a k)
  | 0 => trivial
  | k + 1 => addE_on g (nsm_on g ha k) ha
theorem nsm_add (g : Good n s) {a : EPt n} (ha : onE a) (j k : Nat) : nsm a (j + k) = addE (nsm a j) (nsm a k) := by
  induction k with
  | zero => exact (addE_none _).symm
  | succ k ih => rw [← Nat.add_assoc, nsm_succ, nsm_succ, ih, addE_assoc g (nsm_on g ha j) (nsm_on g ha k) ha]
theorem nsm_mul (g : Good n s) {a : EPt n} (ha : onE a) (j k : Nat) : nsm a (j * k) = nsm (nsm a j) k := by
  induction k with
  | zero => rfl
  | succ k ih => rw [Nat.mul_succ, nsm_add g ha, ih]; rfl

theorem addE_cancel (g : Good n s) {a b c : EPt n} (ha : onE a) (hb : onE b) (hc : onE c) (h : addE a b = addE a c) : b = c := by
  have := congrArg (addE (negE a)) h
  rwa [← addE_assoc g (negE_on ha) ha hb, ← addE_assoc g (negE_on ha) ha hc, addE_neg, none_addE, none_addE] at this

end
end Obol
end
section
/- The curve's points are a group under the program's sums: over E. -/
set_option linter.unusedVariables false
set_option linter.unusedSimpArgs false
set_option maxRecDepth 10000
open Go Go.Proofs.Ytdbpjegocmdplaa.E Go.Proofs
namespace Go.Proofs.Ytdbpjegocmdplaa.E.M
open Obol

theorem fpow_pm {n : Nat} [NeZero n] {x y : Fin n} {m : Nat} (k : Nat) (hm : m < 2 ^ k) (h : pm n k x.val m = y.val) : fpow x m = y :=
  Fin.ext ((fpow_val x m).trans ((pm_eq n k x.val m hm).symm.trans h))

theorem goodP : Obol.Good 1152921505151057923 (K 763705535885484439) := by
  refine good_of prime_P 288230376287764480 rfl ?_ ?_
  · exact fpow_pm 64 (by decide) (by decide +kernel)
  · rw [← K_mul]
    have e : K (763705535885484439 * 763705535885484439) = K (-2) := K_iff.2 (by decide)
    rw [e, K_neg, K_2]

theorem finv_of {x i : FP} (h : i * x = 1) : finv x = i := by
  have hx : x ≠ 0 := by
    intro e
    rw [e] at h
    have h1 := goodP.one_ne
    exact h1 (h.symm.trans (mul_zero' i))
  have := finv_mul prime_P hx
  exact fin_cancel prime_P hx (this.trans ((mul_comm' x i).trans h).symm)

def toE (t : Bool × Int × Int) : EPt 1152921505151057923 := if t.1 = true then none else some (K t.2.1, K t.2.2)
theorem toE_on {t : Bool × Int × Int} (h : Pt t) : onE (toE t) := by
  obtain ⟨b, x, y⟩ := t
  cases b with
  | true => trivial
  | false => exact h.fin.2.2
theorem toE_inj {a b : Bool × Int × Int} (ha : Pt a) (hb : Pt b) (h : toE a = toE b) : a = b := by
  obtain ⟨a0, ax, ay⟩ := a
  obtain ⟨b0, bx, bY⟩ := b
  cases a0 with
  | true =>
    obtain ⟨rfl, rfl⟩ := ha.inf
    cases b0 with
    | true => obtain ⟨rfl, rfl⟩ := hb.inf; rfl
    | false => cases h
  | false =>
    cases b0 with
    | true => cases h
    | false =>
      have h1 : some (K ax, K ay) = some (K bx, K bY) := h
      injection h1 with h1
      injection h1 with h1 h2
      rw [K_inj ha.fin.1 hb.fin.1 h1, K_inj ha.fin.2.1 hb.fin.2.1 h2]

theorem toE_sum {a b : Bool × Int × Int} (ha : Pt a) (hb : Pt b) : toE (sumP a b) = addE (toE a) (toE b) := by
  obtain ⟨a0, ax, ay⟩ := a
  obtain ⟨b0, bx, bY⟩ := b
  cases a0 with
  | true => rfl
  | false =>
    cases b0 with
    | true => rfl
    | false =>
      have el : toE (false, ax, ay) = some (K ax, K ay) := rfl
      have er : toE (false, bx, bY) = some (K bx, K bY) := rfl
      rw [sumP_fin, el, er]
      have hx : ax = bx ↔ K ax = K bx := ⟨fun h => by rw [h], K_inj ha.fin.1 hb.fin.1⟩
      have hy : (ay + bY) % 1152921505151057923 = 0 ↔ K ay + K bY = 0 := by
        rw [← K_add, ← K_0, K_iff]; rfl
      unfold addE
      simp only
      by_cases hw : ax = bx ∧ (ay + bY) % 1152921505151057923 = 0
      · rw [if_pos hw, if_pos (hx.1 hw.1), if_pos (hy.1 hw.2)]; rfl
      · rw [if_neg hw]
        have hl : toE (lineP (lam (false, ax, ay) (false, bx, bY)) (false, ax, ay) (false, bx, bY)) = Obol.lineE (K (lam (false, ax, ay) (false, bx, bY))) (K ax) (K ay) (K bx) := by
          obtain ⟨h1, h2⟩ := line_K (ax := ax) (ay := ay) (bx := bx) (bY := bY) (l := lam (false, ax, ay) (false, bx, bY))
          unfold Obol.lineE
          rw [← h2, ← h1]; rfl
        rw [hl]
        rcases lam_K ha hb hw with ⟨e, e', i, hi, hk⟩ | ⟨e, i, hi, hk⟩
        · subst e e'
          rw [if_pos rfl, if_neg (fun h => hw ⟨rfl, hy.2 h⟩), hk, finv_of hi]
        · rw [if_neg (fun h => e (hx.2 h)), hk, finv_of hi]

theorem toE_step {a o : Bool × Int × Int} (ha : Pt a) {k : Int} (hk : 0 ≤ k) (i : Nat) (ho : Pt o) (j : Nat) (h : toE o = nsm (toE a) j) :
    toE (stepT a k i o) = nsm (toE a) (j + j + k.toNat / 2 ^ i % 2) := by
  have g := goodP
  have e : k / 2 ^ i % 2 = ((k.toNat / 2 ^ i % 2 : Nat) : Int) := by
    obtain ⟨m, rfl⟩ := Int.eq_ofNat_of_zero_le hk
    simp
  have hs := sumP_pt ho ho
  unfold stepT
  rw [e]
  have hd : toE (sumP o o) = nsm (toE a) (j + j) := by rw [toE_sum ho ho, h, nsm_add g (toE_on ha)]
  have lt2 : k.toNat / 2 ^ i % 2 < 2 := Nat.mod_lt _ (by decide)
  generalize k.toNat / 2 ^ i % 2 = c at *
  by_cases h1 : c = 1
  · subst h1
    rw [if_pos (by decide), toE_sum hs ha, hd]; rfl
  · have h0 : c = 0 := by omega
    subst h0
    rw [if_neg (by decide), hd]; rfl

theorem toE_tms {a : Bool × Int × Int} (ha : Pt a) {k : Int} (hk : 0 ≤ k) : ∀ (i : Nat) (o : Bool × Int × Int) (j : Nat), Pt o → toE o = nsm (toE a) j →
    toE (tms a k i o) = nsm (toE a) (j * 2 ^ i + k.toNat % 2 ^ i)
  | 0, o, j, _, h => by
    show toE o = _
    rw [h, Nat.pow_zero, Nat.mod_one, Nat.mul_one, Nat.add_zero]
  | i + 1, o, j, ho, h => by
    rw [tms_succ, toE_tms ha hk i _ _ (stepT_pt ha k i ho) (toE_step ha hk i ho j h)]
    congr 1
    rw [Nat.pow_succ, Nat.mod_mul, Nat.add_mul, Nat.mul_comm (2 ^ i) (k.toNat / 2 ^ i % 2), Nat.mul_comm (2 ^ i) 2, ← Nat.mul_assoc, Nat.add_assoc, Nat.add_comm (k.toNat / 2 ^ i % 2 * 2 ^ i)]
    have : (j + j) = j * 2 := by omega
    rw [this]

theorem toE_times {a : Bool × Int × Int} (ha : Pt a) {k : Int} (hk : w64 k) : toE (timesP a k) = nsm (toE a) k.toNat := by
  have h := toE_tms ha hk.1 64 (true, 0, 0) 0 Pt.none rfl
  have hlt : k.toNat < 2 ^ 64 := by have := hk.2; omega
  rw [Nat.zero_mul, Nat.zero_add, Nat.mod_eq_of_lt hlt] at h
  exact h

theorem toE_none {t : Bool × Int × Int} (h : toE t = none) : t.1 = true := by
  unfold toE at h; split at h
  · assumption
  · cases h

end Go.Proofs.Ytdbpjegocmdplaa.E.M
end
section
/- The field of P P elements, without any program: powers, and that the P-th power turns i round. -/
namespace Obol
section
variable {n : Nat} [NeZero n]
abbrev E2 (n : Nat) := Fin n × Fin n
def mul2 (a b : E2 n) : E2 n := (a.1 * b.1 - a.2 * b.2, a.1 * b.2 + a.2 * b.1)
def add2 (a b : E2 n) : E2 n := (a.1 + b.1, a.2 + b.2)
def sc2 (c : Nat) (a : E2 n) : E2 n := (of n c * a.1, of n c * a.2)
def pow2 (a : E2 n) : Nat → E2 n
  | 0 => (1, 0)
  | k + 1 => mul2 (pow2 a k) a
theorem mul2_comm (a b : E2 n) : mul2 a b = mul2 b a := Prod.ext (by simp only [mul2]; grind) (by simp only [mul2]; grind)
theorem mul2_assoc (a b c : E2 n) : mul2 (mul2 a b) c = mul2 a (mul2 b c) := Prod.ext (by simp only [mul2]; grind) (by simp only [mul2]; grind)
theorem mul2_one (a : E2 n) : mul2 a (1, 0) = a := Prod.ext (by simp only [mul2]; grind) (by simp only [mul2]; grind)
theorem one_mul2 (a : E2 n) : mul2 (1, 0) a = a := Prod.ext (by simp only [mul2]; grind) (by simp only [mul2]; grind)
theorem mul2_zero (a : E2 n) : mul2 a (0, 0) = (0, 0) := Prod.ext (by simp only [mul2]; grind) (by simp only [mul2]; grind)
theorem pow2_succ (a : E2 n) (k : Nat) : pow2 a (k + 1) = mul2 (pow2 a k) a := rfl
theorem pow2_add (a : E2 n) (j k : Nat) : pow2 a (j + k) = mul2 (pow2 a j) (pow2 a k) := by
  induction k with
  | zero => exact (mul2_one _).symm
  | succ k ih => rw [← Nat.add_assoc, pow2_succ, pow2_succ, ih, mul2_assoc]
theorem pow2_one (k : Nat) : pow2 ((1, 0) : E2 n) k = (1, 0) := by
  induction k with
  | zero => rfl
  | succ k ih => rw [pow2_succ, ih, mul2_one]
theorem mul2_swap (a b c d : E2 n) : mul2 (mul2 a b) (mul2 c d) = mul2 (mul2 a c) (mul2 b d) := Prod.ext (by simp only [mul2]; grind) (by simp only [mul2]; grind)
theorem mul2_pow (a b : E2 n) (k : Nat) : pow2 (mul2 a b) k = mul2 (pow2 a k) (pow2 b k) := by
  induction k with
  | zero => exact (mul2_one _).symm
  | succ k ih => rw [pow2_succ, pow2_succ, pow2_succ, ih, mul2_swap]
theorem pow2_mul (a : E2 n) (j k : Nat) : pow2 a (j * k) = pow2 (pow2 a j) k := by
  induction k with
  | zero => rfl
  | succ k ih => rw [Nat.mul_succ, pow2_add, ih, pow2_succ]
theorem pow2_real (x : Fin n) (k : Nat) : pow2 ((x, 0) : E2 n) k = (fpow x k, 0) := by
  induction k with
  | zero => rfl
  | succ k ih => rw [pow2_succ, ih, fpow_succ]; exact Prod.ext (by simp only [mul2]; grind) (by simp only [mul2]; grind)

/-! binomials -/
def ch : Nat → Nat → Nat
  | _, 0 => 1
  | 0, _ + 1 => 0
  | m + 1, k + 1 => ch m k + ch m (k + 1)
theorem ch_zero (m : Nat) : ch m 0 = 1 := by cases m <;> rfl
theorem ch_succ (m k : Nat) : ch (m + 1) (k + 1) = ch m k + ch m (k + 1) := rfl
theorem ch_big : ∀ (m k : Nat), m < k → ch m k = 0
  | 0, k + 1, _ => rfl
  | m + 1, k + 1, h => by rw [ch_succ, ch_big m k (by omega), ch_big m (k + 1) (by omega)]
theorem ch_self : ∀ m, ch m m = 1
  | 0 => rfl
  | m + 1 => by rw [ch_succ, ch_self m, ch_big m (m + 1) (by omega)]
theorem ch_mul : ∀ (m k : Nat), (k + 1) * ch (m + 1) (k + 1) = (m + 1) * ch m k
  | 0, 0 => rfl
  | 0, k + 1 => by rw [ch_big 1 (k + 1 + 1) (by omega), ch_big 0 (k + 1) (by omega), Nat.mul_zero, Nat.mul_zero]
  | m + 1, 0 => by
    have h := ch_mul m 0
    rw [ch_zero] at h
    rw [ch_succ (m + 1) 0, ch_zero]
    generalize ch (m + 1) (0 + 1) = A at *
    omega
  | m + 1, k + 1 => by
    have h1 := ch_mul m k
    have h2 := ch_mul m (k + 1)
    rw [ch_succ (m + 1) (k + 1)]
    have e := ch_succ m k
    generalize ch (m + 1) (k + 1) = A at *
    generalize ch (m + 1) (k + 1 + 1) = B at *
    generalize ch m k = C at *
    generalize ch m (k + 1) = D at *
    rw [Nat.mul_add, h2]
    have : (k + 1 + 1) * A = (m + 1) * C + A := by rw [Nat.succ_mul, h1]
    rw [this, Nat.succ_mul (m + 1) A, e, Nat.mul_add]
    omega
theorem ch_prime {p k : Nat} (hp : IsPrime p) (h0 : 0 < k) (h1 : k < p) : p ∣ ch p k := by
  obtain ⟨m, rfl⟩ : ∃ m, p = m + 1 := ⟨p - 1, by omega⟩
  obtain ⟨j, rfl⟩ : ∃ j, k = j + 1 := ⟨k - 1, by omega⟩
  have h := ch_mul m j
  have hd : (m + 1) ∣ (j + 1) * ch (m + 1) (j + 1) := ⟨_, h⟩
  rcases prime_dvd_mul hp hd with h | h
  · have := Nat.le_of_dvd (by omega) h; omega
  · exact h
/-- the sum of the first j terms of (1 + x) to the m -/
def bs (m : Nat) (x : E2 n) : Nat → E2 n
  | 0 => (0, 0)
  | j + 1 => add2 (bs m x j) (sc2 (ch m j) (pow2 x j))
theorem of_nat_add (a b : Nat) : of n ((a + b : Nat) : Int) = of n a + of n b := by rw [Int.natCast_add, of_add]
theorem bs_next (m : Nat) (x : E2 n) : ∀ j, bs (m + 1) x (j + 1) = add2 (bs m x (j + 1)) (mul2 x (bs m x j))
  | 0 => by
    show add2 (0, 0) (sc2 (ch (m + 1) 0) (1, 0)) = add2 (add2 (0, 0) (sc2 (ch m 0) (1, 0))) (mul2 x (0, 0))
    rw [ch_zero, ch_zero, mul2_zero]
    exact Prod.ext (by simp only [add2]; grind) (by simp only [add2]; grind)
  | j + 1 => by
    show add2 (bs (m + 1) x (j + 1)) (sc2 (ch (m + 1) (j + 1)) (pow2 x (j + 1))) = add2 (add2 (bs m x (j + 1)) (sc2 (ch m (j + 1)) (pow2 x (j + 1)))) (mul2 x (add2 (bs m x j) (sc2 (ch m j) (pow2 x j))))
    rw [bs_next m x j, ch_succ, pow2_succ]
    unfold sc2
    rw [of_nat_add]
    generalize of n (ch m j) = c at *
    generalize of n (ch m (j + 1)) = d at *
    exact Prod.ext (by simp only [add2, mul2]; grind) (by simp only [add2, mul2]; grind)
theorem sc2_zero (a : E2 n) : sc2 0 a = (0, 0) := by
  unfold sc2
  have := of_zero (n := n)
  rw [show ((0 : Nat) : Int) = 0 from rfl, this]
  exact Prod.ext (by grind) (by grind)
theorem add2_zero (a : E2 n) : add2 a (0, 0) = a := Prod.ext (by simp only [add2]; grind) (by simp only [add2]; grind)
theorem bin (x : E2 n) : ∀ m, pow2 (add2 (1, 0) x) m = bs m x (m + 1)
  | 0 => by
    show (1, 0) = add2 (0, 0) (sc2 1 (1, 0))
    unfold sc2
    rw [show ((1 : Nat) : Int) = 1 from rfl, of_one]
    exact Prod.ext (by simp only [add2]; grind) (by simp only [add2]; grind)
  | m + 1 => by
    rw [pow2_succ, bin x m, bs_next]
    show _ = add2 (add2 (bs m x (m + 1)) (sc2 (ch m (m + 1)) (pow2 x (m + 1)))) _
    rw [ch_big m (m + 1) (by omega), sc2_zero, add2_zero]
    exact Prod.ext (by simp only [add2, mul2]; grind) (by simp only [add2, mul2]; grind)
theorem of_dvd {c : Nat} (h : n ∣ c) : of n (c : Int) = 0 := by
  obtain ⟨d, rfl⟩ := h
  rw [← of_zero, of_eq, Int.natCast_mul, Int.mul_emod_right]; rfl
theorem sc2_dvd {c : Nat} (h : n ∣ c) (a : E2 n) : sc2 c a = (0, 0) := by
  unfold sc2
  rw [of_dvd h]
  exact Prod.ext (by grind) (by grind)
theorem bs_prime (hp : IsPrime n) (x : E2 n) : ∀ j, j < n → bs n x (j + 1) = (1, 0)
  | 0, _ => by
    show add2 (0, 0) (sc2 (ch n 0) (1, 0)) = (1, 0)
    rw [ch_zero]
    unfold sc2
    rw [show ((1 : Nat) : Int) = 1 from rfl, of_one]
    exact Prod.ext (by simp only [add2]; grind) (by simp only [add2]; grind)
  | j + 1, h => by
    show add2 (bs n x (j + 1)) (sc2 (ch n (j + 1)) (pow2 x (j + 1))) = _
    rw [bs_prime hp x j (by omega), sc2_dvd (ch_prime hp (by omega) h), add2_zero]
theorem one_add_pow (hp : IsPrime n) (x : E2 n) : pow2 (add2 (1, 0) x) n = add2 (1, 0) (pow2 x n) := by
  rw [bin]
  show add2 (bs n x n) (sc2 (ch n n) (pow2 x n)) = _
  obtain ⟨m, hm⟩ : ∃ m, n = m + 1 := ⟨n - 1, by have := hp.1; omega⟩
  have : bs n x n = (1, 0) := by
    have := bs_prime hp x m (by omega)
    rw [← hm] at this; exact this
  rw [this, ch_self]
  unfold sc2
  rw [show ((1 : Nat) : Int) = 1 from rfl, of_one]
  exact Prod.ext (by simp only [add2]; grind) (by simp only [add2]; grind)
theorem fpow_n (hp : IsPrime n) (x : Fin n) : fpow x n = x := by
  have h2 := hp.1
  by_cases h : x = 0
  · obtain ⟨m, hm⟩ : ∃ m, n = m + 1 := ⟨n - 1, by omega⟩
    rw [h]
    have : ∀ k, fpow (0 : Fin n) (k + 1) = 0 := fun k => by rw [fpow_succ]; grind
    have := this m
    rw [← hm] at this; exact this
  · have := fpow_fermat hp h
    have e : fpow x (n - 1 + 1) = fpow x (n - 1) * x := fpow_succ _ _
    rw [show n - 1 + 1 = n by omega, this] at e
    rw [e]; grind
theorem i_pow {j : Nat} (hj : n = 4 * j + 3) : pow2 ((0, 1) : E2 n) n = (0, -1) := by
  have h4 : pow2 ((0, 1) : E2 n) 4 = (1, 0) := by
    show mul2 (mul2 (mul2 (mul2 (1, 0) (0, 1)) (0, 1)) (0, 1)) (0, 1) = _
    exact Prod.ext (by simp only [mul2]; grind) (by simp only [mul2]; grind)
  have h : pow2 ((0, 1) : E2 n) (4 * j + 3) = (0, -1) := by
    rw [pow2_add, pow2_mul, h4, pow2_one, one_mul2]
    show mul2 (mul2 (mul2 (1, 0) (0, 1)) (0, 1)) (0, 1) = _
    exact Prod.ext (by simp only [mul2]; grind) (by simp only [mul2]; grind)
  rw [← hj] at h; exact h
def conj2 (a : E2 n) : E2 n := (a.1, -a.2)
theorem frob_im (hp : IsPrime n) {j : Nat} (hj : n = 4 * j + 3) (y : Fin n) : pow2 ((0, y) : E2 n) n = (0, -y) := by
  rw [show ((0, y) : E2 n) = mul2 (y, 0) (0, 1) from Prod.ext (by simp only [mul2]; grind) (by simp only [mul2]; grind), mul2_pow, pow2_real, i_pow hj, fpow_n hp]
  exact Prod.ext (by simp only [mul2]; grind) (by simp only [mul2]; grind)
theorem frob (hp : IsPrime n) {j : Nat} (hj : n = 4 * j + 3) (a : E2 n) : pow2 a n = conj2 a := by
  obtain ⟨x, y⟩ := a
  by_cases hx : x = 0
  · subst hx; exact frob_im hp hj y
  · obtain ⟨z, hz⟩ := fin_inv hp hx
    rw [show ((x, y) : E2 n) = mul2 (x, 0) (add2 (1, 0) (0, z * y)) from Prod.ext (by simp only [mul2, add2]; grind) (by simp only [mul2, add2]; grind),
      mul2_pow, one_add_pow hp, pow2_real, frob_im hp hj, fpow_n hp]
    exact Prod.ext (by simp only [mul2, add2, conj2]; grind) (by simp only [mul2, add2, conj2]; grind)
/-- a sum of two squares is 0 only if both are -/
theorem norm_ne (hp : IsPrime n) (hI : ∀ x : Fin n, x * x + 1 ≠ 0) {a : E2 n} (h : a ≠ (0, 0)) : a.1 * a.1 + a.2 * a.2 ≠ 0 := by
  obtain ⟨x, y⟩ := a
  intro e
  have e : x * x + y * y = 0 := e
  by_cases hy : y = 0
  · subst hy
    have : x * x = 0 := by grind
    rcases fin_mul_eq_zero hp this with h1 | h1 <;> exact h (by rw [h1])
  · obtain ⟨z, hz⟩ := fin_inv hp hy
    exact hI (x * z) (by grind)
/-- the power by which pairings are made one: what is real falls out -/
theorem pow_less (hp : IsPrime n) {j : Nat} (hj : n = 4 * j + 3) {a v : E2 n} (hv : mul2 a v = (1, 0)) : pow2 a (n - 1) = mul2 (conj2 a) v := by
  have h2 := hp.1
  have e : pow2 a (n - 1 + 1) = mul2 (pow2 a (n - 1)) a := pow2_succ _ _
  rw [show n - 1 + 1 = n by omega, frob hp hj] at e
  rw [e, mul2_assoc, hv, mul2_one]
theorem pow_zero2 (hp : IsPrime n) : pow2 ((0, 0) : E2 n) (n - 1) = (0, 0) := by
  have h2 := hp.1
  obtain ⟨m, hm⟩ : ∃ m, n - 1 = m + 1 := ⟨n - 2, by omega⟩
  rw [hm, pow2_succ, mul2_zero]
end
end Obol
end
section
/- The document's pairing is the program's: what walls bring is real, and falls out. -/
set_option linter.unusedVariables false
set_option linter.unusedSimpArgs false
set_option maxRecDepth 10000
open Go Go.Proofs.Ytdbpjegocmdplaa.E Go.Proofs
namespace Go.Proofs.Ytdbpjegocmdplaa.E.M
open Obol (mul2 pow2 conj2 E2 nsm prime_P prime_R IsPrime fpow)
theorem hj4 : 1152921505151057923 = 4 * 288230376287764480 + 3 := rfl
def k2 (a : Int × Int) : E2 1152921505151057923 := (K a.1, K a.2)
theorem k2_mul (a b : Int × Int) : k2 (mulE a b) = mul2 (k2 a) (k2 b) := by
  unfold k2 mulE mul2
  simp only [K_emod, K_sub, K_add, K_mul]
theorem k2_one : k2 (1, 0) = (1, 0) := by unfold k2; rw [K_1, K_0]
theorem k2_inj {a b : Int × Int} (ha : lt a.1 ∧ lt a.2) (hb : lt b.1 ∧ lt b.2) (h : k2 a = k2 b) : a = b := by
  have h1 := congrArg Prod.fst h
  have h2 := congrArg Prod.snd h
  exact Prod.ext (K_inj ha.1 hb.1 h1) (K_inj ha.2 hb.2 h2)
theorem k2_pw (a : Int × Int) {e : Int} (he : 0 ≤ e) : ∀ (n : Nat) (o : Int × Int), k2 o = pow2 (k2 a) (e / 2 ^ n).toNat → k2 (pw a e n o) = pow2 (k2 a) e.toNat
  | 0, o, ho => by rw [Int.pow_zero, Int.ediv_one] at ho; exact ho
  | n + 1, o, ho => by
    show k2 (pw a e n (stepE a e n o)) = _
    refine k2_pw a he n _ ?_
    have t0 : 0 ≤ e / 2 ^ (n + 1) := Int.ediv_nonneg he (Int.le_of_lt (Int.pow_pos (by decide)))
    have hb := bits_at e n
    generalize e / 2 ^ (n + 1) = t at *
    obtain ⟨t2, t21⟩ := toNat_two t0
    unfold stepE
    split
    · rename_i b1
      rw [hb, b1, t21, k2_mul, k2_mul, ho, Obol.pow2_succ, Nat.two_mul, Obol.pow2_add]
    · rename_i b1
      rw [hb, show e / 2 ^ n % 2 = 0 by omega, Int.add_zero, t2, k2_mul, ho, Nat.two_mul, Obol.pow2_add]
theorem k2_powE (a : Int × Int) {e : Int} (he : w64 e) : k2 (powE a e) = pow2 (k2 a) e.toNat := by
  unfold powE
  refine k2_pw a he.1 64 (1, 0) ?_
  rw [show e / 2 ^ 64 = 0 from Int.ediv_eq_zero_of_lt he.1 he.2, k2_one]; rfl
theorem plo4 (a : Int × Int) : plo 64 a 4 (1, 0) = mulE (1, 0) (mulE (mulE a a) (mulE a a)) := by
  show plo (60 + 1 + 1 + 1 + 1) a 4 (1, 0) = _
  rw [plo, if_pos (by decide), if_neg (by decide), show (4 : Int) / 2 = 2 from rfl, plo, if_pos (by decide), if_neg (by decide), show (2 : Int) / 2 = 1 from rfl, plo, if_pos (by decide), if_pos (by decide),
    show (1 : Int) / 2 = 0 from rfl, plo_zero]
theorem k2_plo4 (a : Int × Int) : k2 (plo 64 a 4 (1, 0)) = pow2 (k2 a) 4 := by
  rw [plo4, k2_mul, k2_mul, k2_mul, k2_one, Obol.one_mul2]
  show _ = pow2 (k2 a) (2 + 2)
  rw [Obol.pow2_add]
  show _ = mul2 (mul2 (mul2 (1, 0) (k2 a)) (k2 a)) (mul2 (mul2 (1, 0) (k2 a)) (k2 a))
  rw [Obol.one_mul2]
theorem k2_conj (a : Int × Int) : k2 (conjE a) = conj2 (k2 a) := by
  unfold k2 conjE conj2
  simp only [K_emod, K_sub, K_0]
  exact Prod.ext rfl (by grind)
theorem noI : ∀ x : FP, x * x + 1 ≠ 0 := goodP.noI
theorem k2_inv {a : Int × Int} (h : k2 a ≠ (0, 0)) : mul2 (k2 a) (k2 (invE a)) = (1, 0) := by
  have hn := Obol.norm_ne prime_P noI h
  obtain ⟨x, y⟩ := a
  have hN : lt ((x * x % 1152921505151057923 + y * y % 1152921505151057923) % 1152921505151057923) := ltm _
  have kN : K ((x * x % 1152921505151057923 + y * y % 1152921505151057923) % 1152921505151057923) = K x * K x + K y * K y := by
    rw [K_emod, K_add, K_emod, K_emod, K_mul, K_mul]
  have hz : (x * x % 1152921505151057923 + y * y % 1152921505151057923) % 1152921505151057923 ≠ 0 := by
    intro e
    rw [e, K_0] at kN
    exact hn kN.symm
  have hi := (K_inv hN hz).1
  have e : normE (x, y) = inv 1152921505151057923 ((x * x % 1152921505151057923 + y * y % 1152921505151057923) % 1152921505151057923) := rfl
  rw [kN, ← e] at hi
  have e2 : k2 (invE (x, y)) = (K x * K (normE (x, y)), (0 - K y) * K (normE (x, y))) := by
    unfold k2 invE conjE
    simp only [K_emod, K_mul, K_sub, K_0]
  rw [e2]
  clear e e2 kN hz hN hn h
  generalize K (normE (x, y)) = v at *
  unfold k2 mul2
  exact Prod.ext (by grind) (by grind)
/-- the same, but for what is real -/
def Rl (f g : Int × Int) : Prop := ∃ c : FP, c ≠ 0 ∧ k2 f = mul2 (c, 0) (k2 g)
theorem Rl.refl (f : Int × Int) : Rl f f := ⟨1, goodP.one_ne, (Obol.one_mul2 _).symm⟩
theorem Rl.mul {f g f' g' : Int × Int} (h : Rl f g) (h' : Rl f' g') : Rl (mulE f f') (mulE g g') := by
  obtain ⟨c, hc, e⟩ := h
  obtain ⟨c', hc', e'⟩ := h'
  refine ⟨c * c', Obol.fin_mul_ne_zero prime_P hc hc', ?_⟩
  rw [k2_mul, k2_mul, e, e', Obol.mul2_swap]
  congr 1
  exact Prod.ext (by simp only [mul2]; grind) (by simp only [mul2]; grind)
theorem K_nz {w : Int} (h : lt w) (h0 : w ≠ 0) : K w ≠ 0 := fun e => h0 ((K_zero_iff h).1 e)
theorem Rl.over {f g : Int × Int} {w : Int} (h : Rl f g) (hw : lt w) (h0 : w ≠ 0) : Rl (overE f (w, 0)) g := by
  obtain ⟨c, hc, e⟩ := h
  have kw := K_nz hw h0
  have e1 : k2 (w, 0) = (K w, 0) := by unfold k2; rw [K_0]
  unfold overE
  refine ⟨fpow (fpow (K w) (1152921505151057923 : Int).toNat) (1152921505151057922 : Int).toNat * fpow (K w) (1152921505151057921 : Int).toNat * c, ?_, ?_⟩
  · refine Obol.fin_mul_ne_zero prime_P (Obol.fin_mul_ne_zero prime_P ?_ ?_) hc
    · exact Obol.fpow_ne prime_P (Obol.fpow_ne prime_P kw _) _
    · exact Obol.fpow_ne prime_P kw _
  · rw [k2_mul, k2_mul, k2_powE _ (by decide), k2_powE _ (by decide), k2_powE _ (by decide), e1, Obol.pow2_real, Obol.pow2_real, Obol.pow2_real, e]
    generalize fpow (fpow (K w) (1152921505151057923 : Int).toNat) (1152921505151057922 : Int).toNat = p
    generalize fpow (K w) (1152921505151057921 : Int).toNat = q
    exact Prod.ext (by simp only [mul2]; grind) (by simp only [mul2]; grind)
theorem Rl.step {f g l l' : Int × Int} {w : Int} (h : Rl f g) (h' : Rl l l') (hw : lt w) (h0 : w ≠ 0) : Rl (rstepE f l (w, 0)) (mulE g l') := (h.mul h').over hw h0
theorem down_iff {tx ty bx bY : Int} (ht : Pt (false, tx, ty)) (hb : Pt (false, bx, bY)) : wallP (false, tx, ty) (false, bx, bY) = true ↔ downE (false, tx, ty) (false, bx, bY) = 0 := by
  obtain ⟨t1, t2, t3⟩ := ht.fin
  obtain ⟨b1, b2, b3⟩ := hb.fin
  have e : wallP (false, tx, ty) (false, bx, bY) = true ↔ tx = bx ∧ (ty + bY) % 1152921505151057923 = 0 := by simp [wallP]
  rw [e]
  unfold downE
  split
  · rename_i h
    cases h
    simp
  · rename_i h
    constructor
    · rintro ⟨rfl, _⟩
      show (tx - tx) % _ = 0
      rw [Int.sub_self]; rfl
    · intro h'
      have h' : (bx - tx) % 1152921505151057923 = 0 := h'
      have k := congrArg K h'
      rw [K_emod, K_sub, K_0] at k
      have hx : tx = bx := K_inj t1 b1 (by grind)
      subst hx
      refine ⟨rfl, ?_⟩
      rcases Obol.y_cases prime_P t3 b3 with h2 | h2
      · exact absurd (by rw [K_inj t2 b2 h2]) h
      · refine K_inj (ltm _) ⟨Int.le_refl 0, by decide⟩ ?_
        rw [K_emod, K_add, K_0, h2]
/-- a point of R times none: no lower multiple is none -/
theorem nsm_gcd {a : Obol.EPt 1152921505151057923} (ha : Obol.onE a) : ∀ (m n : Nat), nsm a m = none → nsm a n = none → nsm a (Nat.gcd m n) = none := by
  intro m n
  induction m, n using Nat.gcd.induction with
  | H0 n => intro _ h; rw [Nat.gcd_zero_left]; exact h
  | H1 m n hm ih =>
    intro h1 h2
    rw [Nat.gcd_rec]
    refine ih ?_ h1
    have e := Nat.div_add_mod n m
    rw [← e, Obol.nsm_add goodP ha, Obol.nsm_mul goodP ha, h1] at h2
    have z : ∀ k, nsm (none : Obol.EPt 1152921505151057923) k = none := fun k => by
      induction k with
      | zero => rfl
      | succ k ih => rw [Obol.nsm_succ, ih]; rfl
    rw [z] at h2
    exact h2
theorem nsm_lower {a : Obol.EPt 1152921505151057923} (ha : Obol.onE a) (hr : nsm a 288230376287764481 = none) (h0 : a ≠ none) {m : Nat} (h1 : 0 < m) (h2 : m < 288230376287764481) : nsm a m ≠ none := by
  intro h
  have g := nsm_gcd ha m 288230376287764481 h hr
  have hc : Nat.gcd m 288230376287764481 = 1 := by
    rcases prime_R.2 _ (Nat.gcd_dvd_right m 288230376287764481) with e | e
    · exact e
    · have := Nat.gcd_le_left 288230376287764481 h1
      omega
  rw [hc] at g
  exact h0 g
theorem in_pt {b : Bool} {x y : Int} (h : inP b x y = true) : Pt (b, x, y) ∧ nsm (toE (b, x, y)) 288230376287764481 = none := by
  have hp := inP_pt h
  refine ⟨hp, ?_⟩
  unfold inP at h
  rw [Bool.and_eq_true] at h
  have e := toE_times hp (k := 288230376287764481) (by decide)
  rw [show (288230376287764481 : Int).toNat = 288230376287764481 from rfl] at e
  rw [← e]
  unfold toE
  rw [if_pos h.2]
theorem in_y {x y : Int} (h : inP false x y = true) : y ≠ 0 := by
  rintro rfl
  obtain ⟨hp, hr⟩ := in_pt h
  refine nsm_lower (toE_on hp) hr (by intro h; cases h) (m := 2) (by decide) (by decide) ?_
  show Obol.addE (Obol.addE none (toE (false, x, 0))) (toE (false, x, 0)) = none
  rw [show Obol.addE none (toE (false, x, 0)) = toE (false, x, 0) from rfl, ← toE_sum hp hp]
  rw [show sumP (false, x, 0) (false, x, 0) = (true, 0, 0) from by rw [sumP_fin, if_pos ⟨rfl, by decide⟩]]
  rfl
theorem fin_of {t : P3} (h : toE t ≠ none) : t.1 = false := by
  obtain ⟨b, x, y⟩ := t
  cases b with
  | true => exact absurd rfl h
  | false => rfl
theorem bitN (i : Nat) : (288230376287764481 : Int) / 2 ^ i % 2 = ((288230376287764481 / 2 ^ i % 2 : Nat) : Int) := by
  rw [Int.natCast_emod, Int.natCast_ediv, Int.natCast_pow]; rfl
end Go.Proofs.Ytdbpjegocmdplaa.E.M
end
