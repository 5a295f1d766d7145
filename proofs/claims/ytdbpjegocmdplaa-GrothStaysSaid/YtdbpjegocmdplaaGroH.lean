/- The document's example, by which all statements of the layer begin: a contract over E. -/
import Derived.Test.YtdbpjegocmdplaaGroG
import Derived.Test.YtdbpjegocmdplaaProg
import Derived.KernelRfl
set_option linter.unusedVariables false
set_option linter.unusedSimpArgs false
set_option maxRecDepth 10000
open Go Go.Proofs.Ytdbpjegocmdplaa.E Go.Proofs
namespace Go.Proofs.Ytdbpjegocmdplaa.E.M
abbrev uA : P3 := (false, 390142022856864031, 619416464133550328)
abbrev uB : P3 := (false, 990816189318049492, 478270375491607323)
abbrev uG : P3 := (false, 607770835786549790, 462934026441976783)
abbrev uD : P3 := (false, 161820438288270125, 159915574753481379)
abbrev uLA : List P3 := [(true, 0, 0), (true, 0, 0), (false, 247390119040843104, 830327839767444578), (true, 0, 0)]
abbrev uLB : List P3 := [(true, 0, 0), (true, 0, 0), (true, 0, 0), (false, 247390119040843104, 830327839767444578)]
abbrev uLL : List P3 := [(false, 80253235902019092, 846098853205030436), (false, 568824817186724143, 949590028944829181)]
abbrev uIC : List P3 := [(true, 0, 0), (false, 173250950867901686, 325310901446581731)]
abbrev xA : P3 := (false, 767482899265036410, 800092554803567318)
abbrev xB : P3 := (false, 495335676311527978, 144734656031018301)
abbrev xC : P3 := (false, 348837076355219783, 452192841222597849)
abbrev prS : Rk := ⟨4, 1, [⟨[⟨2, 1⟩], [⟨3, 1⟩], [⟨1, 1⟩]⟩]⟩
theorem pr_len : Len prS := ⟨by decide, by intro r hr; simp at hr; subst hr; exact ⟨by decide, by decide, by decide⟩⟩
theorem pr_w : wR prS := by
  intro r hr; simp at hr; subst hr
  refine ⟨?_, ?_, ?_⟩ <;> (intro t ht; simp at ht; subst ht; decide)
theorem pr_chk : chkF prS = true := by decide
theorem pr_lg : lg prS.l.length = 0 := by decide
theorem pr_a : atL Rw.a prS 13 = [0, 0, 1, 0] := by decide +kernel
theorem pr_b : atL Rw.b prS 13 = [0, 0, 0, 1] := by decide +kernel
theorem pr_c : atL Rw.c prS 13 = [0, 1, 0, 0] := by decide +kernel
theorem pr_z : zF 0 13 = 12 := by decide +kernel
theorem pr_z1 : zF 0 1 = 0 := by decide +kernel
theorem up_gA : gT 3 = uA := by decide +kernel
theorem up_gB : gT 5 = uB := by decide +kernel
theorem up_gG : gT 7 = uG := by decide +kernel
theorem up_gD : gT 11 = uD := by decide +kernel
theorem up_LA : aT [0, 0, 1, 0] 4 = uLA := by decide +kernel
theorem up_LB : aT [0, 0, 0, 1] 4 = uLB := by decide +kernel
theorem up_LL : lT 1 3 5 (ipow 288230376287764481 11 288230376287764479) [0, 0, 1, 0] [0, 0, 0, 1] [0, 1, 0, 0] 4 = uLL := by decide +kernel
theorem up_IC : iT 1 3 5 (ipow 288230376287764481 7 288230376287764479) [0, 0, 1, 0] [0, 0, 0, 1] [0, 1, 0, 0] 4 = uIC := by decide +kernel
theorem up_set : Fn Try.prog 9 [.agg (rk prS), .agg [u 3, u 5, u 7, u 11, u 13]] [] (fun r _ => r = .tup [.agg (pkc uA uB uD uLA uLB uLL []), .agg (vkc uA uB uG uD uIC), nil_]) := by
  have c := groth_Setup_c (s := prS) (al := 3) (be := 5) (ga := 7) (de := 11) (ta := 13) pr_len (by decide) (by decide) (by decide) (by decide) (by decide)
  refine c.mono ?_
  rintro r _ rfl
  unfold setF
  rw [if_neg (by rw [pr_chk]; decide), if_neg (by decide), if_neg (by rw [pr_lg, pr_z]; decide)]
  rw [pr_lg, pr_a, pr_b, pr_c, pr_z]
  unfold keysF
  rw [up_gA, up_gB, up_gG, up_gD]
  rw [show (prS.v).toNat = 4 from rfl, show prS.p = 1 from rfl, up_LA, up_LB, up_LL, up_IC]
  rfl
theorem up_set1 : Fn Try.prog 9 [.agg (rk prS), .agg [u 3, u 5, u 7, u 11, u 1]] [] (fun r _ => r = .tup [.agg zP, .agg zV, er 7]) := by
  have c := groth_Setup_c (s := prS) (al := 3) (be := 5) (ga := 7) (de := 11) (ta := 1) pr_len (by decide) (by decide) (by decide) (by decide) (by decide)
  refine c.mono ?_
  rintro r _ rfl
  unfold setF
  rw [if_neg (by rw [pr_chk]; decide), if_neg (by decide), if_pos (by rw [pr_lg, pr_z1]; decide)]
theorem pr_holds : holdsF prS [1, 12, 3, 4] = nil_ := by
  unfold holdsF
  rw [if_pos pr_chk, if_neg (by decide)]
  show (if _ then _ else _) = _
  rw [if_pos (by decide)]
  rfl
theorem pr_van : vanOk (2 ^ lg prS.l.length) (quoP prS [1, 12, 3, 4]) = true := by decide +kernel
theorem pr_hs : hsF prS [1, 12, 3, 4] = [] := by decide +kernel
theorem up_xA : proA uA uD uLA [1, 12, 3, 4] 17 = xA := by decide +kernel
theorem up_xB : proA uB uD uLB [1, 12, 3, 4] 19 = xB := by decide +kernel
theorem up_xC : proC uD xA xB uLL [] 1 [1, 12, 3, 4] [] 17 19 = xC := by decide +kernel
theorem w4 : wV [1, 12, 3, 4] := by intro v hv; simp at hv; rcases hv with rfl | rfl | rfl | rfl <;> decide
theorem up_pro : Fn Try.prog 10 [.agg (pkc uA uB uD uLA uLB uLL []), .agg (rk prS), ul [1, 12, 3, 4], u 17, u 19] [] (fun r _ => r = .tup [pf xA xB xC, nil_]) := by
  have cq := quo_ok (s := prS) (V := [1, 12, 3, 4]) pr_len pr_w w4 (by decide) pr_chk pr_holds pr_van
  rw [pr_hs] at cq
  have c := groth_Prove_o (s := prS) (pa := uA) (pb := uB) (pd := uD) (LA := uLA) (LB := uLB) (LL := uLL) (LH := []) (V := [1, 12, 3, 4]) (H := []) (r := 17) (t := 19) pr_len pr_chk cq (by decide) (by decide) (by decide) (by decide) (by decide) (by decide) (by decide) rfl rfl rfl (by decide) w4 rfl (by decide) (by decide) (by decide) (by decide)
  refine c.mono ?_
  rintro r _ rfl
  rw [if_neg (by decide), up_xA, up_xB, show (prS.p).toNat = 1 from rfl, up_xC]
theorem up_p1 : prodV [xA, negG uA, negG (togF (true, 0, 0) [(false, 173250950867901686, 325310901446581731)] [12]), negG xC] [xB, uB, uG, uD] = ((1, 0), true) := by decide +kernel
theorem up_p2 : ¬ (prodV [xA, negG uA, negG (togF (true, 0, 0) [(false, 173250950867901686, 325310901446581731)] [13]), negG xC] [xB, uB, uG, uD]).1 = (1, 0) := by decide +kernel
theorem up_in : ((uA :: uB :: uG :: uD :: uIC).any fun g => !inG g) = false := by decide +kernel
theorem up_in2 : (!inG xA || !inG xB || !inG xC) = false := by decide +kernel
theorem up_v1 : verF uA uB uG uD uIC [12] xA xB xC = nil_ := by
  unfold verF
  rw [if_neg (by decide), if_neg (by rw [up_in]; decide), if_neg (by rw [up_in2]; decide)]
  unfold eqF
  show (match prodV [xA, negG uA, negG (togF (true, 0, 0) [(false, 173250950867901686, 325310901446581731)] [12]), negG xC] [xB, uB, uG, uD] with | (_, false) => er 9 | (e, true) => if e = (1, 0) then nil_ else er 9) = nil_
  rw [up_p1]
  rfl
theorem up_v2 : verF uA uB uG uD uIC [13] xA xB xC = er 9 := by
  unfold verF
  rw [if_neg (by decide), if_neg (by rw [up_in]; decide), if_neg (by rw [up_in2]; decide)]
  unfold eqF
  show (match prodV [xA, negG uA, negG (togF (true, 0, 0) [(false, 173250950867901686, 325310901446581731)] [13]), negG xC] [xB, uB, uG, uD] with | (_, false) => er 9 | (e, true) => if e = (1, 0) then nil_ else er 9) = er 9
  have h := up_p2
  generalize prodV [xA, negG uA, negG (togF (true, 0, 0) [(false, 173250950867901686, 325310901446581731)] [13]), negG xC] [xB, uB, uG, uD] = e at *
  obtain ⟨e, o⟩ := e
  cases o
  · rfl
  · exact if_neg h
theorem w1_ {v : Int} (h : w64 v) : wV [v] := by intro w hw; simp at hw; subst hw; exact h
theorem up_ver1 : Fn Try.prog 11 [.agg (vkc uA uB uG uD uIC), ul [12], pf xA xB xC] [] (fun r _ => r = nil_) := by
  have c := groth_Verify_c (A := uA) (B := uB) (C := uG) (D := uD) (I := uIC) (V := [12]) (a := xA) (b := xB) (c := xC) (by decide) (by decide) (by decide) (by decide) (by decide) (by decide) (w1_ (by decide)) (by decide) (by decide) (by decide) (by decide)
  rw [up_v1] at c
  exact c
theorem up_ver2 : Fn Try.prog 11 [.agg (vkc uA uB uG uD uIC), ul [13], pf xA xB xC] [] (fun r _ => r = er 9) := by
  have c := groth_Verify_c (A := uA) (B := uB) (C := uG) (D := uD) (I := uIC) (V := [13]) (a := xA) (b := xB) (c := xC) (by decide) (by decide) (by decide) (by decide) (by decide) (by decide) (w1_ (by decide)) (by decide) (by decide) (by decide) (by decide)
  rw [up_v2] at c
  exact c
set_option maxHeartbeats 4000000 in
theorem obollaw15_product_c : Fn Try.prog 18 [] [] (fun r _ => r = .agg (rk prS)) := by
  refine Fn.enter Try.func18 Try.ntmps18 rfl (h := ?_)
  have tf := tf
  have tfr := tfr
  repeat refine AW.seq ?_
  refine AW.reg ?_
  iterate 1 refine AOL.s1 (h := ?_)
  refine AOL.nil ?_
  refine AW.kq [0] (h := ?_)
  repeat refine AW.seq ?_
  refine AW.reg ?_
  iterate 2 refine AOL.s1 (h := ?_)
  refine AOL.fz 1032 rfl (fun h => by cases h) (h := ?_)
  iterate 2 refine AOL.s1 (h := ?_)
  refine AOL.fz 1064 rfl (fun h => by cases h) (h := ?_)
  iterate 2 refine AOL.s1 (h := ?_)
  refine AOL.fz 1096 rfl (fun h => by cases h) (h := ?_)
  iterate 2 refine AOL.s1 (h := ?_)
  refine AOL.fz 1128 rfl (fun h => by cases h) (h := ?_)
  iterate 2 refine AOL.s1 (h := ?_)
  refine AOL.nil ?_
  refine AW.kq [0] (h := ?_)
  repeat refine AW.seq ?_
  refine AW.ret ?_
  refine ⟨_, [], rfl, HOk.nil _, ?_⟩
  rfl
theorem obollaw15_draws_c : Fn Try.prog 19 [] [] (fun r _ => r = .agg [u 3, u 5, u 7, u 11, u 13]) := by
  refine Fn.enter Try.func19 Try.ntmps19 rfl (h := ?_)
  have tf := tf
  have tfr := tfr
  have tfg := tfg
  repeat refine AW.seq ?_
  refine AW.reg ?_
  iterate 1 refine AOL.s1 (h := ?_)
  refine AOL.nil ?_
  refine AW.kq [0] (h := ?_)
  repeat refine AW.seq ?_
  refine AW.reg ?_
  iterate 2 refine AOL.s1 (h := ?_)
  refine AOL.nil ?_
  refine AW.kq [0] (h := ?_)
  repeat refine AW.seq ?_
  refine AW.ret ?_
  refine ⟨_, [], rfl, HOk.nil _, ?_⟩
  rfl
set_option maxHeartbeats 16000000 in
theorem obollaw15_up_c : Fn Try.prog 7 [] [] (fun r _ => r = bo true) := by
  have c1 := obollaw15_product_c
  have c2 := obollaw15_draws_c
  have c3 := up_set
  have c4 := up_pro
  have c5 := up_set1
  have c6 := up_ver1
  have c7 := up_ver2
  refine Fn.enter Try.func7 Try.ntmps7 rfl (h := ?_)
  have tf := tf
  have tfr := tfr
  have tfl := tfl
  have tfg := tfg
  have ot_ : (false || true) = true := rfl
  repeat refine AW.seq ?_
  refine AW.reg ?_
  iterate 1 refine AOL.s1 (h := ?_)
  refine AOL.nil ?_
  refine AW.kq [] (h := ?_)
  repeat refine AW.seq ?_
  refine AW.reg ?_
  refine AOL.callD rfl (c1) (by kernel_rfl) rfl rfl (h := ?_)
  refine AOL.callD rfl (c2) (by kernel_rfl) rfl rfl (h := ?_)
  refine AOL.callD rfl (c3) (by kernel_rfl) rfl rfl (h := ?_)
  iterate 9 refine AOL.s1 (h := ?_)
  refine AOL.nil ?_
  refine AW.kq [1, 2, 3] (h := ?_)
  repeat refine AW.seq ?_
  refine AW.db [(8, 1064, ⟨43, true, pfc xA xB xC⟩)] 9 [1064] (by kernel_rfl) (h := ?_)
  iterate 1 refine ADLB.d1 (h := ?_)
  refine ADLB.call rfl rfl (c1) (by kernel_rfl) rfl rfl (by simp only [List.cons_append, List.nil_append]; exact rfl) ?_
  iterate 1 refine ADLB.d1 (h := ?_)
  refine ADLB.call rfl rfl (c4) (by kernel_rfl) rfl rfl (by simp only [List.cons_append, List.nil_append]; exact rfl) ?_
  iterate 4 refine ADLB.d1 (h := ?_)
  refine ADLB.sb 7 (h := ?_)
  refine ADLB.fin hmix rfl rfl rfl rfl (hT := ?_)
  iterate 1 refine AOL.s1 (h := ?_)
  refine AOL.nil ?_
  refine AW.kq [2, 3, 4, 5] (h := ?_)
  repeat refine AW.seq ?_
  refine AW.reg ?_
  refine AOL.callD rfl (c2) (by kernel_rfl) rfl rfl (h := ?_)
  iterate 2 refine AOL.s1 (h := ?_)
  refine AOL.nil ?_
  refine AW.kq [2, 3, 4, 5, 6] (h := ?_)
  repeat refine AW.seq ?_
  refine AW.reg ?_
  iterate 2 refine AOL.s1 (h := ?_)
  refine AOL.nil ?_
  refine AW.kq [2, 3, 4, 5, 6] (h := ?_)
  repeat refine AW.seq ?_
  refine AW.db [(9, 1112, ⟨35, true, zP⟩), (10, 1128, ⟨37, true, zV⟩)] 11 [1112, 1128] (by kernel_rfl) (h := ?_)
  refine ADLB.call rfl rfl (c1) (by kernel_rfl) rfl rfl (by simp only [List.cons_append, List.nil_append]; exact rfl) ?_
  iterate 1 refine ADLB.d1 (h := ?_)
  refine ADLB.call rfl rfl (c5) (by kernel_rfl) rfl rfl (by simp only [List.cons_append, List.nil_append]; exact rfl) ?_
  iterate 6 refine ADLB.d1 (h := ?_)
  refine ADLB.sb 7 (h := ?_)
  refine ADLB.sb 8 (h := ?_)
  refine ADLB.fin hmix rfl rfl rfl rfl (hT := ?_)
  iterate 1 refine AOL.s1 (h := ?_)
  refine AOL.nil ?_
  refine AW.kq [2, 3, 4, 5, 9] (h := ?_)
  repeat refine AW.seq ?_
  refine AW.reg ?_
  iterate 14 refine AOL.s1 (h := ?_)
  refine AOL.fz 1736 rfl (fun h => by cases h) (h := ?_)
  iterate 1 refine AOL.s1 (h := ?_)
  refine AOL.callD rfl (c6) (by kernel_rfl) rfl rfl (h := ?_)
  iterate 5 refine AOL.s1 (h := ?_)
  refine AOL.fz 1848 rfl (fun h => by cases h) (h := ?_)
  iterate 1 refine AOL.s1 (h := ?_)
  refine AOL.callD rfl (c7) (by kernel_rfl) rfl rfl (h := ?_)
  iterate 4 refine AOL.s1 (h := ?_)
  refine AOL.nil ?_
  refine AW.kq [0] (h := ?_)
  repeat refine AW.seq ?_
  refine AW.ret ?_
  refine ⟨_, [], rfl, HOk.nil _, ?_⟩
  rfl
end Go.Proofs.Ytdbpjegocmdplaa.E.M

