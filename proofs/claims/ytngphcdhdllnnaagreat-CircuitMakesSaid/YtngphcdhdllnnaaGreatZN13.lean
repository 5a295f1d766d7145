/- Texts joined: ZMZlb, ZMOpc. -/
import Derived.Test.YtngphcdhdllnnaaGreatZN10
import Derived.Test.YtngphcdhdllnnaaGreatZN12
import Derived.Test.YtngphcdhdllnnaaGreatProg
import Derived.KernelRfl
import Derived.Test.YtngphcdhdllnnaaGreatZN9
section
/- obollaw18: the system and the values are those that the document makes by a maker: the law over E. -/
set_option linter.unusedVariables false
set_option linter.unusedSimpArgs false
set_option maxRecDepth 10000
open Go Go.Proofs.YtngphcdhdllnnaaGreat.E Go.Proofs
namespace Go.Proofs.YtngphcdhdllnnaaGreat.E.M
set_option maxHeartbeats 8000000 in
theorem CircuitMakes_n {mr mi mo ms xk xv xo xr xa : Int} {xp : List Int} {yk yv yo yr ya : Int} {yp : List Int} {pv po pr qv qo qr d : Int} (hm : wM (⟨mr, mi, mo, ms, ⟨xk, (xv, xo, xr), xa, xp⟩, ⟨yk, (yv, yo, yr), ya, yp⟩, (pv, po, pr), (qv, qo, qr)⟩ : Mv)) (hf : fitsH (⟨mr, mi, mo, ms, ⟨xk, (xv, xo, xr), xa, xp⟩, ⟨yk, (yv, yo, yr), ya, yp⟩, (pv, po, pr), (qv, qo, qr)⟩ : Mv) d = false) : Fn Tryz.prog 3 [.agg [u mr, u mi, u mo, u ms, u xk, u xv, u xo, u xr, i xa, ul xp, u yk, u yv, u yo, u yr, i ya, ul yp, u pv, u po, u pr, u qv, u qo, u qr], i d] [] (fun r h_ => r = bo true) := by
  refine Fn.enter Tryz.func3 Tryz.ntmps3 rfl (h := ?_)
  have tf := tfm
  have ot_ : (false || true) = true := rfl
  have tfv := tfv
  have tfm := tfm
  have tfn := tfn
  have tfr := tfr
  have n0 : Int.toNat 0 = 0 := rfl
  have n1 : Int.toNat 1 = 1 := rfl
  have q0 : (0:Int) ≤ 0 := by decide
  have q1' : (0:Int) ≤ 1 := by decide
  have x02 : (0:Int) < ((2:Nat):Int) := by decide
  have x12 : (1:Int) < ((2:Nat):Int) := by decide
  have z02 : (0:Int) < 2 := by decide
  have z12 : (1:Int) < 2 := by decide
  have a1_ : IntKind.i64.wrap (0 + 1) = 1 := by decide
  have a2_ : IntKind.i64.wrap (1 + 1) = 2 := by decide
  have i02 : decide ((0:Int) < 2) = true := rfl
  have i12 : decide ((1:Int) < 2) = true := rfl
  have i22 : decide ((2:Int) < 2) = false := rfl
  have cL := obollaw18_light_c (m := (⟨mr, mi, mo, ms, ⟨xk, (xv, xo, xr), xa, xp⟩, ⟨yk, (yv, yo, yr), ya, yp⟩, (pv, po, pr), (qv, qo, qr)⟩ : Mv)) (d := d)
  have cF := obolref18_Fits_c (m := (⟨mr, mi, mo, ms, ⟨xk, (xv, xo, xr), xa, xp⟩, ⟨yk, (yv, yo, yr), ya, yp⟩, (pv, po, pr), (qv, qo, qr)⟩ : Mv)) (d := d) hm
  have cM := circuit_Make_n hm hf
  rw [hf] at cF
  replace cM : Fn Tryz.prog 7 [.agg [u mr, u mi, u mo, u ms, u xk, u xv, u xo, u xr, i xa, ul xp, u yk, u yv, u yo, u yr, i ya, ul yp, u pv, u po, u pr, u qv, u qo, u qr], i d] [] (fun r _ => r = .tup [.agg [i 0, i 0, .val (.slice none 0 0)], .val (.slice none 0 0), errA]) := cM
  replace cF : Fn Tryz.prog 8 [.agg [u mr, u mi, u mo, u ms, u xk, u xv, u xo, u xr, i xa, ul xp, u yk, u yv, u yo, u yr, i ya, ul yp, u pv, u po, u pr, u qv, u qo, u qr], i d] [] (fun r _ => r = bo false) := cF
  replace cL : Fn Tryz.prog 6 [.agg [u mr, u mi, u mo, u ms, u xk, u xv, u xo, u xr, i xa, ul xp, u yk, u yv, u yo, u yr, i ya, ul yp, u pv, u po, u pr, u qv, u qo, u qr], i d] [] (fun r _ => r = bo (litH (⟨mr, mi, mo, ms, ⟨xk, (xv, xo, xr), xa, xp⟩, ⟨yk, (yv, yo, yr), ya, yp⟩, (pv, po, pr), (qv, qo, qr)⟩ : Mv) d)) := cL
  generalize litH (⟨mr, mi, mo, ms, ⟨xk, (xv, xo, xr), xa, xp⟩, ⟨yk, (yv, yo, yr), ya, yp⟩, (pv, po, pr), (qv, qo, qr)⟩ : Mv) d = lt at *
  clear hf hm
  repeat refine AW.seq ?_
  refine AW.reg ?_
  iterate 2 refine AOL.s1 (h := ?_)
  refine AOL.nil ?_
  refine AW.kq [1, 2] (h := ?_)
  repeat refine AW.seq ?_
  refine AW.reg ?_
  refine AOL.callD rfl (obollaw18_up_c) (by kernel_rfl) rfl rfl (h := ?_)
  iterate 1 refine AOL.s1 (h := ?_)
  refine AOL.nil ?_
  refine AW.kq [1, 2, 5] (h := ?_)
  repeat refine AW.seq ?_
  refine AW.reg ?_
  iterate 2 refine AOL.s1 (h := ?_)
  refine AOL.callD rfl (cL) (by kernel_rfl) rfl rfl (h := ?_)
  iterate 1 refine AOL.s1 (h := ?_)
  refine AOL.nil ?_
  refine AW.kq [1, 2, 5, 6] (h := ?_)
  repeat refine AW.seq ?_
  refine AW.reg ?_
  iterate 2 refine AOL.s1 (h := ?_)
  refine AOL.nil ?_
  refine AW.kq [1, 2, 5, 33] (h := ?_)
  repeat refine AW.seq ?_
  refine AW.cond rfl (fun c_ => ?_) (fun c_ => ?_)
  · skip
    repeat refine AW.seq ?_
    refine AW.reg ?_
    iterate 2 refine AOL.s1 (h := ?_)
    refine AOL.nil ?_
    refine AW.kq [4] (h := ?_)
    repeat refine AW.seq ?_
    refine AW.ret ?_
    refine ⟨_, [], rfl, HOk.nil _, ?_⟩
    rfl
  refine AW.skip ?_
  repeat refine AW.seq ?_
  refine AW.reg ?_
  iterate 2 refine AOL.s1 (h := ?_)
  refine AOL.callD rfl (cM) (by kernel_rfl) rfl rfl (h := ?_)
  iterate 8 refine AOL.s1 (h := ?_)
  refine AOL.nil ?_
  refine AW.kq [1, 2, 5, 7, 8, 9] (h := ?_)
  repeat refine AW.seq ?_
  refine AW.reg ?_
  iterate 2 refine AOL.s1 (h := ?_)
  refine AOL.callD rfl (cF) (by kernel_rfl) rfl rfl (h := ?_)
  iterate 1 refine AOL.s1 (h := ?_)
  refine AOL.nil ?_
  refine AW.kq [1, 2, 5, 7, 8, 9, 10] (h := ?_)
  repeat refine AW.seq ?_
  refine AW.reg ?_
  iterate 2 refine AOL.s1 (h := ?_)
  refine AOL.nil ?_
  refine AW.kq [1, 2, 5, 7, 8, 9, 46] (h := ?_)
  repeat refine AW.seq ?_
  refine AW.cond rfl (fun c_ => ?_) (fun c_ => ?_)
  · skip
    repeat refine AW.seq ?_
    refine AW.reg ?_
    iterate 2 refine AOL.s1 (h := ?_)
    skip
    iterate 4 refine AOL.s1 (h := ?_)
    iterate 1 refine AOL.s1 (h := ?_)
    skip
    iterate 4 refine AOL.s1 (h := ?_)
    iterate 1 refine AOL.s1 (h := ?_)
    skip
    iterate 4 refine AOL.s1 (h := ?_)
    iterate 1 refine AOL.s1 (h := ?_)
    refine AOL.nil ?_
    refine AW.kq [4] (h := ?_)
    repeat refine AW.seq ?_
    refine AW.ret ?_
    refine ⟨_, [], rfl, HOk.nil _, ?_⟩
    rfl
  simp at c_
set_option maxHeartbeats 16000000 in
theorem CircuitMakes_y {mr mi mo ms xk xv xo xr xa : Int} {xp : List Int} {yk yv yo yr ya : Int} {yp : List Int} {pv po pr qv qo qr d : Int} (hm : wM (⟨mr, mi, mo, ms, ⟨xk, (xv, xo, xr), xa, xp⟩, ⟨yk, (yv, yo, yr), ya, yp⟩, (pv, po, pr), (qv, qo, qr)⟩ : Mv)) (hf : fitsH (⟨mr, mi, mo, ms, ⟨xk, (xv, xo, xr), xa, xp⟩, ⟨yk, (yv, yo, yr), ya, yp⟩, (pv, po, pr), (qv, qo, qr)⟩ : Mv) d = true) : Fn Tryz.prog 3 [.agg [u mr, u mi, u mo, u ms, u xk, u xv, u xo, u xr, i xa, ul xp, u yk, u yv, u yo, u yr, i ya, ul yp, u pv, u po, u pr, u qv, u qo, u qr], i d] [] (fun r h_ => r = bo true) := by
  refine Fn.enter Tryz.func3 Tryz.ntmps3 rfl (h := ?_)
  have tf := tfm
  have ot_ : (false || true) = true := rfl
  have tfv := tfv
  have tfm := tfm
  have tfn := tfn
  have tfr := tfr
  have n0 : Int.toNat 0 = 0 := rfl
  have n1 : Int.toNat 1 = 1 := rfl
  have q0 : (0:Int) ≤ 0 := by decide
  have q1' : (0:Int) ≤ 1 := by decide
  have x02 : (0:Int) < ((2:Nat):Int) := by decide
  have x12 : (1:Int) < ((2:Nat):Int) := by decide
  have z02 : (0:Int) < 2 := by decide
  have z12 : (1:Int) < 2 := by decide
  have a1_ : IntKind.i64.wrap (0 + 1) = 1 := by decide
  have a2_ : IntKind.i64.wrap (1 + 1) = 2 := by decide
  have i02 : decide ((0:Int) < 2) = true := rfl
  have i12 : decide ((1:Int) < 2) = true := rfl
  have i22 : decide ((2:Int) < 2) = false := rfl
  have cL := obollaw18_light_c (m := (⟨mr, mi, mo, ms, ⟨xk, (xv, xo, xr), xa, xp⟩, ⟨yk, (yv, yo, yr), ya, yp⟩, (pv, po, pr), (qv, qo, qr)⟩ : Mv)) (d := d)
  have cF := obolref18_Fits_c (m := (⟨mr, mi, mo, ms, ⟨xk, (xv, xo, xr), xa, xp⟩, ⟨yk, (yv, yo, yr), ya, yp⟩, (pv, po, pr), (qv, qo, qr)⟩ : Mv)) (d := d) hm
  have fr := frM.of hm hf
  have mk := make_law fr
  have ml := makM_len fr
  have cM := circuit_Make_y hm hf mk.1.rok
  rw [hf] at cF
  have ha : 0 ≤ xa ∧ 0 ≤ ya := ⟨fr.x.a.1, fr.y.a.1⟩
  have cRN := obolref18_Numbers_c hm ha
  obtain ⟨n, hn, hmx, hdn⟩ := mod17 d
  have hd16 : 1 ≤ d ∧ d ≤ 16 := by
    simp only [fitsH, hdF, Bool.and_eq_true, decide_eq_true_eq] at hf
    omega
  have hf' := shpM_f hn hd16 (hdn hd16)
  have fr' := frM.of (shpM_w hn) hf'
  have mk' := make_law fr'
  have hxl : (d : Int) = xp.length := fr.x.l
  have hyl : (d : Int) = yp.length := fr.y.l
  have hxp : xp.length ≤ 16 := fr.x.l2
  have hyp : yp.length ≤ 16 := fr.y.l2
  have sh : Shp (makM (shpM n) d) (makM (⟨mr, mi, mo, ms, ⟨xk, (xv, xo, xr), xa, xp⟩, ⟨yk, (yv, yo, yr), ya, yp⟩, (pv, po, pr), (qv, qo, qr)⟩ : Mv) d) := Shp.make (by show (List.replicate n (0:Int)).length = xp.length; rw [List.length_replicate]; have := hdn hd16; omega) (by show (List.replicate n (0:Int)).length = yp.length; rw [List.length_replicate]; have := hdn hd16; omega)
  have cSh := circuit_Shape_y hn hmx hf' mk'.1.rok
  rw [sh.v, sh.p, sh.rows] at cSh
  clear sh mk' fr' hf' hmx hdn hd16 hn
  have wN_ := numsH_w hm
  have lN : (numsH (⟨mr, mi, mo, ms, ⟨xk, (xv, xo, xr), xa, xp⟩, ⟨yk, (yv, yo, yr), ya, yp⟩, (pv, po, pr), (qv, qo, qr)⟩ : Mv)).length = 10 := numsH_len _
  obtain ⟨GF, hGF⟩ : ∃ x, x = makM (⟨mr, mi, mo, ms, ⟨xk, (xv, xo, xr), xa, xp⟩, ⟨yk, (yv, yo, yr), ya, yp⟩, (pv, po, pr), (qv, qo, qr)⟩ : Mv) d := ⟨_, rfl⟩
  rw [← hGF] at cM mk ml cSh
  have cRk := obolref11_SameRank_c (mk.1.len (by omega))
  have wG := mk.1.wV
  have cSv := obolref13_Same_c wG wG (by omega)
  rw [show sameF GF.vals GF.vals = true by simp [sameF]] at cSv
  have hRok := mk.1.rok
  obtain ⟨N, hN⟩ : ∃ x, x = numsH (⟨mr, mi, mo, ms, ⟨xk, (xv, xo, xr), xa, xp⟩, ⟨yk, (yv, yo, yr), ya, yp⟩, (pv, po, pr), (qv, qo, qr)⟩ : Mv) := ⟨_, rfl⟩
  rw [← hN] at cRN wN_ lN
  replace hN : id (N = numsH (⟨mr, mi, mo, ms, ⟨xk, (xv, xo, xr), xa, xp⟩, ⟨yk, (yv, yo, yr), ya, yp⟩, (pv, po, pr), (qv, qo, qr)⟩ : Mv)) := hN
  replace hGF : id (GF = makM (⟨mr, mi, mo, ms, ⟨xk, (xv, xo, xr), xa, xp⟩, ⟨yk, (yv, yo, yr), ya, yp⟩, (pv, po, pr), (qv, qo, qr)⟩ : Mv) d) := hGF
  replace lN : id (N.length = 10) := lN
  replace hxl : id (d = (xp.length : Int)) := hxl
  replace hyl : id (d = (yp.length : Int)) := hyl
  clear hf fr mk ml wG
  replace cM : Fn Tryz.prog 7 [.agg [u mr, u mi, u mo, u ms, u xk, u xv, u xo, u xr, i xa, ul xp, u yk, u yv, u yo, u yr, i ya, ul yp, u pv, u po, u pr, u qv, u qo, u qr], i d] [] (Tells (.tup [.agg [i GF.v, i GF.p, slF rw_ GF.rows], .ref 1000 0 GF.vals.length 1, .val .nilIface]) [(1000, vlB GF.vals)]) := cM
  replace cF : Fn Tryz.prog 8 [.agg [u mr, u mi, u mo, u ms, u xk, u xv, u xo, u xr, i xa, ul xp, u yk, u yv, u yo, u yr, i ya, ul yp, u pv, u po, u pr, u qv, u qo, u qr], i d] [] (fun r _ => r = bo true) := cF
  replace cL : Fn Tryz.prog 6 [.agg [u mr, u mi, u mo, u ms, u xk, u xv, u xo, u xr, i xa, ul xp, u yk, u yv, u yo, u yr, i ya, ul yp, u pv, u po, u pr, u qv, u qo, u qr], i d] [] (fun r _ => r = bo (litH (⟨mr, mi, mo, ms, ⟨xk, (xv, xo, xr), xa, xp⟩, ⟨yk, (yv, yo, yr), ya, yp⟩, (pv, po, pr), (qv, qo, qr)⟩ : Mv) d)) := cL
  replace cRN : Fn Tryz.prog 10 [.agg [u mr, u mi, u mo, u ms, u xk, u xv, u xo, u xr, i xa, ul xp, u yk, u yv, u yo, u yr, i ya, ul yp, u pv, u po, u pr, u qv, u qo, u qr]] [] (fun r _ => r = ul N) := cRN
  replace cRk : Fn Tryz.prog 20 [.agg [i GF.v, i GF.p, slF rw_ GF.rows], .agg [i GF.v, i GF.p, slF rw_ GF.rows]] [] (fun r _ => r = bo true) := cRk
  generalize litH (⟨mr, mi, mo, ms, ⟨xk, (xv, xo, xr), xa, xp⟩, ⟨yk, (yv, yo, yr), ya, yp⟩, (pv, po, pr), (qv, qo, qr)⟩ : Mv) d = lt at *
  obtain ⟨w1, w2, w3, w4, ⟨x1, ⟨x2, x3, x4⟩, x5, x6, x7⟩, ⟨y1, ⟨y2, y3, y4⟩, y5, y6, y7⟩, ⟨p1, p2, p3⟩, ⟨q1, q2, q3⟩⟩ := hm
  simp only at w1 w2 w3 w4 x1 x2 x3 x4 x5 x6 x7 y1 y2 y3 y4 y5 y6 y7 p1 p2 p3 q1 q2 q3
  have hfl : id (AV.sl GF.vals.length (sub 0 (GF.vals.length * 1) (fm u1 GF.vals)) = ul GF.vals) := by show _ = _; rw [sub_all (by rw [fm_len u1_len]; exact Nat.le_refl _)]
  repeat refine AW.seq ?_
  refine AW.reg ?_
  iterate 2 refine AOL.s1 (h := ?_)
  refine AOL.nil ?_
  refine AW.kq [1, 2] (h := ?_)
  repeat refine AW.seq ?_
  refine AW.reg ?_
  refine AOL.callD rfl (obollaw18_up_c) (by kernel_rfl) rfl rfl (h := ?_)
  iterate 1 refine AOL.s1 (h := ?_)
  refine AOL.nil ?_
  refine AW.kq [1, 2, 5] (h := ?_)
  repeat refine AW.seq ?_
  refine AW.reg ?_
  iterate 2 refine AOL.s1 (h := ?_)
  refine AOL.callD rfl (cL) (by kernel_rfl) rfl rfl (h := ?_)
  iterate 1 refine AOL.s1 (h := ?_)
  refine AOL.nil ?_
  refine AW.kq [1, 2, 5, 6] (h := ?_)
  repeat refine AW.seq ?_
  refine AW.reg ?_
  iterate 2 refine AOL.s1 (h := ?_)
  refine AOL.nil ?_
  refine AW.kq [1, 2, 5, 33] (h := ?_)
  repeat refine AW.seq ?_
  refine AW.cond rfl (fun c_ => ?_) (fun c_ => ?_)
  · skip
    repeat refine AW.seq ?_
    refine AW.reg ?_
    iterate 2 refine AOL.s1 (h := ?_)
    refine AOL.nil ?_
    refine AW.kq [4] (h := ?_)
    repeat refine AW.seq ?_
    refine AW.ret ?_
    refine ⟨_, [], rfl, HOk.nil _, ?_⟩
    rfl
  refine AW.skip ?_
  repeat refine AW.seq ?_
  refine AW.reg ?_
  iterate 2 refine AOL.s1 (h := ?_)
  refine AOL.callO 5000 (cM) rfl (by kernel_rfl) rfl (by first | rfl | exact frees_fm (fun _ => rfl) _ | exact a64_free _ | exact by8_free _) (by intro l_ hl_; simp [labs, labss] at hl_ <;> exact hl_) (by decide) (by simp only [St.drop, mapT, mapH, kill, kills, del, St.put, ins, ren, rens, reduceIte, Nat.reduceLT, Nat.reduceEqDiff, Bool.false_eq_true]; exact rfl) ?_
  iterate 8 refine AOL.s1 (h := ?_)
  refine AOL.nil ?_
  refine AW.kq [1, 2, 5, 7, 8, 9] (h := ?_)
  refine AW.fz 5000 rfl (fun h => by cases h) (h := ?_)
  rw [show AV.sl GF.vals.length (sub 0 (GF.vals.length * 1) (fm u1 GF.vals)) = ul GF.vals from hfl]
  repeat refine AW.seq ?_
  refine AW.reg ?_
  iterate 2 refine AOL.s1 (h := ?_)
  refine AOL.callD rfl (cF) (by kernel_rfl) rfl rfl (h := ?_)
  iterate 1 refine AOL.s1 (h := ?_)
  refine AOL.nil ?_
  refine AW.kq [1, 2, 5, 7, 8, 9, 10] (h := ?_)
  repeat refine AW.seq ?_
  refine AW.reg ?_
  iterate 2 refine AOL.s1 (h := ?_)
  refine AOL.nil ?_
  refine AW.kq [1, 2, 5, 7, 8, 9, 46] (h := ?_)
  repeat refine AW.seq ?_
  refine AW.cond rfl (fun c_ => ?_) (fun c_ => ?_)
  · simp at c_
  refine AW.skip ?_
  repeat refine AW.seq ?_
  refine AW.reg ?_
  refine AOL.callNew (b := 1004) rfl (hst := by simp only [St.drops, St.drop, mapT, mapH, kill, kills, del, St.put, ins, reduceIte, Nat.reduceAdd, Nat.reduceLT, Nat.reduceEqDiff, Bool.false_eq_true]; exact rfl) ?_
  iterate 1 refine AOL.s1 (h := ?_)
  refine AOL.nil ?_
  refine AW.kq [1, 2, 5, 7, 8, 9, 11] (h := ?_)
  repeat refine AW.seq ?_
  refine AW.reg ?_
  iterate 1 refine AOL.s1 (h := ?_)
  refine AOL.ptrNil rfl (h := ?_)
  refine AOL.nil ?_
  refine AW.kq [1, 2, 5, 7, 8, 9, 11, 65] (h := ?_)
  repeat refine AW.seq ?_
  refine AW.cond rfl (fun c_ => ?_) (fun c_ => ?_)
  · cases c_
  refine AW.skip ?_
  repeat refine AW.seq ?_
  refine AW.reg ?_
  iterate 1 refine AOL.s1 (h := ?_)
  refine AOL.callD rfl (cRN) (by kernel_rfl) rfl rfl (h := ?_)
  iterate 1 refine AOL.s1 (h := ?_)
  refine AOL.nil ?_
  refine AW.kq [1, 2, 5, 7, 8, 9, 11, 12] (h := ?_)
  repeat refine AW.seq ?_
  refine AW.reg ?_
  iterate 1 refine AOL.s1 (h := ?_)
  refine AOL.nil ?_
  refine AW.kq [1, 2, 5, 7, 8, 9, 11, 12, 13] (h := ?_)
  repeat refine AW.seq ?_
  refine AW.block ?_
  repeat refine AW.seq ?_
  refine AW.loopK [1, 2, 5, 7, 8, 9, 11, 12, 13] (fun n' s => ∃ (W r : List Int), s = ⟨180, [(1, i d), (2, .ptr 1032 0), (5, bo true), (7, .ptr 1112 0), (8, ul GF.vals), (9, .val .nilIface), (11, .ptr 1004 0), (12, ul N), (13, i W.length)], [(1004, mkB (pubK W) 1005 1006), (1005, rwB (pubK W).rows), (1006, vlB (pubK W).vals), (1032, ⟨31, true, [u mr, u mi, u mo, u ms, u xk, u xv, u xo, u xr, i xa, ul xp, u yk, u yv, u yo, u yr, i ya, ul yp, u pv, u po, u pr, u qv, u qo, u qr]⟩), (1112, ⟨36, true, [i GF.v, i GF.p, slF rw_ GF.rows]⟩)]⟩ ∧ N.drop W.length = r ∧ W.length ≤ N.length ∧ n' = r.length ∧ id (W ++ r = N)) (N.length) ?_ ?_
  · exact ⟨[], N, rfl, rfl, Nat.zero_le _, rfl, rfl⟩
  rintro n' s ⟨W, r, rfl, hr, hkl, rfl, hW⟩
  repeat refine AW.seq ?_
  refine AW.reg ?_
  iterate 4 refine AOL.s1 (h := ?_)
  refine AOL.nil ?_
  refine AW.kq [1, 2, 5, 7, 8, 9, 11, 12, 13, 71] (h := ?_)
  repeat refine AW.seq ?_
  refine AW.cond rfl (fun c_ => ?_) (fun c_ => ?_)
  · obtain ⟨z, r, rfl⟩ := ends_cons hr hkl (by simpa using c_)
    obtain ⟨hlt, hr', hz⟩ := dconsq hr
    have lN' : N.length = 10 := lN
    have hw := incq hlt (by rw [lN']; decide)
    have k0 : (0:Int) ≤ W.length := by omega
    have k1 : (W.length:Int) < N.length := by omega
    have hd1 : (fm u1 N).drop (W.length * 1) = u z :: fm u1 r := fm_drop u1_len hr
    have hd' : (fm u1 N).drop W.length = u z :: fm u1 r := by simpa using hd1
    clear hd1 hr
    have wz : w64 z := wN_ z (List.mem_of_getElem? hz)
    have cq := gadget_Maker_Public_c (m := pubK W) (x := z) (Mok.mono (pubK_ok (by omega)) (by decide)) wz (by show 0 ≤ (W.length : Int) ∧ (W.length : Int) < 1000000; omega)
    rw [pubK_s, show pubR (pubK W) = [i ((W.length + 1 : Nat) : Int), .val .nilIface] by unfold pubR; rw [pubK_i, pubK_e]] at cq
    have eW : (W ++ [z]).length = W.length + 1 := by simp
    clear lN'
    refine AW.skip ?_
    repeat refine AW.seq ?_
    refine AW.block ?_
    repeat refine AW.seq ?_
    refine AW.reg ?_
    iterate 5 refine AOL.s1 (h := ?_)
    refine AOL.callM (l := 1004) (b := 1004) (cq) rfl (by kernel_rfl) rfl rfl rfl rfl rfl (hst := by simp only [St.drops, St.drop, mapT, mapH, kill, kills, del, St.put, ins, reduceIte, Nat.reduceAdd, Nat.reduceLT, Nat.reduceEqDiff, Bool.false_eq_true]; exact rfl) ?_
    refine AOL.nil ?_
    repeat refine AW.seq ?_
    refine AW.reg ?_
    iterate 3 refine AOL.s1 (h := ?_)
    refine AOL.nil ?_
    refine ⟨r.length, by simp, W ++ [z], r, ?_, by rw [eW]; exact hr', by rw [eW]; exact hlt, rfl, by show W ++ [z] ++ r = N; rw [List.append_assoc]; exact hW⟩
    rw [eW]
    rfl
  · obtain rfl := ends_nil hr (by simpa using c_)
    rw [List.append_nil] at hW
    obtain rfl : N = W := hW.symm
    clear hr hkl c_ cRN
    have o0_ : Mok 900000 (pubK N) := pubK_ok (Nat.le_of_eq lN)
    have i_G1 := obollaw18_input_c (m := (pubK N)) (k := xk) (v := xv) (o := xo) (rh := xr) (a := xa) (p := xp) (ro := 1) (si := 4) (en := 5) (an := 9) (Mok.mono o0_ (by decide)) x1 x2 x3 x4 ⟨ha.1, x5⟩ x6 hxp
    rw [← show d = _ from hxl] at i_G1
    obtain ⟨G1, h_G1⟩ : ∃ x, x = inpM (pubK N) xk xv xo xr xa xp d 1 4 5 9 := ⟨_, rfl⟩
    obtain ⟨V1, h_V1⟩ : ∃ x : Int, x = ((freshM (pubK N) xk).vals.length : Int) := ⟨_, rfl⟩
    have c_G1 := i_G1
    rw [← h_G1, ← h_V1] at c_G1
    have o_G1 : Mok 899000 G1 := by rw [h_G1]; exact inpM_ok (Mok.mono o0_ (by decide)) _ _ _ _ _ hxp _ _ _ _ _
    replace h_G1 : id (G1 = inpM (pubK N) xk xv xo xr xa xp d 1 4 5 9) := h_G1
    replace h_V1 : id (V1 = ((freshM (pubK N) xk).vals.length : Int)) := h_V1
    have i_G2 := obollaw18_input_c (m := G1) (k := yk) (v := yv) (o := yo) (rh := yr) (a := ya) (p := yp) (ro := 1) (si := 4) (en := 6) (an := 10) (Mok.mono o_G1 (by decide)) y1 y2 y3 y4 ⟨ha.2, y5⟩ y6 hyp
    rw [← show d = _ from hyl] at i_G2
    obtain ⟨G2, h_G2⟩ : ∃ x, x = inpM G1 yk yv yo yr ya yp d 1 4 6 10 := ⟨_, rfl⟩
    obtain ⟨V2, h_V2⟩ : ∃ x : Int, x = ((freshM G1 yk).vals.length : Int) := ⟨_, rfl⟩
    have c_G2 := i_G2
    rw [← h_G2, ← h_V2] at c_G2
    have o_G2 : Mok 898000 G2 := by rw [h_G2]; exact inpM_ok (Mok.mono o_G1 (by decide)) _ _ _ _ _ hyp _ _ _ _ _
    replace h_G2 : id (G2 = inpM G1 yk yv yo yr ya yp d 1 4 6 10) := h_G2
    replace h_V2 : id (V2 = ((freshM G1 yk).vals.length : Int)) := h_V2
    obtain ⟨a1, h_a1⟩ : ∃ x, x = freshM G2 pv := ⟨_, rfl⟩
    obtain ⟨av1, h_av1⟩ : ∃ x : Int, x = (G2.vals.length : Int) := ⟨_, rfl⟩
    have c_a1 := gadget_Maker_Private_c (m := G2) (x := pv) (Mok.mono o_G2 (by decide)) p1
    rw [← h_a1, ← h_av1] at c_a1
    have o_a1 : Mok 897999 a1 := by rw [h_a1]; exact Mok.fresh (Mok.mono o_G2 (by decide)) _
    replace h_a1 : id (a1 = freshM G2 pv) := h_a1
    replace h_av1 : id (av1 = (G2.vals.length : Int)) := h_av1
    obtain ⟨a2, h_a2⟩ : ∃ x, x = freshM a1 po := ⟨_, rfl⟩
    obtain ⟨av2, h_av2⟩ : ∃ x : Int, x = (a1.vals.length : Int) := ⟨_, rfl⟩
    have c_a2 := gadget_Maker_Private_c (m := a1) (x := po) (Mok.mono o_a1 (by decide)) p2
    rw [← h_a2, ← h_av2] at c_a2
    have o_a2 : Mok 897998 a2 := by rw [h_a2]; exact Mok.fresh (Mok.mono o_a1 (by decide)) _
    replace h_a2 : id (a2 = freshM a1 po) := h_a2
    replace h_av2 : id (av2 = (a1.vals.length : Int)) := h_av2
    obtain ⟨a3, h_a3⟩ : ∃ x, x = freshM a2 pr := ⟨_, rfl⟩
    obtain ⟨av3, h_av3⟩ : ∃ x : Int, x = (a2.vals.length : Int) := ⟨_, rfl⟩
    have c_a3 := gadget_Maker_Private_c (m := a2) (x := pr) (Mok.mono o_a2 (by decide)) p3
    rw [← h_a3, ← h_av3] at c_a3
    have o_a3 : Mok 897997 a3 := by rw [h_a3]; exact Mok.fresh (Mok.mono o_a2 (by decide)) _
    replace h_a3 : id (a3 = freshM a2 pr) := h_a3
    replace h_av3 : id (av3 = (a2.vals.length : Int)) := h_av3
    obtain ⟨a4, h_a4⟩ : ∃ x, x = bitM a3 av1 32 := ⟨_, rfl⟩
    have c_a4 := gadget_Maker_Bits_c (m := a3) (a := av1) (n := 32) (Mok.mono o_a3 (by decide))
    rw [← h_a4] at c_a4
    have o_a4 : Mok 897800 a4 := by rw [h_a4]; exact bitM_ok (Mok.mono o_a3 (by decide)) _ _
    replace h_a4 : id (a4 = bitM a3 av1 32) := h_a4
    obtain ⟨a5, h_a5⟩ : ∃ x, x = (manE a4 [av1, av2, av3]).1 := ⟨_, rfl⟩
    obtain ⟨ah, h_ah⟩ : ∃ x : Int, x = (manE a4 [av1, av2, av3]).2 := ⟨_, rfl⟩
    have c_a5 := gadget_Maker_Many_c (m := a4) (V := [av1, av2, av3]) (Mok.mono o_a4 (by simp))
    rw [← h_a5, ← h_ah] at c_a5
    have o_a5 : Mok 897600 a5 := by rw [h_a5]; exact manE_ok (Mok.mono o_a4 (by simp))
    replace h_a5 : id (a5 = (manE a4 [av1, av2, av3]).1) := h_a5
    replace h_ah : id (ah = (manE a4 [av1, av2, av3]).2) := h_ah
    obtain ⟨a6, h_a6⟩ : ∃ x, x = sameM a5 ah 7 := ⟨_, rfl⟩
    have c_a6 := gadget_Maker_Same_c (m := a5) (a := ah) (b := 7) (Mok.mono o_a5 (by decide))
    rw [← h_a6] at c_a6
    have o_a6 : Mok 897500 a6 := by rw [h_a6]; exact Mok.row (Mok.mono o_a5 (by decide)) _ _ _
    replace h_a6 : id (a6 = sameM a5 ah 7) := h_a6
    obtain ⟨b1, h_b1⟩ : ∃ x, x = freshM a6 qv := ⟨_, rfl⟩
    obtain ⟨bv1, h_bv1⟩ : ∃ x : Int, x = (a6.vals.length : Int) := ⟨_, rfl⟩
    have c_b1 := gadget_Maker_Private_c (m := a6) (x := qv) (Mok.mono o_a6 (by decide)) q1
    rw [← h_b1, ← h_bv1] at c_b1
    have o_b1 : Mok 896999 b1 := by rw [h_b1]; exact Mok.fresh (Mok.mono o_a6 (by decide)) _
    replace h_b1 : id (b1 = freshM a6 qv) := h_b1
    replace h_bv1 : id (bv1 = (a6.vals.length : Int)) := h_bv1
    obtain ⟨b2, h_b2⟩ : ∃ x, x = freshM b1 qo := ⟨_, rfl⟩
    obtain ⟨bv2, h_bv2⟩ : ∃ x : Int, x = (b1.vals.length : Int) := ⟨_, rfl⟩
    have c_b2 := gadget_Maker_Private_c (m := b1) (x := qo) (Mok.mono o_b1 (by decide)) q2
    rw [← h_b2, ← h_bv2] at c_b2
    have o_b2 : Mok 896998 b2 := by rw [h_b2]; exact Mok.fresh (Mok.mono o_b1 (by decide)) _
    replace h_b2 : id (b2 = freshM b1 qo) := h_b2
    replace h_bv2 : id (bv2 = (b1.vals.length : Int)) := h_bv2
    obtain ⟨b3, h_b3⟩ : ∃ x, x = freshM b2 qr := ⟨_, rfl⟩
    obtain ⟨bv3, h_bv3⟩ : ∃ x : Int, x = (b2.vals.length : Int) := ⟨_, rfl⟩
    have c_b3 := gadget_Maker_Private_c (m := b2) (x := qr) (Mok.mono o_b2 (by decide)) q3
    rw [← h_b3, ← h_bv3] at c_b3
    have o_b3 : Mok 896997 b3 := by rw [h_b3]; exact Mok.fresh (Mok.mono o_b2 (by decide)) _
    replace h_b3 : id (b3 = freshM b2 qr) := h_b3
    replace h_bv3 : id (bv3 = (b2.vals.length : Int)) := h_bv3
    obtain ⟨b4, h_b4⟩ : ∃ x, x = bitM b3 bv1 32 := ⟨_, rfl⟩
    have c_b4 := gadget_Maker_Bits_c (m := b3) (a := bv1) (n := 32) (Mok.mono o_b3 (by decide))
    rw [← h_b4] at c_b4
    have o_b4 : Mok 896800 b4 := by rw [h_b4]; exact bitM_ok (Mok.mono o_b3 (by decide)) _ _
    replace h_b4 : id (b4 = bitM b3 bv1 32) := h_b4
    obtain ⟨b5, h_b5⟩ : ∃ x, x = (manE b4 [bv1, bv2, bv3]).1 := ⟨_, rfl⟩
    obtain ⟨bh, h_bh⟩ : ∃ x : Int, x = (manE b4 [bv1, bv2, bv3]).2 := ⟨_, rfl⟩
    have c_b5 := gadget_Maker_Many_c (m := b4) (V := [bv1, bv2, bv3]) (Mok.mono o_b4 (by simp))
    rw [← h_b5, ← h_bh] at c_b5
    have o_b5 : Mok 896600 b5 := by rw [h_b5]; exact manE_ok (Mok.mono o_b4 (by simp))
    replace h_b5 : id (b5 = (manE b4 [bv1, bv2, bv3]).1) := h_b5
    replace h_bh : id (bh = (manE b4 [bv1, bv2, bv3]).2) := h_bh
    obtain ⟨b6, h_b6⟩ : ∃ x, x = sameM b5 bh 8 := ⟨_, rfl⟩
    have c_b6 := gadget_Maker_Same_c (m := b5) (a := bh) (b := 8) (Mok.mono o_b5 (by decide))
    rw [← h_b6] at c_b6
    have o_b6 : Mok 896500 b6 := by rw [h_b6]; exact Mok.row (Mok.mono o_b5 (by decide)) _ _ _
    replace h_b6 : id (b6 = sameM b5 bh 8) := h_b6
    obtain ⟨G5, h_G5⟩ : ∃ x, x = linM b6 (sumS 0 1 [2, V1, V2]) := ⟨_, rfl⟩
    obtain ⟨V5, h_V5⟩ : ∃ x : Int, x = (b6.vals.length : Int) := ⟨_, rfl⟩
    have c_G5 := obollaw18_linear_c (m := b6) (k := 1) (V := [2, V1, V2]) (Mok.mono o_b6 (by decide)) w64_1 (by simp)
    rw [← h_G5, ← h_V5] at c_G5
    have o_G5 : Mok 890000 G5 := by rw [h_G5]; exact Mok.lin (Mok.mono o_b6 (by decide)) _
    replace h_G5 : id (G5 = linM b6 (sumS 0 1 [2, V1, V2])) := h_G5
    replace h_V5 : id (V5 = (b6.vals.length : Int)) := h_V5
    obtain ⟨G6, h_G6⟩ : ∃ x, x = linM G5 (sumS 0 1 [3, av1, bv1]) := ⟨_, rfl⟩
    obtain ⟨V6, h_V6⟩ : ∃ x : Int, x = (G5.vals.length : Int) := ⟨_, rfl⟩
    have c_G6 := obollaw18_linear_c (m := G5) (k := 1) (V := [3, av1, bv1]) (Mok.mono o_G5 (by decide)) w64_1 (by simp)
    rw [← h_G6, ← h_V6] at c_G6
    have o_G6 : Mok 880000 G6 := by rw [h_G6]; exact Mok.lin (Mok.mono o_G5 (by decide)) _
    replace h_G6 : id (G6 = linM G5 (sumS 0 1 [3, av1, bv1])) := h_G6
    replace h_V6 : id (V6 = (G5.vals.length : Int)) := h_V6
    obtain ⟨QF, h_QF⟩ : ∃ x, x = sameM G6 V5 V6 := ⟨_, rfl⟩
    have c_QF := gadget_Maker_Same_c (m := G6) (a := V5) (b := V6) (Mok.mono o_G6 (by decide))
    rw [← h_QF] at c_QF
    have o_QF : Mok 870000 QF := by rw [h_QF]; exact Mok.row (Mok.mono o_G6 (by decide)) _ _ _
    replace h_QF : id (QF = sameM G6 V5 V6) := h_QF
    have eF : id (QF = GF) := by
      simp only [id] at *
      clear c_G1 c_G2 hxl hyl
      subst hN h_V1 h_G1 h_V2 h_G2 h_av1 h_a1 h_av2 h_a2 h_av3 h_a3 h_a4 h_ah h_a5 h_a6 h_bv1 h_b1 h_bv2 h_b2 h_bv3 h_b3 h_b4 h_bh h_b5 h_b6 h_V5 h_G5 h_V6 h_G6 h_QF
      rw [hGF]
      rfl
    obtain rfl : GF = QF := eF.symm
    repeat refine AW.seq ?_
    refine AW.exit ?_
    repeat (first | refine Kseq.ex ?_ | refine Kloop.ex ?_ | refine Kblock.miss (by decide) ?_)
    refine Kblock.hit ?_
    refine AW.kq [1, 2, 5, 7, 8, 9, 11] (h := ?_)
    repeat refine AW.seq ?_
    refine AW.reg ?_
    iterate 4 refine AOL.s1 (h := ?_)
    refine AOL.callM (l := 1004) (b := 1004) (c_G1) rfl (by kernel_rfl) rfl rfl rfl rfl rfl (hst := by simp only [St.drops, St.drop, mapT, mapH, kill, kills, del, St.put, ins, reduceIte, Nat.reduceAdd, Nat.reduceLT, Nat.reduceEqDiff, Bool.false_eq_true]; exact rfl) ?_
    iterate 1 refine AOL.s1 (h := ?_)
    refine AOL.nil ?_
    refine AW.kq [1, 2, 5, 7, 8, 9, 11, 14] (h := ?_)
    repeat refine AW.seq ?_
    refine AW.reg ?_
    iterate 4 refine AOL.s1 (h := ?_)
    refine AOL.callM (l := 1004) (b := 1004) (c_G2) rfl (by kernel_rfl) rfl rfl rfl rfl rfl (hst := by simp only [St.drops, St.drop, mapT, mapH, kill, kills, del, St.put, ins, reduceIte, Nat.reduceAdd, Nat.reduceLT, Nat.reduceEqDiff, Bool.false_eq_true]; exact rfl) ?_
    iterate 1 refine AOL.s1 (h := ?_)
    refine AOL.nil ?_
    refine AW.kq [1, 2, 5, 7, 8, 9, 11, 14, 15] (h := ?_)
    repeat refine AW.seq ?_
    refine AW.reg ?_
    iterate 2 refine AOL.s1 (h := ?_)
    refine AOL.nil ?_
    refine AW.kq [1, 2, 5, 7, 8, 9, 11, 14, 15, 16] (h := ?_)
    repeat refine AW.seq ?_
    refine AW.reg ?_
    iterate 1 refine AOL.s1 (h := ?_)
    refine AOL.nil ?_
    refine AW.kq [1, 2, 5, 7, 8, 9, 11, 14, 15, 16, 17] (h := ?_)
    repeat refine AW.seq ?_
    refine AW.block ?_
    repeat refine AW.seq ?_
    have b_70 : IntKind.i64.wrap (7 + 0) = 7 := by decide
    have b_71 : IntKind.i64.wrap (7 + 1) = 8 := by decide
    refine AW.rounds ?_
    refine AWin.next [1, 2, 5, 7, 8, 9, 11, 14, 15, 16, 17] (h := ?_)
    repeat refine AW.seq ?_
    refine AW.reg ?_
    iterate 2 refine AOL.s1 (h := ?_)
    refine AOL.nil ?_
    refine AW.kq [1, 2, 5, 7, 8, 9, 11, 14, 15, 16, 17, 92] (h := ?_)
    repeat refine AW.seq ?_
    refine AW.cond rfl (fun c_ => ?_) (fun c_ => ?_)
    rotate_left
    · cases c_
    refine AW.skip ?_
    repeat refine AW.seq ?_
    refine AW.block ?_
    repeat refine AW.seq ?_
    refine AW.reg ?_
    iterate 6 refine AOL.s1 (h := ?_)
    refine AOL.callM (l := 1004) (b := 1004) (c_a1) rfl (by kernel_rfl) rfl rfl rfl rfl rfl (hst := by simp only [St.drops, St.drop, mapT, mapH, kill, kills, del, St.put, ins, reduceIte, Nat.reduceAdd, Nat.reduceLT, Nat.reduceEqDiff, Bool.false_eq_true]; exact rfl) ?_
    iterate 1 refine AOL.s1 (h := ?_)
    refine AOL.nil ?_
    refine AW.kq [1, 2, 5, 7, 8, 9, 11, 14, 15, 16, 17, 18] (h := ?_)
    repeat refine AW.seq ?_
    refine AW.reg ?_
    iterate 6 refine AOL.s1 (h := ?_)
    refine AOL.callM (l := 1004) (b := 1004) (c_a2) rfl (by kernel_rfl) rfl rfl rfl rfl rfl (hst := by simp only [St.drops, St.drop, mapT, mapH, kill, kills, del, St.put, ins, reduceIte, Nat.reduceAdd, Nat.reduceLT, Nat.reduceEqDiff, Bool.false_eq_true]; exact rfl) ?_
    iterate 1 refine AOL.s1 (h := ?_)
    refine AOL.nil ?_
    refine AW.kq [1, 2, 5, 7, 8, 9, 11, 14, 15, 16, 17, 18, 19] (h := ?_)
    repeat refine AW.seq ?_
    refine AW.reg ?_
    iterate 6 refine AOL.s1 (h := ?_)
    refine AOL.callM (l := 1004) (b := 1004) (c_a3) rfl (by kernel_rfl) rfl rfl rfl rfl rfl (hst := by simp only [St.drops, St.drop, mapT, mapH, kill, kills, del, St.put, ins, reduceIte, Nat.reduceAdd, Nat.reduceLT, Nat.reduceEqDiff, Bool.false_eq_true]; exact rfl) ?_
    iterate 1 refine AOL.s1 (h := ?_)
    refine AOL.nil ?_
    refine AW.kq [1, 2, 5, 7, 8, 9, 11, 14, 15, 16, 17, 18, 19, 20] (h := ?_)
    repeat refine AW.seq ?_
    refine AW.reg ?_
    iterate 2 refine AOL.s1 (h := ?_)
    refine AOL.callM (l := 1004) (b := 1004) (c_a4) rfl (by kernel_rfl) rfl rfl rfl rfl rfl (hst := by simp only [St.drops, St.drop, mapT, mapH, kill, kills, del, St.put, ins, reduceIte, Nat.reduceAdd, Nat.reduceLT, Nat.reduceEqDiff, Bool.false_eq_true]; exact rfl) ?_
    refine AOL.nil ?_
    refine AW.kq [1, 2, 5, 7, 8, 9, 11, 14, 15, 16, 17, 18, 19, 20] (h := ?_)
    repeat refine AW.seq ?_
    refine AW.reg ?_
    iterate 5 refine AOL.s1 (h := ?_)
    refine AOL.fz 2968 rfl (fun h => by cases h) (h := ?_)
    refine AOL.callM (l := 1004) (b := 1004) (c_a5) rfl (by kernel_rfl) rfl rfl rfl rfl rfl (hst := by simp only [St.drops, St.drop, mapT, mapH, kill, kills, del, St.put, ins, reduceIte, Nat.reduceAdd, Nat.reduceLT, Nat.reduceEqDiff, Bool.false_eq_true]; exact rfl) ?_
    iterate 1 refine AOL.s1 (h := ?_)
    refine AOL.nil ?_
    refine AW.kq [1, 2, 5, 7, 8, 9, 11, 14, 15, 16, 17, 18, 21] (h := ?_)
    repeat refine AW.seq ?_
    refine AW.reg ?_
    iterate 4 refine AOL.s1 (h := ?_)
    refine AOL.callM (l := 1004) (b := 1004) (c_a6) rfl (by kernel_rfl) rfl rfl rfl rfl rfl (hst := by simp only [St.drops, St.drop, mapT, mapH, kill, kills, del, St.put, ins, reduceIte, Nat.reduceAdd, Nat.reduceLT, Nat.reduceEqDiff, Bool.false_eq_true]; exact rfl) ?_
    refine AOL.nil ?_
    refine AW.kq [1, 2, 5, 7, 8, 9, 11, 14, 15, 16, 17, 18] (h := ?_)
    repeat refine AW.seq ?_
    refine AW.reg ?_
    iterate 5 refine AOL.s1 (h := ?_)
    refine AOL.nil ?_
    repeat refine AW.seq ?_
    refine AW.let 3112 (h := ?_)
    refine AW.reg ?_
    iterate 3 refine AOL.s1 (h := ?_)
    refine AOL.nil ?_
    refine AWin.next [1, 2, 5, 7, 8, 9, 11, 14, 15, 16, 17] (h := ?_)
    repeat refine AW.seq ?_
    refine AW.reg ?_
    iterate 2 refine AOL.s1 (h := ?_)
    refine AOL.nil ?_
    refine AW.kq [1, 2, 5, 7, 8, 9, 11, 14, 15, 16, 17, 92] (h := ?_)
    repeat refine AW.seq ?_
    refine AW.cond rfl (fun c_ => ?_) (fun c_ => ?_)
    rotate_left
    · cases c_
    refine AW.skip ?_
    repeat refine AW.seq ?_
    refine AW.block ?_
    repeat refine AW.seq ?_
    refine AW.reg ?_
    iterate 6 refine AOL.s1 (h := ?_)
    refine AOL.callM (l := 1004) (b := 1004) (c_b1) rfl (by kernel_rfl) rfl rfl rfl rfl rfl (hst := by simp only [St.drops, St.drop, mapT, mapH, kill, kills, del, St.put, ins, reduceIte, Nat.reduceAdd, Nat.reduceLT, Nat.reduceEqDiff, Bool.false_eq_true]; exact rfl) ?_
    iterate 1 refine AOL.s1 (h := ?_)
    refine AOL.nil ?_
    refine AW.kq [1, 2, 5, 7, 8, 9, 11, 14, 15, 16, 17, 18] (h := ?_)
    repeat refine AW.seq ?_
    refine AW.reg ?_
    iterate 6 refine AOL.s1 (h := ?_)
    refine AOL.callM (l := 1004) (b := 1004) (c_b2) rfl (by kernel_rfl) rfl rfl rfl rfl rfl (hst := by simp only [St.drops, St.drop, mapT, mapH, kill, kills, del, St.put, ins, reduceIte, Nat.reduceAdd, Nat.reduceLT, Nat.reduceEqDiff, Bool.false_eq_true]; exact rfl) ?_
    iterate 1 refine AOL.s1 (h := ?_)
    refine AOL.nil ?_
    refine AW.kq [1, 2, 5, 7, 8, 9, 11, 14, 15, 16, 17, 18, 19] (h := ?_)
    repeat refine AW.seq ?_
    refine AW.reg ?_
    iterate 6 refine AOL.s1 (h := ?_)
    refine AOL.callM (l := 1004) (b := 1004) (c_b3) rfl (by kernel_rfl) rfl rfl rfl rfl rfl (hst := by simp only [St.drops, St.drop, mapT, mapH, kill, kills, del, St.put, ins, reduceIte, Nat.reduceAdd, Nat.reduceLT, Nat.reduceEqDiff, Bool.false_eq_true]; exact rfl) ?_
    iterate 1 refine AOL.s1 (h := ?_)
    refine AOL.nil ?_
    refine AW.kq [1, 2, 5, 7, 8, 9, 11, 14, 15, 16, 17, 18, 19, 20] (h := ?_)
    repeat refine AW.seq ?_
    refine AW.reg ?_
    iterate 2 refine AOL.s1 (h := ?_)
    refine AOL.callM (l := 1004) (b := 1004) (c_b4) rfl (by kernel_rfl) rfl rfl rfl rfl rfl (hst := by simp only [St.drops, St.drop, mapT, mapH, kill, kills, del, St.put, ins, reduceIte, Nat.reduceAdd, Nat.reduceLT, Nat.reduceEqDiff, Bool.false_eq_true]; exact rfl) ?_
    refine AOL.nil ?_
    refine AW.kq [1, 2, 5, 7, 8, 9, 11, 14, 15, 16, 17, 18, 19, 20] (h := ?_)
    repeat refine AW.seq ?_
    refine AW.reg ?_
    iterate 5 refine AOL.s1 (h := ?_)
    refine AOL.fz 2968 rfl (fun h => by cases h) (h := ?_)
    refine AOL.callM (l := 1004) (b := 1004) (c_b5) rfl (by kernel_rfl) rfl rfl rfl rfl rfl (hst := by simp only [St.drops, St.drop, mapT, mapH, kill, kills, del, St.put, ins, reduceIte, Nat.reduceAdd, Nat.reduceLT, Nat.reduceEqDiff, Bool.false_eq_true]; exact rfl) ?_
    iterate 1 refine AOL.s1 (h := ?_)
    refine AOL.nil ?_
    refine AW.kq [1, 2, 5, 7, 8, 9, 11, 14, 15, 16, 17, 18, 21] (h := ?_)
    repeat refine AW.seq ?_
    refine AW.reg ?_
    iterate 4 refine AOL.s1 (h := ?_)
    refine AOL.callM (l := 1004) (b := 1004) (c_b6) rfl (by kernel_rfl) rfl rfl rfl rfl rfl (hst := by simp only [St.drops, St.drop, mapT, mapH, kill, kills, del, St.put, ins, reduceIte, Nat.reduceAdd, Nat.reduceLT, Nat.reduceEqDiff, Bool.false_eq_true]; exact rfl) ?_
    refine AOL.nil ?_
    refine AW.kq [1, 2, 5, 7, 8, 9, 11, 14, 15, 16, 17, 18] (h := ?_)
    repeat refine AW.seq ?_
    refine AW.reg ?_
    iterate 5 refine AOL.s1 (h := ?_)
    refine AOL.nil ?_
    repeat refine AW.seq ?_
    refine AW.let 3112 (h := ?_)
    refine AW.reg ?_
    iterate 3 refine AOL.s1 (h := ?_)
    refine AOL.nil ?_
    refine AWin.next [1, 2, 5, 7, 8, 9, 11, 14, 15, 16, 17] (h := ?_)
    repeat refine AW.seq ?_
    refine AW.reg ?_
    iterate 2 refine AOL.s1 (h := ?_)
    refine AOL.nil ?_
    refine AW.kq [1, 2, 5, 7, 8, 9, 11, 14, 15, 16, 17, 92] (h := ?_)
    repeat refine AW.seq ?_
    refine AW.cond rfl (fun c_ => ?_) (fun c_ => ?_)
    · cases c_
    repeat refine AW.seq ?_
    refine AW.exit ?_
    repeat (first | refine Kseq.ex ?_ | refine Kloop.ex ?_ | refine Kblock.miss (by decide) ?_)
    refine Kblock.hit ?_
    refine AW.kq [1, 5, 7, 8, 9, 11, 14, 15, 16] (h := ?_)
    repeat refine AW.seq ?_
    refine AW.reg ?_
    iterate 4 refine AOL.s1 (h := ?_)
    refine AOL.fz 3192 rfl (fun h => by cases h) (h := ?_)
    refine AOL.callM (l := 1004) (b := 1004) (c_G5) rfl (by kernel_rfl) rfl rfl rfl rfl rfl (hst := by simp only [St.drops, St.drop, mapT, mapH, kill, kills, del, St.put, ins, reduceIte, Nat.reduceAdd, Nat.reduceLT, Nat.reduceEqDiff, Bool.false_eq_true]; exact rfl) ?_
    iterate 1 refine AOL.s1 (h := ?_)
    refine AOL.nil ?_
    refine AW.kq [1, 5, 7, 8, 9, 11, 16, 22] (h := ?_)
    repeat refine AW.seq ?_
    refine AW.reg ?_
    iterate 2 refine AOL.s1 (h := ?_)
    refine AOL.fz 2440 rfl (fun h => by cases h) (h := ?_)
    refine AOL.callM (l := 1004) (b := 1004) (c_G6) rfl (by kernel_rfl) rfl rfl rfl rfl rfl (hst := by simp only [St.drops, St.drop, mapT, mapH, kill, kills, del, St.put, ins, reduceIte, Nat.reduceAdd, Nat.reduceLT, Nat.reduceEqDiff, Bool.false_eq_true]; exact rfl) ?_
    iterate 1 refine AOL.s1 (h := ?_)
    refine AOL.nil ?_
    refine AW.kq [1, 5, 7, 8, 9, 11, 22, 23] (h := ?_)
    repeat refine AW.seq ?_
    refine AW.reg ?_
    iterate 3 refine AOL.s1 (h := ?_)
    refine AOL.callM (l := 1004) (b := 1004) (c_QF) rfl (by kernel_rfl) rfl rfl rfl rfl rfl (hst := by simp only [St.drops, St.drop, mapT, mapH, kill, kills, del, St.put, ins, reduceIte, Nat.reduceAdd, Nat.reduceLT, Nat.reduceEqDiff, Bool.false_eq_true]; exact rfl) ?_
    refine AOL.nil ?_
    refine AW.kq [1, 5, 7, 8, 9, 11] (h := ?_)
    repeat refine AW.seq ?_
    refine AW.reg ?_
    iterate 1 refine AOL.s1 (h := ?_)
    refine AOL.callDone (l := 1004) (b := 1004) (⟨Mok.mono o_QF (by decide), hRok⟩) rfl rfl rfl rfl (hst := by simp only [St.drops, St.drop, mapT, mapH, kill, kills, del, St.put, ins, reduceIte, Nat.reduceAdd, Nat.reduceLT, Nat.reduceEqDiff, Bool.false_eq_true]; exact rfl) ?_
    iterate 6 refine AOL.s1 (h := ?_)
    refine AOL.nil ?_
    refine AW.kq [1, 5, 7, 8, 9, 24, 25] (h := ?_)
    refine AW.fz 1007 rfl (fun h => by cases h) (h := ?_)
    rw [show AV.sl GF.vals.length (sub 0 (GF.vals.length * 1) (fm u1 GF.vals)) = ul GF.vals from hfl]
    repeat refine AW.seq ?_
    refine AW.reg ?_
    iterate 1 refine AOL.s1 (h := ?_)
    refine AOL.callD rfl (cSh) (by kernel_rfl) rfl rfl (h := ?_)
    iterate 6 refine AOL.s1 (h := ?_)
    refine AOL.nil ?_
    refine AW.kq [5, 7, 8, 9, 24, 25, 26, 27] (h := ?_)
    repeat refine AW.seq ?_
    refine AW.reg ?_
    iterate 12 refine AOL.s1 (h := ?_)
    refine AOL.callD rfl (cRk) (by kernel_rfl) rfl rfl (h := ?_)
    iterate 4 refine AOL.s1 (h := ?_)
    refine AOL.callD rfl (cSv) (by kernel_rfl) rfl rfl (h := ?_)
    iterate 4 refine AOL.s1 (h := ?_)
    refine AOL.callD rfl (cRk) (by kernel_rfl) rfl rfl (h := ?_)
    iterate 2 refine AOL.s1 (h := ?_)
    refine AOL.nil ?_
    refine AW.kq [4] (h := ?_)
    repeat refine AW.seq ?_
    refine AW.ret ?_
    refine ⟨_, [], rfl, HOk.nil _, ?_⟩
    rfl
theorem obollaw18_CircuitMakes_c {m : Mv} {d : Int} (hm : wM m) (hx : -9223372036854775808 ≤ m.x.a ∧ -9223372036854775808 ≤ m.y.a) : Fn Tryz.prog 3 [.agg (mvc m), i d] [] (fun r _ => r = bo true) := by
  obtain ⟨mr, mi, mo, ms, ⟨xk, ⟨xv, xo, xr⟩, xa, xp⟩, ⟨yk, ⟨yv, yo, yr⟩, ya, yp⟩, ⟨pv, po, pr⟩, ⟨qv, qo, qr⟩⟩ := m
  cases hf : fitsH (⟨mr, mi, mo, ms, ⟨xk, (xv, xo, xr), xa, xp⟩, ⟨yk, (yv, yo, yr), ya, yp⟩, (pv, po, pr), (qv, qo, qr)⟩ : Mv) d with
  | false => exact CircuitMakes_n hm hf
  | true => exact CircuitMakes_y hm hf

end Go.Proofs.YtngphcdhdllnnaaGreat.E.M
end
section
/- What is handed in: numbers, a move. -/
set_option linter.unusedVariables false
set_option linter.unusedSimpArgs false
set_option maxRecDepth 10000
open Go Go.Proofs.YtngphcdhdllnnaaGreat.E Go.Proofs
namespace Go.Proofs.YtngphcdhdllnnaaGreat.E.M
theorem wf_w64q {a : Int} (h : (Lit.int .u64 a).wf = true) : w64 a := by
  simp [Lit.wf, IntKind.min, IntKind.max, IntKind.bits, IntKind.signed] at h
  exact ⟨h.1, by omega⟩
abbrev i64r (a : Int) : Prop := -9223372036854775808 ≤ a ∧ a < 9223372036854775808
theorem wf_i64q {a : Int} (h : (Lit.int .i64 a).wf = true) : i64r a := by
  simp [Lit.wf, IntKind.min, IntKind.max, IntKind.bits, IntKind.signed] at h
  exact ⟨h.1, by omega⟩
theorem open_intq {c : AV} (h : PV Tryz.prog 6 3 c) : ∃ n, c = i n ∧ i64r n := by
  obtain ⟨avs, ⟨n, hn, rfl⟩, hc⟩ := h
  have hc : [AV.val (.int .i64 n)] = [c] := hc
  simp only [List.cons.injEq, and_true] at hc
  exact ⟨n, hc.symm, wf_i64q hn⟩
theorem ta_u64s {k : Nat} : ∀ {es : List (List AV)}, (∀ x ∈ es, TA Tryz.prog (k + 1) 22 x) → ∃ L : List Int, L.length = es.length ∧ fm u1 L = es.flatten ∧ wV L
  | [], _ => ⟨[], rfl, rfl, by intro v hv; cases hv⟩
  | e :: es, h => by
    obtain ⟨g, hg, rfl⟩ := h e List.mem_cons_self
    obtain ⟨L, h1, h2, h3⟩ := ta_u64s fun x hx => h x (List.mem_cons_of_mem _ hx)
    refine ⟨g :: L, by simp [h1], by rw [List.flatten_cons, ← h2]; rfl, ?_⟩
    intro g' hg'
    rcases List.mem_cons.1 hg' with rfl | hg'
    · exact wf_w64q hg
    · exact h3 _ hg'
theorem ta_note {k : Nat} {x : List AV} (h : TA Tryz.prog (k + 2) 24 x) : ∃ n : Int × Int × Int, x = ntc n ∧ wN n := by
  obtain ⟨_, _, rfl, ⟨v1, h1, rfl⟩, _, _, rfl, ⟨v2, h2, rfl⟩, _, _, rfl, ⟨v3, h3, rfl⟩, hb⟩ := h
  cases hb
  exact ⟨(v1, v2, v3), rfl, wf_w64q h1, wf_w64q h2, wf_w64q h3⟩
theorem ta_input {x : List AV} (h : TA Tryz.prog 4 27 x) : ∃ q : Ip, x = ipc q ∧ wI q ∧ -9223372036854775808 ≤ q.a := by
  obtain ⟨_, _, rfl, ⟨v1, h1, rfl⟩, _, _, rfl, h2, _, _, rfl, ⟨v3, h3, rfl⟩, _, _, rfl, ⟨es, hl, rfl, he⟩, hb⟩ := h
  cases hb
  obtain ⟨n, rfl, hn⟩ := ta_note (k := 1) h2
  obtain ⟨L, l1, l2, l3⟩ := ta_u64s he
  have ha := wf_i64q h3
  exact ⟨⟨v1, n, v3, L⟩, by show _ = [u v1, u n.1, u n.2.1, u n.2.2, i v3, AV.sl L.length (fm u1 L)]; rw [l1, l2]; rfl, ⟨wf_w64q h1, hn, ha.2, l3, by show L.length ≤ _; rw [l1]; exact hl⟩, ha.1⟩
theorem ta_inputs {x : List AV} (h : TA Tryz.prog 5 28 x) : ∃ p q : Ip, x = ipc p ++ ipc q ∧ wI p ∧ wI q ∧ -9223372036854775808 ≤ p.a ∧ -9223372036854775808 ≤ q.a := by
  obtain ⟨_, _, rfl, h1, _, _, rfl, h2, hb⟩ := h
  cases hb
  obtain ⟨p, rfl, p1, p2⟩ := ta_input h1
  obtain ⟨q, rfl, q1, q2⟩ := ta_input h2
  exact ⟨p, q, rfl, p1, q1, p2, q2⟩
theorem ta_notes {x : List AV} (h : TA Tryz.prog 5 29 x) : ∃ p q : Int × Int × Int, x = ntc p ++ ntc q ∧ wN p ∧ wN q := by
  obtain ⟨_, _, rfl, h1, _, _, rfl, h2, hb⟩ := h
  cases hb
  obtain ⟨p, rfl, p1⟩ := ta_note (k := 2) h1
  obtain ⟨q, rfl, q1⟩ := ta_note (k := 2) h2
  exact ⟨p, q, rfl, p1, q1⟩
theorem open_move {c : AV} (h : PV Tryz.prog 6 31 c) : ∃ m : Mv, c = .agg (mvc m) ∧ wM m ∧ (-9223372036854775808 ≤ m.x.a ∧ -9223372036854775808 ≤ m.y.a) := by
  obtain ⟨avs, ⟨_, _, rfl, ⟨v1, h1, rfl⟩, _, _, rfl, ⟨v2, h2, rfl⟩, _, _, rfl, ⟨v3, h3, rfl⟩, _, _, rfl, ⟨v4, h4, rfl⟩, _, _, rfl, h5, _, _, rfl, h6, hb⟩, hc⟩ := h
  cases hb
  obtain ⟨x, y, rfl, x1, y1, x2, y2⟩ := ta_inputs h5
  obtain ⟨p, q, rfl, p1, q1⟩ := ta_notes h6
  exact ⟨⟨v1, v2, v3, v4, x, y, p, q⟩, hc, ⟨wf_w64q h1, wf_w64q h2, wf_w64q h3, wf_w64q h4, x1, y1, p1, q1⟩, x2, y2⟩
end Go.Proofs.YtngphcdhdllnnaaGreat.E.M
end
