/- Texts joined: ZCCla, ZCClb, ZCOpc. -/
import Derived.Test.YtngphcdhdllnnaaZD12
import Derived.Test.YtngphcdhdllnnaaZD10
import Derived.Test.YtngphcdhdllnnaaProg
import Derived.KernelRfl
import Derived.Test.YtngphcdhdllnnaaZD9
section
/- obollaw18: the public numbers of a move, whether it is right, its system: the laws over E. -/
set_option linter.unusedVariables false
set_option linter.unusedSimpArgs false
set_option maxRecDepth 10000
open Go Go.Proofs.Ytngphcdhdllnnaa.E Go.Proofs
namespace Go.Proofs.Ytngphcdhdllnnaa.E.M
set_option maxHeartbeats 8000000 in
theorem obolref18_Numbers_c {m : Mv} (hm : wM m) (ha : 0 ≤ m.x.a ∧ 0 ≤ m.y.a) : Fn Try.prog 12 [.agg (mvc m)] [] (fun r h_ => r = ul (numsH m)) := by
  refine Fn.enter Try.func12 Try.ntmps12 rfl (h := ?_)
  have tf := tfm
  have ot_ : (false || true) = true := rfl
  have tfv := tfv
  have tfm := tfm
  have tfn := tfn
  have tfr := tfr
  have n0 : Int.toNat 0 = 0 := rfl
  have n1 : Int.toNat 1 = 1 := rfl
  have q0 : (0:Int) ≤ 0 := by decide
  have q1' : (0:Int) ≤ 1 := by decide
  have x02 : (0:Int) < ((2:Nat):Int) := by decide
  have x12 : (1:Int) < ((2:Nat):Int) := by decide
  have z02 : (0:Int) < 2 := by decide
  have z12 : (1:Int) < 2 := by decide
  have a1_ : IntKind.i64.wrap (0 + 1) = 1 := by decide
  have a2_ : IntKind.i64.wrap (1 + 1) = 2 := by decide
  have i02 : decide ((0:Int) < 2) = true := rfl
  have i12 : decide ((1:Int) < 2) = true := rfl
  have i22 : decide ((2:Int) < 2) = false := rfl
  obtain ⟨mr, mi, mo, ms, ⟨xk, ⟨xv, xo, xr⟩, xa, xp⟩, ⟨yk, ⟨yv, yo, yr⟩, ya, yp⟩, ⟨pv, po, pr⟩, ⟨qv, qo, qr⟩⟩ := m
  obtain ⟨w1, w2, w3, w4, ⟨x1, ⟨x2, x3, x4⟩, x5, x6, x7⟩, ⟨y1, ⟨y2, y3, y4⟩, y5, y6, y7⟩, ⟨p1, p2, p3⟩, ⟨q1, q2, q3⟩⟩ := hm
  simp only at w1 w2 w3 w4 x1 x2 x3 x4 x5 x6 x7 y1 y2 y3 y4 y5 y6 y7 p1 p2 p3 q1 q2 q3 ha
  have cX := obolref18_End_c (x := ⟨xk, (xv, xo, xr), xa, xp⟩) x1 x4 ⟨ha.1, x5⟩
  have cY := obolref18_End_c (x := ⟨yk, (yv, yo, yr), ya, yp⟩) y1 y4 ⟨ha.2, y5⟩
  have cP := obolref17_Mark_c (n := (pv, po, pr)) ⟨p1, p2, p3⟩
  have cQ := obolref17_Mark_c (n := (qv, qo, qr)) ⟨q1, q2, q3⟩
  have cTx := obolref10_Two_c (a := xk) (b := 1) x1 (by decide)
  have cTy := obolref10_Two_c (a := yk) (b := 1) y1 (by decide)
  have cSx := obolref10_Two_c (a := twoH xk 1) (b := ms) (twoH_l _ _).w w4
  have cSy := obolref10_Two_c (a := twoH yk 1) (b := ms) (twoH_l _ _).w w4
  have hN : numsH ⟨mr, mi, mo, ms, ⟨xk, (xv, xo, xr), xa, xp⟩, ⟨yk, (yv, yo, yr), ya, yp⟩, (pv, po, pr), (qv, qo, qr)⟩ = [mr, mi, mo, ms, endH ⟨xk, (xv, xo, xr), xa, xp⟩, endH ⟨yk, (yv, yo, yr), ya, yp⟩, mrkH (pv, po, pr), mrkH (qv, qo, qr), twoH (twoH xk 1) ms, twoH (twoH yk 1) ms] := rfl
  rw [hN]
  clear hN
  generalize endH ⟨xk, (xv, xo, xr), xa, xp⟩ = e1 at *
  generalize endH ⟨yk, (yv, yo, yr), ya, yp⟩ = e2 at *
  generalize mrkH (pv, po, pr) = m1 at *
  generalize mrkH (qv, qo, qr) = m2 at *
  generalize twoH (twoH xk 1) ms = s1 at *
  generalize twoH (twoH yk 1) ms = s2 at *
  generalize twoH xk 1 = t1 at *
  generalize twoH yk 1 = t2 at *
  repeat refine AW.seq ?_
  refine AW.reg ?_
  iterate 2 refine AOL.s1 (h := ?_)
  refine AOL.nil ?_
  refine AW.kq [1] (h := ?_)
  repeat refine AW.seq ?_
  refine AW.drw 24 [] (by kernel_rfl) (h := ?_)
  iterate 11 refine ADL.dm 1 (h := ?_)
  refine ADL.call rfl (cX) (by kernel_rfl) rfl rfl (h := ?_)
  iterate 3 refine ADL.dm 1 (h := ?_)
  refine ADL.call rfl (cY) (by kernel_rfl) rfl rfl (h := ?_)
  iterate 3 refine ADL.dm 1 (h := ?_)
  refine ADL.call rfl (cP) (by kernel_rfl) rfl rfl (h := ?_)
  iterate 3 refine ADL.dm 1 (h := ?_)
  refine ADL.call rfl (cQ) (by kernel_rfl) rfl rfl (h := ?_)
  refine ADL.done hmix rfl rfl (hT := ?_)
  iterate 2 refine AOL.s1 (h := ?_)
  refine AOL.nil ?_
  refine AW.kq [1, 3] (h := ?_)
  repeat refine AW.seq ?_
  refine AW.reg ?_
  iterate 1 refine AOL.s1 (h := ?_)
  refine AOL.nil ?_
  refine AW.kq [1, 3, 4] (h := ?_)
  repeat refine AW.seq ?_
  refine AW.block ?_
  repeat refine AW.seq ?_
  refine AW.rounds ?_
  refine AWin.next [1, 3, 4] (h := ?_)
  repeat refine AW.seq ?_
  refine AW.reg ?_
  iterate 2 refine AOL.s1 (h := ?_)
  refine AOL.nil ?_
  refine AW.kq [1, 3, 4, 31] (h := ?_)
  repeat refine AW.seq ?_
  refine AW.cond rfl (fun c_ => ?_) (fun c_ => ?_)
  rotate_left
  · cases c_
  refine AW.skip ?_
  repeat refine AW.seq ?_
  refine AW.block ?_
  repeat refine AW.seq ?_
  refine AW.drw 11 [1704] (by kernel_rfl) (h := ?_)
  iterate 6 refine ADL.dm 1 (h := ?_)
  refine ADL.call rfl (cTx) (by kernel_rfl) rfl rfl (h := ?_)
  iterate 2 refine ADL.dm 1 (h := ?_)
  refine ADL.call rfl (cSx) (by kernel_rfl) rfl rfl (h := ?_)
  iterate 1 refine ADL.dm 1 (h := ?_)
  refine ADL.done hmix rfl rfl (hT := ?_)
  iterate 2 refine AOL.s1 (h := ?_)
  refine AOL.nil ?_
  repeat refine AW.seq ?_
  refine AW.let 1704 (h := ?_)
  refine AW.reg ?_
  iterate 3 refine AOL.s1 (h := ?_)
  refine AOL.nil ?_
  refine AWin.next [1, 3, 4] (h := ?_)
  repeat refine AW.seq ?_
  refine AW.reg ?_
  iterate 2 refine AOL.s1 (h := ?_)
  refine AOL.nil ?_
  refine AW.kq [1, 3, 4, 31] (h := ?_)
  repeat refine AW.seq ?_
  refine AW.cond rfl (fun c_ => ?_) (fun c_ => ?_)
  rotate_left
  · cases c_
  refine AW.skip ?_
  repeat refine AW.seq ?_
  refine AW.block ?_
  repeat refine AW.seq ?_
  refine AW.drw 11 [1704] (by kernel_rfl) (h := ?_)
  iterate 6 refine ADL.dm 1 (h := ?_)
  refine ADL.call rfl (cTy) (by kernel_rfl) rfl rfl (h := ?_)
  iterate 2 refine ADL.dm 1 (h := ?_)
  refine ADL.call rfl (cSy) (by kernel_rfl) rfl rfl (h := ?_)
  iterate 1 refine ADL.dm 1 (h := ?_)
  refine ADL.done hmix rfl rfl (hT := ?_)
  iterate 2 refine AOL.s1 (h := ?_)
  refine AOL.nil ?_
  repeat refine AW.seq ?_
  refine AW.let 1704 (h := ?_)
  refine AW.reg ?_
  iterate 3 refine AOL.s1 (h := ?_)
  refine AOL.nil ?_
  refine AWin.next [1, 3, 4] (h := ?_)
  repeat refine AW.seq ?_
  refine AW.reg ?_
  iterate 2 refine AOL.s1 (h := ?_)
  refine AOL.nil ?_
  refine AW.kq [1, 3, 4, 31] (h := ?_)
  repeat refine AW.seq ?_
  refine AW.cond rfl (fun c_ => ?_) (fun c_ => ?_)
  · cases c_
  repeat refine AW.seq ?_
  refine AW.exit ?_
  repeat (first | refine Kseq.ex ?_ | refine Kloop.ex ?_ | refine Kblock.miss (by decide) ?_)
  refine Kblock.hit ?_
  refine AW.kq [3] (h := ?_)
  repeat refine AW.seq ?_
  refine AW.reg ?_
  iterate 2 refine AOL.s1 (h := ?_)
  refine AOL.nil ?_
  refine AW.kq [2] (h := ?_)
  refine AW.fz 1464 rfl (fun h => by cases h) (h := ?_)
  repeat refine AW.seq ?_
  refine AW.ret ?_
  refine ⟨_, [], rfl, HOk.nil _, ?_⟩
  rfl
set_option maxHeartbeats 8000000 in
theorem CircuitNumbers_n {m : Mv} {d : Int} (hm : wM m) (hx : -9223372036854775808 ≤ m.x.a ∧ -9223372036854775808 ≤ m.y.a) (hf : fitsH m d = false) : Fn Try.prog 3 [.agg (mvc m), i d] [] (fun r h_ => r = bo true) := by
  refine Fn.enter Try.func3 Try.ntmps3 rfl (h := ?_)
  have tf := tfm
  have ot_ : (false || true) = true := rfl
  have tfv := tfv
  have tfm := tfm
  have tfn := tfn
  have tfr := tfr
  have n0 : Int.toNat 0 = 0 := rfl
  have n1 : Int.toNat 1 = 1 := rfl
  have q0 : (0:Int) ≤ 0 := by decide
  have q1' : (0:Int) ≤ 1 := by decide
  have x02 : (0:Int) < ((2:Nat):Int) := by decide
  have x12 : (1:Int) < ((2:Nat):Int) := by decide
  have z02 : (0:Int) < 2 := by decide
  have z12 : (1:Int) < 2 := by decide
  have a1_ : IntKind.i64.wrap (0 + 1) = 1 := by decide
  have a2_ : IntKind.i64.wrap (1 + 1) = 2 := by decide
  have i02 : decide ((0:Int) < 2) = true := rfl
  have i12 : decide ((1:Int) < 2) = true := rfl
  have i22 : decide ((2:Int) < 2) = false := rfl
  have cF := obolref18_Fits_c (d := d) hm
  have cN := circuit_Numbers_c (d := d) hm
  rw [hf] at cF cN
  rw [if_neg (by decide)] at cN
  repeat refine AW.seq ?_
  refine AW.reg ?_
  iterate 2 refine AOL.s1 (h := ?_)
  refine AOL.nil ?_
  refine AW.kq [1, 2] (h := ?_)
  repeat refine AW.seq ?_
  refine AW.reg ?_
  refine AOL.callD rfl (obollaw18_up_c) (by kernel_rfl) rfl rfl (h := ?_)
  iterate 1 refine AOL.s1 (h := ?_)
  refine AOL.nil ?_
  refine AW.kq [1, 2, 5] (h := ?_)
  repeat refine AW.seq ?_
  refine AW.reg ?_
  iterate 2 refine AOL.s1 (h := ?_)
  refine AOL.callD rfl (cN) (by kernel_rfl) rfl rfl (h := ?_)
  iterate 5 refine AOL.s1 (h := ?_)
  refine AOL.nil ?_
  refine AW.kq [1, 2, 5, 6, 7] (h := ?_)
  repeat refine AW.seq ?_
  refine AW.reg ?_
  iterate 2 refine AOL.s1 (h := ?_)
  refine AOL.callD rfl (cF) (by kernel_rfl) rfl rfl (h := ?_)
  iterate 1 refine AOL.s1 (h := ?_)
  refine AOL.nil ?_
  refine AW.kq [2, 5, 6, 7, 8] (h := ?_)
  repeat refine AW.seq ?_
  refine AW.reg ?_
  iterate 2 refine AOL.s1 (h := ?_)
  refine AOL.nil ?_
  refine AW.kq [2, 5, 6, 7, 20] (h := ?_)
  repeat refine AW.seq ?_
  refine AW.cond rfl (fun c_ => ?_) (fun c_ => ?_)
  · skip
    repeat refine AW.seq ?_
    refine AW.reg ?_
    iterate 2 refine AOL.s1 (h := ?_)
    skip
    iterate 4 refine AOL.s1 (h := ?_)
    iterate 1 refine AOL.s1 (h := ?_)
    skip
    iterate 4 refine AOL.s1 (h := ?_)
    iterate 1 refine AOL.s1 (h := ?_)
    refine AOL.nil ?_
    refine AW.kq [4] (h := ?_)
    repeat refine AW.seq ?_
    refine AW.ret ?_
    refine ⟨_, [], rfl, HOk.nil _, ?_⟩
    rfl
  simp at c_
set_option maxHeartbeats 8000000 in
theorem CircuitNumbers_y {m : Mv} {d : Int} (hm : wM m) (hx : -9223372036854775808 ≤ m.x.a ∧ -9223372036854775808 ≤ m.y.a) (hf : fitsH m d = true) : Fn Try.prog 3 [.agg (mvc m), i d] [] (fun r h_ => r = bo true) := by
  refine Fn.enter Try.func3 Try.ntmps3 rfl (h := ?_)
  have tf := tfm
  have ot_ : (false || true) = true := rfl
  have tfv := tfv
  have tfm := tfm
  have tfn := tfn
  have tfr := tfr
  have n0 : Int.toNat 0 = 0 := rfl
  have n1 : Int.toNat 1 = 1 := rfl
  have q0 : (0:Int) ≤ 0 := by decide
  have q1' : (0:Int) ≤ 1 := by decide
  have x02 : (0:Int) < ((2:Nat):Int) := by decide
  have x12 : (1:Int) < ((2:Nat):Int) := by decide
  have z02 : (0:Int) < 2 := by decide
  have z12 : (1:Int) < 2 := by decide
  have a1_ : IntKind.i64.wrap (0 + 1) = 1 := by decide
  have a2_ : IntKind.i64.wrap (1 + 1) = 2 := by decide
  have i02 : decide ((0:Int) < 2) = true := rfl
  have i12 : decide ((1:Int) < 2) = true := rfl
  have i22 : decide ((2:Int) < 2) = false := rfl
  have cF := obolref18_Fits_c (d := d) hm
  have cN := circuit_Numbers_c (d := d) hm
  have ha : 0 ≤ m.x.a ∧ 0 ≤ m.y.a := ⟨(frM.of hm hf).x.a.1, (frM.of hm hf).y.a.1⟩
  have cR := obolref18_Numbers_c hm ha
  rw [hf] at cF cN
  rw [if_pos rfl] at cN
  have hN := numsH_w hm
  have lN : (numsH m).length < 1000000000 := by rw [numsH_len]; decide
  have cS := obolref13_Same_c hN hN lN
  rw [show sameF (numsH m) (numsH m) = true by simp [sameF]] at cS
  generalize numsH m = N at *
  repeat refine AW.seq ?_
  refine AW.reg ?_
  iterate 2 refine AOL.s1 (h := ?_)
  refine AOL.nil ?_
  refine AW.kq [1, 2] (h := ?_)
  repeat refine AW.seq ?_
  refine AW.reg ?_
  refine AOL.callD rfl (obollaw18_up_c) (by kernel_rfl) rfl rfl (h := ?_)
  iterate 1 refine AOL.s1 (h := ?_)
  refine AOL.nil ?_
  refine AW.kq [1, 2, 5] (h := ?_)
  repeat refine AW.seq ?_
  refine AW.reg ?_
  iterate 2 refine AOL.s1 (h := ?_)
  refine AOL.callD rfl (cN) (by kernel_rfl) rfl rfl (h := ?_)
  iterate 5 refine AOL.s1 (h := ?_)
  refine AOL.nil ?_
  refine AW.kq [1, 2, 5, 6, 7] (h := ?_)
  repeat refine AW.seq ?_
  refine AW.reg ?_
  iterate 2 refine AOL.s1 (h := ?_)
  refine AOL.callD rfl (cF) (by kernel_rfl) rfl rfl (h := ?_)
  iterate 1 refine AOL.s1 (h := ?_)
  refine AOL.nil ?_
  refine AW.kq [2, 5, 6, 7, 8] (h := ?_)
  repeat refine AW.seq ?_
  refine AW.reg ?_
  iterate 2 refine AOL.s1 (h := ?_)
  refine AOL.nil ?_
  refine AW.kq [2, 5, 6, 7, 20] (h := ?_)
  repeat refine AW.seq ?_
  refine AW.cond rfl (fun c_ => ?_) (fun c_ => ?_)
  · simp at c_
  refine AW.skip ?_
  repeat refine AW.seq ?_
  refine AW.reg ?_
  iterate 2 refine AOL.s1 (h := ?_)
  skip
  iterate 3 refine AOL.s1 (h := ?_)
  iterate 1 refine AOL.s1 (h := ?_)
  skip
  iterate 2 refine AOL.s1 (h := ?_)
  refine AOL.callD rfl (cR) (by kernel_rfl) rfl rfl (h := ?_)
  refine AOL.callD rfl (cS) (by kernel_rfl) rfl rfl (h := ?_)
  iterate 1 refine AOL.s1 (h := ?_)
  iterate 1 refine AOL.s1 (h := ?_)
  refine AOL.nil ?_
  refine AW.kq [4] (h := ?_)
  repeat refine AW.seq ?_
  refine AW.ret ?_
  refine ⟨_, [], rfl, HOk.nil _, ?_⟩
  rfl
set_option maxHeartbeats 8000000 in
theorem CircuitRight_n {m : Mv} {d : Int} (hm : wM m) (hx : -9223372036854775808 ≤ m.x.a ∧ -9223372036854775808 ≤ m.y.a) (hf : fitsH m d = false) : Fn Try.prog 4 [.agg (mvc m), i d] [] (fun r h_ => r = bo true) := by
  refine Fn.enter Try.func4 Try.ntmps4 rfl (h := ?_)
  have tf := tfm
  have ot_ : (false || true) = true := rfl
  have tfv := tfv
  have tfm := tfm
  have tfn := tfn
  have tfr := tfr
  have n0 : Int.toNat 0 = 0 := rfl
  have n1 : Int.toNat 1 = 1 := rfl
  have q0 : (0:Int) ≤ 0 := by decide
  have q1' : (0:Int) ≤ 1 := by decide
  have x02 : (0:Int) < ((2:Nat):Int) := by decide
  have x12 : (1:Int) < ((2:Nat):Int) := by decide
  have z02 : (0:Int) < 2 := by decide
  have z12 : (1:Int) < 2 := by decide
  have a1_ : IntKind.i64.wrap (0 + 1) = 1 := by decide
  have a2_ : IntKind.i64.wrap (1 + 1) = 2 := by decide
  have i02 : decide ((0:Int) < 2) = true := rfl
  have i12 : decide ((1:Int) < 2) = true := rfl
  have i22 : decide ((2:Int) < 2) = false := rfl
  have cF := obolref18_Fits_c (d := d) hm
  have cN := circuit_Right_c (d := d) hm hx
  rw [hf] at cF cN
  rw [if_neg (by decide)] at cN
  repeat refine AW.seq ?_
  refine AW.reg ?_
  iterate 2 refine AOL.s1 (h := ?_)
  refine AOL.nil ?_
  refine AW.kq [1, 2] (h := ?_)
  repeat refine AW.seq ?_
  refine AW.reg ?_
  refine AOL.callD rfl (obollaw18_up_c) (by kernel_rfl) rfl rfl (h := ?_)
  iterate 1 refine AOL.s1 (h := ?_)
  refine AOL.nil ?_
  refine AW.kq [1, 2, 5] (h := ?_)
  repeat refine AW.seq ?_
  refine AW.reg ?_
  iterate 2 refine AOL.s1 (h := ?_)
  refine AOL.callD rfl (cN) (by kernel_rfl) rfl rfl (h := ?_)
  iterate 5 refine AOL.s1 (h := ?_)
  refine AOL.nil ?_
  refine AW.kq [1, 2, 5, 6, 7] (h := ?_)
  repeat refine AW.seq ?_
  refine AW.reg ?_
  iterate 2 refine AOL.s1 (h := ?_)
  refine AOL.callD rfl (cF) (by kernel_rfl) rfl rfl (h := ?_)
  iterate 1 refine AOL.s1 (h := ?_)
  refine AOL.nil ?_
  refine AW.kq [2, 5, 6, 7, 8] (h := ?_)
  repeat refine AW.seq ?_
  refine AW.reg ?_
  iterate 2 refine AOL.s1 (h := ?_)
  refine AOL.nil ?_
  refine AW.kq [2, 5, 6, 7, 20] (h := ?_)
  repeat refine AW.seq ?_
  refine AW.cond rfl (fun c_ => ?_) (fun c_ => ?_)
  · skip
    repeat refine AW.seq ?_
    refine AW.reg ?_
    iterate 2 refine AOL.s1 (h := ?_)
    skip
    iterate 4 refine AOL.s1 (h := ?_)
    iterate 1 refine AOL.s1 (h := ?_)
    skip
    iterate 3 refine AOL.s1 (h := ?_)
    iterate 1 refine AOL.s1 (h := ?_)
    refine AOL.nil ?_
    refine AW.kq [4] (h := ?_)
    repeat refine AW.seq ?_
    refine AW.ret ?_
    refine ⟨_, [], rfl, HOk.nil _, ?_⟩
    rfl
  simp at c_
set_option maxHeartbeats 8000000 in
theorem CircuitRight_y {m : Mv} {d : Int} (hm : wM m) (hx : -9223372036854775808 ≤ m.x.a ∧ -9223372036854775808 ≤ m.y.a) (hf : fitsH m d = true) : Fn Try.prog 4 [.agg (mvc m), i d] [] (fun r h_ => r = bo true) := by
  refine Fn.enter Try.func4 Try.ntmps4 rfl (h := ?_)
  have tf := tfm
  have ot_ : (false || true) = true := rfl
  have tfv := tfv
  have tfm := tfm
  have tfn := tfn
  have tfr := tfr
  have n0 : Int.toNat 0 = 0 := rfl
  have n1 : Int.toNat 1 = 1 := rfl
  have q0 : (0:Int) ≤ 0 := by decide
  have q1' : (0:Int) ≤ 1 := by decide
  have x02 : (0:Int) < ((2:Nat):Int) := by decide
  have x12 : (1:Int) < ((2:Nat):Int) := by decide
  have z02 : (0:Int) < 2 := by decide
  have z12 : (1:Int) < 2 := by decide
  have a1_ : IntKind.i64.wrap (0 + 1) = 1 := by decide
  have a2_ : IntKind.i64.wrap (1 + 1) = 2 := by decide
  have i02 : decide ((0:Int) < 2) = true := rfl
  have i12 : decide ((1:Int) < 2) = true := rfl
  have i22 : decide ((2:Int) < 2) = false := rfl
  have cF := obolref18_Fits_c (d := d) hm
  have cN := circuit_Right_c (d := d) hm hx
  have fr := frM.of hm hf
  have hP : m.x.p.length < 1000000000 ∧ m.y.p.length < 1000000000 := ⟨by have := fr.x.l2; omega, by have := fr.y.l2; omega⟩
  have cR := obolref18_Right_c hm hP
  rw [hf] at cF cN
  rw [if_pos rfl] at cN
  clear fr hP
  generalize rightH m = rt at *
  repeat refine AW.seq ?_
  refine AW.reg ?_
  iterate 2 refine AOL.s1 (h := ?_)
  refine AOL.nil ?_
  refine AW.kq [1, 2] (h := ?_)
  repeat refine AW.seq ?_
  refine AW.reg ?_
  refine AOL.callD rfl (obollaw18_up_c) (by kernel_rfl) rfl rfl (h := ?_)
  iterate 1 refine AOL.s1 (h := ?_)
  refine AOL.nil ?_
  refine AW.kq [1, 2, 5] (h := ?_)
  repeat refine AW.seq ?_
  refine AW.reg ?_
  iterate 2 refine AOL.s1 (h := ?_)
  refine AOL.callD rfl (cN) (by kernel_rfl) rfl rfl (h := ?_)
  iterate 5 refine AOL.s1 (h := ?_)
  refine AOL.nil ?_
  refine AW.kq [1, 2, 5, 6, 7] (h := ?_)
  repeat refine AW.seq ?_
  refine AW.reg ?_
  iterate 2 refine AOL.s1 (h := ?_)
  refine AOL.callD rfl (cF) (by kernel_rfl) rfl rfl (h := ?_)
  iterate 1 refine AOL.s1 (h := ?_)
  refine AOL.nil ?_
  refine AW.kq [2, 5, 6, 7, 8] (h := ?_)
  repeat refine AW.seq ?_
  refine AW.reg ?_
  iterate 2 refine AOL.s1 (h := ?_)
  refine AOL.nil ?_
  refine AW.kq [2, 5, 6, 7, 20] (h := ?_)
  repeat refine AW.seq ?_
  refine AW.cond rfl (fun c_ => ?_) (fun c_ => ?_)
  · simp at c_
  refine AW.skip ?_
  repeat refine AW.seq ?_
  refine AW.reg ?_
  iterate 2 refine AOL.s1 (h := ?_)
  skip
  iterate 3 refine AOL.s1 (h := ?_)
  iterate 1 refine AOL.s1 (h := ?_)
  skip
  iterate 2 refine AOL.s1 (h := ?_)
  refine AOL.callD rfl (cR) (by kernel_rfl) rfl rfl (h := ?_)
  iterate 2 refine AOL.s1 (h := ?_)
  iterate 1 refine AOL.s1 (h := ?_)
  refine AOL.nil ?_
  refine AW.kq [4] (h := ?_)
  repeat refine AW.seq ?_
  refine AW.ret ?_
  refine ⟨_, [], rfl, HOk.nil _, ?_⟩
  first | rfl | (cases rt <;> rfl)
set_option maxHeartbeats 8000000 in
theorem CircuitShapes_n {d : Int} (hd : ¬ (1 ≤ d ∧ d ≤ 16)) (cM : Fn Try.prog 18 [i d] [] (fun r _ => r = .tup [.agg [i 0, i 0, .val (.slice none 0 0)], errA])) : Fn Try.prog 7 [i d] [] (fun r h_ => r = bo true) := by
  refine Fn.enter Try.func7 Try.ntmps7 rfl (h := ?_)
  have tf := tfm
  have ot_ : (false || true) = true := rfl
  have tfv := tfv
  have tfm := tfm
  have tfn := tfn
  have tfr := tfr
  have n0 : Int.toNat 0 = 0 := rfl
  have n1 : Int.toNat 1 = 1 := rfl
  have q0 : (0:Int) ≤ 0 := by decide
  have q1' : (0:Int) ≤ 1 := by decide
  have x02 : (0:Int) < ((2:Nat):Int) := by decide
  have x12 : (1:Int) < ((2:Nat):Int) := by decide
  have z02 : (0:Int) < 2 := by decide
  have z12 : (1:Int) < 2 := by decide
  have a1_ : IntKind.i64.wrap (0 + 1) = 1 := by decide
  have a2_ : IntKind.i64.wrap (1 + 1) = 2 := by decide
  have i02 : decide ((0:Int) < 2) = true := rfl
  have i12 : decide ((1:Int) < 2) = true := rfl
  have i22 : decide ((2:Int) < 2) = false := rfl
  have hb : (decide (d < 1) || decide (d > 16)) = true := by
    rw [Bool.or_eq_true, decide_eq_true_eq, decide_eq_true_eq]; omega
  repeat refine AW.seq ?_
  refine AW.reg ?_
  iterate 1 refine AOL.s1 (h := ?_)
  refine AOL.nil ?_
  refine AW.kq [0] (h := ?_)
  repeat refine AW.seq ?_
  refine AW.reg ?_
  refine AOL.callD rfl (obollaw18_up_c) (by kernel_rfl) rfl rfl (h := ?_)
  iterate 1 refine AOL.s1 (h := ?_)
  refine AOL.nil ?_
  refine AW.kq [0, 3] (h := ?_)
  repeat refine AW.seq ?_
  refine AW.reg ?_
  iterate 1 refine AOL.s1 (h := ?_)
  refine AOL.callD rfl (cM) (by kernel_rfl) rfl rfl (h := ?_)
  iterate 6 refine AOL.s1 (h := ?_)
  refine AOL.nil ?_
  refine AW.kq [0, 3, 4, 5] (h := ?_)
  repeat refine AW.seq ?_
  refine AW.reg ?_
  iterate 3 refine AOL.s1 (h := ?_)
  refine AOL.kq [0, 3, 4, 5, 14] (h := ?_)
  refine AOL.or 14 17 (os' := ?_) (x := ?_) (h1 := ?_) (h0 := ?_) (h := ?_)
  rotate_left 2
  iterate 2
    · intro hb_ K' hK; (iterate 3 refine AOL.s1 (h := ?_)); refine AOL.kq [0, 3, 4, 5, 17] (h := ?_); exact hK
  refine AOL.nil ?_
  refine AW.kq [3, 4, 5, 17] (h := ?_)
  repeat refine AW.seq ?_
  refine AW.cond rfl (fun c_ => ?_) (fun c_ => ?_)
  · skip
    repeat refine AW.seq ?_
    refine AW.reg ?_
    iterate 2 refine AOL.s1 (h := ?_)
    skip
    iterate 4 refine AOL.s1 (h := ?_)
    iterate 1 refine AOL.s1 (h := ?_)
    skip
    iterate 4 refine AOL.s1 (h := ?_)
    iterate 1 refine AOL.s1 (h := ?_)
    refine AOL.nil ?_
    refine AW.kq [2] (h := ?_)
    repeat refine AW.seq ?_
    refine AW.ret ?_
    refine ⟨_, [], rfl, HOk.nil _, ?_⟩
    rfl
  exact absurd (by simpa using c_) hd
set_option maxHeartbeats 8000000 in
theorem CircuitShapes_y {d : Int} (hd : 1 ≤ d ∧ d ≤ 16) {G : Mk} (hG : Good G) (hp : G.p = 10) (l1 : G.vals.length ≤ 2400) (l2 : G.rows.length ≤ 2400) (cM : Fn Try.prog 18 [i d] [] (fun r _ => r = .tup [.agg [i G.v, i G.p, slF rw_ G.rows], .val .nilIface])) : Fn Try.prog 7 [i d] [] (fun r h_ => r = bo true) := by
  refine Fn.enter Try.func7 Try.ntmps7 rfl (h := ?_)
  have tf := tfm
  have ot_ : (false || true) = true := rfl
  have tfv := tfv
  have tfm := tfm
  have tfn := tfn
  have tfr := tfr
  have n0 : Int.toNat 0 = 0 := rfl
  have n1 : Int.toNat 1 = 1 := rfl
  have q0 : (0:Int) ≤ 0 := by decide
  have q1' : (0:Int) ≤ 1 := by decide
  have x02 : (0:Int) < ((2:Nat):Int) := by decide
  have x12 : (1:Int) < ((2:Nat):Int) := by decide
  have z02 : (0:Int) < 2 := by decide
  have z12 : (1:Int) < 2 := by decide
  have a1_ : IntKind.i64.wrap (0 + 1) = 1 := by decide
  have a2_ : IntKind.i64.wrap (1 + 1) = 2 := by decide
  have i02 : decide ((0:Int) < 2) = true := rfl
  have i12 : decide ((1:Int) < 2) = true := rfl
  have i22 : decide ((2:Int) < 2) = false := rfl
  have hb : (decide (d < 1) || decide (d > 16)) = false := by
    rw [Bool.or_eq_false_iff, decide_eq_false_iff_not, decide_eq_false_iff_not]; omega
  have cC := rank_Check_c (s := sysM G) (hG.len (by omega))
  rw [hG.chk (by omega) (by omega)] at cC
  rw [hp] at cM
  replace cC : Fn Try.prog 19 [.agg [i G.v, i G.p, slF rw_ G.rows]] [] (fun r _ => r = .val .nilIface) := cC
  rw [hp] at cC
  clear hp
  repeat refine AW.seq ?_
  refine AW.reg ?_
  iterate 1 refine AOL.s1 (h := ?_)
  refine AOL.nil ?_
  refine AW.kq [0] (h := ?_)
  repeat refine AW.seq ?_
  refine AW.reg ?_
  refine AOL.callD rfl (obollaw18_up_c) (by kernel_rfl) rfl rfl (h := ?_)
  iterate 1 refine AOL.s1 (h := ?_)
  refine AOL.nil ?_
  refine AW.kq [0, 3] (h := ?_)
  repeat refine AW.seq ?_
  refine AW.reg ?_
  iterate 1 refine AOL.s1 (h := ?_)
  refine AOL.callD rfl (cM) (by kernel_rfl) rfl rfl (h := ?_)
  iterate 6 refine AOL.s1 (h := ?_)
  refine AOL.nil ?_
  refine AW.kq [0, 3, 4, 5] (h := ?_)
  repeat refine AW.seq ?_
  refine AW.reg ?_
  iterate 3 refine AOL.s1 (h := ?_)
  refine AOL.kq [0, 3, 4, 5, 14] (h := ?_)
  refine AOL.or 14 17 (os' := ?_) (x := ?_) (h1 := ?_) (h0 := ?_) (h := ?_)
  rotate_left 2
  iterate 2
    · intro hb_ K' hK; (iterate 3 refine AOL.s1 (h := ?_)); refine AOL.kq [0, 3, 4, 5, 17] (h := ?_); exact hK
  refine AOL.nil ?_
  refine AW.kq [3, 4, 5, 17] (h := ?_)
  repeat refine AW.seq ?_
  refine AW.cond rfl (fun c_ => ?_) (fun c_ => ?_)
  · have c2 : d < 1 ∨ 16 < d := by simpa using c_
    omega
  refine AW.skip ?_
  repeat refine AW.seq ?_
  refine AW.reg ?_
  iterate 2 refine AOL.s1 (h := ?_)
  skip
  iterate 3 refine AOL.s1 (h := ?_)
  iterate 1 refine AOL.s1 (h := ?_)
  skip
  iterate 1 refine AOL.s1 (h := ?_)
  refine AOL.callD rfl (cC) (by kernel_rfl) rfl rfl (h := ?_)
  iterate 2 refine AOL.s1 (h := ?_)
  iterate 1 refine AOL.s1 (h := ?_)
  skip
  iterate 4 refine AOL.s1 (h := ?_)
  iterate 1 refine AOL.s1 (h := ?_)
  refine AOL.nil ?_
  refine AW.kq [2] (h := ?_)
  repeat refine AW.seq ?_
  refine AW.ret ?_
  refine ⟨_, [], rfl, HOk.nil _, ?_⟩
  rfl
set_option maxHeartbeats 8000000 in
theorem CircuitHolds_n {m : Mv} {d : Int} (hm : wM m) (hx : -9223372036854775808 ≤ m.x.a ∧ -9223372036854775808 ≤ m.y.a) (hf : fitsH m d = false) : Fn Try.prog 5 [.agg (mvc m), i d] [] (fun r h_ => r = bo true) := by
  refine Fn.enter Try.func5 Try.ntmps5 rfl (h := ?_)
  have tf := tfm
  have ot_ : (false || true) = true := rfl
  have tfv := tfv
  have tfm := tfm
  have tfn := tfn
  have tfr := tfr
  have n0 : Int.toNat 0 = 0 := rfl
  have n1 : Int.toNat 1 = 1 := rfl
  have q0 : (0:Int) ≤ 0 := by decide
  have q1' : (0:Int) ≤ 1 := by decide
  have x02 : (0:Int) < ((2:Nat):Int) := by decide
  have x12 : (1:Int) < ((2:Nat):Int) := by decide
  have z02 : (0:Int) < 2 := by decide
  have z12 : (1:Int) < 2 := by decide
  have a1_ : IntKind.i64.wrap (0 + 1) = 1 := by decide
  have a2_ : IntKind.i64.wrap (1 + 1) = 2 := by decide
  have i02 : decide ((0:Int) < 2) = true := rfl
  have i12 : decide ((1:Int) < 2) = true := rfl
  have i22 : decide ((2:Int) < 2) = false := rfl
  have cM := circuit_Make_n hm hf
  have cL := obollaw18_light_c (m := m) (d := d)
  generalize litH m d = lt at *
  clear hf hx hm
  repeat refine AW.seq ?_
  refine AW.reg ?_
  iterate 2 refine AOL.s1 (h := ?_)
  refine AOL.nil ?_
  refine AW.kq [1, 2] (h := ?_)
  repeat refine AW.seq ?_
  refine AW.reg ?_
  refine AOL.callD rfl (obollaw18_up_c) (by kernel_rfl) rfl rfl (h := ?_)
  iterate 1 refine AOL.s1 (h := ?_)
  refine AOL.nil ?_
  refine AW.kq [1, 2, 5] (h := ?_)
  repeat refine AW.seq ?_
  refine AW.reg ?_
  iterate 2 refine AOL.s1 (h := ?_)
  refine AOL.callD rfl (cL) (by kernel_rfl) rfl rfl (h := ?_)
  iterate 1 refine AOL.s1 (h := ?_)
  refine AOL.nil ?_
  refine AW.kq [1, 2, 5, 6] (h := ?_)
  repeat refine AW.seq ?_
  refine AW.reg ?_
  iterate 2 refine AOL.s1 (h := ?_)
  refine AOL.callD rfl (cM) (by kernel_rfl) rfl rfl (h := ?_)
  iterate 8 refine AOL.s1 (h := ?_)
  refine AOL.nil ?_
  refine AW.kq [1, 2, 5, 6, 7, 8, 9] (h := ?_)
  repeat refine AW.seq ?_
  refine AW.reg ?_
  iterate 3 refine AOL.s1 (h := ?_)
  refine AOL.kq [1, 2, 5, 7, 8, 9, 26] (h := ?_)
  refine AOL.or 26 29 (os' := ?_) (x := ?_) (h1 := ?_) (h0 := ?_) (h := ?_)
  rotate_left 2
  iterate 2
    · intro hb_ K' hK; (iterate 3 refine AOL.s1 (h := ?_)); refine AOL.kq [1, 2, 5, 7, 8, 9, 29] (h := ?_); exact hK
  refine AOL.nil ?_
  refine AW.kq [1, 2, 5, 7, 8, 29] (h := ?_)
  repeat refine AW.seq ?_
  refine AW.cond rfl (fun c_ => ?_) (fun c_ => ?_)
  · skip
    repeat refine AW.seq ?_
    refine AW.reg ?_
    iterate 2 refine AOL.s1 (h := ?_)
    refine AOL.nil ?_
    refine AW.kq [4] (h := ?_)
    repeat refine AW.seq ?_
    refine AW.ret ?_
    refine ⟨_, [], rfl, HOk.nil _, ?_⟩
    rfl
  simp at c_
set_option maxHeartbeats 8000000 in
theorem CircuitHolds_y {m : Mv} {d : Int} (hm : wM m) (hx : -9223372036854775808 ≤ m.x.a ∧ -9223372036854775808 ≤ m.y.a) (hf : fitsH m d = true) : Fn Try.prog 5 [.agg (mvc m), i d] [] (fun r h_ => r = bo true) := by
  refine Fn.enter Try.func5 Try.ntmps5 rfl (h := ?_)
  have tf := tfm
  have ot_ : (false || true) = true := rfl
  have tfv := tfv
  have tfm := tfm
  have tfn := tfn
  have tfr := tfr
  have n0 : Int.toNat 0 = 0 := rfl
  have n1 : Int.toNat 1 = 1 := rfl
  have q0 : (0:Int) ≤ 0 := by decide
  have q1' : (0:Int) ≤ 1 := by decide
  have x02 : (0:Int) < ((2:Nat):Int) := by decide
  have x12 : (1:Int) < ((2:Nat):Int) := by decide
  have z02 : (0:Int) < 2 := by decide
  have z12 : (1:Int) < 2 := by decide
  have a1_ : IntKind.i64.wrap (0 + 1) = 1 := by decide
  have a2_ : IntKind.i64.wrap (1 + 1) = 2 := by decide
  have i02 : decide ((0:Int) < 2) = true := rfl
  have i12 : decide ((1:Int) < 2) = true := rfl
  have i22 : decide ((2:Int) < 2) = false := rfl
  have fr := frM.of hm hf
  have mk := make_law fr
  have ml := makM_len fr
  have cM := circuit_Make_y hm hf mk.1.rok
  have cL := obollaw18_light_c (m := m) (d := d)
  have cR := circuit_Right_c (d := d) hm hx
  rw [if_pos hf] at cR
  have hH := holds_good mk.1 (by omega) (by omega)
  rw [mk.2] at hH
  obtain ⟨G, hG⟩ : ∃ x, x = makM m d := ⟨_, rfl⟩
  rw [← hG] at cM mk ml hH
  have cH := rank_Holds_c (s := sysM G) (V := G.vals) (mk.1.len (by omega)) mk.1.wR mk.1.wV (by omega)
  have hfl : id (AV.sl G.vals.length (sub 0 (G.vals.length * 1) (fm u1 G.vals)) = ul G.vals) := by show _ = _; rw [sub_all (by rw [fm_len u1_len]; exact Nat.le_refl _)]
  have hq : (rightH m = true ∧ holdsF (sysM G) G.vals = nil_) ∨ (rightH m = false ∧ ∃ j : Nat, holdsF (sysM G) G.vals = spot j 8) := by
    cases hr : rightH m with
    | true => exact .inl ⟨rfl, hH.1.2 hr⟩
    | false =>
      right
      refine ⟨rfl, hH.2.resolve_left fun h => ?_⟩
      have := hH.1.1 h
      rw [hr] at this; cases this
  clear hH fr hG mk ml hf
  generalize litH m d = lt at *
  generalize rightH m = rt at *
  generalize holdsF (sysM G) G.vals = ho at *
  repeat refine AW.seq ?_
  refine AW.reg ?_
  iterate 2 refine AOL.s1 (h := ?_)
  refine AOL.nil ?_
  refine AW.kq [1, 2] (h := ?_)
  repeat refine AW.seq ?_
  refine AW.reg ?_
  refine AOL.callD rfl (obollaw18_up_c) (by kernel_rfl) rfl rfl (h := ?_)
  iterate 1 refine AOL.s1 (h := ?_)
  refine AOL.nil ?_
  refine AW.kq [1, 2, 5] (h := ?_)
  repeat refine AW.seq ?_
  refine AW.reg ?_
  iterate 2 refine AOL.s1 (h := ?_)
  refine AOL.callD rfl (cL) (by kernel_rfl) rfl rfl (h := ?_)
  iterate 1 refine AOL.s1 (h := ?_)
  refine AOL.nil ?_
  refine AW.kq [1, 2, 5, 6] (h := ?_)
  repeat refine AW.seq ?_
  refine AW.reg ?_
  iterate 2 refine AOL.s1 (h := ?_)
  refine AOL.callO 5000 (cM) rfl (by kernel_rfl) rfl (by first | rfl | exact frees_fm (fun _ => rfl) _ | exact a64_free _ | exact by8_free _) (by intro l_ hl_; simp [labs, labss] at hl_ <;> exact hl_) (by decide) (by simp only [St.drop, mapT, mapH, kill, kills, del, St.put, ins, ren, rens, reduceIte, Nat.reduceLT, Nat.reduceEqDiff, Bool.false_eq_true]; exact rfl) ?_
  iterate 8 refine AOL.s1 (h := ?_)
  refine AOL.nil ?_
  refine AW.kq [1, 2, 5, 6, 7, 8, 9] (h := ?_)
  refine AW.fz 5000 rfl (fun h => by cases h) (h := ?_)
  rw [show AV.sl G.vals.length (sub 0 (G.vals.length * 1) (fm u1 G.vals)) = ul G.vals from hfl]
  repeat refine AW.seq ?_
  refine AW.reg ?_
  iterate 3 refine AOL.s1 (h := ?_)
  refine AOL.kq [1, 2, 5, 7, 8, 9, 26] (h := ?_)
  refine AOL.or 26 29 (os' := ?_) (x := ?_) (h1 := ?_) (h0 := ?_) (h := ?_)
  rotate_left 2
  iterate 2
    · intro hb_ K' hK; (iterate 3 refine AOL.s1 (h := ?_)); refine AOL.kq [1, 2, 5, 7, 8, 9, 29] (h := ?_); exact hK
  refine AOL.nil ?_
  refine AW.kq [1, 2, 5, 7, 8, 29] (h := ?_)
  repeat refine AW.seq ?_
  refine AW.cond rfl (fun c_ => ?_) (fun c_ => ?_)
  · skip
    repeat refine AW.seq ?_
    refine AW.reg ?_
    iterate 2 refine AOL.s1 (h := ?_)
    refine AOL.nil ?_
    refine AW.kq [4] (h := ?_)
    repeat refine AW.seq ?_
    refine AW.ret ?_
    refine ⟨_, [], rfl, HOk.nil _, ?_⟩
    rfl
  refine AW.skip ?_
  repeat refine AW.seq ?_
  refine AW.reg ?_
  iterate 2 refine AOL.s1 (h := ?_)
  refine AOL.callD rfl (cR) (by kernel_rfl) rfl rfl (h := ?_)
  iterate 5 refine AOL.s1 (h := ?_)
  refine AOL.nil ?_
  refine AW.kq [5, 7, 8, 10, 11] (h := ?_)
  repeat refine AW.seq ?_
  refine AW.reg ?_
  iterate 2 refine AOL.s1 (h := ?_)
  replace hfl : True := trivial
  rcases hq with ⟨rfl, rfl⟩ | ⟨rfl, j, rfl⟩
  · refine AOL.callD rfl (cH) (by kernel_rfl) rfl rfl (h := ?_)
    iterate 1 refine AOL.s1 (h := ?_)
    refine AOL.nil ?_
    refine AW.kq [5, 10, 11, 12] (h := ?_)
    repeat refine AW.seq ?_
    refine AW.reg ?_
    iterate 12 refine AOL.s1 (h := ?_)
    refine AOL.nil ?_
    refine AW.kq [4] (h := ?_)
    repeat refine AW.seq ?_
    refine AW.ret ?_
    refine ⟨_, [], rfl, HOk.nil _, ?_⟩
    rfl
  refine AOL.callD rfl (cH) (by kernel_rfl) rfl rfl (h := ?_)
  iterate 1 refine AOL.s1 (h := ?_)
  refine AOL.nil ?_
  refine AW.kq [5, 10, 11, 12] (h := ?_)
  repeat refine AW.seq ?_
  refine AW.reg ?_
  iterate 2 refine AOL.s1 (h := ?_)
  skip
  iterate 3 refine AOL.s1 (h := ?_)
  iterate 1 refine AOL.s1 (h := ?_)
  skip
  iterate 5 refine AOL.s1 (h := ?_)
  iterate 1 refine AOL.s1 (h := ?_)
  refine AOL.nil ?_
  refine AW.kq [4] (h := ?_)
  repeat refine AW.seq ?_
  refine AW.ret ?_
  refine ⟨_, [], rfl, HOk.nil _, ?_⟩
  rfl
theorem obollaw18_CircuitNumbers_c {m : Mv} {d : Int} (hm : wM m) (hx : -9223372036854775808 ≤ m.x.a ∧ -9223372036854775808 ≤ m.y.a) : Fn Try.prog 3 [.agg (mvc m), i d] [] (fun r _ => r = bo true) := by
  cases hf : fitsH m d with
  | false => exact CircuitNumbers_n hm hx hf
  | true => exact CircuitNumbers_y hm hx hf
theorem obollaw18_CircuitRight_c {m : Mv} {d : Int} (hm : wM m) (hx : -9223372036854775808 ≤ m.x.a ∧ -9223372036854775808 ≤ m.y.a) : Fn Try.prog 4 [.agg (mvc m), i d] [] (fun r _ => r = bo true) := by
  cases hf : fitsH m d with
  | false => exact CircuitRight_n hm hx hf
  | true => exact CircuitRight_y hm hx hf
theorem obollaw18_CircuitHolds_c {m : Mv} {d : Int} (hm : wM m) (hx : -9223372036854775808 ≤ m.x.a ∧ -9223372036854775808 ≤ m.y.a) : Fn Try.prog 5 [.agg (mvc m), i d] [] (fun r _ => r = bo true) := by
  cases hf : fitsH m d with
  | false => exact CircuitHolds_n hm hx hf
  | true => exact CircuitHolds_y hm hx hf
theorem mod17 (d : Int) : ∃ n : Nat, n ≤ 16 ∧ (if 0 > d then 0 else d).tmod 17 = (n : Int) ∧ (1 ≤ d ∧ d ≤ 16 → d = n) := by
  have h0 : 0 ≤ (if 0 > d then 0 else d) := by split <;> omega
  have e : (if 0 > d then 0 else d).tmod 17 = (if 0 > d then 0 else d) % 17 := Int.tmod_eq_emod_of_nonneg h0
  rw [e]
  have h1 := Int.emod_nonneg (if 0 > d then 0 else d) (show (17:Int) ≠ 0 by decide)
  have h2 := Int.emod_lt_of_pos (if 0 > d then 0 else d) (show (0:Int) < 17 by decide)
  refine ⟨((if 0 > d then 0 else d) % 17).toNat, by omega, by omega, fun hd => ?_⟩
  rw [if_neg (by omega)]
  omega
theorem shpM_nf {n : Nat} {d : Int} (hd : ¬ (1 ≤ d ∧ d ≤ 16)) : fitsH (shpM n) d = false := by
  unfold fitsH hdF
  rw [decide_eq_false hd]
  simp
theorem obollaw18_CircuitShapes_c {d : Int} : Fn Try.prog 7 [i d] [] (fun r _ => r = bo true) := by
  obtain ⟨n, hn, hm, hd⟩ := mod17 d
  by_cases h : 1 ≤ d ∧ d ≤ 16
  · have hf := shpM_f hn h (hd h)
    have fr := frM.of (shpM_w hn) hf
    have mk := make_law fr
    have ml := makM_len fr
    exact CircuitShapes_y h mk.1 (makM_p _ _) ml.1 ml.2 (circuit_Shape_y hn hm hf mk.1.rok)
  · exact CircuitShapes_n h (circuit_Shape_n hn hm (shpM_nf h))

end Go.Proofs.Ytngphcdhdllnnaa.E.M
end
section
/- obollaw18: moves that are handed in stay «as» they are: the law over E. -/
set_option linter.unusedVariables false
set_option linter.unusedSimpArgs false
set_option maxRecDepth 10000
open Go Go.Proofs.Ytngphcdhdllnnaa.E Go.Proofs
namespace Go.Proofs.Ytngphcdhdllnnaa.E.M
theorem fmu_set : ∀ (W : List Int) (k : Nat) (v : Int), (fm u1 W).set k (u v) = fm u1 (W.set k v)
  | [], _, _ => rfl
  | _ :: _, 0, _ => rfl
  | a :: r, k + 1, v => by show u a :: (fm u1 r).set k (u v) = _; rw [fmu_set r k v]; rfl
set_option maxHeartbeats 8000000 in
theorem CircuitStays_n {mr mi mo ms xk xv xo xr xa : Int} {xp : List Int} {yk yv yo yr ya : Int} {yp : List Int} {pv po pr qv qo qr d : Int} (hm : wM (⟨mr, mi, mo, ms, ⟨xk, (xv, xo, xr), xa, xp⟩, ⟨yk, (yv, yo, yr), ya, yp⟩, (pv, po, pr), (qv, qo, qr)⟩ : Mv)) (hx : -9223372036854775808 ≤ xa ∧ -9223372036854775808 ≤ ya) (hf : fitsH (⟨mr, mi, mo, ms, ⟨xk, (xv, xo, xr), xa, xp⟩, ⟨yk, (yv, yo, yr), ya, yp⟩, (pv, po, pr), (qv, qo, qr)⟩ : Mv) d = false) : Fn Try.prog 6 [.agg [u mr, u mi, u mo, u ms, u xk, u xv, u xo, u xr, i xa, ul xp, u yk, u yv, u yo, u yr, i ya, ul yp, u pv, u po, u pr, u qv, u qo, u qr], i d] [] (fun r h_ => r = bo true) := by
  refine Fn.enter Try.func6 Try.ntmps6 rfl (h := ?_)
  have tf := tfm
  have ot_ : (false || true) = true := rfl
  have tfv := tfv
  have tfm := tfm
  have tfn := tfn
  have tfr := tfr
  have n0 : Int.toNat 0 = 0 := rfl
  have n1 : Int.toNat 1 = 1 := rfl
  have q0 : (0:Int) ≤ 0 := by decide
  have q1' : (0:Int) ≤ 1 := by decide
  have x02 : (0:Int) < ((2:Nat):Int) := by decide
  have x12 : (1:Int) < ((2:Nat):Int) := by decide
  have z02 : (0:Int) < 2 := by decide
  have z12 : (1:Int) < 2 := by decide
  have a1_ : IntKind.i64.wrap (0 + 1) = 1 := by decide
  have a2_ : IntKind.i64.wrap (1 + 1) = 2 := by decide
  have i02 : decide ((0:Int) < 2) = true := rfl
  have i12 : decide ((1:Int) < 2) = true := rfl
  have i22 : decide ((2:Int) < 2) = false := rfl
  have cL := obollaw18_light_c (m := (⟨mr, mi, mo, ms, ⟨xk, (xv, xo, xr), xa, xp⟩, ⟨yk, (yv, yo, yr), ya, yp⟩, (pv, po, pr), (qv, qo, qr)⟩ : Mv)) (d := d)
  have cR := circuit_Right_c (m := (⟨mr, mi, mo, ms, ⟨xk, (xv, xo, xr), xa, xp⟩, ⟨yk, (yv, yo, yr), ya, yp⟩, (pv, po, pr), (qv, qo, qr)⟩ : Mv)) (d := d) hm hx
  have cN := circuit_Numbers_c (m := (⟨mr, mi, mo, ms, ⟨xk, (xv, xo, xr), xa, xp⟩, ⟨yk, (yv, yo, yr), ya, yp⟩, (pv, po, pr), (qv, qo, qr)⟩ : Mv)) (d := d) hm
  rw [hf] at cR cN
  rw [if_neg (by decide)] at cR cN
  obtain ⟨rt, hrt⟩ : ∃ x, x = rightH (⟨mr, mi, mo, ms, ⟨xk, (xv, xo, xr), xa, xp⟩, ⟨yk, (yv, yo, yr), ya, yp⟩, (pv, po, pr), (qv, qo, qr)⟩ : Mv) := ⟨_, rfl⟩
  have cM := circuit_Make_n hm hf
  replace cM : Fn Try.prog 16 [.agg [u mr, u mi, u mo, u ms, u xk, u xv, u xo, u xr, i xa, ul xp, u yk, u yv, u yo, u yr, i ya, ul yp, u pv, u po, u pr, u qv, u qo, u qr], i d] [] (fun r _ => r = .tup [.agg [i 0, i 0, .val (.slice none 0 0)], .val (.slice none 0 0), errA]) := cM
  replace cR : Fn Try.prog 13 [.agg [u mr, u mi, u mo, u ms, u xk, u xv, u xo, u xr, i xa, ul xp, u yk, u yv, u yo, u yr, i ya, ul yp, u pv, u po, u pr, u qv, u qo, u qr], i d] [] (fun r _ => r = .tup [bo false, errA]) := cR
  replace cN : Fn Try.prog 9 [.agg [u mr, u mi, u mo, u ms, u xk, u xv, u xo, u xr, i xa, ul xp, u yk, u yv, u yo, u yr, i ya, ul yp, u pv, u po, u pr, u qv, u qo, u qr], i d] [] (fun r _ => r = .tup [.val (.slice none 0 0), errA]) := cN
  have cS2 : Fn Try.prog 11 [.val (.slice none 0 0), .val (.slice none 0 0)] [] (fun r _ => r = bo true) := by
    have w0 : wV [] := fun v hv => by cases hv
    exact (obolref13_Same_c (A := []) (B := []) w0 w0 (by decide)).wk (Wks.cons Wk.nilS (Wks.cons Wk.nilS Wks.nil))
  replace cL : Fn Try.prog 15 [.agg [u mr, u mi, u mo, u ms, u xk, u xv, u xo, u xr, i xa, ul xp, u yk, u yv, u yo, u yr, i ya, ul yp, u pv, u po, u pr, u qv, u qo, u qr], i d] [] (fun r _ => r = bo (litH (⟨mr, mi, mo, ms, ⟨xk, (xv, xo, xr), xa, xp⟩, ⟨yk, (yv, yo, yr), ya, yp⟩, (pv, po, pr), (qv, qo, qr)⟩ : Mv) d)) := cL
  generalize litH (⟨mr, mi, mo, ms, ⟨xk, (xv, xo, xr), xa, xp⟩, ⟨yk, (yv, yo, yr), ya, yp⟩, (pv, po, pr), (qv, qo, qr)⟩ : Mv) d = lt at *
  clear hf hrt
  have hxp : wV xp := hm.2.2.2.2.1.2.2.2.1
  clear hm hx
  have hfl : id (AV.sl xp.length (sub 0 (xp.length * 1) (fm u1 xp)) = ul xp) := by show _ = _; rw [sub_all (by rw [fm_len u1_len]; exact Nat.le_refl _)]
  have ll : (fm u1 xp).length = xp.length := by rw [fm_len u1_len, Nat.mul_one]
  repeat refine AW.seq ?_
  refine AW.reg ?_
  iterate 2 refine AOL.s1 (h := ?_)
  refine AOL.nil ?_
  refine AW.kq [1, 2] (h := ?_)
  repeat refine AW.seq ?_
  refine AW.reg ?_
  refine AOL.callD rfl (obollaw18_up_c) (by kernel_rfl) rfl rfl (h := ?_)
  iterate 1 refine AOL.s1 (h := ?_)
  refine AOL.nil ?_
  refine AW.kq [1, 2, 5] (h := ?_)
  repeat refine AW.seq ?_
  refine AW.reg ?_
  iterate 2 refine AOL.s1 (h := ?_)
  refine AOL.callD rfl (cL) (by kernel_rfl) rfl rfl (h := ?_)
  iterate 1 refine AOL.s1 (h := ?_)
  refine AOL.nil ?_
  refine AW.kq [1, 2, 5, 6] (h := ?_)
  repeat refine AW.seq ?_
  refine AW.reg ?_
  iterate 3 refine AOL.s1 (h := ?_)
  refine AOL.kq [1, 2, 5, 23] (h := ?_)
  refine AOL.or 23 30 (os' := ?_) (x := ?_) (h1 := ?_) (h0 := ?_) (h := ?_)
  rotate_left 2
  iterate 2
    · intro hb_ K' hK; (iterate 7 refine AOL.s1 (h := ?_)); refine AOL.kq [1, 2, 5, 30] (h := ?_); exact hK
  refine AOL.nil ?_
  refine AW.kq [1, 2, 5, 30] (h := ?_)
  repeat refine AW.seq ?_
  refine AW.cond rfl (fun c_ => ?_) (fun c_ => ?_)
  · skip
    repeat refine AW.seq ?_
    refine AW.reg ?_
    iterate 2 refine AOL.s1 (h := ?_)
    refine AOL.nil ?_
    refine AW.kq [4] (h := ?_)
    repeat refine AW.seq ?_
    refine AW.ret ?_
    refine ⟨_, [], rfl, HOk.nil _, ?_⟩
    rfl
  have l40 : xp.length ≤ 40 := by
    have := c_
    simp only [Bool.or_eq_false_iff, decide_eq_false_iff_not, Bool.not_eq_false'] at this
    omega
  clear c_
  have b1 : xp.length * 8 ≤ 140737488355328 := by omega
  have b2 : xp.length ≤ 4611686018427387904 := by omega
  have lX : xp.length < 1000000000 := by omega
  have cS1 := obolref13_Same_c hxp hxp lX
  rw [show sameF xp xp = true by simp [sameF]] at cS1
  clear hxp lX l40
  refine AW.skip ?_
  repeat refine AW.seq ?_
  refine AW.reg ?_
  iterate 7 refine AOL.s1 (h := ?_)
  refine AOL.nil ?_
  refine AW.kq [1, 2, 5, 7] (h := ?_)
  refine AW.fz 1512 rfl (fun h => by cases h) (h := ?_)
  rw [show AV.sl xp.length (sub 0 (xp.length * 1) (fm u1 xp)) = ul xp from hfl]
  repeat refine AW.seq ?_
  refine AW.reg ?_
  iterate 3 refine AOL.s1 (h := ?_)
  refine AOL.nil ?_
  refine AW.kq [1, 2, 5, 7, 8] (h := ?_)
  repeat refine AW.seq ?_
  refine AW.reg ?_
  iterate 5 refine AOL.s1 (h := ?_)
  refine AOL.nil ?_
  refine AW.kq [1, 2, 5, 7, 8] (h := ?_)
  repeat refine AW.seq ?_
  refine AW.reg ?_
  iterate 2 refine AOL.s1 (h := ?_)
  refine AOL.callD rfl (cM) (by kernel_rfl) rfl rfl (h := ?_)
  iterate 8 refine AOL.s1 (h := ?_)
  refine AOL.nil ?_
  refine AW.kq [1, 2, 5, 7, 8, 10, 11] (h := ?_)
  repeat refine AW.seq ?_
  refine AW.reg ?_
  iterate 1 refine AOL.s1 (h := ?_)
  refine AOL.nil ?_
  refine AW.kq [1, 2, 5, 7, 8, 10, 11, 12] (h := ?_)
  repeat refine AW.seq ?_
  refine AW.block ?_
  repeat refine AW.seq ?_
  refine AW.rounds ?_
  refine AWin.next [1, 2, 5, 7, 8, 10, 11, 12] (h := ?_)
  repeat refine AW.seq ?_
  refine AW.reg ?_
  iterate 4 refine AOL.s1 (h := ?_)
  refine AOL.nil ?_
  refine AW.kq [1, 2, 5, 7, 8, 10, 11, 12, 53] (h := ?_)
  repeat refine AW.seq ?_
  refine AW.cond rfl (fun c_ => ?_) (fun c_ => ?_)
  · cases c_
  repeat refine AW.seq ?_
  refine AW.exit ?_
  repeat (first | refine Kseq.ex ?_ | refine Kloop.ex ?_ | refine Kblock.miss (by decide) ?_)
  refine Kblock.hit ?_
  refine AW.kq [1, 2, 5, 7, 8, 11] (h := ?_)
  repeat refine AW.seq ?_
  refine AW.reg ?_
  iterate 2 refine AOL.s1 (h := ?_)
  refine AOL.callD rfl (cR) (by kernel_rfl) rfl rfl (h := ?_)
  refine AOL.nil ?_
  refine AW.kq [1, 2, 5, 7, 8, 11] (h := ?_)
  repeat refine AW.seq ?_
  refine AW.reg ?_
  iterate 2 refine AOL.s1 (h := ?_)
  refine AOL.callD rfl (cN) (by kernel_rfl) rfl rfl (h := ?_)
  iterate 5 refine AOL.s1 (h := ?_)
  refine AOL.nil ?_
  refine AW.kq [1, 2, 5, 7, 11, 13, 14] (h := ?_)
  repeat refine AW.seq ?_
  refine AW.reg ?_
  iterate 2 refine AOL.s1 (h := ?_)
  refine AOL.callD rfl (cN) (by kernel_rfl) rfl rfl (h := ?_)
  iterate 5 refine AOL.s1 (h := ?_)
  refine AOL.nil ?_
  refine AW.kq [2, 5, 7, 11, 13, 14, 15, 16] (h := ?_)
  repeat refine AW.seq ?_
  refine AW.drw 28 [] (by kernel_rfl) (h := ?_)
  iterate 7 refine ADL.dm 1 (h := ?_)
  refine ADL.call rfl (cS1) (by kernel_rfl) rfl rfl (h := ?_)
  iterate 4 refine ADL.dm 1 (h := ?_)
  refine ADL.call rfl (cS2) (by kernel_rfl) rfl rfl (h := ?_)
  iterate 15 refine ADL.dm 1 (h := ?_)
  refine ADL.done hmix rfl rfl (hT := ?_)
  iterate 1 refine AOL.s1 (h := ?_)
  refine AOL.nil ?_
  refine AW.kq [4] (h := ?_)
  repeat refine AW.seq ?_
  refine AW.ret ?_
  refine ⟨_, [], rfl, HOk.nil _, ?_⟩
  rfl
set_option maxHeartbeats 8000000 in
theorem CircuitStays_y {mr mi mo ms xk xv xo xr xa : Int} {xp : List Int} {yk yv yo yr ya : Int} {yp : List Int} {pv po pr qv qo qr d : Int} (hm : wM (⟨mr, mi, mo, ms, ⟨xk, (xv, xo, xr), xa, xp⟩, ⟨yk, (yv, yo, yr), ya, yp⟩, (pv, po, pr), (qv, qo, qr)⟩ : Mv)) (hx : -9223372036854775808 ≤ xa ∧ -9223372036854775808 ≤ ya) (hf : fitsH (⟨mr, mi, mo, ms, ⟨xk, (xv, xo, xr), xa, xp⟩, ⟨yk, (yv, yo, yr), ya, yp⟩, (pv, po, pr), (qv, qo, qr)⟩ : Mv) d = true) : Fn Try.prog 6 [.agg [u mr, u mi, u mo, u ms, u xk, u xv, u xo, u xr, i xa, ul xp, u yk, u yv, u yo, u yr, i ya, ul yp, u pv, u po, u pr, u qv, u qo, u qr], i d] [] (fun r h_ => r = bo true) := by
  refine Fn.enter Try.func6 Try.ntmps6 rfl (h := ?_)
  have tf := tfm
  have ot_ : (false || true) = true := rfl
  have tfv := tfv
  have tfm := tfm
  have tfn := tfn
  have tfr := tfr
  have n0 : Int.toNat 0 = 0 := rfl
  have n1 : Int.toNat 1 = 1 := rfl
  have q0 : (0:Int) ≤ 0 := by decide
  have q1' : (0:Int) ≤ 1 := by decide
  have x02 : (0:Int) < ((2:Nat):Int) := by decide
  have x12 : (1:Int) < ((2:Nat):Int) := by decide
  have z02 : (0:Int) < 2 := by decide
  have z12 : (1:Int) < 2 := by decide
  have a1_ : IntKind.i64.wrap (0 + 1) = 1 := by decide
  have a2_ : IntKind.i64.wrap (1 + 1) = 2 := by decide
  have i02 : decide ((0:Int) < 2) = true := rfl
  have i12 : decide ((1:Int) < 2) = true := rfl
  have i22 : decide ((2:Int) < 2) = false := rfl
  have cL := obollaw18_light_c (m := (⟨mr, mi, mo, ms, ⟨xk, (xv, xo, xr), xa, xp⟩, ⟨yk, (yv, yo, yr), ya, yp⟩, (pv, po, pr), (qv, qo, qr)⟩ : Mv)) (d := d)
  have cR := circuit_Right_c (m := (⟨mr, mi, mo, ms, ⟨xk, (xv, xo, xr), xa, xp⟩, ⟨yk, (yv, yo, yr), ya, yp⟩, (pv, po, pr), (qv, qo, qr)⟩ : Mv)) (d := d) hm hx
  have cN := circuit_Numbers_c (m := (⟨mr, mi, mo, ms, ⟨xk, (xv, xo, xr), xa, xp⟩, ⟨yk, (yv, yo, yr), ya, yp⟩, (pv, po, pr), (qv, qo, qr)⟩ : Mv)) (d := d) hm
  rw [hf] at cR cN
  rw [if_pos rfl] at cR cN
  obtain ⟨rt, hrt⟩ : ∃ x, x = rightH (⟨mr, mi, mo, ms, ⟨xk, (xv, xo, xr), xa, xp⟩, ⟨yk, (yv, yo, yr), ya, yp⟩, (pv, po, pr), (qv, qo, qr)⟩ : Mv) := ⟨_, rfl⟩
  have mk := make_law (frM.of hm hf)
  have ml := makM_len (frM.of hm hf)
  have cM := circuit_Make_y hm hf mk.1.rok
  obtain ⟨G, hG⟩ : ∃ x, x = makM (⟨mr, mi, mo, ms, ⟨xk, (xv, xo, xr), xa, xp⟩, ⟨yk, (yv, yo, yr), ya, yp⟩, (pv, po, pr), (qv, qo, qr)⟩ : Mv) d := ⟨_, rfl⟩
  rw [← hG] at cM mk ml
  rw [← hrt] at cR
  have hN := numsH_w hm
  have lN : (numsH (⟨mr, mi, mo, ms, ⟨xk, (xv, xo, xr), xa, xp⟩, ⟨yk, (yv, yo, yr), ya, yp⟩, (pv, po, pr), (qv, qo, qr)⟩ : Mv)).length < 1000000000 := by rw [numsH_len]; decide
  have cS2 := obolref13_Same_c hN hN lN
  rw [show sameF (numsH (⟨mr, mi, mo, ms, ⟨xk, (xv, xo, xr), xa, xp⟩, ⟨yk, (yv, yo, yr), ya, yp⟩, (pv, po, pr), (qv, qo, qr)⟩ : Mv)) (numsH (⟨mr, mi, mo, ms, ⟨xk, (xv, xo, xr), xa, xp⟩, ⟨yk, (yv, yo, yr), ya, yp⟩, (pv, po, pr), (qv, qo, qr)⟩ : Mv)) = true by simp [sameF]] at cS2
  obtain ⟨N, hN'⟩ : ∃ x, x = numsH (⟨mr, mi, mo, ms, ⟨xk, (xv, xo, xr), xa, xp⟩, ⟨yk, (yv, yo, yr), ya, yp⟩, (pv, po, pr), (qv, qo, qr)⟩ : Mv) := ⟨_, rfl⟩
  rw [← hN'] at cN cS2
  clear hN lN hN'
  replace cM : Fn Try.prog 16 [.agg [u mr, u mi, u mo, u ms, u xk, u xv, u xo, u xr, i xa, ul xp, u yk, u yv, u yo, u yr, i ya, ul yp, u pv, u po, u pr, u qv, u qo, u qr], i d] [] (Tells (.tup [.agg [i G.v, i G.p, slF rw_ G.rows], .ref 1000 0 G.vals.length 1, .val .nilIface]) [(1000, vlB G.vals)]) := cM
  replace cR : Fn Try.prog 13 [.agg [u mr, u mi, u mo, u ms, u xk, u xv, u xo, u xr, i xa, ul xp, u yk, u yv, u yo, u yr, i ya, ul yp, u pv, u po, u pr, u qv, u qo, u qr], i d] [] (fun r _ => r = .tup [bo rt, .val .nilIface]) := cR
  replace cN : Fn Try.prog 9 [.agg [u mr, u mi, u mo, u ms, u xk, u xv, u xo, u xr, i xa, ul xp, u yk, u yv, u yo, u yr, i ya, ul yp, u pv, u po, u pr, u qv, u qo, u qr], i d] [] (fun r _ => r = .tup [ul N, .val .nilIface]) := cN
  have lG : G.vals.length ≤ 2400 := ml.1
  clear hG mk ml
  replace cL : Fn Try.prog 15 [.agg [u mr, u mi, u mo, u ms, u xk, u xv, u xo, u xr, i xa, ul xp, u yk, u yv, u yo, u yr, i ya, ul yp, u pv, u po, u pr, u qv, u qo, u qr], i d] [] (fun r _ => r = bo (litH (⟨mr, mi, mo, ms, ⟨xk, (xv, xo, xr), xa, xp⟩, ⟨yk, (yv, yo, yr), ya, yp⟩, (pv, po, pr), (qv, qo, qr)⟩ : Mv) d)) := cL
  generalize litH (⟨mr, mi, mo, ms, ⟨xk, (xv, xo, xr), xa, xp⟩, ⟨yk, (yv, yo, yr), ya, yp⟩, (pv, po, pr), (qv, qo, qr)⟩ : Mv) d = lt at *
  clear hf hrt
  have hxp : wV xp := hm.2.2.2.2.1.2.2.2.1
  clear hm hx
  have hfl : id (AV.sl xp.length (sub 0 (xp.length * 1) (fm u1 xp)) = ul xp) := by show _ = _; rw [sub_all (by rw [fm_len u1_len]; exact Nat.le_refl _)]
  have ll : (fm u1 xp).length = xp.length := by rw [fm_len u1_len, Nat.mul_one]
  repeat refine AW.seq ?_
  refine AW.reg ?_
  iterate 2 refine AOL.s1 (h := ?_)
  refine AOL.nil ?_
  refine AW.kq [1, 2] (h := ?_)
  repeat refine AW.seq ?_
  refine AW.reg ?_
  refine AOL.callD rfl (obollaw18_up_c) (by kernel_rfl) rfl rfl (h := ?_)
  iterate 1 refine AOL.s1 (h := ?_)
  refine AOL.nil ?_
  refine AW.kq [1, 2, 5] (h := ?_)
  repeat refine AW.seq ?_
  refine AW.reg ?_
  iterate 2 refine AOL.s1 (h := ?_)
  refine AOL.callD rfl (cL) (by kernel_rfl) rfl rfl (h := ?_)
  iterate 1 refine AOL.s1 (h := ?_)
  refine AOL.nil ?_
  refine AW.kq [1, 2, 5, 6] (h := ?_)
  repeat refine AW.seq ?_
  refine AW.reg ?_
  iterate 3 refine AOL.s1 (h := ?_)
  refine AOL.kq [1, 2, 5, 23] (h := ?_)
  refine AOL.or 23 30 (os' := ?_) (x := ?_) (h1 := ?_) (h0 := ?_) (h := ?_)
  rotate_left 2
  iterate 2
    · intro hb_ K' hK; (iterate 7 refine AOL.s1 (h := ?_)); refine AOL.kq [1, 2, 5, 30] (h := ?_); exact hK
  refine AOL.nil ?_
  refine AW.kq [1, 2, 5, 30] (h := ?_)
  repeat refine AW.seq ?_
  refine AW.cond rfl (fun c_ => ?_) (fun c_ => ?_)
  · skip
    repeat refine AW.seq ?_
    refine AW.reg ?_
    iterate 2 refine AOL.s1 (h := ?_)
    refine AOL.nil ?_
    refine AW.kq [4] (h := ?_)
    repeat refine AW.seq ?_
    refine AW.ret ?_
    refine ⟨_, [], rfl, HOk.nil _, ?_⟩
    rfl
  have l40 : xp.length ≤ 40 := by
    have := c_
    simp only [Bool.or_eq_false_iff, decide_eq_false_iff_not, Bool.not_eq_false'] at this
    omega
  clear c_
  have b1 : xp.length * 8 ≤ 140737488355328 := by omega
  have b2 : xp.length ≤ 4611686018427387904 := by omega
  have lX : xp.length < 1000000000 := by omega
  have cS1 := obolref13_Same_c hxp hxp lX
  rw [show sameF xp xp = true by simp [sameF]] at cS1
  clear hxp lX l40
  refine AW.skip ?_
  repeat refine AW.seq ?_
  refine AW.reg ?_
  iterate 7 refine AOL.s1 (h := ?_)
  refine AOL.nil ?_
  refine AW.kq [1, 2, 5, 7] (h := ?_)
  refine AW.fz 1512 rfl (fun h => by cases h) (h := ?_)
  rw [show AV.sl xp.length (sub 0 (xp.length * 1) (fm u1 xp)) = ul xp from hfl]
  repeat refine AW.seq ?_
  refine AW.reg ?_
  iterate 3 refine AOL.s1 (h := ?_)
  refine AOL.nil ?_
  refine AW.kq [1, 2, 5, 7, 8] (h := ?_)
  repeat refine AW.seq ?_
  refine AW.reg ?_
  iterate 5 refine AOL.s1 (h := ?_)
  refine AOL.nil ?_
  refine AW.kq [1, 2, 5, 7, 8] (h := ?_)
  repeat refine AW.seq ?_
  refine AW.reg ?_
  iterate 2 refine AOL.s1 (h := ?_)
  refine AOL.callO 5000 (cM) rfl (by kernel_rfl) rfl (by first | rfl | exact frees_fm (fun _ => rfl) _ | exact a64_free _ | exact by8_free _) (by intro l_ hl_; simp [labs, labss] at hl_ <;> exact hl_) (by decide) (by simp only [St.drop, mapT, mapH, kill, kills, del, St.put, ins, ren, rens, reduceIte, Nat.reduceLT, Nat.reduceEqDiff, Bool.false_eq_true]; exact rfl) ?_
  iterate 8 refine AOL.s1 (h := ?_)
  refine AOL.nil ?_
  refine AW.kq [1, 2, 5, 7, 8, 10, 11] (h := ?_)
  repeat refine AW.seq ?_
  refine AW.reg ?_
  iterate 1 refine AOL.s1 (h := ?_)
  refine AOL.nil ?_
  refine AW.kq [1, 2, 5, 7, 8, 10, 11, 12] (h := ?_)
  repeat refine AW.seq ?_
  refine AW.block ?_
  repeat refine AW.seq ?_
  refine AW.loopK [1, 2, 5, 7, 8, 10, 11, 12] (fun n s => ∃ (k : Nat) (W : List Int), s = ⟨102, [(1, i d), (2, .ptr 1032 0), (5, bo true), (7, ul xp), (8, .ptr 1128 0), (10, .ref 5000 0 G.vals.length 1), (11, .val .nilIface), (12, i k)], [(1032, ⟨31, true, [u mr, u mi, u mo, u ms, u xk, u xv, u xo, u xr, i xa, ul xp, u yk, u yv, u yo, u yr, i ya, ul yp, u pv, u po, u pr, u qv, u qo, u qr]⟩), (1128, ⟨31, true, [u mr, u mi, u mo, u ms, u xk, u xv, u xo, u xr, i xa, ul xp, u yk, u yv, u yo, u yr, i ya, ul yp, u pv, u po, u pr, u qv, u qo, u qr]⟩), (1144, ⟨46, true, [i G.v, i G.p, slF rw_ G.rows]⟩), (5000, ⟨22, false, fm u1 W⟩)]⟩ ∧ k ≤ G.vals.length ∧ n = G.vals.length - k ∧ id (W.length = G.vals.length)) (G.vals.length) ?_ ?_
  · exact ⟨0, G.vals, rfl, Nat.zero_le _, rfl, rfl⟩
  rintro n s ⟨k, W, rfl, hkl, rfl, hW⟩
  repeat refine AW.seq ?_
  refine AW.reg ?_
  iterate 4 refine AOL.s1 (h := ?_)
  refine AOL.nil ?_
  refine AW.kq [1, 2, 5, 7, 8, 10, 11, 12, 53] (h := ?_)
  repeat refine AW.seq ?_
  refine AW.cond rfl (fun c_ => ?_) (fun c_ => ?_)
  · have h1 : k < G.vals.length := by simpa using c_
    have k0 : (0:Int) ≤ k := by omega
    have k1 : (k:Int) < G.vals.length := by omega
    have hw := incq h1 (by omega)
    have hlW : (fm u1 W).length = G.vals.length := by rw [fm_len u1_len, Nat.mul_one]; exact hW
    have hb : k + 1 ≤ G.vals.length := h1
    have hst := fmu_set W k 9
    clear c_
    refine AW.skip ?_
    repeat refine AW.seq ?_
    refine AW.block ?_
    repeat refine AW.seq ?_
    refine AW.reg ?_
    iterate 4 refine AOL.s1 (h := ?_)
    refine AOL.nil ?_
    repeat refine AW.seq ?_
    refine AW.reg ?_
    iterate 3 refine AOL.s1 (h := ?_)
    refine AOL.nil ?_
    exact ⟨G.vals.length - (k + 1), by omega, k + 1, W.set k 9, by rw [← hst]; rfl, h1, rfl, by show (W.set k 9).length = _; rw [List.length_set]; exact hW⟩
  repeat refine AW.seq ?_
  refine AW.exit ?_
  repeat (first | refine Kseq.ex ?_ | refine Kloop.ex ?_ | refine Kblock.miss (by decide) ?_)
  refine Kblock.hit ?_
  refine AW.kq [1, 2, 5, 7, 8, 11] (h := ?_)
  repeat refine AW.seq ?_
  refine AW.reg ?_
  iterate 2 refine AOL.s1 (h := ?_)
  refine AOL.callD rfl (cR) (by kernel_rfl) rfl rfl (h := ?_)
  refine AOL.nil ?_
  refine AW.kq [1, 2, 5, 7, 8, 11] (h := ?_)
  repeat refine AW.seq ?_
  refine AW.reg ?_
  iterate 2 refine AOL.s1 (h := ?_)
  refine AOL.callD rfl (cN) (by kernel_rfl) rfl rfl (h := ?_)
  iterate 5 refine AOL.s1 (h := ?_)
  refine AOL.nil ?_
  refine AW.kq [1, 2, 5, 7, 11, 13, 14] (h := ?_)
  repeat refine AW.seq ?_
  refine AW.reg ?_
  iterate 2 refine AOL.s1 (h := ?_)
  refine AOL.callD rfl (cN) (by kernel_rfl) rfl rfl (h := ?_)
  iterate 5 refine AOL.s1 (h := ?_)
  refine AOL.nil ?_
  refine AW.kq [2, 5, 7, 11, 13, 14, 15, 16] (h := ?_)
  repeat refine AW.seq ?_
  refine AW.drw 28 [] (by kernel_rfl) (h := ?_)
  iterate 7 refine ADL.dm 1 (h := ?_)
  refine ADL.call rfl (cS1) (by kernel_rfl) rfl rfl (h := ?_)
  iterate 4 refine ADL.dm 1 (h := ?_)
  refine ADL.call rfl (cS2) (by kernel_rfl) rfl rfl (h := ?_)
  iterate 15 refine ADL.dm 1 (h := ?_)
  refine ADL.done hmix rfl rfl (hT := ?_)
  iterate 1 refine AOL.s1 (h := ?_)
  refine AOL.nil ?_
  refine AW.kq [4] (h := ?_)
  repeat refine AW.seq ?_
  refine AW.ret ?_
  refine ⟨_, [], rfl, HOk.nil _, ?_⟩
  rfl
theorem obollaw18_CircuitStays_c {m : Mv} {d : Int} (hm : wM m) (hx : -9223372036854775808 ≤ m.x.a ∧ -9223372036854775808 ≤ m.y.a) : Fn Try.prog 6 [.agg (mvc m), i d] [] (fun r _ => r = bo true) := by
  obtain ⟨mr, mi, mo, ms, ⟨xk, ⟨xv, xo, xr⟩, xa, xp⟩, ⟨yk, ⟨yv, yo, yr⟩, ya, yp⟩, ⟨pv, po, pr⟩, ⟨qv, qo, qr⟩⟩ := m
  cases hf : fitsH (⟨mr, mi, mo, ms, ⟨xk, (xv, xo, xr), xa, xp⟩, ⟨yk, (yv, yo, yr), ya, yp⟩, (pv, po, pr), (qv, qo, qr)⟩ : Mv) d with
  | false => exact CircuitStays_n hm hx hf
  | true => exact CircuitStays_y hm hx hf

end Go.Proofs.Ytngphcdhdllnnaa.E.M
end
section
/- What is handed in: numbers, a move. -/
set_option linter.unusedVariables false
set_option linter.unusedSimpArgs false
set_option maxRecDepth 10000
open Go Go.Proofs.Ytngphcdhdllnnaa.E Go.Proofs
namespace Go.Proofs.Ytngphcdhdllnnaa.E.M
theorem wf_w64q {a : Int} (h : (Lit.int .u64 a).wf = true) : w64 a := by
  simp [Lit.wf, IntKind.min, IntKind.max, IntKind.bits, IntKind.signed] at h
  exact ⟨h.1, by omega⟩
abbrev i64r (a : Int) : Prop := -9223372036854775808 ≤ a ∧ a < 9223372036854775808
theorem wf_i64q {a : Int} (h : (Lit.int .i64 a).wf = true) : i64r a := by
  simp [Lit.wf, IntKind.min, IntKind.max, IntKind.bits, IntKind.signed] at h
  exact ⟨h.1, by omega⟩
theorem open_intq {c : AV} (h : PV Try.prog 6 3 c) : ∃ n, c = i n ∧ i64r n := by
  obtain ⟨avs, ⟨n, hn, rfl⟩, hc⟩ := h
  have hc : [AV.val (.int .i64 n)] = [c] := hc
  simp only [List.cons.injEq, and_true] at hc
  exact ⟨n, hc.symm, wf_i64q hn⟩
theorem ta_u64s {k : Nat} : ∀ {es : List (List AV)}, (∀ x ∈ es, TA Try.prog (k + 1) 22 x) → ∃ L : List Int, L.length = es.length ∧ fm u1 L = es.flatten ∧ wV L
  | [], _ => ⟨[], rfl, rfl, by intro v hv; cases hv⟩
  | e :: es, h => by
    obtain ⟨g, hg, rfl⟩ := h e List.mem_cons_self
    obtain ⟨L, h1, h2, h3⟩ := ta_u64s fun x hx => h x (List.mem_cons_of_mem _ hx)
    refine ⟨g :: L, by simp [h1], by rw [List.flatten_cons, ← h2]; rfl, ?_⟩
    intro g' hg'
    rcases List.mem_cons.1 hg' with rfl | hg'
    · exact wf_w64q hg
    · exact h3 _ hg'
theorem ta_note {k : Nat} {x : List AV} (h : TA Try.prog (k + 2) 24 x) : ∃ n : Int × Int × Int, x = ntc n ∧ wN n := by
  obtain ⟨_, _, rfl, ⟨v1, h1, rfl⟩, _, _, rfl, ⟨v2, h2, rfl⟩, _, _, rfl, ⟨v3, h3, rfl⟩, hb⟩ := h
  cases hb
  exact ⟨(v1, v2, v3), rfl, wf_w64q h1, wf_w64q h2, wf_w64q h3⟩
theorem ta_input {x : List AV} (h : TA Try.prog 4 27 x) : ∃ q : Ip, x = ipc q ∧ wI q ∧ -9223372036854775808 ≤ q.a := by
  obtain ⟨_, _, rfl, ⟨v1, h1, rfl⟩, _, _, rfl, h2, _, _, rfl, ⟨v3, h3, rfl⟩, _, _, rfl, ⟨es, hl, rfl, he⟩, hb⟩ := h
  cases hb
  obtain ⟨n, rfl, hn⟩ := ta_note (k := 1) h2
  obtain ⟨L, l1, l2, l3⟩ := ta_u64s he
  have ha := wf_i64q h3
  exact ⟨⟨v1, n, v3, L⟩, by show _ = [u v1, u n.1, u n.2.1, u n.2.2, i v3, AV.sl L.length (fm u1 L)]; rw [l1, l2]; rfl, ⟨wf_w64q h1, hn, ha.2, l3, by show L.length ≤ _; rw [l1]; exact hl⟩, ha.1⟩
theorem ta_inputs {x : List AV} (h : TA Try.prog 5 28 x) : ∃ p q : Ip, x = ipc p ++ ipc q ∧ wI p ∧ wI q ∧ -9223372036854775808 ≤ p.a ∧ -9223372036854775808 ≤ q.a := by
  obtain ⟨_, _, rfl, h1, _, _, rfl, h2, hb⟩ := h
  cases hb
  obtain ⟨p, rfl, p1, p2⟩ := ta_input h1
  obtain ⟨q, rfl, q1, q2⟩ := ta_input h2
  exact ⟨p, q, rfl, p1, q1, p2, q2⟩
theorem ta_notes {x : List AV} (h : TA Try.prog 5 29 x) : ∃ p q : Int × Int × Int, x = ntc p ++ ntc q ∧ wN p ∧ wN q := by
  obtain ⟨_, _, rfl, h1, _, _, rfl, h2, hb⟩ := h
  cases hb
  obtain ⟨p, rfl, p1⟩ := ta_note (k := 2) h1
  obtain ⟨q, rfl, q1⟩ := ta_note (k := 2) h2
  exact ⟨p, q, rfl, p1, q1⟩
theorem open_move {c : AV} (h : PV Try.prog 6 31 c) : ∃ m : Mv, c = .agg (mvc m) ∧ wM m ∧ (-9223372036854775808 ≤ m.x.a ∧ -9223372036854775808 ≤ m.y.a) := by
  obtain ⟨avs, ⟨_, _, rfl, ⟨v1, h1, rfl⟩, _, _, rfl, ⟨v2, h2, rfl⟩, _, _, rfl, ⟨v3, h3, rfl⟩, _, _, rfl, ⟨v4, h4, rfl⟩, _, _, rfl, h5, _, _, rfl, h6, hb⟩, hc⟩ := h
  cases hb
  obtain ⟨x, y, rfl, x1, y1, x2, y2⟩ := ta_inputs h5
  obtain ⟨p, q, rfl, p1, q1⟩ := ta_notes h6
  exact ⟨⟨v1, v2, v3, v4, x, y, p, q⟩, hc, ⟨wf_w64q h1, wf_w64q h2, wf_w64q h3, wf_w64q h4, x1, y1, p1, q1⟩, x2, y2⟩
end Go.Proofs.Ytngphcdhdllnnaa.E.M
end
