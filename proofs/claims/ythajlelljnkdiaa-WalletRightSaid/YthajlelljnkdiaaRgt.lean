/- obolref18.Right: whether a move is right: a contract over E. -/
import Derived.Test.YthajlelljnkdiaaClm
import Derived.Test.YthajlelljnkdiaaProg
import Derived.KernelRfl
set_option linter.unusedVariables false
set_option linter.unusedSimpArgs false
set_option maxRecDepth 10000
open Go Go.Proofs.Ythajlelljnkdiaa.E Go.Proofs
namespace Go.Proofs.Ythajlelljnkdiaa.E.M
abbrev TFm : Prop := tSz Try.prog 42 = some 22 ∧
    tAgg Try.prog 42 = some true ∧
    tBytes Try.prog 42 = some 208 ∧
    tZero Try.prog 42 = some [(.int .u64 0), (.int .u64 0), (.int .u64 0), (.int .u64 0), (.int .u64 0), (.int .u64 0), (.int .u64 0), (.int .u64 0), (.int .i64 0), (.slice none 0 0), (.int .u64 0), (.int .u64 0), (.int .u64 0), (.int .u64 0), (.int .i64 0), (.slice none 0 0), (.int .u64 0), (.int .u64 0), (.int .u64 0), (.int .u64 0), (.int .u64 0), (.int .u64 0)] ∧
    tSlice Try.prog 42 = none ∧
    tIface Try.prog 42 = some false ∧
    tCls Try.prog 42 = .other ∧
    tField Try.prog 42 0 = some (0, 23) ∧
    tField Try.prog 42 1 = some (1, 23) ∧
    tField Try.prog 42 2 = some (2, 23) ∧
    tField Try.prog 42 3 = some (3, 23) ∧
    tField Try.prog 42 4 = some (4, 39) ∧
    tField Try.prog 42 5 = some (16, 40) ∧
    (∀ ps, aBuild Try.prog 42 ps = (aFill ([(0, 1), (1, 1), (2, 1), (3, 1), (4, 12), (16, 6)][·]?) [.val (.int .u64 0), .val (.int .u64 0), .val (.int .u64 0), .val (.int .u64 0), .val (.int .u64 0), .val (.int .u64 0), .val (.int .u64 0), .val (.int .u64 0), .val (.int .i64 0), .val (.slice none 0 0), .val (.int .u64 0), .val (.int .u64 0), .val (.int .u64 0), .val (.int .u64 0), .val (.int .i64 0), .val (.slice none 0 0), .val (.int .u64 0), .val (.int .u64 0), .val (.int .u64 0), .val (.int .u64 0), .val (.int .u64 0), .val (.int .u64 0)] ps).map .agg) ∧
    tSz Try.prog 39 = some 12 ∧
    tAgg Try.prog 39 = some true ∧
    tBytes Try.prog 39 = some 128 ∧
    tZero Try.prog 39 = some [(.int .u64 0), (.int .u64 0), (.int .u64 0), (.int .u64 0), (.int .i64 0), (.slice none 0 0), (.int .u64 0), (.int .u64 0), (.int .u64 0), (.int .u64 0), (.int .i64 0), (.slice none 0 0)] ∧
    tSlice Try.prog 39 = none ∧
    tArray Try.prog 39 = some (2, 38) ∧
    Try.prog.underlying 39 = some (.array 2 38) ∧
    tIface Try.prog 39 = some false ∧
    tCls Try.prog 39 = .other ∧
    (∀ ps, aBuild Try.prog 39 ps = (aFill (fun i => some (i * 6, 6)) [.val (.int .u64 0), .val (.int .u64 0), .val (.int .u64 0), .val (.int .u64 0), .val (.int .i64 0), .val (.slice none 0 0), .val (.int .u64 0), .val (.int .u64 0), .val (.int .u64 0), .val (.int .u64 0), .val (.int .i64 0), .val (.slice none 0 0)] ps).map .agg) ∧
    tSz Try.prog 40 = some 6 ∧
    tAgg Try.prog 40 = some true ∧
    tBytes Try.prog 40 = some 48 ∧
    tZero Try.prog 40 = some [(.int .u64 0), (.int .u64 0), (.int .u64 0), (.int .u64 0), (.int .u64 0), (.int .u64 0)] ∧
    tSlice Try.prog 40 = none ∧
    tArray Try.prog 40 = some (2, 35) ∧
    Try.prog.underlying 40 = some (.array 2 35) ∧
    tIface Try.prog 40 = some false ∧
    tCls Try.prog 40 = .other ∧
    (∀ ps, aBuild Try.prog 40 ps = (aFill (fun i => some (i * 3, 3)) [.val (.int .u64 0), .val (.int .u64 0), .val (.int .u64 0), .val (.int .u64 0), .val (.int .u64 0), .val (.int .u64 0)] ps).map .agg) ∧
    tSz Try.prog 35 = some 3 ∧
    tAgg Try.prog 35 = some true ∧
    tBytes Try.prog 35 = some 24 ∧
    tZero Try.prog 35 = some [(.int .u64 0), (.int .u64 0), (.int .u64 0)] ∧
    tSlice Try.prog 35 = none ∧
    tIface Try.prog 35 = some false ∧
    tCls Try.prog 35 = .other ∧
    tField Try.prog 35 0 = some (0, 23) ∧
    tField Try.prog 35 1 = some (1, 23) ∧
    tField Try.prog 35 2 = some (2, 23) ∧
    (∀ ps, aBuild Try.prog 35 ps = (aFill ([(0, 1), (1, 1), (2, 1)][·]?) [.val (.int .u64 0), .val (.int .u64 0), .val (.int .u64 0)] ps).map .agg) ∧
    tSz Try.prog 38 = some 6 ∧
    tAgg Try.prog 38 = some true ∧
    tBytes Try.prog 38 = some 64 ∧
    tZero Try.prog 38 = some [(.int .u64 0), (.int .u64 0), (.int .u64 0), (.int .u64 0), (.int .i64 0), (.slice none 0 0)] ∧
    tSlice Try.prog 38 = none ∧
    tIface Try.prog 38 = some false ∧
    tCls Try.prog 38 = .other ∧
    tField Try.prog 38 0 = some (0, 23) ∧
    tField Try.prog 38 1 = some (1, 35) ∧
    tField Try.prog 38 2 = some (4, 3) ∧
    tField Try.prog 38 3 = some (5, 36) ∧
    (∀ ps, aBuild Try.prog 38 ps = (aFill ([(0, 1), (1, 3), (4, 1), (5, 1)][·]?) [.val (.int .u64 0), .val (.int .u64 0), .val (.int .u64 0), .val (.int .u64 0), .val (.int .i64 0), .val (.slice none 0 0)] ps).map .agg) ∧
    tSz Try.prog 36 = some 1 ∧
    tAgg Try.prog 36 = some false ∧
    tBytes Try.prog 36 = some 24 ∧
    tZero Try.prog 36 = some [(.slice none 0 0)] ∧
    tSlice Try.prog 36 = some 23 ∧
    Try.prog.underlying 36 = some (.slice 23) ∧
    tIface Try.prog 36 = some false ∧
    tCls Try.prog 36 = .slice ∧
    tSz Try.prog 23 = some 1 ∧
    tAgg Try.prog 23 = some false ∧
    tBytes Try.prog 23 = some 8 ∧
    tZero Try.prog 23 = some [(.int .u64 0)] ∧
    tSlice Try.prog 23 = none ∧
    tInt Try.prog 23 = some .u64 ∧
    Try.prog.underlying 23 = some (.int .u64) ∧
    tIface Try.prog 23 = some false ∧
    tCls Try.prog 23 = .other ∧
    tSz Try.prog 3 = some 1 ∧
    tAgg Try.prog 3 = some false ∧
    tBytes Try.prog 3 = some 8 ∧
    tZero Try.prog 3 = some [(.int .i64 0)] ∧
    tSlice Try.prog 3 = none ∧
    tInt Try.prog 3 = some .i64 ∧
    Try.prog.underlying 3 = some (.int .i64) ∧
    tIface Try.prog 3 = some false ∧
    tCls Try.prog 3 = .other
theorem tfm : TFm :=
  ⟨rfl, rfl, rfl, rfl, rfl, rfl, rfl, rfl, rfl, rfl, rfl, rfl, rfl, fun _ => rfl, rfl, rfl, rfl, rfl, rfl, rfl, rfl, rfl, rfl, fun _ => rfl, rfl, rfl, rfl, rfl, rfl, rfl, rfl, rfl, rfl, fun _ => rfl, rfl, rfl, rfl, rfl, rfl, rfl, rfl, rfl, rfl, rfl, fun _ => rfl, rfl, rfl, rfl, rfl, rfl, rfl, rfl, rfl, rfl, rfl, rfl, fun _ => rfl, rfl, rfl, rfl, rfl, rfl, rfl, rfl, rfl, rfl, rfl, rfl, rfl, rfl, rfl, rfl, rfl, rfl, rfl, rfl, rfl, rfl, rfl, rfl, rfl, rfl, rfl⟩
/-- a move -/
structure Mv where
  r : Int
  i : Int
  o : Int
  s : Int
  x : Ip
  y : Ip
  p : Int × Int × Int
  q : Int × Int × Int
abbrev ipc (x : Ip) : List AV := [u x.k, u x.n.1, u x.n.2.1, u x.n.2.2, E.M.i x.a, ul x.p]
abbrev ntc (n : Int × Int × Int) : List AV := [u n.1, u n.2.1, u n.2.2]
abbrev mvc (m : Mv) : List AV := [u m.r, u m.i, u m.o, u m.s] ++ ipc m.x ++ ipc m.y ++ ntc m.p ++ ntc m.q
abbrev wI (x : Ip) : Prop := w64 x.k ∧ wN x.n ∧ (x.a < 9223372036854775808) ∧ wV x.p ∧ x.p.length < 1000000000
abbrev wM (m : Mv) : Prop := w64 m.r ∧ w64 m.i ∧ w64 m.o ∧ w64 m.s ∧ wI m.x ∧ wI m.y ∧ wN m.p ∧ wN m.q
def okI (r : Int) (x : Ip) (v : Int) : Bool := decide (x.n.2.1 = twoH x.k 2) && (decide (x.n.1 = 0) || decide (climbH x.p (nonneg x.a) (mrkH x.n) = r)) && decide (v < 4294967296)
def rightH (m : Mv) : Bool := okI m.r m.x m.p.1 && okI m.r m.y m.q.1 && decide (rAdd (rAdd m.i m.x.n.1) m.y.n.1 = rAdd (rAdd m.o m.p.1) m.q.1)
set_option maxHeartbeats 8000000 in
theorem obolref18_Right_c {m : Mv} (hm : wM m) : Fn Try.prog 9 [.agg (mvc m)] [] (fun r _ => r = bo (rightH m)) := by
  obtain ⟨mr, mi, mo, ms, ⟨xk, ⟨xv, xo, xr⟩, xa, xp⟩, ⟨yk, ⟨yv, yo, yr⟩, ya, yp⟩, ⟨pv, po, pr⟩, ⟨qv, qo, qr⟩⟩ := m
  obtain ⟨w1, w2, w3, w4, ⟨x1, ⟨x2, x3, x4⟩, x5, x6, x7⟩, ⟨y1, ⟨y2, y3, y4⟩, y5, y6, y7⟩, ⟨p1, p2, p3⟩, ⟨q1, q2, q3⟩⟩ := hm
  simp only at w1 w2 w3 w4 x1 x2 x3 x4 x5 x6 x7 y1 y2 y3 y4 y5 y6 y7 p1 p2 p3 q1 q2 q3
  have mx : w64 (mrkH (xv, xo, xr)) := (manyH_l _).w
  have my : w64 (mrkH (yv, yo, yr)) := (manyH_l _).w
  have cmx := obolref17_Mark_c (n := (xv, xo, xr)) ⟨x2, x3, x4⟩
  have cmy := obolref17_Mark_c (n := (yv, yo, yr)) ⟨y2, y3, y4⟩
  have ccx := obolref16_Climb_c (n := xa) mx x5 x6 x7
  have ccy := obolref16_Climb_c (n := ya) my y5 y6 y7
  unfold rightH okI
  simp only
  generalize mrkH (xv, xo, xr) = MX at *
  generalize mrkH (yv, yo, yr) = MY at *
  generalize climbH xp (nonneg xa) MX = CX at *
  generalize climbH yp (nonneg ya) MY = CY at *
  have n0 : Int.toNat 0 = 0 := rfl
  have n1 : Int.toNat 1 = 1 := rfl
  have q0 : (0:Int) ≤ 0 := by decide
  have q1' : (0:Int) ≤ 1 := by decide
  have x02 : (0:Int) < ((2:Nat):Int) := by decide
  have x12 : (1:Int) < ((2:Nat):Int) := by decide
  have a1 : IntKind.i64.wrap (0 + 1) = 1 := by decide
  have a2 : IntKind.i64.wrap (1 + 1) = 2 := by decide
  have i02 : decide ((0:Int) < 2) = true := rfl
  have i12 : decide ((1:Int) < 2) = true := rfl
  have i22 : decide ((2:Int) < 2) = false := rfl
  show Fn Try.prog 9 [.agg [u mr, u mi, u mo, u ms, u xk, u xv, u xo, u xr, i xa, ul xp, u yk, u yv, u yo, u yr, i ya, ul yp, u pv, u po, u pr, u qv, u qo, u qr]] [] _
  refine Fn.enter Try.func9 Try.ntmps9 rfl (h := ?_)
  have tf := tfm
  have ot_ : (false || true) = true := rfl
  repeat refine AW.seq ?_
  refine AW.reg ?_
  iterate 2 refine AOL.s1 (h := ?_)
  refine AOL.nil ?_
  refine AW.kq [1] (h := ?_)
  repeat refine AW.seq ?_
  refine AW.reg ?_
  iterate 3 refine AOL.s1 (h := ?_)
  refine AOL.nil ?_
  refine AW.kq [1, 3] (h := ?_)
  repeat refine AW.seq ?_
  refine AW.reg ?_
  iterate 3 refine AOL.s1 (h := ?_)
  refine AOL.nil ?_
  refine AW.kq [1, 3, 4] (h := ?_)
  repeat refine AW.seq ?_
  refine AW.reg ?_
  iterate 1 refine AOL.s1 (h := ?_)
  refine AOL.nil ?_
  refine AW.kq [1, 3, 4, 5] (h := ?_)
  repeat refine AW.seq ?_
  refine AW.block ?_
  repeat refine AW.seq ?_
  refine AW.rounds ?_
  refine AWin.next [1, 3, 4, 5] (h := ?_)
  repeat refine AW.seq ?_
  refine AW.reg ?_
  iterate 2 refine AOL.s1 (h := ?_)
  refine AOL.nil ?_
  refine AW.kq [1, 3, 4, 5, 12] (h := ?_)
  repeat refine AW.seq ?_
  refine AW.cond rfl (fun c_ => ?_) (fun c_ => ?_)
  rotate_left
  · cases c_
  refine AW.skip ?_
  repeat refine AW.seq ?_
  refine AW.block ?_
  repeat refine AW.seq ?_
  refine AW.reg ?_
  iterate 6 refine AOL.s1 (h := ?_)
  refine AOL.nil ?_
  refine AW.kq [1, 3, 4, 5, 6] (h := ?_)
  repeat refine AW.seq ?_
  refine AW.drw 6 [] (by kernel_rfl) (h := ?_)
  iterate 5 refine ADL.dm 1 (h := ?_)
  refine ADL.call rfl (obolref10_Two_c (b := 2) x1 (by decide)) (by kernel_rfl) rfl rfl (h := ?_)
  refine ADL.done hmix rfl rfl (hT := ?_)
  iterate 1 refine AOL.s1 (h := ?_)
  refine AOL.nil ?_
  refine AW.kq [1, 3, 4, 5, 6, 25] (h := ?_)
  repeat refine AW.seq ?_
  refine AW.cond rfl (fun d0 => ?_) (fun d0 => ?_)
  · have d_ : ¬ xo = twoH xk 2 := by simpa using d0
    repeat refine AW.seq ?_
    refine AW.reg ?_
    iterate 1 refine AOL.s1 (h := ?_)
    refine AOL.nil ?_
    refine AW.kq [2] (h := ?_)
    repeat refine AW.seq ?_
    refine AW.ret ?_
    refine ⟨_, [], rfl, HOk.nil _, ?_⟩
    simp only [one?, decide_eq_false d_, Bool.false_and, Bool.and_false]
  obtain rfl : xo = twoH xk 2 := by simpa using d0
  clear d0
  refine AW.skip ?_
  repeat refine AW.seq ?_
  refine AW.midK [1, 3, 4, 5, 6, 42] (fun t => t = ⟨64, [(1, .ptr 1016 0), (3, u mi), (4, u mo), (5, i 0), (6, .ptr 1096 0), (42, bo (xv != 0 && CX != mr))], [(1016, ⟨42, true, [u mr, u mi, u mo, u ms, u xk, u xv, u (twoH xk 2), u xr, i xa, ul xp, u yk, u yv, u yo, u yr, i ya, ul yp, u pv, u po, u pr, u qv, u qo, u qr]⟩), (1096, ⟨38, true, [u xk, u xv, u (twoH xk 2), u xr, i xa, ul xp]⟩)]⟩) ?_ ?_
  · cases g_ : (xv != 0) with
    | false =>
      refine AW.drw 15 [] (by kernel_rfl) (h := ?_)
      iterate 15 refine ADL.dm 1 (h := ?_)
      refine ADL.done hmix rfl rfl (hT := ?_)
      iterate 2 refine AOL.s1 (h := ?_)
      refine AOL.nil ?_
      exact rfl
    | true =>
      refine AW.drw 15 [] (by kernel_rfl) (h := ?_)
      iterate 7 refine ADL.dm 1 (h := ?_)
      refine ADL.call rfl (cmx) (by kernel_rfl) rfl rfl (h := ?_)
      iterate 4 refine ADL.dm 1 (h := ?_)
      refine ADL.call rfl (ccx) (by kernel_rfl) rfl rfl (h := ?_)
      iterate 2 refine ADL.dm 1 (h := ?_)
      refine ADL.done hmix rfl rfl (hT := ?_)
      iterate 2 refine AOL.s1 (h := ?_)
      refine AOL.nil ?_
      exact rfl
  rintro t rfl
  repeat refine AW.seq ?_
  refine AW.cond rfl (fun f0 => ?_) (fun f0 => ?_)
  · have f_ : ¬ xv = 0 ∧ ¬ CX = mr := by simpa using f0
    repeat refine AW.seq ?_
    refine AW.reg ?_
    iterate 1 refine AOL.s1 (h := ?_)
    refine AOL.nil ?_
    refine AW.kq [2] (h := ?_)
    repeat refine AW.seq ?_
    refine AW.ret ?_
    refine ⟨_, [], rfl, HOk.nil _, ?_⟩
    simp only [one?, decide_eq_false f_.1, decide_eq_false f_.2, Bool.false_and, Bool.and_false, Bool.or_false]
  have g0 : (decide (xv = 0) || decide (CX = mr)) = true := by simp at f0; simp; omega
  clear f0
  refine AW.skip ?_
  repeat refine AW.seq ?_
  refine AW.reg ?_
  iterate 6 refine AOL.s1 (h := ?_)
  refine AOL.nil ?_
  refine AW.kq [1, 3, 4, 5, 6, 48] (h := ?_)
  repeat refine AW.seq ?_
  refine AW.cond rfl (fun h0 => ?_) (fun h0 => ?_)
  · have h_ : ¬ pv < 4294967296 := by simp at h0; omega
    repeat refine AW.seq ?_
    refine AW.reg ?_
    iterate 1 refine AOL.s1 (h := ?_)
    refine AOL.nil ?_
    refine AW.kq [2] (h := ?_)
    repeat refine AW.seq ?_
    refine AW.ret ?_
    refine ⟨_, [], rfl, HOk.nil _, ?_⟩
    simp only [one?, decide_eq_false h_, Bool.false_and, Bool.and_false]
  have k0 : pv < 4294967296 := by simp at h0; omega
  clear h0
  refine AW.skip ?_
  repeat refine AW.seq ?_
  refine AW.reg ?_
  iterate 4 refine AOL.s1 (h := ?_)
  refine AOL.callD rfl (obolref07_Plus_c w2 x2) (by kernel_rfl) rfl rfl (h := ?_)
  iterate 1 refine AOL.s1 (h := ?_)
  refine AOL.nil ?_
  refine AW.kq [1, 3, 4, 5] (h := ?_)
  repeat refine AW.seq ?_
  refine AW.reg ?_
  iterate 6 refine AOL.s1 (h := ?_)
  refine AOL.callD rfl (obolref07_Plus_c w3 p1) (by kernel_rfl) rfl rfl (h := ?_)
  iterate 1 refine AOL.s1 (h := ?_)
  refine AOL.nil ?_
  repeat refine AW.seq ?_
  refine AW.let 1096 (h := ?_)
  repeat refine AW.seq ?_
  refine AW.reg ?_
  iterate 3 refine AOL.s1 (h := ?_)
  refine AOL.nil ?_
  refine AWin.next [1, 3, 4, 5] (h := ?_)
  repeat refine AW.seq ?_
  refine AW.reg ?_
  iterate 2 refine AOL.s1 (h := ?_)
  refine AOL.nil ?_
  refine AW.kq [1, 3, 4, 5, 12] (h := ?_)
  repeat refine AW.seq ?_
  refine AW.cond rfl (fun c_ => ?_) (fun c_ => ?_)
  rotate_left
  · cases c_
  refine AW.skip ?_
  repeat refine AW.seq ?_
  refine AW.block ?_
  repeat refine AW.seq ?_
  refine AW.reg ?_
  iterate 6 refine AOL.s1 (h := ?_)
  refine AOL.nil ?_
  refine AW.kq [1, 3, 4, 5, 6] (h := ?_)
  repeat refine AW.seq ?_
  refine AW.drw 6 [] (by kernel_rfl) (h := ?_)
  iterate 5 refine ADL.dm 1 (h := ?_)
  refine ADL.call rfl (obolref10_Two_c (b := 2) y1 (by decide)) (by kernel_rfl) rfl rfl (h := ?_)
  refine ADL.done hmix rfl rfl (hT := ?_)
  iterate 1 refine AOL.s1 (h := ?_)
  refine AOL.nil ?_
  refine AW.kq [1, 3, 4, 5, 6, 25] (h := ?_)
  repeat refine AW.seq ?_
  refine AW.cond rfl (fun d1 => ?_) (fun d1 => ?_)
  · have d_ : ¬ yo = twoH yk 2 := by simpa using d1
    repeat refine AW.seq ?_
    refine AW.reg ?_
    iterate 1 refine AOL.s1 (h := ?_)
    refine AOL.nil ?_
    refine AW.kq [2] (h := ?_)
    repeat refine AW.seq ?_
    refine AW.ret ?_
    refine ⟨_, [], rfl, HOk.nil _, ?_⟩
    simp only [one?, decide_eq_false d_, Bool.false_and, Bool.and_false]
  obtain rfl : yo = twoH yk 2 := by simpa using d1
  clear d1
  refine AW.skip ?_
  repeat refine AW.seq ?_
  refine AW.midK [1, 3, 4, 5, 6, 42] (fun t => t = ⟨64, [(1, .ptr 1016 0), (3, u (rAdd mi xv)), (4, u (rAdd mo pv)), (5, i 1), (6, .ptr 1096 0), (42, bo (yv != 0 && CY != mr))], [(1016, ⟨42, true, [u mr, u mi, u mo, u ms, u xk, u xv, u (twoH xk 2), u xr, i xa, ul xp, u yk, u yv, u (twoH yk 2), u yr, i ya, ul yp, u pv, u po, u pr, u qv, u qo, u qr]⟩), (1096, ⟨38, true, [u yk, u yv, u (twoH yk 2), u yr, i ya, ul yp]⟩)]⟩) ?_ ?_
  · cases g_ : (yv != 0) with
    | false =>
      refine AW.drw 15 [] (by kernel_rfl) (h := ?_)
      iterate 15 refine ADL.dm 1 (h := ?_)
      refine ADL.done hmix rfl rfl (hT := ?_)
      iterate 2 refine AOL.s1 (h := ?_)
      refine AOL.nil ?_
      exact rfl
    | true =>
      refine AW.drw 15 [] (by kernel_rfl) (h := ?_)
      iterate 7 refine ADL.dm 1 (h := ?_)
      refine ADL.call rfl (cmy) (by kernel_rfl) rfl rfl (h := ?_)
      iterate 4 refine ADL.dm 1 (h := ?_)
      refine ADL.call rfl (ccy) (by kernel_rfl) rfl rfl (h := ?_)
      iterate 2 refine ADL.dm 1 (h := ?_)
      refine ADL.done hmix rfl rfl (hT := ?_)
      iterate 2 refine AOL.s1 (h := ?_)
      refine AOL.nil ?_
      exact rfl
  rintro t rfl
  repeat refine AW.seq ?_
  refine AW.cond rfl (fun f1 => ?_) (fun f1 => ?_)
  · have f_ : ¬ yv = 0 ∧ ¬ CY = mr := by simpa using f1
    repeat refine AW.seq ?_
    refine AW.reg ?_
    iterate 1 refine AOL.s1 (h := ?_)
    refine AOL.nil ?_
    refine AW.kq [2] (h := ?_)
    repeat refine AW.seq ?_
    refine AW.ret ?_
    refine ⟨_, [], rfl, HOk.nil _, ?_⟩
    simp only [one?, decide_eq_false f_.1, decide_eq_false f_.2, Bool.false_and, Bool.and_false, Bool.or_false]
  have g1 : (decide (yv = 0) || decide (CY = mr)) = true := by simp at f1; simp; omega
  clear f1
  refine AW.skip ?_
  repeat refine AW.seq ?_
  refine AW.reg ?_
  iterate 6 refine AOL.s1 (h := ?_)
  refine AOL.nil ?_
  refine AW.kq [1, 3, 4, 5, 6, 48] (h := ?_)
  repeat refine AW.seq ?_
  refine AW.cond rfl (fun h1 => ?_) (fun h1 => ?_)
  · have h_ : ¬ qv < 4294967296 := by simp at h1; omega
    repeat refine AW.seq ?_
    refine AW.reg ?_
    iterate 1 refine AOL.s1 (h := ?_)
    refine AOL.nil ?_
    refine AW.kq [2] (h := ?_)
    repeat refine AW.seq ?_
    refine AW.ret ?_
    refine ⟨_, [], rfl, HOk.nil _, ?_⟩
    simp only [one?, decide_eq_false h_, Bool.false_and, Bool.and_false]
  have k1 : qv < 4294967296 := by simp at h1; omega
  clear h1
  refine AW.skip ?_
  repeat refine AW.seq ?_
  refine AW.reg ?_
  iterate 4 refine AOL.s1 (h := ?_)
  refine AOL.callD rfl (obolref07_Plus_c (rAdd_l _ _).w y2) (by kernel_rfl) rfl rfl (h := ?_)
  iterate 1 refine AOL.s1 (h := ?_)
  refine AOL.nil ?_
  refine AW.kq [1, 3, 4, 5] (h := ?_)
  repeat refine AW.seq ?_
  refine AW.reg ?_
  iterate 6 refine AOL.s1 (h := ?_)
  refine AOL.callD rfl (obolref07_Plus_c (rAdd_l _ _).w q1) (by kernel_rfl) rfl rfl (h := ?_)
  iterate 1 refine AOL.s1 (h := ?_)
  refine AOL.nil ?_
  repeat refine AW.seq ?_
  refine AW.let 1096 (h := ?_)
  repeat refine AW.seq ?_
  refine AW.reg ?_
  iterate 3 refine AOL.s1 (h := ?_)
  refine AOL.nil ?_
  refine AWin.next [1, 3, 4, 5] (h := ?_)
  repeat refine AW.seq ?_
  refine AW.reg ?_
  iterate 2 refine AOL.s1 (h := ?_)
  refine AOL.nil ?_
  refine AW.kq [1, 3, 4, 5, 12] (h := ?_)
  repeat refine AW.seq ?_
  refine AW.cond rfl (fun c_ => ?_) (fun c_ => ?_)
  · cases c_
  repeat refine AW.seq ?_
  refine AW.exit ?_
  repeat (first | refine Kseq.ex ?_ | refine Kloop.ex ?_ | refine Kblock.miss (by decide) ?_)
  refine Kblock.hit ?_
  refine AW.kq [3, 4] (h := ?_)
  repeat refine AW.seq ?_
  refine AW.reg ?_
  iterate 4 refine AOL.s1 (h := ?_)
  refine AOL.nil ?_
  refine AW.kq [2] (h := ?_)
  repeat refine AW.seq ?_
  refine AW.ret ?_
  refine ⟨_, [], rfl, HOk.nil _, ?_⟩
  simp only [one?, decide_true, g0, g1, decide_eq_true k0, decide_eq_true k1, Bool.true_and]
  rfl
end Go.Proofs.Ythajlelljnkdiaa.E.M

