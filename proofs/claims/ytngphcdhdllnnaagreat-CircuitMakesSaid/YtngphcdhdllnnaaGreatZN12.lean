/- Texts joined: ZMCri, ZMGpl, ZMGpm, ZMGpn, ZMGpo, ZMGpq, ZMClw, ZMClx, ZMCup, ZMCla, ZMGai. -/
import Derived.Test.YtngphcdhdllnnaaGreatZN10
import Derived.Test.YtngphcdhdllnnaaGreatProg
import Derived.KernelRfl
import Derived.Test.YtngphcdhdllnnaaGreatZN8
import Derived.Test.YtngphcdhdllnnaaGreatZN6
import Derived.Test.YtngphcdhdllnnaaGreatZN11
section
/- circuit.Right: whether a move is right: a contract over E. -/
set_option linter.unusedVariables false
set_option linter.unusedSimpArgs false
set_option maxRecDepth 10000
open Go Go.Proofs.YtngphcdhdllnnaaGreat.E Go.Proofs
namespace Go.Proofs.YtngphcdhdllnnaaGreat.E.M
def inOk (r : Int) (x : Ip) : Bool := decide (x.n.2.1 = twoH x.k 2) && (decide (x.n.1 = 0) || decide (climbH x.p (nonneg x.a) (mrkH x.n) = r))
set_option maxHeartbeats 16000000 in
theorem circuit_Right_c {m : Mv} {d : Int} (hm : wM m) (hx : -9223372036854775808 ≤ m.x.a ∧ -9223372036854775808 ≤ m.y.a) : Fn Tryz.prog 25 [.agg (mvc m), i d] [] (fun r _ => r = if fitsH m d = true then .tup [bo (rightH m), .val .nilIface] else .tup [bo false, errA]) := by
  have cF := circuit_fits_c (d := d) hm
  have hR : rightH m = (((inOk m.r m.x && inOk m.r m.y) && decide (m.p.1 < 4294967296) && decide (m.q.1 < 4294967296)) && decide (rAdd (rAdd m.i m.x.n.1) m.y.n.1 = rAdd (rAdd m.o m.p.1) m.q.1)) := by
    unfold rightH okI inOk
    ac_rfl
  rw [hR]
  clear hR
  have hP : fitsH m d = true → (m.x.p.length < 1000000000 ∧ m.y.p.length < 1000000000) := by
    intro h
    simp only [fitsH, inF, hdF, Bool.and_eq_true, decide_eq_true_eq] at h
    omega
  generalize fitsH m d = ft at *
  obtain ⟨mr, mi, mo, ms, ⟨xk, ⟨xv, xo, xr⟩, xa, xp⟩, ⟨yk, ⟨yv, yo, yr⟩, ya, yp⟩, ⟨pv, po, pr⟩, ⟨qv, qo, qr⟩⟩ := m
  obtain ⟨w1, w2, w3, w4, ⟨x1, ⟨x2, x3, x4⟩, x5, x6, x7⟩, ⟨y1, ⟨y2, y3, y4⟩, y5, y6, y7⟩, ⟨p1, p2, p3⟩, ⟨q1, q2, q3⟩⟩ := hm
  simp only at w1 w2 w3 w4 x1 x2 x3 x4 x5 x6 x7 y1 y2 y3 y4 y5 y6 y7 p1 p2 p3 q1 q2 q3 hx hP
  simp only
  have n0 : Int.toNat 0 = 0 := rfl
  have n1 : Int.toNat 1 = 1 := rfl
  have q0 : (0:Int) ≤ 0 := by decide
  have q1' : (0:Int) ≤ 1 := by decide
  have x02 : (0:Int) < ((2:Nat):Int) := by decide
  have x12 : (1:Int) < ((2:Nat):Int) := by decide
  have z02 : (0:Int) < 2 := by decide
  have z12 : (1:Int) < 2 := by decide
  have a1 : IntKind.i64.wrap (0 + 1) = 1 := by decide
  have a2 : IntKind.i64.wrap (1 + 1) = 2 := by decide
  have i02 : decide ((0:Int) < 2) = true := rfl
  have i12 : decide ((1:Int) < 2) = true := rfl
  have i22 : decide ((2:Int) < 2) = false := rfl
  have cA : ∀ {a b : Int}, w64 a → w64 b → Fn Tryz.prog 58 [u 288230376287764481, u a, u b] [] (fun r _ => r = u (rAdd a b)) := fun ha hb => modular_Add_c (by constructor <;> decide) ha hb
  show Fn Tryz.prog 25 [.agg [u mr, u mi, u mo, u ms, u xk, u xv, u xo, u xr, i xa, ul xp, u yk, u yv, u yo, u yr, i ya, ul yp, u pv, u po, u pr, u qv, u qo, u qr], i d] [] _
  replace cF : Fn Tryz.prog 54 [.agg [u mr, u mi, u mo, u ms, u xk, u xv, u xo, u xr, i xa, ul xp, u yk, u yv, u yo, u yr, i ya, ul yp, u pv, u po, u pr, u qv, u qo, u qr], i d] [] (fun r _ => r = bo ft) := cF
  refine Fn.enter Tryz.func25 Tryz.ntmps25 rfl (h := ?_)
  have tf := tfv
  have tfr := tfr
  have ot_ : (false || true) = true := rfl
  repeat refine AW.seq ?_
  refine AW.reg ?_
  iterate 3 refine AOL.s1 (h := ?_)
  refine AOL.nil ?_
  refine AW.kq [1, 2] (h := ?_)
  repeat refine AW.seq ?_
  refine AW.reg ?_
  iterate 2 refine AOL.s1 (h := ?_)
  refine AOL.callD rfl (cF) (by kernel_rfl) rfl rfl (h := ?_)
  iterate 1 refine AOL.s1 (h := ?_)
  refine AOL.nil ?_
  refine AW.kq [2, 16] (h := ?_)
  repeat refine AW.seq ?_
  refine AW.cond rfl (fun c_ => ?_) (fun c_ => ?_)
  · have e : ft = false := by simpa using c_
    repeat refine AW.seq ?_
    refine AW.reg ?_
    iterate 3 refine AOL.s1 (h := ?_)
    refine AOL.nil ?_
    refine AW.kq [4, 5] (h := ?_)
    repeat refine AW.seq ?_
    refine AW.ret ?_
    refine ⟨_, [], rfl, HOk.nil _, ?_⟩
    rw [e]; rfl
  have e : ft = true := by simpa using c_
  obtain ⟨xl, yl⟩ := hP e
  rw [if_pos e]
  clear c_ e cF hP
  refine AW.skip ?_
  repeat refine AW.seq ?_
  refine AW.reg ?_
  iterate 1 refine AOL.s1 (h := ?_)
  refine AOL.nil ?_
  refine AW.kq [2, 6] (h := ?_)
  repeat refine AW.seq ?_
  refine AW.drw 5 [] (by kernel_rfl) (h := ?_)
  iterate 5 refine ADL.dm 1 (h := ?_)
  refine ADL.done hmix rfl rfl (hT := ?_)
  iterate 1 refine AOL.s1 (h := ?_)
  refine AOL.nil ?_
  refine AW.kq [2, 6, 7, 8] (h := ?_)
  repeat refine AW.seq ?_
  refine AW.reg ?_
  iterate 3 refine AOL.s1 (h := ?_)
  refine AOL.nil ?_
  refine AW.kq [2, 6, 7, 8, 23, 24] (h := ?_)
  repeat refine AW.seq ?_
  refine AW.block ?_
  repeat refine AW.seq ?_
  obtain ⟨b0, hb0⟩ : ∃ b : Bool, b = true := ⟨_, rfl⟩
  conv in (6, _) => rw [← hb0]
  replace hb0 : id (b0 = true) := hb0
  obtain ⟨s0, hs0⟩ : ∃ b : Int, b = mi := ⟨_, rfl⟩
  have ws0 : w64 s0 := by rw [hs0]; exact w2
  conv in (7, _) => rw [← hs0]
  replace hs0 : id (s0 = mi) := hs0
  refine AW.rounds ?_
  refine AWin.next [2, 6, 7, 8, 23, 24] (h := ?_)
  repeat refine AW.seq ?_
  refine AW.reg ?_
  iterate 1 refine AOL.s1 (h := ?_)
  refine AOL.nil ?_
  refine AW.kq [2, 6, 7, 8, 23, 24, 25] (h := ?_)
  repeat refine AW.seq ?_
  refine AW.cond rfl (fun c_ => ?_) (fun c_ => ?_)
  rotate_left
  · cases c_
  refine AW.skip ?_
  repeat refine AW.seq ?_
  refine AW.block ?_
  repeat refine AW.seq ?_
  refine AW.reg ?_
  iterate 3 refine AOL.s1 (h := ?_)
  refine AOL.nil ?_
  refine AW.kq [2, 6, 7, 8, 10, 23, 24] (h := ?_)
  repeat refine AW.seq ?_
  refine AW.midK [2, 6, 7, 8, 10, 23, 24] (fun t => t = ⟨84, [(2, .ptr 1032 0), (6, bo (b0 && inOk mr ⟨xk, (xv, xo, xr), xa, xp⟩)), (7, u s0), (8, u mo), (10, .ptr 1160 0), (23, .agg [u xk, u xv, u xo, u xr, i xa, ul xp, u yk, u yv, u yo, u yr, i ya, ul yp]), (24, i 0)], [(1032, ⟨31, true, [u mr, u mi, u mo, u ms, u xk, u xv, u xo, u xr, i xa, ul xp, u yk, u yv, u yo, u yr, i ya, ul yp, u pv, u po, u pr, u qv, u qo, u qr]⟩), (1160, ⟨27, true, [u xk, u xv, u xo, u xr, i xa, ul xp]⟩)]⟩) ?_ ?_
  · have cT := cube_Two_c (a := xk) (b := 2) x1 (by decide)
    have cM := circuit_mark_c (n := (xv, xo, xr)) ⟨x2, x3, x4⟩
    have cC := tree_Climb_c (h := mrkH (xv, xo, xr)) (n := xa) (V := xp) (manyH_w _) ⟨hx.1, x5⟩ x6 xl
    cases b0 with
    | false =>
      refine AW.drw 26 [] (by kernel_rfl) (h := ?_)
      iterate 26 refine ADL.dm 1 (h := ?_)
      refine ADL.done hmix rfl rfl (hT := ?_)
      iterate 4 refine AOL.s1 (h := ?_)
      refine AOL.nil ?_
      exact rfl
    | true =>
      cases g1 : (xo == twoH xk 2) with
      | false =>
        refine AW.drw 26 [] (by kernel_rfl) (h := ?_)
        iterate 7 refine ADL.dm 1 (h := ?_)
        refine ADL.call rfl (cT) (by kernel_rfl) rfl rfl (h := ?_)
        iterate 18 refine ADL.dm 1 (h := ?_)
        refine ADL.done hmix rfl rfl (hT := ?_)
        iterate 4 refine AOL.s1 (h := ?_)
        refine AOL.nil ?_
        rw [show inOk mr ⟨xk, (xv, xo, xr), xa, xp⟩ = false by unfold inOk; rw [show decide (xo = twoH xk 2) = _ from g1]; rfl]
        exact rfl
      | true =>
        cases g2 : (xv == 0) with
        | true =>
          refine AW.drw 26 [] (by kernel_rfl) (h := ?_)
          iterate 7 refine ADL.dm 1 (h := ?_)
          refine ADL.call rfl (cT) (by kernel_rfl) rfl rfl (h := ?_)
          iterate 18 refine ADL.dm 1 (h := ?_)
          refine ADL.done hmix rfl rfl (hT := ?_)
          iterate 4 refine AOL.s1 (h := ?_)
          refine AOL.nil ?_
          rw [show inOk mr ⟨xk, (xv, xo, xr), xa, xp⟩ = true by unfold inOk; rw [show decide (xo = twoH xk 2) = _ from g1, show decide (xv = 0) = _ from g2]; rfl]
          exact rfl
        | false =>
          refine AW.drw 26 [] (by kernel_rfl) (h := ?_)
          iterate 7 refine ADL.dm 1 (h := ?_)
          refine ADL.call rfl (cT) (by kernel_rfl) rfl rfl (h := ?_)
          iterate 10 refine ADL.dm 1 (h := ?_)
          refine ADL.call rfl (cM) (by kernel_rfl) rfl rfl (h := ?_)
          iterate 4 refine ADL.dm 1 (h := ?_)
          refine ADL.call rfl (cC) (by kernel_rfl) rfl rfl (h := ?_)
          iterate 2 refine ADL.dm 1 (h := ?_)
          refine ADL.done hmix rfl rfl (hT := ?_)
          iterate 4 refine AOL.s1 (h := ?_)
          refine AOL.nil ?_
          rw [show inOk mr ⟨xk, (xv, xo, xr), xa, xp⟩ = (climbH xp (nonneg xa) (mrkH (xv, xo, xr)) == mr) by unfold inOk; rw [show decide (xo = twoH xk 2) = _ from g1, show decide (xv = 0) = _ from g2]; simp only [Bool.true_and, Bool.false_or]; rfl]
          simp only [Bool.true_and]
          exact rfl
  rintro t rfl
  repeat refine AW.seq ?_
  refine AW.reg ?_
  iterate 4 refine AOL.s1 (h := ?_)
  refine AOL.callD rfl (cA ws0 x2) (by kernel_rfl) rfl rfl (h := ?_)
  iterate 1 refine AOL.s1 (h := ?_)
  refine AOL.nil ?_
  repeat refine AW.seq ?_
  refine AW.let 1160 (h := ?_)
  refine AW.reg ?_
  iterate 2 refine AOL.s1 (h := ?_)
  refine AOL.nil ?_
  obtain ⟨b1, hb1⟩ : ∃ b : Bool, id (b = (b0 && inOk mr ⟨xk, (xv, xo, xr), xa, xp⟩)) := ⟨_, rfl⟩
  rw [← show b1 = _ from hb1]
  obtain ⟨s1, hs1⟩ : ∃ s, id (s = rAdd s0 xv) := ⟨_, rfl⟩
  rw [← show s1 = _ from hs1]
  have ws1 : w64 s1 := by rw [show s1 = _ from hs1]; exact (rAdd_l _ _).w
  refine AWin.next [2, 6, 7, 8, 23, 24] (h := ?_)
  repeat refine AW.seq ?_
  refine AW.reg ?_
  iterate 1 refine AOL.s1 (h := ?_)
  refine AOL.nil ?_
  refine AW.kq [2, 6, 7, 8, 23, 24, 25] (h := ?_)
  repeat refine AW.seq ?_
  refine AW.cond rfl (fun c_ => ?_) (fun c_ => ?_)
  rotate_left
  · cases c_
  refine AW.skip ?_
  repeat refine AW.seq ?_
  refine AW.block ?_
  repeat refine AW.seq ?_
  refine AW.reg ?_
  iterate 3 refine AOL.s1 (h := ?_)
  refine AOL.nil ?_
  refine AW.kq [2, 6, 7, 8, 10, 23, 24] (h := ?_)
  repeat refine AW.seq ?_
  refine AW.midK [2, 6, 7, 8, 10, 23, 24] (fun t => t = ⟨84, [(2, .ptr 1032 0), (6, bo (b1 && inOk mr ⟨yk, (yv, yo, yr), ya, yp⟩)), (7, u s1), (8, u mo), (10, .ptr 1160 0), (23, .agg [u xk, u xv, u xo, u xr, i xa, ul xp, u yk, u yv, u yo, u yr, i ya, ul yp]), (24, i 1)], [(1032, ⟨31, true, [u mr, u mi, u mo, u ms, u xk, u xv, u xo, u xr, i xa, ul xp, u yk, u yv, u yo, u yr, i ya, ul yp, u pv, u po, u pr, u qv, u qo, u qr]⟩), (1160, ⟨27, true, [u yk, u yv, u yo, u yr, i ya, ul yp]⟩)]⟩) ?_ ?_
  · have cT := cube_Two_c (a := yk) (b := 2) y1 (by decide)
    have cM := circuit_mark_c (n := (yv, yo, yr)) ⟨y2, y3, y4⟩
    have cC := tree_Climb_c (h := mrkH (yv, yo, yr)) (n := ya) (V := yp) (manyH_w _) ⟨hx.2, y5⟩ y6 yl
    cases b1 with
    | false =>
      refine AW.drw 26 [] (by kernel_rfl) (h := ?_)
      iterate 26 refine ADL.dm 1 (h := ?_)
      refine ADL.done hmix rfl rfl (hT := ?_)
      iterate 4 refine AOL.s1 (h := ?_)
      refine AOL.nil ?_
      exact rfl
    | true =>
      cases g1 : (yo == twoH yk 2) with
      | false =>
        refine AW.drw 26 [] (by kernel_rfl) (h := ?_)
        iterate 7 refine ADL.dm 1 (h := ?_)
        refine ADL.call rfl (cT) (by kernel_rfl) rfl rfl (h := ?_)
        iterate 18 refine ADL.dm 1 (h := ?_)
        refine ADL.done hmix rfl rfl (hT := ?_)
        iterate 4 refine AOL.s1 (h := ?_)
        refine AOL.nil ?_
        rw [show inOk mr ⟨yk, (yv, yo, yr), ya, yp⟩ = false by unfold inOk; rw [show decide (yo = twoH yk 2) = _ from g1]; rfl]
        exact rfl
      | true =>
        cases g2 : (yv == 0) with
        | true =>
          refine AW.drw 26 [] (by kernel_rfl) (h := ?_)
          iterate 7 refine ADL.dm 1 (h := ?_)
          refine ADL.call rfl (cT) (by kernel_rfl) rfl rfl (h := ?_)
          iterate 18 refine ADL.dm 1 (h := ?_)
          refine ADL.done hmix rfl rfl (hT := ?_)
          iterate 4 refine AOL.s1 (h := ?_)
          refine AOL.nil ?_
          rw [show inOk mr ⟨yk, (yv, yo, yr), ya, yp⟩ = true by unfold inOk; rw [show decide (yo = twoH yk 2) = _ from g1, show decide (yv = 0) = _ from g2]; rfl]
          exact rfl
        | false =>
          refine AW.drw 26 [] (by kernel_rfl) (h := ?_)
          iterate 7 refine ADL.dm 1 (h := ?_)
          refine ADL.call rfl (cT) (by kernel_rfl) rfl rfl (h := ?_)
          iterate 10 refine ADL.dm 1 (h := ?_)
          refine ADL.call rfl (cM) (by kernel_rfl) rfl rfl (h := ?_)
          iterate 4 refine ADL.dm 1 (h := ?_)
          refine ADL.call rfl (cC) (by kernel_rfl) rfl rfl (h := ?_)
          iterate 2 refine ADL.dm 1 (h := ?_)
          refine ADL.done hmix rfl rfl (hT := ?_)
          iterate 4 refine AOL.s1 (h := ?_)
          refine AOL.nil ?_
          rw [show inOk mr ⟨yk, (yv, yo, yr), ya, yp⟩ = (climbH yp (nonneg ya) (mrkH (yv, yo, yr)) == mr) by unfold inOk; rw [show decide (yo = twoH yk 2) = _ from g1, show decide (yv = 0) = _ from g2]; simp only [Bool.true_and, Bool.false_or]; rfl]
          simp only [Bool.true_and]
          exact rfl
  rintro t rfl
  repeat refine AW.seq ?_
  refine AW.reg ?_
  iterate 4 refine AOL.s1 (h := ?_)
  refine AOL.callD rfl (cA ws1 y2) (by kernel_rfl) rfl rfl (h := ?_)
  iterate 1 refine AOL.s1 (h := ?_)
  refine AOL.nil ?_
  repeat refine AW.seq ?_
  refine AW.let 1160 (h := ?_)
  refine AW.reg ?_
  iterate 2 refine AOL.s1 (h := ?_)
  refine AOL.nil ?_
  obtain ⟨b2, hb2⟩ : ∃ b : Bool, id (b = (b1 && inOk mr ⟨yk, (yv, yo, yr), ya, yp⟩)) := ⟨_, rfl⟩
  rw [← show b2 = _ from hb2]
  obtain ⟨s2, hs2⟩ : ∃ s, id (s = rAdd s1 yv) := ⟨_, rfl⟩
  rw [← show s2 = _ from hs2]
  have ws2 : w64 s2 := by rw [show s2 = _ from hs2]; exact (rAdd_l _ _).w
  refine AWin.next [2, 6, 7, 8, 23, 24] (h := ?_)
  repeat refine AW.seq ?_
  refine AW.reg ?_
  iterate 1 refine AOL.s1 (h := ?_)
  refine AOL.nil ?_
  refine AW.kq [2, 6, 7, 8, 23, 24, 25] (h := ?_)
  repeat refine AW.seq ?_
  refine AW.cond rfl (fun c_ => ?_) (fun c_ => ?_)
  · cases c_
  repeat refine AW.seq ?_
  refine AW.exit ?_
  repeat (first | refine Kseq.ex ?_ | refine Kloop.ex ?_ | refine Kblock.miss (by decide) ?_)
  refine Kblock.hit ?_
  refine AW.kq [2, 6, 7, 8] (h := ?_)
  repeat refine AW.seq ?_
  refine AW.reg ?_
  iterate 3 refine AOL.s1 (h := ?_)
  refine AOL.nil ?_
  refine AW.kq [6, 7, 8, 63, 64] (h := ?_)
  refine AW.let 1032 (h := ?_)
  repeat refine AW.seq ?_
  refine AW.block ?_
  repeat refine AW.seq ?_
  have wt0 : w64 mo := w3
  refine AW.rounds ?_
  refine AWin.next [6, 7, 8, 63, 64] (h := ?_)
  repeat refine AW.seq ?_
  refine AW.reg ?_
  iterate 1 refine AOL.s1 (h := ?_)
  refine AOL.nil ?_
  refine AW.kq [6, 7, 8, 63, 64, 65] (h := ?_)
  repeat refine AW.seq ?_
  refine AW.cond rfl (fun c_ => ?_) (fun c_ => ?_)
  rotate_left
  · cases c_
  refine AW.skip ?_
  repeat refine AW.seq ?_
  refine AW.block ?_
  repeat refine AW.seq ?_
  refine AW.reg ?_
  iterate 3 refine AOL.s1 (h := ?_)
  refine AOL.nil ?_
  refine AW.kq [6, 7, 8, 12, 63, 64] (h := ?_)
  repeat refine AW.seq ?_
  refine AW.midK [6, 7, 8, 12, 63, 64] (fun t => t = ⟨84, [(6, bo (b2 && decide (pv < 4294967296))), (7, u s2), (8, u mo), (12, .ptr 1192 0), (63, .agg [u pv, u po, u pr, u qv, u qo, u qr]), (64, i 0)], [(1192, ⟨24, true, [u pv, u po, u pr]⟩)]⟩) ?_ ?_
  · cases b2 with
    | false =>
      refine AW.reg ?_
      iterate 7 refine AOL.s1 (h := ?_)
      refine AOL.nil ?_
      exact rfl
    | true =>
      refine AW.reg ?_
      iterate 7 refine AOL.s1 (h := ?_)
      refine AOL.nil ?_
      rw [show (true && decide (pv < 4294967296)) = decide (pv < 4294967296) from Bool.true_and _]
      exact rfl
  rintro t rfl
  repeat refine AW.seq ?_
  refine AW.reg ?_
  iterate 3 refine AOL.s1 (h := ?_)
  refine AOL.callD rfl (cA wt0 p1) (by kernel_rfl) rfl rfl (h := ?_)
  iterate 1 refine AOL.s1 (h := ?_)
  refine AOL.nil ?_
  repeat refine AW.seq ?_
  refine AW.let 1192 (h := ?_)
  refine AW.reg ?_
  iterate 2 refine AOL.s1 (h := ?_)
  refine AOL.nil ?_
  obtain ⟨b3, hb3⟩ : ∃ b : Bool, id (b = (b2 && decide (pv < 4294967296))) := ⟨_, rfl⟩
  rw [← show b3 = _ from hb3]
  obtain ⟨t1, ht1⟩ : ∃ s, id (s = rAdd mo pv) := ⟨_, rfl⟩
  rw [← show t1 = _ from ht1]
  have wt1 : w64 t1 := by rw [show t1 = _ from ht1]; exact (rAdd_l _ _).w
  refine AWin.next [6, 7, 8, 63, 64] (h := ?_)
  repeat refine AW.seq ?_
  refine AW.reg ?_
  iterate 1 refine AOL.s1 (h := ?_)
  refine AOL.nil ?_
  refine AW.kq [6, 7, 8, 63, 64, 65] (h := ?_)
  repeat refine AW.seq ?_
  refine AW.cond rfl (fun c_ => ?_) (fun c_ => ?_)
  rotate_left
  · cases c_
  refine AW.skip ?_
  repeat refine AW.seq ?_
  refine AW.block ?_
  repeat refine AW.seq ?_
  refine AW.reg ?_
  iterate 3 refine AOL.s1 (h := ?_)
  refine AOL.nil ?_
  refine AW.kq [6, 7, 8, 12, 63, 64] (h := ?_)
  repeat refine AW.seq ?_
  refine AW.midK [6, 7, 8, 12, 63, 64] (fun t => t = ⟨84, [(6, bo (b3 && decide (qv < 4294967296))), (7, u s2), (8, u t1), (12, .ptr 1192 0), (63, .agg [u pv, u po, u pr, u qv, u qo, u qr]), (64, i 1)], [(1192, ⟨24, true, [u qv, u qo, u qr]⟩)]⟩) ?_ ?_
  · cases b3 with
    | false =>
      refine AW.reg ?_
      iterate 7 refine AOL.s1 (h := ?_)
      refine AOL.nil ?_
      exact rfl
    | true =>
      refine AW.reg ?_
      iterate 7 refine AOL.s1 (h := ?_)
      refine AOL.nil ?_
      rw [show (true && decide (qv < 4294967296)) = decide (qv < 4294967296) from Bool.true_and _]
      exact rfl
  rintro t rfl
  repeat refine AW.seq ?_
  refine AW.reg ?_
  iterate 3 refine AOL.s1 (h := ?_)
  refine AOL.callD rfl (cA wt1 q1) (by kernel_rfl) rfl rfl (h := ?_)
  iterate 1 refine AOL.s1 (h := ?_)
  refine AOL.nil ?_
  repeat refine AW.seq ?_
  refine AW.let 1192 (h := ?_)
  refine AW.reg ?_
  iterate 2 refine AOL.s1 (h := ?_)
  refine AOL.nil ?_
  obtain ⟨b4, hb4⟩ : ∃ b : Bool, id (b = (b3 && decide (qv < 4294967296))) := ⟨_, rfl⟩
  rw [← show b4 = _ from hb4]
  obtain ⟨t2, ht2⟩ : ∃ s, id (s = rAdd t1 qv) := ⟨_, rfl⟩
  rw [← show t2 = _ from ht2]
  have wt2 : w64 t2 := by rw [show t2 = _ from ht2]; exact (rAdd_l _ _).w
  refine AWin.next [6, 7, 8, 63, 64] (h := ?_)
  repeat refine AW.seq ?_
  refine AW.reg ?_
  iterate 1 refine AOL.s1 (h := ?_)
  refine AOL.nil ?_
  refine AW.kq [6, 7, 8, 63, 64, 65] (h := ?_)
  repeat refine AW.seq ?_
  refine AW.cond rfl (fun c_ => ?_) (fun c_ => ?_)
  · cases c_
  repeat refine AW.seq ?_
  refine AW.exit ?_
  repeat (first | refine Kseq.ex ?_ | refine Kloop.ex ?_ | refine Kblock.miss (by decide) ?_)
  refine Kblock.hit ?_
  refine AW.kq [6, 7, 8] (h := ?_)
  repeat refine AW.seq ?_
  have e : id ((((inOk mr ⟨xk, (xv, xo, xr), xa, xp⟩ && inOk mr ⟨yk, (yv, yo, yr), ya, yp⟩) && decide (pv < 4294967296)) && decide (qv < 4294967296)) = b4) := by
    rw [show b4 = _ from hb4, show b3 = _ from hb3, show b2 = _ from hb2, show b1 = _ from hb1, show b0 = _ from hb0]
    rfl
  have es : id (rAdd (rAdd mi xv) yv = s2) := by rw [show s2 = _ from hs2, show s1 = _ from hs1, show s0 = _ from hs0]; rfl
  clear hb4 hb3 hb2 hb1 hb0 hs2 hs1 hs0 ht2 ht1
  cases b4 with
  | false =>
    refine AW.reg ?_
    iterate 8 refine AOL.s1 (h := ?_)
    refine AOL.nil ?_
    refine AW.kq [4, 5] (h := ?_)
    repeat refine AW.seq ?_
    refine AW.ret ?_
    refine ⟨_, [], rfl, HOk.nil _, ?_⟩
    rw [show _ = false from e, show _ = s2 from es]
    rfl
  | true =>
    refine AW.reg ?_
    iterate 8 refine AOL.s1 (h := ?_)
    refine AOL.nil ?_
    refine AW.kq [4, 5] (h := ?_)
    repeat refine AW.seq ?_
    refine AW.ret ?_
    refine ⟨_, [], rfl, HOk.nil _, ?_⟩
    rw [show _ = true from e, show _ = s2 from es, Bool.true_and]
    rfl
end Go.Proofs.YtngphcdhdllnnaaGreat.E.M
end
section
/- What the rows of a maker say: the plain law. -/
set_option linter.unusedVariables false
set_option linter.unusedSimpArgs false
set_option maxRecDepth 10000
open Go Go.Proofs.YtngphcdhdllnnaaGreat.E Go.Proofs
namespace Go.Proofs.YtngphcdhdllnnaaGreat.E.M
def gV (V : List Int) (v : Int) : Int := if 0 ≤ v ∧ v < (V.length : Int) then V[v.toNat]?.getD 0 else 0
def lin (V : List Int) : List Tm → Int
  | [] => 0
  | t :: l => t.k * gV V t.v + lin V l
theorem valF_lin (V : List Int) : ∀ (L : List Tm) {o : Int}, 0 ≤ o → o < 288230376287764481 → valF V o L = (o + lin V L) % 288230376287764481
  | [], o, h0, h1 => by simp only [valF, lin]; omega
  | t :: l, o, h0, h1 => by
    simp only [valF, lin, gV]
    split
    · rename_i h
      rw [valF_lin V l (Int.emod_nonneg _ (by decide)) (Int.emod_lt_of_pos _ (by decide))]
      generalize t.k * (V[t.v.toNat]?.getD 0) = x
      omega
    · rename_i h
      rw [valF_lin V l h0 h1, Int.mul_zero, Int.zero_add]
def sumN : Nat → (Nat → Int) → Int
  | 0, _ => 0
  | n + 1, f => sumN n f + f n
theorem sumN_add (f g : Nat → Int) : ∀ n, sumN n (fun v => f v + g v) = sumN n f + sumN n g
  | 0 => rfl
  | n + 1 => by simp only [sumN, sumN_add f g n]; omega
theorem sumN_zero : ∀ {n : Nat} {f : Nat → Int}, (∀ v, v < n → f v = 0) → sumN n f = 0
  | 0, _, _ => rfl
  | n + 1, f, h => by simp only [sumN]; rw [sumN_zero fun v hv => h v (by omega), h n (by omega)]; rfl
theorem sumN_mod : ∀ {n : Nat} {f g : Nat → Int}, (∀ v, v < n → f v % 288230376287764481 = g v % 288230376287764481) → sumN n f % 288230376287764481 = sumN n g % 288230376287764481
  | 0, _, _, _ => rfl
  | n + 1, f, g, h => by
    simp only [sumN]
    have h1 := sumN_mod (n := n) fun v hv => h v (by omega)
    have h2 := h n (by omega)
    omega
theorem sumN_one (w : Int) (x : Int) : ∀ {n : Nat}, sumN n (fun v => (if w = (v : Int) then x else 0)) = if 0 ≤ w ∧ w < n then x else 0
  | 0 => by simp only [sumN]; rw [if_neg (by omega)]
  | n + 1 => by
    simp only [sumN, sumN_one w x (n := n)]
    by_cases h : w = n
    · rw [if_pos h, if_neg (by omega), if_pos (by omega)]; omega
    · rw [if_neg h]
      by_cases h2 : 0 ≤ w ∧ w < (n : Int)
      · rw [if_pos h2, if_pos (by omega)]; omega
      · rw [if_neg h2, if_neg (by omega)]; rfl
theorem lin_kS (V : List Int) : ∀ L : List Tm, lin V L = sumN V.length (fun v => kS (v : Int) L * gV V v)
  | [] => by
    rw [sumN_zero]
    · rfl
    · intro v _; simp only [kS, Int.zero_mul]
  | t :: l => by
    have e : (fun v : Nat => kS (v : Int) (t :: l) * gV V v) = fun v : Nat => (if t.v = (v : Int) then t.k * gV V t.v else 0) + kS (v : Int) l * gV V v := by
      funext v
      simp only [kS, Int.add_mul]
      split
      · rename_i h; rw [h]
      · rw [Int.zero_mul]
    rw [e, sumN_add, sumN_one, lin, ← lin_kS V l]
    congr 1
    unfold gV
    split <;> simp
theorem lin_sum (V : List Int) {L out : List Tm} (h : IsSum L out) : lin V out % 288230376287764481 = lin V L % 288230376287764481 := by
  rw [lin_kS, lin_kS]
  refine sumN_mod fun v hv => ?_
  rw [h.eq v (by omega), Int.mul_emod, Int.emod_emod, ← Int.mul_emod]
theorem val_lin (V : List Int) (L : List Tm) : valF V 0 L = lin V L % 288230376287764481 := by
  rw [valF_lin V L (by decide) (by decide), Int.zero_add]
theorem val_sum (V : List Int) (L : List Tm) : valF V 0 (sumT L) = valF V 0 L := by rw [val_lin, val_lin, lin_sum V (sumT_is L)]
theorem kS_ne {v : Int} {L : List Tm} (h : kS v L ≠ 0) : ∃ s ∈ L, s.v = v := by
  refine Classical.byContradiction fun hn => h (kS_zero fun s hs e => hn ⟨s, hs, e⟩)
theorem kS_at {t : Tm} : ∀ {out : List Tm}, out.Pairwise (fun a b => a.v < b.v) → t ∈ out → kS t.v out = t.k
  | s :: l, hu, ht => by
    obtain ⟨h1, h2⟩ := List.pairwise_cons.1 hu
    simp only [kS]
    rcases List.mem_cons.1 ht with rfl | ht
    · rw [if_pos rfl, kS_zero fun s hs => by have := h1 s hs; omega]; omega
    · have := h1 t ht
      rw [if_neg (by omega), kS_at h2 ht]; omega
theorem sumT_mem {L : List Tm} {t : Tm} (ht : t ∈ sumT L) : ∃ s ∈ L, s.v = t.v := by
  have h := sumT_is L
  have hp := h.pos t ht
  have h1 := kS_at h.up ht
  have h2 := h.eq t.v hp.1
  refine kS_ne fun e => ?_
  rw [e] at h2; omega
theorem snd_up {vars : Int} : ∀ {L : List Tm} {last : Int}, L.Pairwise (fun a b => a.v < b.v) → (∀ t ∈ L, last < t.v ∧ t.v < vars ∧ 1 ≤ t.k ∧ t.k < 288230376287764481) → sndF vars last L = true
  | [], _, _, _ => rfl
  | t :: l, last, hu, h => by
    obtain ⟨h1, h2⟩ := List.pairwise_cons.1 hu
    have ht := h t (by simp)
    simp only [sndF]
    rw [if_neg (by omega)]
    exact snd_up h2 fun s hs => by have := h s (List.mem_cons_of_mem _ hs); have := h1 s hs; omega
/-- all variables of a list are below n -/
abbrev blw (n : Nat) (L : List Tm) : Prop := ∀ t ∈ L, t.v < (n : Int)
theorem snd_sum {n : Nat} {L : List Tm} (h : blw n L) : sndF n (-1) (sumT L) = true := by
  have hs := sumT_is L
  refine snd_up hs.up fun t ht => ?_
  have hp := hs.pos t ht
  obtain ⟨s, hs1, hs2⟩ := sumT_mem ht
  have := h s hs1
  omega
theorem blw_sum {n : Nat} {L : List Tm} (h : blw n L) : blw n (sumT L) := fun t ht => by
  obtain ⟨s, hs1, hs2⟩ := sumT_mem ht
  rw [← hs2]; exact h s hs1
theorem gV_app {V : List Int} {v : Int} (h : v < V.length) (X : List Int) : gV (V ++ X) v = gV V v := by
  unfold gV
  by_cases h0 : 0 ≤ v
  · rw [if_pos ⟨h0, by rw [List.length_append]; omega⟩, if_pos ⟨h0, h⟩, List.getElem?_append_left (by omega)]
  · rw [if_neg (by omega), if_neg (by omega)]
theorem lin_app {V : List Int} (X : List Int) : ∀ {L : List Tm}, blw V.length L → lin (V ++ X) L = lin V L
  | [], _ => rfl
  | t :: l, h => by simp only [lin]; rw [gV_app (h t (by simp)), lin_app X fun s hs => h s (List.mem_cons_of_mem _ hs)]
theorem val_app {V : List Int} (X : List Int) {L : List Tm} (h : blw V.length L) : valF (V ++ X) 0 L = valF V 0 L := by rw [val_lin, val_lin, lin_app X h]
theorem gV_last (V : List Int) (x : Int) : gV (V ++ [x]) V.length = x := by
  unfold gV
  rw [if_pos ⟨by omega, by simp; omega⟩]; simp
theorem gV_at {V : List Int} {n : Nat} (h : n < V.length) : gV V n = V[n] := by
  unfold gV
  rw [if_pos ⟨by omega, by omega⟩]; simp [h]
theorem valM_g {V : List Int} (h : 0 < V.length) (a : Int) : valM V a = gV V (isM V a) := by
  have := isM_in h a
  unfold gV valM
  rw [if_pos this]
/-- a row holds -/
def rowH (V : List Int) (r : Rw) : Prop := valF V 0 r.a * valF V 0 r.b % 288230376287764481 = valF V 0 r.c
theorem rowH_sum (V : List Int) (a b c : List Tm) : rowH V ⟨sumT a, sumT b, sumT c⟩ ↔ lin V a * lin V b % 288230376287764481 = lin V c % 288230376287764481 := by
  unfold rowH
  rw [val_sum, val_sum, val_sum, val_lin, val_lin, val_lin, ← Int.mul_emod]
abbrev rblw (n : Nat) (r : Rw) : Prop := blw n r.a ∧ blw n r.b ∧ blw n r.c
theorem rowH_app {V : List Int} (X : List Int) {r : Rw} (h : rblw V.length r) : rowH (V ++ X) r ↔ rowH V r := by
  unfold rowH; rw [val_app X h.1, val_app X h.2.1, val_app X h.2.2]
/-- what a maker is like -/
structure Good (m : Mk) : Prop where
  v : m.v = m.vals.length
  p0 : 0 ≤ m.p
  p1 : m.p < m.vals.length
  one : m.vals.head? = some 1
  lt : ∀ v ∈ m.vals, 0 ≤ v ∧ v < 288230376287764481
  rows : ∀ r ∈ m.rows, ∃ a b c, r = ⟨sumT a, sumT b, sumT c⟩ ∧ blw m.vals.length a ∧ blw m.vals.length b ∧ blw m.vals.length c ∧ a.length < 1000000 ∧ b.length < 1000000 ∧ c.length < 1000000
/-- all rows hold -/
def AllH (m : Mk) : Prop := ∀ r ∈ m.rows, rowH m.vals r
theorem Good.ne {m : Mk} (h : Good m) : 0 < m.vals.length := by
  have := h.one
  cases hv : m.vals with
  | nil => rw [hv] at this; cases this
  | cons a l => simp
theorem Good.g0 {m : Mk} (h : Good m) : gV m.vals 0 = 1 := by
  have h0 := h.ne
  have h1 := h.one
  have e := gV_at h0
  rw [show ((0 : Nat) : Int) = 0 from rfl] at e
  rw [e]
  rw [List.head?_eq_getElem?, List.getElem?_eq_getElem h0] at h1
  exact Option.some.inj h1
theorem Good.glt {m : Mk} (h : Good m) (v : Int) : 0 ≤ gV m.vals v ∧ gV m.vals v < 288230376287764481 := by
  unfold gV
  split
  · rename_i hv
    have hl : v.toNat < m.vals.length := by omega
    rw [List.getElem?_eq_getElem hl]
    exact h.lt _ (List.getElem_mem hl)
  · decide
theorem blw_mono {n k : Nat} (h : n ≤ k) {L : List Tm} (hb : blw n L) : blw k L := fun t ht => by have := hb t ht; omega
theorem Good.fresh {m : Mk} (h : Good m) (x : Int) : Good (freshM m x) where
  v := by simp [freshM]
  p0 := h.p0
  p1 := by have := h.p1; simp only [freshM, List.length_append, List.length_singleton]; omega
  one := by
    have := h.one
    simp only [freshM]
    cases hv : m.vals with
    | nil => rw [hv] at this; cases this
    | cons a l => rw [hv] at this; simpa using this
  lt := fun v hv => by
    rcases List.mem_append.1 hv with hv | hv
    · exact h.lt v hv
    · simp only [List.mem_singleton] at hv; subst hv
      exact ⟨Int.emod_nonneg _ (by decide), Int.emod_lt_of_pos _ (by decide)⟩
  rows := fun r hr => by
    obtain ⟨a, b, c, e, ha, hb, hc, hl⟩ := h.rows r hr
    have hle : m.vals.length ≤ (freshM m x).vals.length := by simp [freshM]
    exact ⟨a, b, c, e, blw_mono hle ha, blw_mono hle hb, blw_mono hle hc, hl⟩
theorem Good.row {m : Mk} (h : Good m) {a b c : List Tm} (ha : blw m.vals.length a) (hb : blw m.vals.length b) (hc : blw m.vals.length c) (la : a.length < 1000000) (lb : b.length < 1000000) (lc : c.length < 1000000) : Good (rowM m a b c) where
  v := h.v
  p0 := h.p0
  p1 := h.p1
  one := h.one
  lt := h.lt
  rows := fun r hr => by
    rcases List.mem_append.1 hr with hr | hr
    · exact h.rows r hr
    · simp only [List.mem_singleton] at hr; subst hr
      exact ⟨a, b, c, rfl, ha, hb, hc, la, lb, lc⟩
theorem Good.rblw {m : Mk} (h : Good m) {r : Rw} (hr : r ∈ m.rows) : M.rblw m.vals.length r := by
  obtain ⟨a, b, c, rfl, ha, hb, hc, _⟩ := h.rows r hr
  exact ⟨blw_sum ha, blw_sum hb, blw_sum hc⟩
theorem AllH.fresh {m : Mk} (h : Good m) (x : Int) : AllH (freshM m x) ↔ AllH m := by
  unfold AllH
  constructor
  · intro k r hr; exact (rowH_app [x % 288230376287764481] (h.rblw hr)).1 (k r hr)
  · intro k r hr; exact (rowH_app [x % 288230376287764481] (h.rblw hr)).2 (k r hr)
theorem AllH.row {m : Mk} (a b c : List Tm) : AllH (rowM m a b c) ↔ AllH m ∧ lin m.vals a * lin m.vals b % 288230376287764481 = lin m.vals c % 288230376287764481 := by
  unfold AllH
  simp only [rowM, List.mem_append, List.mem_singleton]
  constructor
  · intro k; exact ⟨fun r hr => k r (.inl hr), (rowH_sum m.vals a b c).1 (k _ (.inr rfl))⟩
  · rintro ⟨k1, k2⟩ r (hr | rfl)
    · exact k1 r hr
    · exact (rowH_sum m.vals a b c).2 k2
end Go.Proofs.YtngphcdhdllnnaaGreat.E.M
end
section
/- What the rows of a maker's deeds say: the plain law. -/
set_option linter.unusedVariables false
set_option linter.unusedSimpArgs false
set_option maxRecDepth 10000
open Go Go.Proofs.YtngphcdhdllnnaaGreat.E Go.Proofs
namespace Go.Proofs.YtngphcdhdllnnaaGreat.E.M
theorem lin_1 (V : List Int) (v : Int) : lin V (one1 v) = gV V v := by simp [lin]
theorem lin_2 (V : List Int) (v w k : Int) : lin V (two1 v w k) = gV V v + k * gV V w := by simp [lin]
theorem lin_3 (V : List Int) (v a ka w kw : Int) : lin V (three1 v a ka w kw) = gV V v + (ka * gV V a + kw * gV V w) := by simp [lin]
theorem blw_1 {n : Nat} {v : Int} (h : v < n) : blw n (one1 v) := fun t ht => by simp only [List.mem_singleton] at ht; subst ht; exact h
theorem blw_2 {n : Nat} {v w k : Int} (h : v < n) (h2 : w < n) : blw n (two1 v w k) := fun t ht => by
  simp only [List.mem_cons, List.not_mem_nil, or_false] at ht
  rcases ht with rfl | rfl
  · exact h
  · exact h2
theorem blw_3 {n : Nat} {v a ka w kw : Int} (h : v < n) (h2 : a < n) (h3 : w < n) : blw n (three1 v a ka w kw) := fun t ht => by
  simp only [List.mem_cons, List.not_mem_nil, or_false] at ht
  rcases ht with rfl | rfl | rfl
  · exact h
  · exact h2
  · exact h3
theorem blw_nil {n : Nat} : blw n [] := fun t ht => by cases ht
theorem fresh_vals (m : Mk) (x : Int) : (freshM m x).vals = m.vals ++ [x % 288230376287764481] := rfl
theorem fresh_len (m : Mk) (x : Int) : (freshM m x).vals.length = m.vals.length + 1 := by simp [freshM]
/-- a law of a deed: all stays good, and what was told is told on -/
structure Law (m m' : Mk) (X : List Int) : Prop where
  good : Good m'
  vals : m'.vals = m.vals ++ X
  all : AllH m' ↔ AllH m
theorem Law.refl {m : Mk} (h : Good m) : Law m m [] := ⟨h, by simp, Iff.rfl⟩
theorem Law.trans {m m1 m2 : Mk} {X Y : List Int} (h : Law m m1 X) (k : Law m1 m2 Y) : Law m m2 (X ++ Y) := ⟨k.good, by rw [k.vals, h.vals, List.append_assoc], k.all.trans h.all⟩
theorem Law.len {m m' : Mk} {X : List Int} (h : Law m m' X) : m'.vals.length = m.vals.length + X.length := by rw [h.vals, List.length_append]
theorem Law.g {m m' : Mk} {X : List Int} (h : Law m m' X) {v : Int} (hv : v < m.vals.length) : gV m'.vals v = gV m.vals v := by rw [h.vals, gV_app hv]
theorem prod_law {m : Mk} (h : Good m) {a b : List Tm} (ha : blw m.vals.length a) (hb : blw m.vals.length b) (la : a.length < 1000000) (lb : b.length < 1000000) :
    Law m (prodM m a b) [lin m.vals a * lin m.vals b % 288230376287764481] := by
  have hx : valF m.vals 0 a * valF m.vals 0 b % 288230376287764481 % 288230376287764481 = lin m.vals a * lin m.vals b % 288230376287764481 := by
    rw [Int.emod_emod, val_lin, val_lin, ← Int.mul_emod]
  have hl := fresh_len m (valF m.vals 0 a * valF m.vals 0 b % 288230376287764481)
  have hv : (freshM m (valF m.vals 0 a * valF m.vals 0 b % 288230376287764481)).vals = m.vals ++ [lin m.vals a * lin m.vals b % 288230376287764481] := by rw [fresh_vals, hx]
  refine ⟨(h.fresh _).row (blw_mono (by omega) ha) (blw_mono (by omega) hb) (blw_1 (by omega)) la lb (by simp), hv, ?_⟩
  unfold prodM
  rw [AllH.row, AllH.fresh h, hv, lin_app _ ha, lin_app _ hb, lin_1, gV_last, Int.emod_emod]
  simp
theorem ownT_blw {V : List Int} (h : 0 < V.length) (L : List Tm) : blw V.length (ownT V L) := fun t ht => by
  obtain ⟨s, _, rfl⟩ := List.mem_map.1 ht
  exact (isM_in h s.v).2
theorem lin_law {m : Mk} (h : Good m) {L : List Tm} (hL : L.length < 1000000) : Law m (linM m L) [lin m.vals (ownT m.vals L) % 288230376287764481] := by
  have hx : valF m.vals 0 (ownT m.vals L) % 288230376287764481 = lin m.vals (ownT m.vals L) % 288230376287764481 := by
    rw [val_lin, Int.emod_emod]
  have hl := fresh_len m (valF m.vals 0 (ownT m.vals L))
  have hv : (freshM m (valF m.vals 0 (ownT m.vals L))).vals = m.vals ++ [lin m.vals (ownT m.vals L) % 288230376287764481] := by rw [fresh_vals, hx]
  have hb := ownT_blw h.ne L
  have h0 := h.ne
  refine ⟨(h.fresh _).row (blw_mono (by omega) hb) (blw_1 (by omega)) (blw_1 (by omega)) (by simp only [ownT, List.length_map]; exact hL) (by simp) (by simp), hv, ?_⟩
  unfold linM
  rw [AllH.row, AllH.fresh h, hv, lin_app _ hb, lin_1, lin_1, gV_last, gV_app (by omega), h.g0, Int.emod_emod, Int.mul_one]
  simp
theorem ownT_id {V : List Int} {L : List Tm} (h : ∀ t ∈ L, 0 ≤ t.v ∧ t.v < V.length) : ownT V L = L := by
  unfold ownT
  conv => rhs; rw [← List.map_id L]
  refine List.map_congr_left fun t ht => ?_
  have := h t ht
  unfold isM
  rw [if_neg (by omega)]; rfl
theorem valM_lt {m : Mk} (h : Good m) (a : Int) : 0 ≤ valM m.vals a ∧ valM m.vals a < 288230376287764481 := by rw [valM_g h.ne]; exact h.glt _
theorem same_law {m : Mk} (h : Good m) (a b : Int) : Good (sameM m a b) ∧ (AllH (sameM m a b) ↔ AllH m ∧ valM m.vals a = valM m.vals b) := by
  have i1 := isM_in h.ne a
  have i2 := isM_in h.ne b
  have v1 := valM_lt h a
  have v2 := valM_lt h b
  have h0 := h.ne
  refine ⟨h.row (blw_2 i1.2 i2.2) (blw_1 (by omega)) blw_nil (by simp) (by simp) (by simp), ?_⟩
  unfold sameM
  rw [AllH.row, lin_2, lin_1, h.g0, ← valM_g h0, ← valM_g h0]
  simp only [lin]
  constructor
  · rintro ⟨k1, k2⟩; exact ⟨k1, by omega⟩
  · rintro ⟨k1, k2⟩; exact ⟨k1, by omega⟩
theorem cho_law {m : Mk} (h : Good m) (c a b : Int) : ∃ x, Law m (choM m c a b) [x] := by
  have i0 := isM_in h.ne c
  have i1 := isM_in h.ne a
  have i2 := isM_in h.ne b
  have v2 := valM_lt h b
  have h0 := h.ne
  have hx : (valM m.vals b + valM m.vals c * valF m.vals 0 (sumT (two1 (isMk m a) (isMk m b) 288230376287764480)) % 288230376287764481) % 288230376287764481 % 288230376287764481 = (valM m.vals b + valM m.vals c * (valM m.vals a + 288230376287764480 * valM m.vals b)) % 288230376287764481 := by
    rw [val_sum, val_lin, lin_2, ← valM_g h0, ← valM_g h0, Int.emod_emod]
    rw [Int.mul_emod (valM m.vals c) ((valM m.vals a + 288230376287764480 * valM m.vals b) % 288230376287764481), Int.emod_emod, ← Int.mul_emod]
    generalize valM m.vals c * (valM m.vals a + 288230376287764480 * valM m.vals b) = z
    omega
  refine ⟨_, ⟨?_, by show (freshM m _).vals = _; rw [fresh_vals, hx], ?_⟩⟩
  · have hl := fresh_len m ((valM m.vals b + valM m.vals c * valF m.vals 0 (sumT (two1 (isMk m a) (isMk m b) 288230376287764480)) % 288230376287764481) % 288230376287764481)
    exact (h.fresh _).row (blw_1 (by show isM m.vals c < _; omega)) (blw_2 (by show isM m.vals a < _; omega) (by show isM m.vals b < _; omega)) (blw_2 (by omega) (by show isM m.vals b < _; omega)) (by simp) (by simp) (by simp)
  · unfold choM
    rw [AllH.row, AllH.fresh h, fresh_vals, hx, lin_1, lin_2, lin_2, gV_last, gV_app i0.2, gV_app i1.2, gV_app i2.2, ← valM_g h0, ← valM_g h0, ← valM_g h0]
    simp only [and_iff_left_iff_imp]
    intro _
    generalize valM m.vals c * (valM m.vals a + 288230376287764480 * valM m.vals b) = z
    omega
theorem ipow7 (j : Nat) (hj : j < 3) : ipow 288230376287764481 7 (j + 1) = 7 ^ (j + 1) % 288230376287764481 := by
  rw [ipow_eq (by decide) (by decide) (by constructor <;> omega)]
  rw [show ((j : Int) + 1).toNat = j + 1 by omega]
theorem cube_mod (L S : Int) (h : S = L % 288230376287764481) : L * L % 288230376287764481 * L % 288230376287764481 = rMul S (rMul S S) := by
  subst h
  unfold rMul
  simp only [Int.mul_emod, Int.emod_emod, Int.mul_comm]
theorem twoS_law (a : Int) : ∀ (n j : Nat) (m : Mk) (x c : Int), Good m → j + n = 3 → c = 7 ^ j % 288230376287764481 → 0 ≤ a → a < m.vals.length → 0 ≤ x → x < m.vals.length →
    ∃ X, Law m (twoS a n j m x).1 X ∧ 0 ≤ (twoS a n j m x).2 ∧ (twoS a n j m x).2 < (twoS a n j m x).1.vals.length ∧ gV (twoS a n j m x).1.vals (twoS a n j m x).2 = trn (gV m.vals a) n c (gV m.vals x)
  | 0, j, m, x, c, h, _, _, a0, a1, x0, x1 => ⟨[], Law.refl h, x0, x1, rfl⟩
  | n + 1, j, m, x, c, h, hj, hc, a0, a1, x0, x1 => by
    have h0 := h.ne
    have hp := ipow7 j (by omega)
    have hc' : rMul c 7 = 7 ^ (j + 1) % 288230376287764481 := by
      unfold rMul; rw [hc, Int.pow_succ, Int.mul_emod (7 ^ j % 288230376287764481), Int.emod_emod, ← Int.mul_emod]
    have b0 : blw m.vals.length (twoL a x j) := blw_3 x1 a1 (by omega)
    have l1 := prod_law h b0 b0 (by simp) (by simp)
    have n1 := l1.len
    have b1 : blw (prodM m (twoL a x j) (twoL a x j)).vals.length (twoL a x j) := blw_mono (by omega) b0
    have l2 := prod_law l1.good (a := one1 m.vals.length) (b := twoL a x j) (blw_1 (by simp at n1; omega)) b1 (by simp) (by simp)
    have n2 := l2.len
    simp only [List.length_singleton] at n1 n2
    have ll : lin (prodM m (twoL a x j) (twoL a x j)).vals (twoL a x j) = lin m.vals (twoL a x j) := by rw [l1.vals, lin_app _ b0]
    have lg : gV (prodM m (twoL a x j) (twoL a x j)).vals m.vals.length = lin m.vals (twoL a x j) * lin m.vals (twoL a x j) % 288230376287764481 := by rw [l1.vals, gV_last]
    rw [lin_1, lg, ll] at l2
    obtain ⟨X, l3, y0, y1, hy⟩ := twoS_law a n (j + 1) _ ((prodM m (twoL a x j) (twoL a x j)).vals.length : Int) (rMul c 7) l2.good (by omega) hc' a0 (by omega) (by omega) (by omega)
    refine ⟨_, (l1.trans l2).trans l3, y0, y1, ?_⟩
    show gV (twoS a n (j + 1) _ _).1.vals (twoS a n (j + 1) _ _).2 = _
    rw [hy, trn]
    have e1 : gV (prodM (prodM m (twoL a x j) (twoL a x j)) (one1 m.vals.length) (twoL a x j)).vals a = gV m.vals a := (l1.trans l2).g a1
    have e2 : gV (prodM (prodM m (twoL a x j) (twoL a x j)) (one1 m.vals.length) (twoL a x j)).vals (prodM m (twoL a x j) (twoL a x j)).vals.length = lin m.vals (twoL a x j) * lin m.vals (twoL a x j) % 288230376287764481 * lin m.vals (twoL a x j) % 288230376287764481 := by rw [l2.vals, gV_last]
    rw [e1, e2, cube_mod _ (rAdd (gV m.vals x) (rAdd (gV m.vals a) (rMul c 7)))]
    rw [lin_3, h.g0, hp, hc']
    unfold rAdd
    generalize (7:Int) ^ (j + 1) % 288230376287764481 = z
    omega
theorem two_law {m : Mk} (h : Good m) (a b : Int) : ∃ X, Law m (twoM m a b) X ∧ 0 ≤ twoR m a b ∧ twoR m a b < (twoM m a b).vals.length ∧ gV (twoM m a b).vals (twoR m a b) = twoH (valM m.vals a) (valM m.vals b) := by
  have h0 := h.ne
  have i1 := isM_in h0 a
  have i2 := isM_in h0 b
  obtain ⟨X, l1, x0, x1, hx⟩ : ∃ X, Law m (twoE m a b).1 X ∧ 0 ≤ (twoE m a b).2 ∧ (twoE m a b).2 < (twoE m a b).1.vals.length ∧ gV (twoE m a b).1.vals (twoE m a b).2 = trn (gV m.vals (isM m.vals a)) 3 1 (gV m.vals (isM m.vals b)) := twoS_law (isM m.vals a) 3 0 m (isM m.vals b) 1 h rfl (by decide) i1.1 i1.2 i2.1 i2.2
  have n1 := l1.len
  have l2 := lin_law l1.good (L := three1 (twoE m a b).2 (isM m.vals a) 2 (isM m.vals b) 1) (by simp)
  rw [ownT_id (V := (twoE m a b).1.vals) (by
    intro t ht
    simp only [List.mem_cons, List.not_mem_nil, or_false] at ht
    rcases ht with rfl | rfl | rfl
    · exact ⟨x0, x1⟩
    · exact ⟨i1.1, by rw [n1]; have := i1.2; show isM m.vals a < _; omega⟩
    · exact ⟨i2.1, by rw [n1]; have := i2.2; show isM m.vals b < _; omega⟩)] at l2
  have n2 := l2.len
  simp only [List.length_singleton] at n2
  refine ⟨_, l1.trans l2, by unfold twoR; omega, by unfold twoR twoM; rw [n2]; omega, ?_⟩
  unfold twoM twoR
  rw [l2.vals, gV_last, lin_3, hx, l1.g i1.2, l1.g i2.2, ← valM_g h0, ← valM_g h0]
  unfold twoH turnH rAdd
  generalize trn _ 3 1 _ = z
  omega
theorem man_law : ∀ (V : List Int) (m : Mk) (x : Int), Good m → 0 ≤ x → x < m.vals.length → ∃ X, Law m (manS V m x).1 X ∧ 0 ≤ (manS V m x).2 ∧ (manS V m x).2 < (manS V m x).1.vals.length
  | [], m, x, h, x0, x1 => ⟨[], Law.refl h, x0, x1⟩
  | v :: V, m, x, h, x0, x1 => by
    obtain ⟨X, l1, y0, y1, hy⟩ := two_law h x v
    obtain ⟨Y, l2, z0, z1⟩ := man_law V _ _ l1.good y0 y1
    exact ⟨_, l1.trans l2, z0, z1⟩
end Go.Proofs.YtngphcdhdllnnaaGreat.E.M
end
section
/- What the rows of any deed say, and how a system looks: the plain law. -/
set_option linter.unusedVariables false
set_option linter.unusedSimpArgs false
set_option maxRecDepth 10000
open Go Go.Proofs.YtngphcdhdllnnaaGreat.E Go.Proofs
namespace Go.Proofs.YtngphcdhdllnnaaGreat.E.M
theorem lin_append (V : List Int) : ∀ a b : List Tm, lin V (a ++ b) = lin V a + lin V b
  | [], b => by simp [lin]
  | t :: a, b => by simp only [List.cons_append, lin, lin_append V a b]; omega
theorem bit_next (v : Int) (j : Nat) : v % 2 ^ (j + 1) = v % 2 ^ j + 2 ^ j * (v / 2 ^ j % 2) := by
  have hP : (0:Int) < 2 ^ j := Int.pow_pos (by decide)
  have e1 := Int.mul_ediv_add_emod v (2 ^ j)
  have e2 := Int.mul_ediv_add_emod (v / 2 ^ j) 2
  have r0 := Int.emod_nonneg v (show (2:Int) ^ j ≠ 0 by omega)
  have r1 := Int.emod_lt_of_pos v hP
  rw [Int.pow_succ]
  rcases Int.emod_two_eq (v / 2 ^ j) with hb | hb
  · rw [hb] at e2 ⊢
    refine (div_of (Q := v / 2 ^ j / 2) (by omega) ?_ (by omega) (by omega)).2
    rw [Int.mul_zero, Int.add_zero, Int.mul_comm (v / 2 ^ j / 2), Int.mul_assoc]
    rw [Int.add_zero] at e2
    rw [e2, e1]
  · rw [hb] at e2 ⊢
    refine (div_of (Q := v / 2 ^ j / 2) (by omega) ?_ (by omega) (by omega)).2
    have e3 : v / 2 ^ j / 2 * (2 ^ j * 2) = 2 ^ j * (2 * (v / 2 ^ j / 2)) := by
      rw [Int.mul_comm (v / 2 ^ j / 2), Int.mul_assoc]
    have e4 : 2 * (v / 2 ^ j / 2) = v / 2 ^ j - 1 := by omega
    rw [e3, e4, Int.mul_sub, Int.mul_one]
    omega
theorem isM_of {V : List Int} {a : Int} (h0 : 0 ≤ a) (h1 : a < V.length) : isM V a = a := by unfold isM; rw [if_neg (by omega)]
theorem bit_law1 {m : Mk} (h : Good m) {x : Int} (hx : x = 0 ∨ x = 1) : Law m (rowM (freshM m x) (one1 m.vals.length) (two1 m.vals.length 0 288230376287764480) []) [x] := by
  have h0 := h.ne
  have hl := fresh_len m x
  have e : x % 288230376287764481 = x := by omega
  have hv : (freshM m x).vals = m.vals ++ [x] := by rw [fresh_vals, e]
  refine ⟨(h.fresh x).row (blw_1 (by omega)) (blw_2 (by omega) (by omega)) blw_nil (by simp) (by simp) (by simp), hv, ?_⟩
  rw [AllH.row, AllH.fresh h, hv, lin_1, lin_2, gV_last, gV_app (by omega), h.g0]
  simp only [lin, and_iff_left_iff_imp]
  intro _
  rcases hx with rfl | rfl <;> decide
theorem bitS_law (a : Int) : ∀ (n j : Nat) (m : Mk) (o : List Int) (s : List Tm), Good m → 0 ≤ a → a < m.vals.length → lin m.vals s = gV m.vals a % 2 ^ j → blw m.vals.length s → s.length = j → j + n ≤ 58 →
    ∃ X, Law m (bitS a n j m o s).1 X ∧ lin (bitS a n j m o s).1.vals (bitS a n j m o s).2.2 = gV m.vals a % 2 ^ (j + n) ∧ blw (bitS a n j m o s).1.vals.length (bitS a n j m o s).2.2 ∧ (bitS a n j m o s).2.2.length = j + n
  | 0, j, m, o, s, h, _, _, hl, hb, hs, _ => ⟨[], Law.refl h, by simpa [bitS] using hl, hb, by simpa [bitS] using hs⟩
  | n + 1, j, m, o, s, h, a0, a1, hl, hb, hs, hj => by
    have hx : bitV m.vals a j = 0 ∨ bitV m.vals a j = 1 := by unfold bitV; exact Int.emod_two_eq _
    have l1 := bit_law1 h hx
    have n1 := l1.len
    simp only [List.length_singleton] at n1
    have hv : bitV m.vals a j = gV m.vals a / 2 ^ j % 2 := by unfold bitV; rw [valM_g h.ne, isM_of a0 a1]
    have hg := l1.g a1
    obtain ⟨X, l2, g1, g2, g3⟩ := bitS_law a n (j + 1) _ (o ++ [(m.vals.length : Int)]) (s ++ [⟨m.vals.length, 2 ^ j⟩]) l1.good a0 (by omega) (by
      rw [hg, lin_append, l1.vals, lin_app _ hb, hl, bit_next, hv]
      simp only [lin, gV_last, Int.add_zero]) (by
      intro t ht
      rcases List.mem_append.1 ht with ht | ht
      · have := hb t ht; omega
      · simp only [List.mem_singleton] at ht; subst ht; show (m.vals.length : Int) < _; omega) (by rw [List.length_append, hs]; rfl) (by omega)
    rw [hg] at g1
    refine ⟨_, l1.trans l2, ?_, g2, ?_⟩
    · rw [show j + (n + 1) = j + 1 + n by omega]; exact g1
    · rw [show j + (n + 1) = j + 1 + n by omega]; exact g3
theorem div_zero {v : Int} (h0 : 0 ≤ v) (n : Nat) : v % 2 ^ n = v ↔ v / 2 ^ n = 0 := by
  have hP : (0:Int) < 2 ^ n := Int.pow_pos (by decide)
  have e1 := Int.mul_ediv_add_emod v (2 ^ n)
  constructor
  · intro h
    have : 2 ^ n * (v / 2 ^ n) = 0 := by omega
    rcases Int.mul_eq_zero.1 this with h | h
    · omega
    · exact h
  · intro h; rw [h] at e1; omega
theorem bit_law {m : Mk} (h : Good m) (a n : Int) : Good (bitM m a n) ∧ (AllH (bitM m a n) ↔ AllH m ∧ valM m.vals a / 2 ^ bitN n = 0) := by
  have i1 := isM_in h.ne a
  have h0 := h.ne
  have hN := bitN_le n
  obtain ⟨X, l1, g1, g2, g3⟩ : ∃ X, Law m (bitE m a n).1 X ∧ lin (bitE m a n).1.vals (bitE m a n).2.2 = gV m.vals (isM m.vals a) % 2 ^ (0 + bitN n) ∧ blw (bitE m a n).1.vals.length (bitE m a n).2.2 ∧ (bitE m a n).2.2.length = 0 + bitN n :=
    bitS_law (isM m.vals a) (bitN n) 0 m [] [] h i1.1 i1.2 (by simp only [lin, Int.pow_zero, Int.emod_one]) blw_nil rfl (by omega)
  rw [Nat.zero_add] at g1 g3
  have n1 := l1.len
  refine ⟨l1.good.row g2 (blw_1 (by omega)) (blw_1 (by rw [n1]; have := i1.2; show isM m.vals a < _; omega)) (by omega) (by simp) (by simp), ?_⟩
  unfold bitM
  rw [AllH.row, l1.all, g1, lin_1, lin_1, l1.good.g0, l1.g i1.2, ← valM_g h0, Int.mul_one]
  have hv := valM_lt h a
  rw [← div_zero hv.1]
  have hP : (0:Int) < 2 ^ bitN n := Int.pow_pos (by decide)
  have r0 := Int.emod_nonneg (valM m.vals a) (show (2:Int) ^ bitN n ≠ 0 by omega)
  have r1 : valM m.vals a % 2 ^ bitN n ≤ valM m.vals a := by
    have e1 := Int.mul_ediv_add_emod (valM m.vals a) (2 ^ bitN n)
    have e2 := Int.mul_nonneg (Int.le_of_lt hP) (Int.ediv_nonneg hv.1 (Int.le_of_lt hP))
    omega
  rw [Int.emod_eq_of_lt r0 (by omega), Int.emod_eq_of_lt hv.1 hv.2]
theorem Mok.pub {k : Nat} {m : Mk} (h : Mok (k + 1) m) (x : Int) : Mok k (pubM m x) := by
  unfold pubM
  split
  · exact Mok.mono h (by omega)
  · exact Mok.fresh (m := ⟨m.v, m.p + 1, m.rows, m.vals⟩) h x
/-! ### the shape -/
structure Shp (m m' : Mk) : Prop where
  v : m.v = m'.v
  p : m.p = m'.p
  rows : m.rows = m'.rows
  len : m.vals.length = m'.vals.length
theorem Shp.is {m m' : Mk} (h : Shp m m') (a : Int) : isM m.vals a = isM m'.vals a := by unfold isM; rw [h.len]
theorem Shp.fresh {m m' : Mk} (h : Shp m m') (x x' : Int) : Shp (freshM m x) (freshM m' x') := ⟨by simp [freshM, h.len], h.p, h.rows, by simp [freshM, h.len]⟩
theorem Shp.row {m m' : Mk} (h : Shp m m') (a b c : List Tm) : Shp (rowM m a b c) (rowM m' a b c) := ⟨h.v, h.p, by simp [rowM, h.rows], h.len⟩
theorem Shp.prod {m m' : Mk} (h : Shp m m') (a b : List Tm) : Shp (prodM m a b) (prodM m' a b) := by
  unfold prodM; rw [h.len]; exact (h.fresh _ _).row _ _ _
theorem Shp.own {m m' : Mk} (h : Shp m m') (L : List Tm) : ownT m.vals L = ownT m'.vals L := by
  unfold ownT; exact List.map_congr_left fun t _ => by rw [h.is]
theorem Shp.lin {m m' : Mk} (h : Shp m m') (L : List Tm) : Shp (linM m L) (linM m' L) := by
  unfold linM; rw [h.len, h.own]; exact (h.fresh _ _).row _ _ _
theorem Shp.pub {m m' : Mk} (h : Shp m m') (x x' : Int) : Shp (pubM m x) (pubM m' x') := by
  unfold pubM; rw [h.v, h.p]
  split
  · exact h
  · exact Shp.fresh (m := ⟨m'.v, m'.p + 1, m.rows, m.vals⟩) (m' := ⟨m'.v, m'.p + 1, m'.rows, m'.vals⟩) ⟨rfl, rfl, h.rows, h.len⟩ x x'
theorem Shp.bitS (a : Int) : ∀ (n j : Nat) {m m' : Mk} (o : List Int) (s : List Tm), Shp m m' → Shp (bitS a n j m o s).1 (bitS a n j m' o s).1 ∧ (bitS a n j m o s).2 = (bitS a n j m' o s).2
  | 0, _, _, _, _, _, h => ⟨h, rfl⟩
  | n + 1, j, m, m', o, s, h => by
    simp only [M.bitS]
    rw [h.len]
    exact Shp.bitS a n (j + 1) _ _ ((h.fresh _ _).row _ _ _)
theorem Shp.bit {m m' : Mk} (h : Shp m m') (a n : Int) : Shp (bitM m a n) (bitM m' a n) := by
  have hb := Shp.bitS (isM m'.vals a) (bitN n) 0 [] [] h
  unfold bitM bitE
  rw [h.is, hb.2]
  exact hb.1.row _ _ _
theorem Shp.cho {m m' : Mk} (h : Shp m m') (c a b : Int) : Shp (choM m c a b) (choM m' c a b) := by
  unfold choM isMk; rw [h.is, h.is, h.is, h.len]; exact (h.fresh _ _).row _ _ _
theorem Shp.twoS (a : Int) : ∀ (n j : Nat) {m m' : Mk} (x : Int), Shp m m' → Shp (twoS a n j m x).1 (twoS a n j m' x).1 ∧ (twoS a n j m x).2 = (twoS a n j m' x).2
  | 0, _, _, _, _, h => ⟨h, rfl⟩
  | n + 1, j, m, m', x, h => by
    simp only [M.twoS]
    have h1 := h.prod (twoL a x j) (twoL a x j)
    rw [h1.len, h.len]
    exact Shp.twoS a n (j + 1) _ (h1.prod _ _)
theorem Shp.two {m m' : Mk} (h : Shp m m') (a b : Int) : Shp (twoM m a b) (twoM m' a b) ∧ twoR m a b = twoR m' a b := by
  have hb := Shp.twoS (isM m'.vals a) 3 0 (isM m'.vals b) h
  unfold twoM twoR twoE
  rw [h.is, h.is, hb.2, hb.1.len]
  exact ⟨hb.1.lin _, rfl⟩
theorem Shp.manS : ∀ (V : List Int) {m m' : Mk} (x : Int), Shp m m' → Shp (manS V m x).1 (manS V m' x).1 ∧ (manS V m x).2 = (manS V m' x).2
  | [], _, _, _, h => ⟨h, rfl⟩
  | v :: V, m, m', x, h => by
    simp only [M.manS]
    have h1 := h.two x v
    rw [h1.2]
    exact Shp.manS V _ h1.1
theorem Shp.call {m m' : Mk} (h : Shp m m') {d d' : Dd} (e1 : d.what = d'.what) (e2 : d.a = d'.a) (e3 : d.b = d'.b) (e4 : d.n = d'.n) (e5 : d.L = d'.L) (e6 : d.V = d'.V) : Shp (callMk m d) (callMk m' d') := by
  unfold callMk
  rw [e1, e2, e3, e4, e5, e6]
  split
  · exact h.pub _ _
  split
  · exact h.fresh _ _
  split
  · exact h.lin _
  split
  · unfold mulM isMk; rw [h.is, h.is]; exact h.prod _ _
  split
  · exact h.bit _ _
  split
  · exact h.cho _ _ _
  split
  · unfold sameM isMk; rw [h.is, h.is]; exact h.row _ _ _
  split
  · exact (h.two _ _).1
  · unfold manE; rw [h.len]; exact (Shp.manS _ _ (h.lin _)).1
end Go.Proofs.YtngphcdhdllnnaaGreat.E.M
end
section
/- Whether a maker's values hold for its system: the plain law. -/
set_option linter.unusedVariables false
set_option linter.unusedSimpArgs false
set_option maxRecDepth 10000
open Go Go.Proofs.YtngphcdhdllnnaaGreat.E Go.Proofs
namespace Go.Proofs.YtngphcdhdllnnaaGreat.E.M
theorem rowsH_iff (V : List Int) : ∀ (L : List Rw) (k : Nat), (rowsH V k L = nil_ ↔ ∀ r ∈ L, rowH V r) ∧ (rowsH V k L = nil_ ∨ ∃ j : Nat, rowsH V k L = spot j 8)
  | [], k => ⟨by simp [rowsH], .inl rfl⟩
  | r :: l, k => by
    have ih := rowsH_iff V l (k + 1)
    simp only [rowsH]
    split
    · rename_i h
      refine ⟨ih.1.trans ⟨fun g s hs => ?_, fun g s hs => g s (List.mem_cons_of_mem _ hs)⟩, ih.2⟩
      rcases List.mem_cons.1 hs with rfl | hs
      · exact h
      · exact g s hs
    · rename_i h
      refine ⟨⟨fun g => by simp at g, fun g => absurd (g r (by simp)) h⟩, .inr ⟨k, rfl⟩⟩
theorem rowsF_all {n : Int} : ∀ {L : List Rw}, (∀ r ∈ L, rowF n r = true) → rowsF n L = true
  | [], _ => rfl
  | r :: l, h => by
    simp only [rowsF]
    rw [if_pos (h r (by simp))]
    exact rowsF_all fun s hs => h s (List.mem_cons_of_mem _ hs)
abbrev sysM (m : Mk) : Rk := ⟨m.v, m.p, m.rows⟩
theorem Good.chk {m : Mk} (h : Good m) (l1 : m.vals.length ≤ 4096) (l2 : m.rows.length ≤ 4096) : chkF (sysM m) = true := by
  have h0 := h.ne
  have hv := h.v
  have p0 := h.p0
  have p1 := h.p1
  unfold chkF
  rw [if_neg (by simp [badF]; omega)]
  refine rowsF_all fun r hr => ?_
  obtain ⟨a, b, c, rfl, ha, hb, hc, _⟩ := h.rows r hr
  simp only [rowF, hv, snd_sum ha, snd_sum hb, snd_sum hc, Bool.and_self]
/-- values that are good, whoever made them -/
theorem holds_iff {m : Mk} (h : Good m) (l1 : m.vals.length ≤ 4096) (l2 : m.rows.length ≤ 4096) {V : List Int} (hl : V.length = m.vals.length) (hh : V.head? = some 1) (hV : ∀ v ∈ V, v < 288230376287764481) :
    (holdsF (sysM m) V = nil_ ↔ ∀ r ∈ m.rows, rowH V r) ∧ (holdsF (sysM m) V = nil_ ∨ ∃ j : Nat, holdsF (sysM m) V = spot j 8) := by
  have hg : greatF V = false := by
    unfold greatF
    rw [List.any_eq_false]
    intro v hv
    have := hV v hv
    simp; omega
  have e : holdsF (sysM m) V = rowsH V 0 m.rows := by
    unfold holdsF
    rw [if_pos (h.chk l1 l2), if_neg (by rw [hg, hl, hh, show (sysM m).v = m.vals.length from h.v]; simp)]
  rw [e]
  exact rowsH_iff V m.rows 0
theorem holds_good {m : Mk} (h : Good m) (l1 : m.vals.length ≤ 4096) (l2 : m.rows.length ≤ 4096) : (holdsF (sysM m) m.vals = nil_ ↔ AllH m) ∧ (holdsF (sysM m) m.vals = nil_ ∨ ∃ j : Nat, holdsF (sysM m) m.vals = spot j 8) :=
  holds_iff h l1 l2 rfl h.one fun v hv => (h.lt v hv).2
theorem Good.rok {m : Mk} (h : Good m) : M.rok m.rows := fun r hr => by
  obtain ⟨a, b, c, rfl, _, _, _, la, lb, lc⟩ := h.rows r hr
  exact ⟨⟨Nat.lt_of_le_of_lt (sumT_len a) la, sumT_w a⟩, ⟨Nat.lt_of_le_of_lt (sumT_len b) lb, sumT_w b⟩, ⟨Nat.lt_of_le_of_lt (sumT_len c) lc, sumT_w c⟩⟩
theorem Good.len {m : Mk} (h : Good m) (l2 : m.rows.length ≤ 4096) : Len (sysM m) := by
  refine ⟨by show m.rows.length < _; omega, fun r hr => ?_⟩
  have := h.rok r hr
  exact ⟨by have := this.1.1; omega, by have := this.2.1.1; omega, by have := this.2.2.1; omega⟩
theorem Good.wR {m : Mk} (h : Good m) : M.wR (sysM m) := fun r hr => by
  have := h.rok r hr
  exact ⟨this.1.2, this.2.1.2, this.2.2.2⟩
theorem Good.wV {m : Mk} (h : Good m) : M.wV m.vals := fun v hv => ⟨(h.lt v hv).1, by have := (h.lt v hv).2; omega⟩
end Go.Proofs.YtngphcdhdllnnaaGreat.E.M
end
section
/- Hashes that a maker makes: the plain law. -/
set_option linter.unusedVariables false
set_option linter.unusedSimpArgs false
set_option maxRecDepth 10000
open Go Go.Proofs.YtngphcdhdllnnaaGreat.E Go.Proofs
namespace Go.Proofs.YtngphcdhdllnnaaGreat.E.M
def frS : List Int → Mk → Mk
  | [], m => m
  | v :: V, m => frS V (freshM m v)
def ixS : List Int → Nat → List Int
  | [], _ => []
  | _ :: V, n => (n : Int) :: ixS V (n + 1)
theorem valM_at2 {m : Mk} (h : Good m) {v : Int} (v0 : 0 ≤ v) (v1 : v < m.vals.length) : valM m.vals v = gV m.vals v := by rw [valM_g h.ne, isM_of v0 v1]
theorem man_val : ∀ (V : List Int) (m : Mk) (x : Int), Good m → 0 ≤ x → x < m.vals.length → (∀ v ∈ V, 0 ≤ v ∧ v < m.vals.length) → gV (manS V m x).1.vals (manS V m x).2 = (V.map (gV m.vals)).foldl twoH (gV m.vals x)
  | [], m, x, _, _, _, _ => rfl
  | v :: V, m, x, h, x0, x1, hV => by
    obtain ⟨X, l1, y0, y1, hy⟩ := two_law h x v
    have n1 := l1.len
    have hv := hV v (by simp)
    have ih := man_val V _ _ l1.good y0 y1 (fun w hw => by have := hV w (List.mem_cons_of_mem _ hw); omega)
    show gV (manS V _ _).1.vals (manS V _ _).2 = _
    rw [ih, hy, valM_at2 h x0 x1, valM_at2 h hv.1 hv.2]
    simp only [List.map_cons, List.foldl_cons]
    congr 1
    refine List.map_congr_left fun w hw => ?_
    exact l1.g (hV w (List.mem_cons_of_mem _ hw)).2
theorem frS_law : ∀ (V : List Int) {m : Mk}, Good m → Law m (frS V m) (V.map fun v => v % 288230376287764481)
  | [], m, h => Law.refl h
  | v :: V, m, h => by
    have l1 : Law m (freshM m v) [v % 288230376287764481] := ⟨h.fresh v, rfl, AllH.fresh h v⟩
    exact l1.trans (frS_law V (h.fresh v))
theorem ixS_in : ∀ (V : List Int) (n : Nat), ∀ v ∈ ixS V n, (n : Int) ≤ v ∧ v < (n : Int) + V.length
  | [], _, v, hv => by cases hv
  | w :: V, n, v, hv => by
    simp only [ixS] at hv
    rcases List.mem_cons.1 hv with rfl | hv
    · simp only [List.length_cons]; omega
    · have := ixS_in V (n + 1) v hv
      simp only [List.length_cons]; omega
theorem ixS_val : ∀ (V W : List Int), (ixS V W.length).map (gV (W ++ V.map fun v => v % 288230376287764481)) = V.map fun v => v % 288230376287764481
  | [], _ => rfl
  | v :: V, W => by
    have e : W ++ (v :: V).map (fun v => v % 288230376287764481) = (W ++ [v % 288230376287764481]) ++ V.map (fun v => v % 288230376287764481) := by simp
    have ih := ixS_val V (W ++ [v % 288230376287764481])
    rw [List.length_append, List.length_singleton] at ih
    rw [e]
    simp only [ixS, List.map_cons]
    rw [ih, gV_app (by simp; omega), gV_last]
abbrev h2 (a b : Int) : Mk := freshM (freshM mk0 a) b
abbrev h3 (a b : Int) : Mk := twoM (h2 a b) 1 2
abbrev h4 (a b : Int) (V : List Int) : Mk := frS V (h3 a b)
abbrev h5 (a b : Int) (V : List Int) : Mk × Int := manE (h4 a b V) (ixS V (h3 a b).vals.length)
end Go.Proofs.YtngphcdhdllnnaaGreat.E.M
end
section
/- What the system of a move says of its own values: the plain law. -/
set_option linter.unusedVariables false
set_option linter.unusedSimpArgs false
set_option maxRecDepth 10000
open Go Go.Proofs.YtngphcdhdllnnaaGreat.E Go.Proofs
namespace Go.Proofs.YtngphcdhdllnnaaGreat.E.M
structure Lw (m m' : Mk) (P : Prop) : Prop where
  good : Good m'
  le : m.vals.length ≤ m'.vals.length
  g : ∀ v : Int, v < m.vals.length → gV m'.vals v = gV m.vals v
  all : AllH m' ↔ (AllH m ∧ P)
theorem Lw.of {m m' : Mk} {X : List Int} (h : Law m m' X) : Lw m m' True := ⟨h.good, by rw [h.len]; omega, fun v hv => h.g hv, by rw [h.all]; simp⟩
theorem Lw.refl {m : Mk} (h : Good m) : Lw m m True := ⟨h, Nat.le_refl _, fun _ _ => rfl, by simp⟩
theorem Lw.trans {m m1 m2 : Mk} {P Q : Prop} (h : Lw m m1 P) (k : Lw m1 m2 Q) : Lw m m2 (P ∧ Q) :=
  ⟨k.good, Nat.le_trans h.le k.le, fun v hv => by rw [k.g v (by have := h.le; omega), h.g v hv], by rw [k.all, h.all, and_assoc]⟩
theorem Lw.iff {m m' : Mk} {P Q : Prop} (h : Lw m m' P) (e : P ↔ Q) : Lw m m' Q := ⟨h.good, h.le, h.g, h.all.trans (by rw [e])⟩
theorem Lw.t {m m1 m2 : Mk} {P : Prop} (h : Lw m m1 P) (k : Lw m1 m2 True) : Lw m m2 P := (h.trans k).iff (by simp)
/-- a variable of a value -/
structure Vl (m : Mk) (v x : Int) : Prop where
  a : 0 ≤ v
  b : v < m.vals.length
  c : gV m.vals v = x
theorem Vl.mv {m m' : Mk} {v x : Int} {P : Prop} (h : Vl m v x) (l : Lw m m' P) : Vl m' v x := ⟨h.a, by have := h.b; have := l.le; omega, by rw [l.g v h.b, h.c]⟩
theorem Vl.m {m : Mk} {v x : Int} (h : Vl m v x) (g : Good m) : valM m.vals v = x := by rw [valM_at2 g h.a h.b, h.c]
theorem Vl.lt {m : Mk} {v x : Int} (h : Vl m v x) (g : Good m) : 0 ≤ x ∧ x < 288230376287764481 := by rw [← h.c]; exact g.glt v
structure Vs (m : Mk) (V X : List Int) : Prop where
  a : ∀ v ∈ V, 0 ≤ v ∧ v < m.vals.length
  c : V.map (gV m.vals) = X
theorem Vs.mv {m m' : Mk} {V X : List Int} {P : Prop} (h : Vs m V X) (l : Lw m m' P) : Vs m' V X :=
  ⟨fun v hv => by have := h.a v hv; have := l.le; omega, by rw [← h.c]; exact List.map_congr_left fun v hv => l.g v (h.a v hv).2⟩
theorem Vs.nil {m : Mk} : Vs m [] [] := ⟨fun v hv => (by cases hv), rfl⟩
theorem Vs.cons {m : Mk} {v x : Int} {V X : List Int} (h : Vl m v x) (k : Vs m V X) : Vs m (v :: V) (x :: X) :=
  ⟨fun w hw => (List.mem_cons.1 hw).elim (fun e => e ▸ ⟨h.a, h.b⟩) (fun hw => k.a w hw), by rw [List.map_cons, h.c, k.c]⟩
theorem Vs.hd {m : Mk} {v x : Int} {V X : List Int} (h : Vs m (v :: V) (x :: X)) : Vl m v x ∧ Vs m V X := by
  have hc := h.c
  simp only [List.map_cons, List.cons.injEq] at hc
  exact ⟨⟨(h.a v (by simp)).1, (h.a v (by simp)).2, hc.1⟩, ⟨fun w hw => h.a w (List.mem_cons_of_mem _ hw), hc.2⟩⟩
theorem last_vl {m m' : Mk} {x : Int} (h : m'.vals = m.vals ++ [x]) : Vl m' m.vals.length x := ⟨by omega, by rw [h]; simp; omega, by rw [h, gV_last]⟩
theorem fresh_lw {m : Mk} (h : Good m) {x : Int} (hx : 0 ≤ x ∧ x < 288230376287764481) : Lw m (freshM m x) True ∧ Vl (freshM m x) m.vals.length x := by
  have e : x % 288230376287764481 = x := by omega
  have l1 : Law m (freshM m x) [x % 288230376287764481] := ⟨h.fresh x, rfl, AllH.fresh h x⟩
  rw [e] at l1
  exact ⟨Lw.of l1, last_vl l1.vals⟩
theorem pthS_eq : ∀ (V : List Int) (m : Mk) (l : List Int), pthS V m l = (frS V m, l ++ ixS V m.vals.length)
  | [], m, l => by simp [pthS, frS, ixS]
  | x :: r, m, l => by
    unfold pthS
    rw [pthS_eq r]
    simp [frS, ixS, freshM]
theorem pth_lw {m : Mk} (h : Good m) {V : List Int} (hV : ∀ x ∈ V, 0 ≤ x ∧ x < 288230376287764481) : Lw m (pthS V m []).1 True ∧ Vs (pthS V m []).1 (pthS V m []).2 V := by
  rw [pthS_eq]
  have l := frS_law V h
  have e : V.map (fun v => v % 288230376287764481) = V := by
    conv => rhs; rw [← List.map_id V]
    refine List.map_congr_left fun v hv => ?_
    have := hV v hv
    simp only [id]; omega
  refine ⟨Lw.of l, ?_, ?_⟩
  · intro v hv
    have := ixS_in V m.vals.length v (by simpa using hv)
    have hl := l.len
    rw [List.length_map] at hl
    show 0 ≤ v ∧ v < ((frS V m).vals.length : Int)
    omega
  · show ([] ++ ixS V m.vals.length).map (gV (frS V m).vals) = V
    rw [List.nil_append, l.vals, ixS_val, e]
theorem lin1_lw {m : Mk} (h : Good m) (c : Int) : Lw m (linM m [⟨0, c⟩]) True ∧ Vl (linM m [⟨0, c⟩]) m.vals.length (c % 288230376287764481) := by
  have l := lin_law h (L := [⟨0, c⟩]) (by simp)
  have h0 := h.ne
  rw [ownT_id (V := m.vals) (by intro t ht; simp only [List.mem_singleton] at ht; subst ht; exact ⟨Int.le_refl _, by show (0:Int) < _; omega⟩)] at l
  simp only [lin, h.g0, Int.mul_one, Int.add_zero] at l
  exact ⟨Lw.of l, last_vl l.vals⟩
theorem lin0_lw {m : Mk} (h : Good m) : Lw m (linM m []) True ∧ Vl (linM m []) m.vals.length 0 := by
  have l := lin_law h (L := []) (by simp)
  simp only [ownT, List.map_nil, lin, Int.zero_emod] at l
  exact ⟨Lw.of l, last_vl l.vals⟩
theorem two_lw {m : Mk} (h : Good m) {a b x y : Int} (fa : Vl m a x) (fb : Vl m b y) : Lw m (twoM m a b) True ∧ Vl (twoM m a b) (twoR m a b) (twoH x y) := by
  obtain ⟨X, l, h0, h1, h2⟩ := two_law h a b
  rw [fa.m h, fb.m h] at h2
  exact ⟨Lw.of l, h0, h1, h2⟩
theorem same_lw {m : Mk} (h : Good m) {a b x y : Int} (fa : Vl m a x) (fb : Vl m b y) : Lw m (sameM m a b) (x = y) := by
  obtain ⟨g, l⟩ := same_law h a b
  rw [fa.m h, fb.m h] at l
  exact ⟨g, Nat.le_refl _, fun _ _ => rfl, l⟩
theorem many_lw {m : Mk} (h : Good m) {V X : List Int} (fs : Vs m V X) : Lw m (manE m V).1 True ∧ Vl (manE m V).1 (manE m V).2 (manyH X) := by
  have l1 := lin1_lw h V.length
  have n1 := l1.2.b
  obtain ⟨Y, l5, z0, z1⟩ := man_law V _ m.vals.length l1.1.good (by omega) n1
  have fs1 := fs.mv l1.1
  have hz := man_val V _ m.vals.length l1.1.good (by omega) n1 fs1.a
  refine ⟨l1.1.t (Lw.of l5), z0, z1, ?_⟩
  show gV (manS V (linM m [⟨0, V.length⟩]) m.vals.length).1.vals (manS V (linM m [⟨0, V.length⟩]) m.vals.length).2 = _
  rw [hz, fs1.c, l1.2.c]
  unfold manyH
  rw [← fs.c, List.length_map]
theorem mul_lw {m : Mk} (h : Good m) {a b x y : Int} (fa : Vl m a x) (fb : Vl m b y) : Lw m (mulM m a b) True ∧ Vl (mulM m a b) m.vals.length (x * y % 288230376287764481) := by
  have i1 := isM_in h.ne a
  have i2 := isM_in h.ne b
  have l := prod_law h (a := one1 (isMk m a)) (b := one1 (isMk m b)) (blw_1 i1.2) (blw_1 i2.2) (by simp) (by simp)
  rw [lin_1, lin_1, ← valM_g h.ne, ← valM_g h.ne, fa.m h, fb.m h] at l
  exact ⟨Lw.of l, last_vl l.vals⟩
theorem sum2_lw {m : Mk} (h : Good m) (k : Int) {a b x y : Int} (fa : Vl m a x) (fb : Vl m b y) : Lw m (linM m (sumS 0 k [a, b])) True ∧ Vl (linM m (sumS 0 k [a, b])) m.vals.length ((x + k * y) % 288230376287764481) := by
  have l := lin_law h (L := sumS 0 k [a, b]) (by simp [sumS])
  rw [ownT_id (V := m.vals) (by
    intro t ht
    simp only [sumS, List.mem_cons, List.not_mem_nil, or_false] at ht
    rcases ht with rfl | rfl
    · exact ⟨fa.a, fa.b⟩
    · exact ⟨fb.a, fb.b⟩)] at l
  have e : lin m.vals (sumS 0 k [a, b]) = x + k * y := by simp [sumS, lin, fa.c, fb.c]
  rw [e] at l
  exact ⟨Lw.of l, last_vl l.vals⟩
theorem sum3_lw {m : Mk} (h : Good m) {a b c x y z : Int} (fa : Vl m a x) (fb : Vl m b y) (fc : Vl m c z) : Lw m (linM m (sumS 0 1 [a, b, c])) True ∧ Vl (linM m (sumS 0 1 [a, b, c])) m.vals.length ((x + (y + z)) % 288230376287764481) := by
  have l := lin_law h (L := sumS 0 1 [a, b, c]) (by simp [sumS])
  rw [ownT_id (V := m.vals) (by
    intro t ht
    simp only [sumS, List.mem_cons, List.not_mem_nil, or_false] at ht
    rcases ht with rfl | rfl | rfl
    · exact ⟨fa.a, fa.b⟩
    · exact ⟨fb.a, fb.b⟩
    · exact ⟨fc.a, fc.b⟩)] at l
  have e : lin m.vals (sumS 0 1 [a, b, c]) = x + (y + z) := by simp [sumS, lin, fa.c, fb.c, fc.c]
  rw [e] at l
  exact ⟨Lw.of l, last_vl l.vals⟩
/-- so many bits of a number, the lowest first -/
def bitl : Int → Nat → List Int
  | _, 0 => []
  | x, n + 1 => x % 2 :: bitl (x / 2) n
theorem bitS_ix (a : Int) : ∀ (n j : Nat) (m : Mk) (o : List Int) (s : List Tm), Good m → 0 ≤ a → a < m.vals.length →
    ∃ (X I : List Int), Law m (bitS a n j m o s).1 X ∧ (bitS a n j m o s).2.1 = o ++ I ∧ Vs (bitS a n j m o s).1 I (bitl (gV m.vals a / 2 ^ j) n)
  | 0, j, m, o, s, h, _, _ => ⟨[], [], Law.refl h, by simp [bitS], Vs.nil⟩
  | n + 1, j, m, o, s, h, a0, a1 => by
    have hx : bitV m.vals a j = 0 ∨ bitV m.vals a j = 1 := by unfold bitV; exact Int.emod_two_eq _
    have l1 := bit_law1 h hx
    have hv : bitV m.vals a j = gV m.vals a / 2 ^ j % 2 := by unfold bitV; rw [valM_g h.ne, isM_of a0 a1]
    have f1 := last_vl l1.vals
    have hg := l1.g a1
    obtain ⟨X, I, l2, e2, f2⟩ := bitS_ix a n (j + 1) _ (o ++ [(m.vals.length : Int)]) (s ++ [⟨m.vals.length, 2 ^ j⟩]) l1.good a0 (by have := (Lw.of l1).le; omega)
    rw [hg] at f2
    refine ⟨_, (m.vals.length : Int) :: I, l1.trans l2, ?_, ?_⟩
    · show (bitS a n (j + 1) _ _ _).2.1 = _
      rw [e2]; simp
    · show Vs (bitS a n (j + 1) _ _ _).1 _ _
      unfold bitl
      have e : gV m.vals a / 2 ^ (j + 1) = gV m.vals a / 2 ^ j / 2 := by
        rw [Int.pow_succ, Int.ediv_ediv_of_nonneg (Int.le_of_lt (Int.pow_pos (by decide)))]
      rw [e] at f2
      exact Vs.cons ⟨(f1.mv (Lw.of l2)).a, (f1.mv (Lw.of l2)).b, (f1.mv (Lw.of l2)).c.trans hv⟩ f2
theorem bit_lw {m : Mk} (h : Good m) {a x : Int} (fa : Vl m a x) {n : Nat} (hn : n ≤ 58) : Lw m (bitM m a n) (x / 2 ^ n = 0) ∧ Vs (bitM m a n) (bitE m a n).2.1 (bitl x n) := by
  have eN : bitN (n : Int) = n := by
    have h : bitN (n : Int) = (n : Int).toNat := if_neg (by omega)
    rw [h]; omega
  have eI : isM m.vals a = a := isM_of fa.a fa.b
  have hb := bit_law h a n
  rw [eN, fa.m h] at hb
  obtain ⟨X, I, l, e, f⟩ : ∃ (X I : List Int), Law m (bitE m a n).1 X ∧ (bitE m a n).2.1 = [] ++ I ∧ Vs (bitE m a n).1 I (bitl (gV m.vals (isM m.vals a) / 2 ^ 0) (bitN n)) := bitS_ix (isM m.vals a) (bitN n) 0 m [] [] h (by rw [eI]; exact fa.a) (by rw [eI]; exact fa.b)
  rw [eI, eN, fa.c, Int.pow_zero, Int.ediv_one] at f
  rw [List.nil_append] at e
  have l' := Lw.of l
  refine ⟨⟨hb.1, l'.le, l'.g, hb.2⟩, ?_⟩
  rw [e]
  exact ⟨f.a, f.c⟩
theorem cho_vals {m : Mk} (h : Good m) (c a b : Int) : (choM m c a b).vals = m.vals ++ [(valM m.vals b + valM m.vals c * (valM m.vals a + 288230376287764480 * valM m.vals b)) % 288230376287764481] := by
  have h0 := h.ne
  have hx : (valM m.vals b + valM m.vals c * valF m.vals 0 (sumT (two1 (isMk m a) (isMk m b) 288230376287764480)) % 288230376287764481) % 288230376287764481 % 288230376287764481 = (valM m.vals b + valM m.vals c * (valM m.vals a + 288230376287764480 * valM m.vals b)) % 288230376287764481 := by
    rw [val_sum, val_lin, lin_2, ← valM_g h0, ← valM_g h0, Int.emod_emod]
    rw [Int.mul_emod (valM m.vals c) ((valM m.vals a + 288230376287764480 * valM m.vals b) % 288230376287764481), Int.emod_emod, ← Int.mul_emod]
    generalize valM m.vals c * (valM m.vals a + 288230376287764480 * valM m.vals b) = z
    omega
  show (freshM m _).vals = _
  rw [fresh_vals, hx]
theorem cho_lw {m : Mk} (h : Good m) {c a b z x y : Int} (fc : Vl m c z) (fa : Vl m a x) (fb : Vl m b y) (hz : z = 0 ∨ z = 1) : Lw m (choM m c a b) True ∧ Vl (choM m c a b) m.vals.length (if z = 1 then x else y) := by
  obtain ⟨w, l⟩ := cho_law h c a b
  have hv := cho_vals h c a b
  have lx := fa.lt h
  have ly := fb.lt h
  rw [fc.m h, fa.m h, fb.m h] at hv
  have e : (y + z * (x + 288230376287764480 * y)) % 288230376287764481 = if z = 1 then x else y := by
    rcases hz with rfl | rfl
    · rw [if_neg (by decide)]; omega
    · rw [if_pos rfl]; omega
  rw [e] at hv
  exact ⟨Lw.of l, last_vl hv⟩
theorem clm_lw : ∀ (P X : List Int) (B : List Int) (m : Mk) (h n y : Int), Good m → Vs m P X → Vs m B (bitl n X.length) → Vl m h y →
    Lw m (clmS B P m h).1 True ∧ Vl (clmS B P m h).1 (clmS B P m h).2 (climbH X n y)
  | [], X, B, m, h, n, y, g, fP, fB, fh => by
    have e := fP.c
    simp only [List.map_nil] at e
    subst e
    cases B <;> exact ⟨Lw.refl g, fh⟩
  | p :: P, X, B, m, h, n, y, g, fP, fB, fh => by
    obtain ⟨x, X, rfl⟩ : ∃ x X', X = x :: X' := ⟨_, _, fP.c.symm⟩
    obtain ⟨fp, fQ⟩ := Vs.hd fP
    cases B with
    | nil => exact absurd fB.c (by simp [bitl])
    | cons b B =>
      simp only [List.length_cons, bitl] at fB
      obtain ⟨fb, fC⟩ := Vs.hd fB
      clear fB
      have hz : n % 2 = 0 ∨ n % 2 = 1 := Int.emod_two_eq _
      obtain ⟨l1, f1⟩ := cho_lw g fb fp fh hz
      obtain ⟨l2, f2⟩ := cho_lw l1.good (fb.mv l1) (fh.mv l1) (fp.mv l1) hz
      obtain ⟨l3, f3⟩ := two_lw l2.good (f1.mv l2) f2
      have L := (l1.t l2).t l3
      have e : twoH (if n % 2 = 1 then x else y) (if n % 2 = 1 then y else x) = if n % 2 = 1 then twoH x y else twoH y x := by split <;> rfl
      rw [e] at f3
      obtain ⟨l4, f4⟩ := clm_lw P X B _ _ (n / 2) _ L.good (fQ.mv L) (fC.mv L) f3
      exact ⟨L.t l4, f4⟩
theorem mul_zero {v x : Int} (v0 : 0 ≤ v) (v1 : v < 288230376287764481) : v * x % 288230376287764481 = 0 ↔ v = 0 ∨ x % 288230376287764481 = 0 := by
  constructor
  · intro h
    rcases Int.lt_or_eq_of_le v0 with hb | hb
    · right
      have hg := (gcd_prime (m := 288230376287764481) (.inr (.inl rfl)) v0 v1).2 (by omega)
      have hd : (288230376287764481:Int) ∣ v * x := Int.dvd_of_emod_eq_zero h
      have hn := Int.natAbs_dvd_natAbs.2 hd
      rw [Int.natAbs_mul] at hn
      exact Int.emod_eq_zero_of_dvd (Int.natAbs_dvd_natAbs.1 (Nat.Coprime.dvd_of_dvd_mul_left (k := (288230376287764481:Int).natAbs) (m := v.natAbs) hg hn))
    · exact .inl hb.symm
  · rintro (rfl | h)
    · simp
    · rw [Int.mul_emod, h, Int.mul_zero, Int.zero_emod]
theorem manyH_lt (V : List Int) : 0 ≤ manyH V ∧ manyH V < 288230376287764481 := by have := manyH_l V; exact this
set_option maxHeartbeats 16000000 in
theorem inp_lw {m : Mk} (g : Good m) {k v o rh a ro si en an d zr zs ze za : Int} {p : List Int} (hk : 0 ≤ k ∧ k < 288230376287764481) (hv : 0 ≤ v ∧ v < 288230376287764481) (ho : 0 ≤ o ∧ o < 288230376287764481) (hrh : 0 ≤ rh ∧ rh < 288230376287764481)
    (hp : ∀ x ∈ p, 0 ≤ x ∧ x < 288230376287764481) (lp : p.length ≤ 16) (ha : 0 ≤ a ∧ a < 2 ^ p.length) (hd : d = p.length) (fr : Vl m ro zr) (fs : Vl m si zs) (fe : Vl m en ze) (fa : Vl m an za) :
    Lw m (inpM m k v o rh a p d ro si en an) ((((o = twoH k 2) ∧ (v = 0 ∨ climbH p a (mrkH (v, o, rh)) = zr)) ∧ endH ⟨k, (v, o, rh), a, p⟩ = ze) ∧ twoH (twoH k 1) zs = za) ∧ Vl (inpM m k v o rh a p d ro si en an) (freshM m k).vals.length v := by
  subst hd
  have hP : (2:Int) ^ p.length ≤ 2 ^ 16 := by exact_mod_cast Nat.pow_le_pow_right (n := 2) (by decide) lp
  have hA : 0 ≤ a ∧ a < 288230376287764481 := by omega
  have hz := fr.lt g
  have L := Lw.refl g
  obtain ⟨q1, h_q1⟩ : ∃ x, x = freshM m k := ⟨_, rfl⟩
  obtain ⟨v0, h_v0⟩ : ∃ x : Int, x = (m.vals.length : Int) := ⟨_, rfl⟩
  obtain ⟨l_, f0⟩ := fresh_lw g hk
  rw [← h_q1] at l_
  rw [← h_q1, ← h_v0] at f0
  replace fr := fr.mv l_
  replace fs := fs.mv l_
  replace fe := fe.mv l_
  replace fa := fa.mv l_
  replace L := L.t l_
  have g := l_.good
  clear l_
  obtain ⟨q2, h_q2⟩ : ∃ x, x = freshM q1 v := ⟨_, rfl⟩
  obtain ⟨v1, h_v1⟩ : ∃ x : Int, x = (q1.vals.length : Int) := ⟨_, rfl⟩
  obtain ⟨l_, f1⟩ := fresh_lw g hv
  rw [← h_q2] at l_
  rw [← h_q2, ← h_v1] at f1
  replace fr := fr.mv l_
  replace fs := fs.mv l_
  replace fe := fe.mv l_
  replace fa := fa.mv l_
  replace f0 := f0.mv l_
  replace L := L.t l_
  have g := l_.good
  clear l_
  obtain ⟨q3, h_q3⟩ : ∃ x, x = freshM q2 o := ⟨_, rfl⟩
  obtain ⟨v2, h_v2⟩ : ∃ x : Int, x = (q2.vals.length : Int) := ⟨_, rfl⟩
  obtain ⟨l_, f2⟩ := fresh_lw g ho
  rw [← h_q3] at l_
  rw [← h_q3, ← h_v2] at f2
  replace fr := fr.mv l_
  replace fs := fs.mv l_
  replace fe := fe.mv l_
  replace fa := fa.mv l_
  replace f0 := f0.mv l_
  replace f1 := f1.mv l_
  replace L := L.t l_
  have g := l_.good
  clear l_
  obtain ⟨q4, h_q4⟩ : ∃ x, x = freshM q3 rh := ⟨_, rfl⟩
  obtain ⟨v3, h_v3⟩ : ∃ x : Int, x = (q3.vals.length : Int) := ⟨_, rfl⟩
  obtain ⟨l_, f3⟩ := fresh_lw g hrh
  rw [← h_q4] at l_
  rw [← h_q4, ← h_v3] at f3
  replace fr := fr.mv l_
  replace fs := fs.mv l_
  replace fe := fe.mv l_
  replace fa := fa.mv l_
  replace f0 := f0.mv l_
  replace f1 := f1.mv l_
  replace f2 := f2.mv l_
  replace L := L.t l_
  have g := l_.good
  clear l_
  obtain ⟨q5, h_q5⟩ : ∃ x, x = freshM q4 a := ⟨_, rfl⟩
  obtain ⟨v4, h_v4⟩ : ∃ x : Int, x = (q4.vals.length : Int) := ⟨_, rfl⟩
  obtain ⟨l_, f4⟩ := fresh_lw g hA
  rw [← h_q5] at l_
  rw [← h_q5, ← h_v4] at f4
  replace fr := fr.mv l_
  replace fs := fs.mv l_
  replace fe := fe.mv l_
  replace fa := fa.mv l_
  replace f0 := f0.mv l_
  replace f1 := f1.mv l_
  replace f2 := f2.mv l_
  replace f3 := f3.mv l_
  replace L := L.t l_
  have g := l_.good
  clear l_
  obtain ⟨q6, h_q6⟩ : ∃ x, x = (pthS p q5 []).1 := ⟨_, rfl⟩
  obtain ⟨P, h_P⟩ : ∃ x, x = (pthS p q5 []).2 := ⟨_, rfl⟩
  obtain ⟨l_, fP⟩ := pth_lw g hp
  rw [← h_q6] at l_
  rw [← h_q6, ← h_P] at fP
  replace fr := fr.mv l_
  replace fs := fs.mv l_
  replace fe := fe.mv l_
  replace fa := fa.mv l_
  replace f0 := f0.mv l_
  replace f1 := f1.mv l_
  replace f2 := f2.mv l_
  replace f3 := f3.mv l_
  replace f4 := f4.mv l_
  replace L := L.t l_
  have g := l_.good
  clear l_
  obtain ⟨q7, h_q7⟩ : ∃ x, x = linM q6 [⟨0, 1⟩] := ⟨_, rfl⟩
  obtain ⟨k1, h_k1⟩ : ∃ x : Int, x = (q6.vals.length : Int) := ⟨_, rfl⟩
  obtain ⟨l_, f5⟩ := lin1_lw g 1
  rw [← h_q7] at l_
  rw [← h_q7, ← h_k1] at f5
  replace fr := fr.mv l_
  replace fs := fs.mv l_
  replace fe := fe.mv l_
  replace fa := fa.mv l_
  replace f0 := f0.mv l_
  replace f1 := f1.mv l_
  replace f2 := f2.mv l_
  replace f3 := f3.mv l_
  replace f4 := f4.mv l_
  replace fP := fP.mv l_
  replace L := L.t l_
  have g := l_.good
  clear l_
  rw [show (1:Int) % 288230376287764481 = 1 from rfl] at f5
  obtain ⟨q8, h_q8⟩ : ∃ x, x = twoM q7 v0 k1 := ⟨_, rfl⟩
  obtain ⟨hi, h_hi⟩ : ∃ x : Int, x = twoR q7 v0 k1 := ⟨_, rfl⟩
  obtain ⟨l_, f6⟩ := two_lw g f0 f5
  rw [← h_q8] at l_
  rw [← h_q8, ← h_hi] at f6
  replace fr := fr.mv l_
  replace fs := fs.mv l_
  replace fe := fe.mv l_
  replace fa := fa.mv l_
  replace f0 := f0.mv l_
  replace f1 := f1.mv l_
  replace f2 := f2.mv l_
  replace f3 := f3.mv l_
  replace f4 := f4.mv l_
  replace fP := fP.mv l_
  replace f5 := f5.mv l_
  replace L := L.t l_
  have g := l_.good
  clear l_
  obtain ⟨q9, h_q9⟩ : ∃ x, x = linM q8 [⟨0, 2⟩] := ⟨_, rfl⟩
  obtain ⟨k2, h_k2⟩ : ∃ x : Int, x = (q8.vals.length : Int) := ⟨_, rfl⟩
  obtain ⟨l_, f7⟩ := lin1_lw g 2
  rw [← h_q9] at l_
  rw [← h_q9, ← h_k2] at f7
  replace fr := fr.mv l_
  replace fs := fs.mv l_
  replace fe := fe.mv l_
  replace fa := fa.mv l_
  replace f0 := f0.mv l_
  replace f1 := f1.mv l_
  replace f2 := f2.mv l_
  replace f3 := f3.mv l_
  replace f4 := f4.mv l_
  replace fP := fP.mv l_
  replace f5 := f5.mv l_
  replace f6 := f6.mv l_
  replace L := L.t l_
  have g := l_.good
  clear l_
  rw [show (2:Int) % 288230376287764481 = 2 from rfl] at f7
  obtain ⟨q10, h_q10⟩ : ∃ x, x = twoM q9 v0 k2 := ⟨_, rfl⟩
  obtain ⟨ow, h_ow⟩ : ∃ x : Int, x = twoR q9 v0 k2 := ⟨_, rfl⟩
  obtain ⟨l_, f8⟩ := two_lw g f0 f7
  rw [← h_q10] at l_
  rw [← h_q10, ← h_ow] at f8
  replace fr := fr.mv l_
  replace fs := fs.mv l_
  replace fe := fe.mv l_
  replace fa := fa.mv l_
  replace f0 := f0.mv l_
  replace f1 := f1.mv l_
  replace f2 := f2.mv l_
  replace f3 := f3.mv l_
  replace f4 := f4.mv l_
  replace fP := fP.mv l_
  replace f5 := f5.mv l_
  replace f6 := f6.mv l_
  replace f7 := f7.mv l_
  replace L := L.t l_
  have g := l_.good
  clear l_
  obtain ⟨q11, h_q11⟩ : ∃ x, x = sameM q10 ow v2 := ⟨_, rfl⟩
  have l_ := same_lw g f8 f2
  rw [← h_q11] at l_
  replace fr := fr.mv l_
  replace fs := fs.mv l_
  replace fe := fe.mv l_
  replace fa := fa.mv l_
  replace f0 := f0.mv l_
  replace f1 := f1.mv l_
  replace f2 := f2.mv l_
  replace f3 := f3.mv l_
  replace f4 := f4.mv l_
  replace fP := fP.mv l_
  replace f5 := f5.mv l_
  replace f6 := f6.mv l_
  replace f7 := f7.mv l_
  replace f8 := f8.mv l_
  replace L := L.trans l_
  have g := l_.good
  clear l_
  obtain ⟨q12, h_q12⟩ : ∃ x, x = (manE q11 [v1, v2, v3]).1 := ⟨_, rfl⟩
  obtain ⟨h12, h_h12⟩ : ∃ x : Int, x = (manE q11 [v1, v2, v3]).2 := ⟨_, rfl⟩
  obtain ⟨l_, f9⟩ := many_lw g (Vs.cons f1 (Vs.cons f2 (Vs.cons f3 Vs.nil)))
  rw [← h_q12] at l_
  rw [← h_q12, ← h_h12] at f9
  replace fr := fr.mv l_
  replace fs := fs.mv l_
  replace fe := fe.mv l_
  replace fa := fa.mv l_
  replace f0 := f0.mv l_
  replace f1 := f1.mv l_
  replace f2 := f2.mv l_
  replace f3 := f3.mv l_
  replace f4 := f4.mv l_
  replace fP := fP.mv l_
  replace f5 := f5.mv l_
  replace f6 := f6.mv l_
  replace f7 := f7.mv l_
  replace f8 := f8.mv l_
  replace L := L.t l_
  have g := l_.good
  clear l_
  obtain ⟨q13, h_q13⟩ : ∃ x, x = bitM q12 v4 p.length := ⟨_, rfl⟩
  obtain ⟨B, h_B⟩ : ∃ x, x = (bitE q12 v4 p.length).2.1 := ⟨_, rfl⟩
  obtain ⟨l_, fB⟩ := bit_lw g f4 (n := p.length) (by omega)
  rw [← h_q13] at l_
  rw [← h_q13, ← h_B] at fB
  replace fr := fr.mv l_
  replace fs := fs.mv l_
  replace fe := fe.mv l_
  replace fa := fa.mv l_
  replace f0 := f0.mv l_
  replace f1 := f1.mv l_
  replace f2 := f2.mv l_
  replace f3 := f3.mv l_
  replace f4 := f4.mv l_
  replace fP := fP.mv l_
  replace f5 := f5.mv l_
  replace f6 := f6.mv l_
  replace f7 := f7.mv l_
  replace f8 := f8.mv l_
  replace f9 := f9.mv l_
  replace L := L.trans l_
  have g := l_.good
  clear l_
  obtain ⟨q14, h_q14⟩ : ∃ x, x = (clmS B P q13 h12).1 := ⟨_, rfl⟩
  obtain ⟨h14, h_h14⟩ : ∃ x : Int, x = (clmS B P q13 h12).2 := ⟨_, rfl⟩
  obtain ⟨l_, f10⟩ := clm_lw P p B q13 h12 a _ g fP fB f9
  rw [← h_q14] at l_
  rw [← h_q14, ← h_h14] at f10
  replace fr := fr.mv l_
  replace fs := fs.mv l_
  replace fe := fe.mv l_
  replace fa := fa.mv l_
  replace f0 := f0.mv l_
  replace f1 := f1.mv l_
  replace f2 := f2.mv l_
  replace f3 := f3.mv l_
  replace f4 := f4.mv l_
  replace fP := fP.mv l_
  replace f5 := f5.mv l_
  replace f6 := f6.mv l_
  replace f7 := f7.mv l_
  replace f8 := f8.mv l_
  replace f9 := f9.mv l_
  replace fB := fB.mv l_
  replace L := L.t l_
  have g := l_.good
  clear l_
  obtain ⟨q15, h_q15⟩ : ∃ x, x = linM q14 (sumS 0 288230376287764480 [h14, ro]) := ⟨_, rfl⟩
  obtain ⟨k3, h_k3⟩ : ∃ x : Int, x = (q14.vals.length : Int) := ⟨_, rfl⟩
  obtain ⟨l_, f11⟩ := sum2_lw g 288230376287764480 f10 fr
  rw [← h_q15] at l_
  rw [← h_q15, ← h_k3] at f11
  replace fr := fr.mv l_
  replace fs := fs.mv l_
  replace fe := fe.mv l_
  replace fa := fa.mv l_
  replace f0 := f0.mv l_
  replace f1 := f1.mv l_
  replace f2 := f2.mv l_
  replace f3 := f3.mv l_
  replace f4 := f4.mv l_
  replace fP := fP.mv l_
  replace f5 := f5.mv l_
  replace f6 := f6.mv l_
  replace f7 := f7.mv l_
  replace f8 := f8.mv l_
  replace f9 := f9.mv l_
  replace fB := fB.mv l_
  replace f10 := f10.mv l_
  replace L := L.t l_
  have g := l_.good
  clear l_
  obtain ⟨q16, h_q16⟩ : ∃ x, x = mulM q15 v1 k3 := ⟨_, rfl⟩
  obtain ⟨off, h_off⟩ : ∃ x : Int, x = (q15.vals.length : Int) := ⟨_, rfl⟩
  obtain ⟨l_, f12⟩ := mul_lw g f1 f11
  rw [← h_q16] at l_
  rw [← h_q16, ← h_off] at f12
  replace fr := fr.mv l_
  replace fs := fs.mv l_
  replace fe := fe.mv l_
  replace fa := fa.mv l_
  replace f0 := f0.mv l_
  replace f1 := f1.mv l_
  replace f2 := f2.mv l_
  replace f3 := f3.mv l_
  replace f4 := f4.mv l_
  replace fP := fP.mv l_
  replace f5 := f5.mv l_
  replace f6 := f6.mv l_
  replace f7 := f7.mv l_
  replace f8 := f8.mv l_
  replace f9 := f9.mv l_
  replace fB := fB.mv l_
  replace f10 := f10.mv l_
  replace f11 := f11.mv l_
  replace L := L.t l_
  have g := l_.good
  clear l_
  obtain ⟨q17, h_q17⟩ : ∃ x, x = linM q16 [] := ⟨_, rfl⟩
  obtain ⟨k4, h_k4⟩ : ∃ x : Int, x = (q16.vals.length : Int) := ⟨_, rfl⟩
  obtain ⟨l_, f13⟩ := lin0_lw g
  rw [← h_q17] at l_
  rw [← h_q17, ← h_k4] at f13
  replace fr := fr.mv l_
  replace fs := fs.mv l_
  replace fe := fe.mv l_
  replace fa := fa.mv l_
  replace f0 := f0.mv l_
  replace f1 := f1.mv l_
  replace f2 := f2.mv l_
  replace f3 := f3.mv l_
  replace f4 := f4.mv l_
  replace fP := fP.mv l_
  replace f5 := f5.mv l_
  replace f6 := f6.mv l_
  replace f7 := f7.mv l_
  replace f8 := f8.mv l_
  replace f9 := f9.mv l_
  replace fB := fB.mv l_
  replace f10 := f10.mv l_
  replace f11 := f11.mv l_
  replace f12 := f12.mv l_
  replace L := L.t l_
  have g := l_.good
  clear l_
  obtain ⟨q18, h_q18⟩ : ∃ x, x = sameM q17 off k4 := ⟨_, rfl⟩
  have l_ := same_lw g f12 f13
  rw [← h_q18] at l_
  replace fr := fr.mv l_
  replace fs := fs.mv l_
  replace fe := fe.mv l_
  replace fa := fa.mv l_
  replace f0 := f0.mv l_
  replace f1 := f1.mv l_
  replace f2 := f2.mv l_
  replace f3 := f3.mv l_
  replace f4 := f4.mv l_
  replace fP := fP.mv l_
  replace f5 := f5.mv l_
  replace f6 := f6.mv l_
  replace f7 := f7.mv l_
  replace f8 := f8.mv l_
  replace f9 := f9.mv l_
  replace fB := fB.mv l_
  replace f10 := f10.mv l_
  replace f11 := f11.mv l_
  replace f12 := f12.mv l_
  replace f13 := f13.mv l_
  replace L := L.trans l_
  have g := l_.good
  clear l_
  obtain ⟨q19, h_q19⟩ : ∃ x, x = (manE q18 [hi, v3, v4]).1 := ⟨_, rfl⟩
  obtain ⟨h19, h_h19⟩ : ∃ x : Int, x = (manE q18 [hi, v3, v4]).2 := ⟨_, rfl⟩
  obtain ⟨l_, f14⟩ := many_lw g (Vs.cons f6 (Vs.cons f3 (Vs.cons f4 Vs.nil)))
  rw [← h_q19] at l_
  rw [← h_q19, ← h_h19] at f14
  replace fr := fr.mv l_
  replace fs := fs.mv l_
  replace fe := fe.mv l_
  replace fa := fa.mv l_
  replace f0 := f0.mv l_
  replace f1 := f1.mv l_
  replace f2 := f2.mv l_
  replace f3 := f3.mv l_
  replace f4 := f4.mv l_
  replace fP := fP.mv l_
  replace f5 := f5.mv l_
  replace f6 := f6.mv l_
  replace f7 := f7.mv l_
  replace f8 := f8.mv l_
  replace f9 := f9.mv l_
  replace fB := fB.mv l_
  replace f10 := f10.mv l_
  replace f11 := f11.mv l_
  replace f12 := f12.mv l_
  replace f13 := f13.mv l_
  replace L := L.t l_
  have g := l_.good
  clear l_
  obtain ⟨q20, h_q20⟩ : ∃ x, x = sameM q19 h19 en := ⟨_, rfl⟩
  have l_ := same_lw g f14 fe
  rw [← h_q20] at l_
  replace fr := fr.mv l_
  replace fs := fs.mv l_
  replace fe := fe.mv l_
  replace fa := fa.mv l_
  replace f0 := f0.mv l_
  replace f1 := f1.mv l_
  replace f2 := f2.mv l_
  replace f3 := f3.mv l_
  replace f4 := f4.mv l_
  replace fP := fP.mv l_
  replace f5 := f5.mv l_
  replace f6 := f6.mv l_
  replace f7 := f7.mv l_
  replace f8 := f8.mv l_
  replace f9 := f9.mv l_
  replace fB := fB.mv l_
  replace f10 := f10.mv l_
  replace f11 := f11.mv l_
  replace f12 := f12.mv l_
  replace f13 := f13.mv l_
  replace f14 := f14.mv l_
  replace L := L.trans l_
  have g := l_.good
  clear l_
  obtain ⟨q21, h_q21⟩ : ∃ x, x = twoM q20 hi si := ⟨_, rfl⟩
  obtain ⟨an1, h_an1⟩ : ∃ x : Int, x = twoR q20 hi si := ⟨_, rfl⟩
  obtain ⟨l_, f15⟩ := two_lw g f6 fs
  rw [← h_q21] at l_
  rw [← h_q21, ← h_an1] at f15
  replace fr := fr.mv l_
  replace fs := fs.mv l_
  replace fe := fe.mv l_
  replace fa := fa.mv l_
  replace f0 := f0.mv l_
  replace f1 := f1.mv l_
  replace f2 := f2.mv l_
  replace f3 := f3.mv l_
  replace f4 := f4.mv l_
  replace fP := fP.mv l_
  replace f5 := f5.mv l_
  replace f6 := f6.mv l_
  replace f7 := f7.mv l_
  replace f8 := f8.mv l_
  replace f9 := f9.mv l_
  replace fB := fB.mv l_
  replace f10 := f10.mv l_
  replace f11 := f11.mv l_
  replace f12 := f12.mv l_
  replace f13 := f13.mv l_
  replace f14 := f14.mv l_
  replace L := L.t l_
  have g := l_.good
  clear l_
  obtain ⟨q22, h_q22⟩ : ∃ x, x = sameM q21 an1 an := ⟨_, rfl⟩
  have l_ := same_lw g f15 fa
  rw [← h_q22] at l_
  replace fr := fr.mv l_
  replace fs := fs.mv l_
  replace fe := fe.mv l_
  replace fa := fa.mv l_
  replace f0 := f0.mv l_
  replace f1 := f1.mv l_
  replace f2 := f2.mv l_
  replace f3 := f3.mv l_
  replace f4 := f4.mv l_
  replace fP := fP.mv l_
  replace f5 := f5.mv l_
  replace f6 := f6.mv l_
  replace f7 := f7.mv l_
  replace f8 := f8.mv l_
  replace f9 := f9.mv l_
  replace fB := fB.mv l_
  replace f10 := f10.mv l_
  replace f11 := f11.mv l_
  replace f12 := f12.mv l_
  replace f13 := f13.mv l_
  replace f14 := f14.mv l_
  replace f15 := f15.mv l_
  replace L := L.trans l_
  have g := l_.good
  clear l_
  have eI : inpM m k v o rh a p p.length ro si en an = q22 := by
    subst h_q1 h_v0 h_q2 h_v1 h_q3 h_v2 h_q4 h_v3 h_q5 h_v4 h_q6 h_P h_q7 h_k1 h_q8 h_hi h_q9 h_k2 h_q10 h_ow h_q11 h_q12 h_h12 h_q13 h_B h_q14 h_h14 h_q15 h_k3 h_q16 h_off h_q17 h_k4 h_q18 h_q19 h_h19 h_q20 h_q21 h_an1 h_q22
    rfl
  have eV : ((freshM m k).vals.length : Int) = v1 := by rw [h_v1, h_q1]
  rw [eI, eV]
  refine ⟨L.iff ?_, f1⟩
  have e0 : a / 2 ^ p.length = 0 := Int.ediv_eq_zero_of_lt ha.1 ha.2
  have hc : 0 ≤ climbH p a (manyH [v, o, rh]) ∧ climbH p a (manyH [v, o, rh]) < 288230376287764481 := climbH_l (manyH_lt _) _ _
  have e1 : v * ((climbH p a (manyH [v, o, rh]) + 288230376287764480 * zr) % 288230376287764481) % 288230376287764481 = 0 ↔ v = 0 ∨ climbH p a (mrkH (v, o, rh)) = zr := by
    rw [mul_zero hv.1 hv.2, Int.emod_emod]
    show _ ↔ v = 0 ∨ climbH p a (manyH [v, o, rh]) = zr
    generalize climbH p a (manyH [v, o, rh]) = C at *
    constructor
    · rintro (h | h)
      · exact .inl h
      · right; omega
    · rintro (h | rfl)
      · exact .inl h
      · right; omega
  have e2 : (twoH k 2 = o) ↔ (o = twoH k 2) := eq_comm
  rw [e1, e0, e2]
  unfold endH
  simp only [true_and, and_true]
set_option maxHeartbeats 4000000 in
theorem out_lw {m : Mk} (g : Good m) {v o rh e ze : Int} (hv : 0 ≤ v ∧ v < 288230376287764481) (ho : 0 ≤ o ∧ o < 288230376287764481) (hrh : 0 ≤ rh ∧ rh < 288230376287764481) (fe : Vl m e ze) :
    Lw m (outM m (v, o, rh) e) (v < 4294967296 ∧ mrkH (v, o, rh) = ze) ∧ Vl (outM m (v, o, rh) e) m.vals.length v := by
  have L := Lw.refl g
  obtain ⟨q1, h_q1⟩ : ∃ x, x = freshM m v := ⟨_, rfl⟩
  obtain ⟨v1, h_v1⟩ : ∃ x : Int, x = (m.vals.length : Int) := ⟨_, rfl⟩
  obtain ⟨l_, f1⟩ := fresh_lw g hv
  rw [← h_q1] at l_
  rw [← h_q1, ← h_v1] at f1
  replace fe := fe.mv l_
  replace L := L.t l_
  have g := l_.good
  clear l_
  obtain ⟨q2, h_q2⟩ : ∃ x, x = freshM q1 o := ⟨_, rfl⟩
  obtain ⟨v2, h_v2⟩ : ∃ x : Int, x = (q1.vals.length : Int) := ⟨_, rfl⟩
  obtain ⟨l_, f2⟩ := fresh_lw g ho
  rw [← h_q2] at l_
  rw [← h_q2, ← h_v2] at f2
  replace fe := fe.mv l_
  replace f1 := f1.mv l_
  replace L := L.t l_
  have g := l_.good
  clear l_
  obtain ⟨q3, h_q3⟩ : ∃ x, x = freshM q2 rh := ⟨_, rfl⟩
  obtain ⟨v3, h_v3⟩ : ∃ x : Int, x = (q2.vals.length : Int) := ⟨_, rfl⟩
  obtain ⟨l_, f3⟩ := fresh_lw g hrh
  rw [← h_q3] at l_
  rw [← h_q3, ← h_v3] at f3
  replace fe := fe.mv l_
  replace f1 := f1.mv l_
  replace f2 := f2.mv l_
  replace L := L.t l_
  have g := l_.good
  clear l_
  obtain ⟨q4, h_q4⟩ : ∃ x, x = bitM q3 v1 32 := ⟨_, rfl⟩
  obtain ⟨B, h_B⟩ : ∃ x, x = (bitE q3 v1 32).2.1 := ⟨_, rfl⟩
  obtain ⟨l_, fB⟩ := bit_lw g f1 (n := 32) (by decide)
  rw [show ((32:Nat):Int) = 32 from rfl] at l_ fB
  rw [← h_q4] at l_
  rw [← h_q4, ← h_B] at fB
  replace fe := fe.mv l_
  replace f1 := f1.mv l_
  replace f2 := f2.mv l_
  replace f3 := f3.mv l_
  replace L := L.trans l_
  have g := l_.good
  clear l_
  obtain ⟨q5, h_q5⟩ : ∃ x, x = (manE q4 [v1, v2, v3]).1 := ⟨_, rfl⟩
  obtain ⟨h5, h_h5⟩ : ∃ x : Int, x = (manE q4 [v1, v2, v3]).2 := ⟨_, rfl⟩
  obtain ⟨l_, f4⟩ := many_lw g (Vs.cons f1 (Vs.cons f2 (Vs.cons f3 Vs.nil)))
  rw [← h_q5] at l_
  rw [← h_q5, ← h_h5] at f4
  replace fe := fe.mv l_
  replace f1 := f1.mv l_
  replace f2 := f2.mv l_
  replace f3 := f3.mv l_
  replace fB := fB.mv l_
  replace L := L.t l_
  have g := l_.good
  clear l_
  obtain ⟨q6, h_q6⟩ : ∃ x, x = sameM q5 h5 e := ⟨_, rfl⟩
  have l_ := same_lw g f4 fe
  rw [← h_q6] at l_
  replace fe := fe.mv l_
  replace f1 := f1.mv l_
  replace f2 := f2.mv l_
  replace f3 := f3.mv l_
  replace fB := fB.mv l_
  replace f4 := f4.mv l_
  replace L := L.trans l_
  have g := l_.good
  clear l_
  have eI : outM m (v, o, rh) e = q6 := by
    subst h_q1 h_v1 h_q2 h_v2 h_q3 h_v3 h_q4 h_q5 h_h5 h_q6
    unfold outM
    dsimp only
  rw [eI, ← h_v1]
  refine ⟨L.iff ?_, f1⟩
  have e1 : v / 2 ^ 32 = 0 ↔ v < 4294967296 := by omega
  rw [e1]
  unfold mrkH
  simp only [true_and]
end Go.Proofs.YtngphcdhdllnnaaGreat.E.M
end
section
/- The system of a move holds just if it is right; it does not hang on values: the plain law. -/
set_option linter.unusedVariables false
set_option linter.unusedSimpArgs false
set_option maxRecDepth 10000
open Go Go.Proofs.YtngphcdhdllnnaaGreat.E Go.Proofs
namespace Go.Proofs.YtngphcdhdllnnaaGreat.E.M
theorem pubK_good (V : List Int) : Good (pubK V) where
  v := by simp [pubK]
  p0 := by show (0:Int) ≤ (V.length : Int); omega
  p1 := by show (V.length : Int) < _; simp [pubK]; omega
  one := rfl
  lt := fun v hv => by
    simp only [pubK, List.mem_cons, List.mem_map] at hv
    rcases hv with rfl | ⟨w, _, rfl⟩
    · decide
    · exact ⟨Int.emod_nonneg _ (by decide), Int.emod_lt_of_pos w (by decide)⟩
  rows := fun r hr => by cases hr
theorem pubK_all (V : List Int) : AllH (pubK V) := fun r hr => by cases hr
theorem pubK_vl {V : List Int} {k : Nat} (h : k < V.length) {x : Int} (hx : V[k]? = some x) (hl : 0 ≤ x ∧ x < 288230376287764481) : Vl (pubK V) ((k + 1 : Nat) : Int) x := by
  refine ⟨by omega, by simp [pubK]; omega, ?_⟩
  unfold gV
  rw [if_pos ⟨by omega, by simp [pubK]; omega⟩]
  have e : (((k + 1 : Nat) : Int)).toNat = k + 1 := rfl
  rw [e]
  show ((1 :: V.map fun v => v % 288230376287764481)[k + 1]?).getD 0 = x
  rw [List.getElem?_cons_succ, List.getElem?_map, hx]
  show x % 288230376287764481 = x
  omega
theorem hash_lt (a b : Int) : 0 ≤ twoH a b ∧ twoH a b < 288230376287764481 := by have := twoH_l a b; exact this
abbrev frN (n : Int × Int × Int) : Prop := (0 ≤ n.1 ∧ n.1 < 288230376287764481) ∧ (0 ≤ n.2.1 ∧ n.2.1 < 288230376287764481) ∧ (0 ≤ n.2.2 ∧ n.2.2 < 288230376287764481)
structure frI (x : Ip) (d : Int) : Prop where
  k : 0 ≤ x.k ∧ x.k < 288230376287764481
  n : frN x.n
  l : d = x.p.length
  l2 : x.p.length ≤ 16
  a : 0 ≤ x.a ∧ x.a < 2 ^ x.p.length
  p : ∀ v ∈ x.p, 0 ≤ v ∧ v < 288230376287764481
/-- a move whose numbers are all below R, and whose paths are «as» long «as» the depth -/
structure frM (m : Mv) (d : Int) : Prop where
  r : 0 ≤ m.r ∧ m.r < 288230376287764481
  i : 0 ≤ m.i ∧ m.i < 288230376287764481
  o : 0 ≤ m.o ∧ m.o < 288230376287764481
  s : 0 ≤ m.s ∧ m.s < 288230376287764481
  x : frI m.x d
  y : frI m.y d
  p : frN m.p
  q : frN m.q
theorem frM.of {m : Mv} {d : Int} (hm : wM m) (hf : fitsH m d = true) : frM m d := by
  obtain ⟨mr, mi, mo, ms, ⟨xk, ⟨xv, xo, xr⟩, xa, xp⟩, ⟨yk, ⟨yv, yo, yr⟩, ya, yp⟩, ⟨pv, po, pr⟩, ⟨qv, qo, qr⟩⟩ := m
  obtain ⟨w1, w2, w3, w4, ⟨x1, ⟨x2, x3, x4⟩, x5, x6, x7⟩, ⟨y1, ⟨y2, y3, y4⟩, y5, y6, y7⟩, ⟨p1, p2, p3⟩, ⟨q1, q2, q3⟩⟩ := hm
  simp only [fitsH, hdF, inF, outF, Bool.and_eq_true, decide_eq_true_eq, bw, List.all_eq_true] at hf
  simp only at w1 w2 w3 w4 x1 x2 x3 x4 x5 x6 x7 y1 y2 y3 y4 y5 y6 y7 p1 p2 p3 q1 q2 q3
  obtain ⟨⟨⟨⟨⟨⟨hd, h1⟩, h2⟩, h3⟩, h4⟩, ⟨⟨⟨⟨⟨⟨⟨ex, ax⟩, bx⟩, cx⟩, dx⟩, fx⟩, gx⟩, px⟩, ⟨⟨p4, p5⟩, p6⟩⟩, ⟨⟨⟨⟨⟨⟨⟨ey, ay⟩, by_⟩, cy⟩, dy⟩, fy⟩, gy⟩, py⟩, ⟨⟨q4, q5⟩, q6⟩⟩ := hf
  have tx : d.toNat = xp.length := by omega
  have ty : d.toNat = yp.length := by omega
  have lx : xp.length ≤ 16 := by omega
  have ly : yp.length ≤ 16 := by omega
  rw [tx] at bx
  rw [ty] at by_
  exact ⟨⟨w1.1, h1⟩, ⟨w2.1, h2⟩, ⟨w3.1, h3⟩, ⟨w4.1, h4⟩, ⟨⟨x1.1, cx⟩, ⟨⟨x2.1, dx⟩, ⟨x3.1, fx⟩, ⟨x4.1, gx⟩⟩, ex.symm, lx, ⟨ax, bx⟩, fun v hv => ⟨(x6 v hv).1, px v hv⟩⟩,
    ⟨⟨y1.1, cy⟩, ⟨⟨y2.1, dy⟩, ⟨y3.1, fy⟩, ⟨y4.1, gy⟩⟩, ey.symm, ly, ⟨ay, by_⟩, fun v hv => ⟨(y6 v hv).1, py v hv⟩⟩, ⟨⟨p1.1, p4⟩, ⟨p2.1, p5⟩, ⟨p3.1, p6⟩⟩, ⟨⟨q1.1, q4⟩, ⟨q2.1, q5⟩, ⟨q3.1, q6⟩⟩⟩
set_option maxHeartbeats 16000000 in
theorem make_law {m : Mv} {d : Int} (h : frM m d) : Good (makM m d) ∧ (AllH (makM m d) ↔ rightH m = true) := by
  obtain ⟨mr, mi, mo, ms, ⟨xk, ⟨xv, xo, xr⟩, xa, xp⟩, ⟨yk, ⟨yv, yo, yr⟩, ya, yp⟩, ⟨pv, po, pr⟩, ⟨qv, qo, qr⟩⟩ := m
  obtain ⟨h1, h2, h3, h4, ⟨x1, ⟨x2, x3, x4⟩, xl, xl2, x5, x6⟩, ⟨y1, ⟨y2, y3, y4⟩, yl, yl2, y5, y6⟩, ⟨p1, p2, p3⟩, ⟨q1, q2, q3⟩⟩ := h
  simp only at h1 h2 h3 h4 x1 x2 x3 x4 xl xl2 x5 x6 y1 y2 y3 y4 yl yl2 y5 y6 p1 p2 p3 q1 q2 q3
  obtain ⟨M, hM⟩ : ∃ x : Mv, x = ⟨mr, mi, mo, ms, ⟨xk, (xv, xo, xr), xa, xp⟩, ⟨yk, (yv, yo, yr), ya, yp⟩, (pv, po, pr), (qv, qo, qr)⟩ := ⟨_, rfl⟩
  have g0 := pubK_good (numsH M)
  have a0 := pubK_all (numsH M)
  obtain ⟨ex, hex⟩ : ∃ z, z = endH ⟨xk, (xv, xo, xr), xa, xp⟩ := ⟨_, rfl⟩
  obtain ⟨ey, hey⟩ : ∃ z, z = endH ⟨yk, (yv, yo, yr), ya, yp⟩ := ⟨_, rfl⟩
  obtain ⟨kp, hkp⟩ : ∃ z, z = mrkH (pv, po, pr) := ⟨_, rfl⟩
  obtain ⟨kq, hkq⟩ : ∃ z, z = mrkH (qv, qo, qr) := ⟨_, rfl⟩
  obtain ⟨ax, hax⟩ : ∃ z, z = twoH (twoH xk 1) ms := ⟨_, rfl⟩
  obtain ⟨ay, hay⟩ : ∃ z, z = twoH (twoH yk 1) ms := ⟨_, rfl⟩
  have hN : numsH M = [mr, mi, mo, ms, ex, ey, kp, kq, ax, ay] := by rw [hM, hex, hey, hkp, hkq, hax, hay]; rfl
  have l1 : 0 ≤ ex ∧ ex < 288230376287764481 := by rw [hex]; exact manyH_lt _
  have l2 : 0 ≤ ey ∧ ey < 288230376287764481 := by rw [hey]; exact manyH_lt _
  have l3 : 0 ≤ kp ∧ kp < 288230376287764481 := by rw [hkp]; exact manyH_lt _
  have l4 : 0 ≤ kq ∧ kq < 288230376287764481 := by rw [hkq]; exact manyH_lt _
  have l5 : 0 ≤ ax ∧ ax < 288230376287764481 := by rw [hax]; exact hash_lt _ _
  have l6 : 0 ≤ ay ∧ ay < 288230376287764481 := by rw [hay]; exact hash_lt _ _
  have f1 : Vl (pubK (numsH M)) 1 mr := by rw [hN]; exact pubK_vl (V := [mr, mi, mo, ms, ex, ey, kp, kq, ax, ay]) (k := 0) (by simp) rfl h1
  have f2 : Vl (pubK (numsH M)) 2 mi := by rw [hN]; exact pubK_vl (V := [mr, mi, mo, ms, ex, ey, kp, kq, ax, ay]) (k := 1) (by simp) rfl h2
  have f3 : Vl (pubK (numsH M)) 3 mo := by rw [hN]; exact pubK_vl (V := [mr, mi, mo, ms, ex, ey, kp, kq, ax, ay]) (k := 2) (by simp) rfl h3
  have f4 : Vl (pubK (numsH M)) 4 ms := by rw [hN]; exact pubK_vl (V := [mr, mi, mo, ms, ex, ey, kp, kq, ax, ay]) (k := 3) (by simp) rfl h4
  have f5 : Vl (pubK (numsH M)) 5 ex := by rw [hN]; exact pubK_vl (V := [mr, mi, mo, ms, ex, ey, kp, kq, ax, ay]) (k := 4) (by simp) rfl l1
  have f6 : Vl (pubK (numsH M)) 6 ey := by rw [hN]; exact pubK_vl (V := [mr, mi, mo, ms, ex, ey, kp, kq, ax, ay]) (k := 5) (by simp) rfl l2
  have f7 : Vl (pubK (numsH M)) 7 kp := by rw [hN]; exact pubK_vl (V := [mr, mi, mo, ms, ex, ey, kp, kq, ax, ay]) (k := 6) (by simp) rfl l3
  have f8 : Vl (pubK (numsH M)) 8 kq := by rw [hN]; exact pubK_vl (V := [mr, mi, mo, ms, ex, ey, kp, kq, ax, ay]) (k := 7) (by simp) rfl l4
  have f9 : Vl (pubK (numsH M)) 9 ax := by rw [hN]; exact pubK_vl (V := [mr, mi, mo, ms, ex, ey, kp, kq, ax, ay]) (k := 8) (by simp) rfl l5
  have f10 : Vl (pubK (numsH M)) 10 ay := by rw [hN]; exact pubK_vl (V := [mr, mi, mo, ms, ex, ey, kp, kq, ax, ay]) (k := 9) (by simp) rfl l6
  have hmk : makM ⟨mr, mi, mo, ms, ⟨xk, (xv, xo, xr), xa, xp⟩, ⟨yk, (yv, yo, yr), ya, yp⟩, (pv, po, pr), (qv, qo, qr)⟩ d = makM M d := by rw [hM]
  rw [hmk]
  have L := Lw.refl g0
  have g := g0
  obtain ⟨G1, h_G1⟩ : ∃ x, x = inpM (pubK (numsH M)) xk xv xo xr xa xp d 1 4 5 9 := ⟨_, rfl⟩
  obtain ⟨V1, h_V1⟩ : ∃ x : Int, x = ((freshM (pubK (numsH M)) xk).vals.length : Int) := ⟨_, rfl⟩
  obtain ⟨l_, fx⟩ := inp_lw g x1 x2 x3 x4 x6 xl2 x5 xl f1 f4 f5 f9
  rw [← h_G1] at l_
  rw [← h_G1, ← h_V1] at fx
  replace f1 := f1.mv l_
  replace f2 := f2.mv l_
  replace f3 := f3.mv l_
  replace f4 := f4.mv l_
  replace f5 := f5.mv l_
  replace f6 := f6.mv l_
  replace f7 := f7.mv l_
  replace f8 := f8.mv l_
  replace f9 := f9.mv l_
  replace f10 := f10.mv l_
  replace L := L.trans l_
  have g := l_.good
  clear l_
  obtain ⟨G2, h_G2⟩ : ∃ x, x = inpM G1 yk yv yo yr ya yp d 1 4 6 10 := ⟨_, rfl⟩
  obtain ⟨V2, h_V2⟩ : ∃ x : Int, x = ((freshM G1 yk).vals.length : Int) := ⟨_, rfl⟩
  obtain ⟨l_, fy⟩ := inp_lw g y1 y2 y3 y4 y6 yl2 y5 yl f1 f4 f6 f10
  rw [← h_G2] at l_
  rw [← h_G2, ← h_V2] at fy
  replace f1 := f1.mv l_
  replace f2 := f2.mv l_
  replace f3 := f3.mv l_
  replace f4 := f4.mv l_
  replace f5 := f5.mv l_
  replace f6 := f6.mv l_
  replace f7 := f7.mv l_
  replace f8 := f8.mv l_
  replace f9 := f9.mv l_
  replace f10 := f10.mv l_
  replace fx := fx.mv l_
  replace L := L.trans l_
  have g := l_.good
  clear l_
  obtain ⟨G3, h_G3⟩ : ∃ x, x = outM G2 (pv, po, pr) 7 := ⟨_, rfl⟩
  obtain ⟨V3, h_V3⟩ : ∃ x : Int, x = (G2.vals.length : Int) := ⟨_, rfl⟩
  obtain ⟨l_, fp⟩ := out_lw g p1 p2 p3 f7
  rw [← h_G3] at l_
  rw [← h_G3, ← h_V3] at fp
  replace f1 := f1.mv l_
  replace f2 := f2.mv l_
  replace f3 := f3.mv l_
  replace f4 := f4.mv l_
  replace f5 := f5.mv l_
  replace f6 := f6.mv l_
  replace f7 := f7.mv l_
  replace f8 := f8.mv l_
  replace f9 := f9.mv l_
  replace f10 := f10.mv l_
  replace fx := fx.mv l_
  replace fy := fy.mv l_
  replace L := L.trans l_
  have g := l_.good
  clear l_
  obtain ⟨G4, h_G4⟩ : ∃ x, x = outM G3 (qv, qo, qr) 8 := ⟨_, rfl⟩
  obtain ⟨V4, h_V4⟩ : ∃ x : Int, x = (G3.vals.length : Int) := ⟨_, rfl⟩
  obtain ⟨l_, fq⟩ := out_lw g q1 q2 q3 f8
  rw [← h_G4] at l_
  rw [← h_G4, ← h_V4] at fq
  replace f1 := f1.mv l_
  replace f2 := f2.mv l_
  replace f3 := f3.mv l_
  replace f4 := f4.mv l_
  replace f5 := f5.mv l_
  replace f6 := f6.mv l_
  replace f7 := f7.mv l_
  replace f8 := f8.mv l_
  replace f9 := f9.mv l_
  replace f10 := f10.mv l_
  replace fx := fx.mv l_
  replace fy := fy.mv l_
  replace fp := fp.mv l_
  replace L := L.trans l_
  have g := l_.good
  clear l_
  obtain ⟨G5, h_G5⟩ : ∃ x, x = linM G4 (sumS 0 1 [2, V1, V2]) := ⟨_, rfl⟩
  obtain ⟨V5, h_V5⟩ : ∃ x : Int, x = (G4.vals.length : Int) := ⟨_, rfl⟩
  obtain ⟨l_, fa⟩ := sum3_lw g f2 fx fy
  rw [← h_G5] at l_
  rw [← h_G5, ← h_V5] at fa
  replace f1 := f1.mv l_
  replace f2 := f2.mv l_
  replace f3 := f3.mv l_
  replace f4 := f4.mv l_
  replace f5 := f5.mv l_
  replace f6 := f6.mv l_
  replace f7 := f7.mv l_
  replace f8 := f8.mv l_
  replace f9 := f9.mv l_
  replace f10 := f10.mv l_
  replace fx := fx.mv l_
  replace fy := fy.mv l_
  replace fp := fp.mv l_
  replace fq := fq.mv l_
  replace L := L.t l_
  have g := l_.good
  clear l_
  obtain ⟨G6, h_G6⟩ : ∃ x, x = linM G5 (sumS 0 1 [3, V3, V4]) := ⟨_, rfl⟩
  obtain ⟨V6, h_V6⟩ : ∃ x : Int, x = (G5.vals.length : Int) := ⟨_, rfl⟩
  obtain ⟨l_, fb⟩ := sum3_lw g f3 fp fq
  rw [← h_G6] at l_
  rw [← h_G6, ← h_V6] at fb
  replace f1 := f1.mv l_
  replace f2 := f2.mv l_
  replace f3 := f3.mv l_
  replace f4 := f4.mv l_
  replace f5 := f5.mv l_
  replace f6 := f6.mv l_
  replace f7 := f7.mv l_
  replace f8 := f8.mv l_
  replace f9 := f9.mv l_
  replace f10 := f10.mv l_
  replace fx := fx.mv l_
  replace fy := fy.mv l_
  replace fp := fp.mv l_
  replace fq := fq.mv l_
  replace fa := fa.mv l_
  replace L := L.t l_
  have g := l_.good
  clear l_
  obtain ⟨GF, h_GF⟩ : ∃ x, x = sameM G6 V5 V6 := ⟨_, rfl⟩
  have l_ := same_lw g fa fb
  rw [← h_GF] at l_
  replace f1 := f1.mv l_
  replace f2 := f2.mv l_
  replace f3 := f3.mv l_
  replace f4 := f4.mv l_
  replace f5 := f5.mv l_
  replace f6 := f6.mv l_
  replace f7 := f7.mv l_
  replace f8 := f8.mv l_
  replace f9 := f9.mv l_
  replace f10 := f10.mv l_
  replace fx := fx.mv l_
  replace fy := fy.mv l_
  replace fp := fp.mv l_
  replace fq := fq.mv l_
  replace fa := fa.mv l_
  replace fb := fb.mv l_
  replace L := L.trans l_
  have g := l_.good
  clear l_
  have eI : makM M d = GF := by
    subst h_G1 h_V1 h_G2 h_V2 h_V3 h_G3 h_V4 h_G4 h_V5 h_G5 h_V6 h_G6 h_GF
    rw [hM]
    rfl
  rw [eI]
  refine ⟨g, L.all.trans ?_⟩
  have n1 : nonneg xa = xa := by unfold nonneg; rw [if_neg (by omega)]
  have n2 : nonneg ya = ya := by unfold nonneg; rw [if_neg (by omega)]
  have e5 : ((mi + (xv + yv)) % 288230376287764481 = (mo + (pv + qv)) % 288230376287764481) ↔ rAdd (rAdd mi xv) yv = rAdd (rAdd mo pv) qv := by
    unfold rAdd
    rw [show ((mi + xv) % 288230376287764481 + yv) % 288230376287764481 = (mi + (xv + yv)) % 288230376287764481 by omega, show ((mo + pv) % 288230376287764481 + qv) % 288230376287764481 = (mo + (pv + qv)) % 288230376287764481 by omega]
  rw [e5]
  unfold rightH okI
  simp only [Bool.and_eq_true, Bool.or_eq_true, decide_eq_true_eq, n1, n2]
  rw [← hex, ← hey, ← hkp, ← hkq, ← hax, ← hay]
  simp only [a0, true_and, and_true]
  constructor
  · rintro ⟨⟨⟨⟨⟨c1, c2⟩, ⟨c3, c4⟩⟩, c5⟩, c6⟩, c7⟩
    exact ⟨⟨⟨⟨c1, c2⟩, c5⟩, ⟨c3, c4⟩, c6⟩, c7⟩
  · rintro ⟨⟨⟨⟨c1, c2⟩, c5⟩, ⟨c3, c4⟩, c6⟩, c7⟩
    exact ⟨⟨⟨⟨⟨c1, c2⟩, ⟨c3, c4⟩⟩, c5⟩, c6⟩, c7⟩
/-! ### how long it is -/
theorem makM_ok {j : Nat} {m : Mv} {d : Int} (h : frM m d) (o : Mok (2300 + j) (pubK (numsH m))) : Mok j (makM m d) := by
  have o1 : Mok (1400 + j) (mkG1 m d) := inpM_ok (Mok.mono o (by omega)) _ _ _ _ _ h.x.l2 _ _ _ _ _
  have o2 : Mok (500 + j) (mkG2 m d) := inpM_ok (Mok.mono o1 (by omega)) _ _ _ _ _ h.y.l2 _ _ _ _ _
  have o3 : Mok (300 + j) (mkG3 m d) := outM_ok (Mok.mono o2 (by omega)) _ _
  have o4 : Mok (100 + j) (mkG4 m d) := outM_ok (Mok.mono o3 (by omega)) _ _
  have o5 : Mok (98 + j) (mkG5 m d) := Mok.lin (Mok.mono o4 (by omega)) _
  have o6 : Mok (96 + j) (mkG6 m d) := Mok.lin (Mok.mono o5 (by omega)) _
  exact Mok.row (Mok.mono o6 (by omega)) _ _ _
theorem makM_len {m : Mv} {d : Int} (h : frM m d) : (makM m d).vals.length ≤ 2400 ∧ (makM m d).rows.length ≤ 2400 := by
  have e : (numsH m).length = 10 := rfl
  have e1 : (pubK (numsH m)).vals.length = 11 := by simp [pubK, e]
  have e2 : (pubK (numsH m)).rows.length = 0 := rfl
  obtain ⟨j, hj⟩ : ∃ j : Nat, j + 2400 = 1000000 := ⟨997600, rfl⟩
  have o : Mok (2300 + j) (pubK (numsH m)) := by
    have h10 := pubK_ok (V := numsH m) (by rw [e]; decide)
    exact ⟨by rw [e1]; omega, by rw [e2]; omega, h10.2.2⟩
  have := makM_ok h o
  exact ⟨by have := this.1; omega, by have := this.2.1; omega⟩
/-! ### the shape -/
theorem Shp.frS : ∀ (V V' : List Int) {m m' : Mk}, V.length = V'.length → Shp m m' → Shp (frS V m) (frS V' m') ∧ ixS V m.vals.length = ixS V' m'.vals.length
  | [], [], _, _, _, h => ⟨h, rfl⟩
  | [], _ :: _, _, _, e, _ => by simp at e
  | _ :: _, [], _, _, e, _ => by simp at e
  | v :: V, v' :: V', m, m', e, h => by
    have ih := Shp.frS V V' (m := freshM m v) (m' := freshM m' v') (by simpa using e) (h.fresh _ _)
    refine ⟨ih.1, ?_⟩
    have e1 := ih.2
    simp only [fresh_len] at e1
    simp only [M.ixS, h.len]
    rw [h.len] at e1
    rw [e1]
theorem Shp.pth {V V' : List Int} {m m' : Mk} (e : V.length = V'.length) (h : Shp m m') : Shp (pthS V m []).1 (pthS V' m' []).1 ∧ (pthS V m []).2 = (pthS V' m' []).2 := by
  rw [pthS_eq, pthS_eq]
  have := Shp.frS V V' e h
  exact ⟨this.1, by show [] ++ _ = [] ++ _; rw [this.2]⟩
theorem Shp.mul {m m' : Mk} (h : Shp m m') (a b : Int) : Shp (mulM m a b) (mulM m' a b) := by unfold mulM isMk; rw [h.is, h.is]; exact h.prod _ _
theorem Shp.same {m m' : Mk} (h : Shp m m') (a b : Int) : Shp (sameM m a b) (sameM m' a b) := by unfold sameM isMk; rw [h.is, h.is]; exact h.row _ _ _
theorem Shp.many {m m' : Mk} (h : Shp m m') (V : List Int) : Shp (manE m V).1 (manE m' V).1 ∧ (manE m V).2 = (manE m' V).2 := by unfold manE; rw [h.len]; exact Shp.manS _ _ (h.lin _)
theorem Shp.bitx {m m' : Mk} (h : Shp m m') (a n : Int) : (bitE m a n).2.1 = (bitE m' a n).2.1 := by
  have hb := Shp.bitS (isM m'.vals a) (bitN n) 0 [] [] h
  unfold bitE
  rw [h.is, hb.2]
theorem Shp.clm : ∀ (B P : List Int) {m m' : Mk} (h : Int), Shp m m' → Shp (clmS B P m h).1 (clmS B P m' h).1 ∧ (clmS B P m h).2 = (clmS B P m' h).2
  | [], _, m, m', h, s => by simp only [clmS]; exact ⟨s, trivial⟩
  | _ :: _, [], m, m', h, s => by simp only [clmS]; exact ⟨s, trivial⟩
  | b :: B, p :: P, m, m', h, s => by
    simp only [clmS]
    have s1 := s.cho b p h
    have s2 := s1.cho b h p
    have s3 := s2.two m'.vals.length (choM m' b p h).vals.length
    rw [s.len, s1.len, s3.2]
    exact Shp.clm B P _ s3.1
set_option maxHeartbeats 16000000 in
theorem Shp.inp {m m' : Mk} (s : Shp m m') (k v o rh a : Int) (p : List Int) (k' v' o' rh' a' : Int) (p' : List Int) (e : p.length = p'.length) (d ro si en an : Int) : Shp (inpM m k v o rh a p d ro si en an) (inpM m' k' v' o' rh' a' p' d ro si en an) := by
  obtain ⟨q1, h_q1⟩ : ∃ x, x = freshM m k := ⟨_, rfl⟩
  obtain ⟨r1, h_r1⟩ : ∃ x, x = freshM m' k' := ⟨_, rfl⟩
  have s1 := s.fresh k k'
  rw [← h_q1, ← h_r1] at s1
  obtain ⟨v0, h_v0⟩ : ∃ x, x = ((m').vals.length : Int) := ⟨_, rfl⟩
  have u_v0 : ((m).vals.length : Int) = v0 := by rw [h_v0]; exact congrArg (fun n : Nat => (n : Int)) s.len
  obtain ⟨q2, h_q2⟩ : ∃ x, x = freshM q1 v := ⟨_, rfl⟩
  obtain ⟨r2, h_r2⟩ : ∃ x, x = freshM r1 v' := ⟨_, rfl⟩
  have s2 := s1.fresh v v'
  rw [← h_q2, ← h_r2] at s2
  obtain ⟨v1, h_v1⟩ : ∃ x, x = ((r1).vals.length : Int) := ⟨_, rfl⟩
  have u_v1 : ((q1).vals.length : Int) = v1 := by rw [h_v1]; exact congrArg (fun n : Nat => (n : Int)) s1.len
  obtain ⟨q3, h_q3⟩ : ∃ x, x = freshM q2 o := ⟨_, rfl⟩
  obtain ⟨r3, h_r3⟩ : ∃ x, x = freshM r2 o' := ⟨_, rfl⟩
  have s3 := s2.fresh o o'
  rw [← h_q3, ← h_r3] at s3
  obtain ⟨v2, h_v2⟩ : ∃ x, x = ((r2).vals.length : Int) := ⟨_, rfl⟩
  have u_v2 : ((q2).vals.length : Int) = v2 := by rw [h_v2]; exact congrArg (fun n : Nat => (n : Int)) s2.len
  obtain ⟨q4, h_q4⟩ : ∃ x, x = freshM q3 rh := ⟨_, rfl⟩
  obtain ⟨r4, h_r4⟩ : ∃ x, x = freshM r3 rh' := ⟨_, rfl⟩
  have s4 := s3.fresh rh rh'
  rw [← h_q4, ← h_r4] at s4
  obtain ⟨v3, h_v3⟩ : ∃ x, x = ((r3).vals.length : Int) := ⟨_, rfl⟩
  have u_v3 : ((q3).vals.length : Int) = v3 := by rw [h_v3]; exact congrArg (fun n : Nat => (n : Int)) s3.len
  obtain ⟨q5, h_q5⟩ : ∃ x, x = freshM q4 a := ⟨_, rfl⟩
  obtain ⟨r5, h_r5⟩ : ∃ x, x = freshM r4 a' := ⟨_, rfl⟩
  have s5 := s4.fresh a a'
  rw [← h_q5, ← h_r5] at s5
  obtain ⟨v4, h_v4⟩ : ∃ x, x = ((r4).vals.length : Int) := ⟨_, rfl⟩
  have u_v4 : ((q4).vals.length : Int) = v4 := by rw [h_v4]; exact congrArg (fun n : Nat => (n : Int)) s4.len
  obtain ⟨q6, h_q6⟩ : ∃ x, x = (pthS p q5 []).1 := ⟨_, rfl⟩
  obtain ⟨r6, h_r6⟩ : ∃ x, x = (pthS p' r5 []).1 := ⟨_, rfl⟩
  have s6 := Shp.pth e s5
  obtain ⟨s6, w6⟩ := s6
  rw [← h_q6, ← h_r6] at s6
  obtain ⟨P, h_P⟩ : ∃ x, x = (pthS p' r5 []).2 := ⟨_, rfl⟩
  have u_P : (pthS p q5 []).2 = P := by rw [h_P]; exact w6
  obtain ⟨q7, h_q7⟩ : ∃ x, x = linM q6 [⟨0, 1⟩] := ⟨_, rfl⟩
  obtain ⟨r7, h_r7⟩ : ∃ x, x = linM r6 [⟨0, 1⟩] := ⟨_, rfl⟩
  have s7 := s6.lin [⟨0, 1⟩]
  rw [← h_q7, ← h_r7] at s7
  obtain ⟨k1, h_k1⟩ : ∃ x, x = ((r6).vals.length : Int) := ⟨_, rfl⟩
  have u_k1 : ((q6).vals.length : Int) = k1 := by rw [h_k1]; exact congrArg (fun n : Nat => (n : Int)) s6.len
  obtain ⟨q8, h_q8⟩ : ∃ x, x = twoM q7 v0 k1 := ⟨_, rfl⟩
  obtain ⟨r8, h_r8⟩ : ∃ x, x = twoM r7 v0 k1 := ⟨_, rfl⟩
  have s8 := s7.two v0 k1
  obtain ⟨s8, w8⟩ := s8
  rw [← h_q8, ← h_r8] at s8
  obtain ⟨hi, h_hi⟩ : ∃ x, x = twoR r7 v0 k1 := ⟨_, rfl⟩
  have u_hi : twoR q7 v0 k1 = hi := by rw [h_hi]; exact w8
  obtain ⟨q9, h_q9⟩ : ∃ x, x = linM q8 [⟨0, 2⟩] := ⟨_, rfl⟩
  obtain ⟨r9, h_r9⟩ : ∃ x, x = linM r8 [⟨0, 2⟩] := ⟨_, rfl⟩
  have s9 := s8.lin [⟨0, 2⟩]
  rw [← h_q9, ← h_r9] at s9
  obtain ⟨k2, h_k2⟩ : ∃ x, x = ((r8).vals.length : Int) := ⟨_, rfl⟩
  have u_k2 : ((q8).vals.length : Int) = k2 := by rw [h_k2]; exact congrArg (fun n : Nat => (n : Int)) s8.len
  obtain ⟨q10, h_q10⟩ : ∃ x, x = twoM q9 v0 k2 := ⟨_, rfl⟩
  obtain ⟨r10, h_r10⟩ : ∃ x, x = twoM r9 v0 k2 := ⟨_, rfl⟩
  have s10 := s9.two v0 k2
  obtain ⟨s10, w10⟩ := s10
  rw [← h_q10, ← h_r10] at s10
  obtain ⟨ow, h_ow⟩ : ∃ x, x = twoR r9 v0 k2 := ⟨_, rfl⟩
  have u_ow : twoR q9 v0 k2 = ow := by rw [h_ow]; exact w10
  obtain ⟨q11, h_q11⟩ : ∃ x, x = sameM q10 ow v2 := ⟨_, rfl⟩
  obtain ⟨r11, h_r11⟩ : ∃ x, x = sameM r10 ow v2 := ⟨_, rfl⟩
  have s11 := s10.same ow v2
  rw [← h_q11, ← h_r11] at s11
  obtain ⟨q12, h_q12⟩ : ∃ x, x = (manE q11 [v1, v2, v3]).1 := ⟨_, rfl⟩
  obtain ⟨r12, h_r12⟩ : ∃ x, x = (manE r11 [v1, v2, v3]).1 := ⟨_, rfl⟩
  have s12 := s11.many [v1, v2, v3]
  obtain ⟨s12, w12⟩ := s12
  rw [← h_q12, ← h_r12] at s12
  obtain ⟨h12, h_h12⟩ : ∃ x, x = (manE r11 [v1, v2, v3]).2 := ⟨_, rfl⟩
  have u_h12 : (manE q11 [v1, v2, v3]).2 = h12 := by rw [h_h12]; exact w12
  obtain ⟨q13, h_q13⟩ : ∃ x, x = bitM q12 v4 d := ⟨_, rfl⟩
  obtain ⟨r13, h_r13⟩ : ∃ x, x = bitM r12 v4 d := ⟨_, rfl⟩
  have s13 := s12.bit v4 d
  rw [← h_q13, ← h_r13] at s13
  obtain ⟨B, h_B⟩ : ∃ x, x = (bitE r12 v4 d).2.1 := ⟨_, rfl⟩
  have u_B : (bitE q12 v4 d).2.1 = B := by rw [h_B]; exact s12.bitx v4 d
  obtain ⟨q14, h_q14⟩ : ∃ x, x = (clmS B P q13 h12).1 := ⟨_, rfl⟩
  obtain ⟨r14, h_r14⟩ : ∃ x, x = (clmS B P r13 h12).1 := ⟨_, rfl⟩
  have s14 := Shp.clm B P h12 s13
  obtain ⟨s14, w14⟩ := s14
  rw [← h_q14, ← h_r14] at s14
  obtain ⟨h14, h_h14⟩ : ∃ x, x = (clmS B P r13 h12).2 := ⟨_, rfl⟩
  have u_h14 : (clmS B P q13 h12).2 = h14 := by rw [h_h14]; exact w14
  obtain ⟨q15, h_q15⟩ : ∃ x, x = linM q14 (sumS 0 288230376287764480 [h14, ro]) := ⟨_, rfl⟩
  obtain ⟨r15, h_r15⟩ : ∃ x, x = linM r14 (sumS 0 288230376287764480 [h14, ro]) := ⟨_, rfl⟩
  have s15 := s14.lin (sumS 0 288230376287764480 [h14, ro])
  rw [← h_q15, ← h_r15] at s15
  obtain ⟨k3, h_k3⟩ : ∃ x, x = ((r14).vals.length : Int) := ⟨_, rfl⟩
  have u_k3 : ((q14).vals.length : Int) = k3 := by rw [h_k3]; exact congrArg (fun n : Nat => (n : Int)) s14.len
  obtain ⟨q16, h_q16⟩ : ∃ x, x = mulM q15 v1 k3 := ⟨_, rfl⟩
  obtain ⟨r16, h_r16⟩ : ∃ x, x = mulM r15 v1 k3 := ⟨_, rfl⟩
  have s16 := s15.mul v1 k3
  rw [← h_q16, ← h_r16] at s16
  obtain ⟨off, h_off⟩ : ∃ x, x = ((r15).vals.length : Int) := ⟨_, rfl⟩
  have u_off : ((q15).vals.length : Int) = off := by rw [h_off]; exact congrArg (fun n : Nat => (n : Int)) s15.len
  obtain ⟨q17, h_q17⟩ : ∃ x, x = linM q16 [] := ⟨_, rfl⟩
  obtain ⟨r17, h_r17⟩ : ∃ x, x = linM r16 [] := ⟨_, rfl⟩
  have s17 := s16.lin []
  rw [← h_q17, ← h_r17] at s17
  obtain ⟨k4, h_k4⟩ : ∃ x, x = ((r16).vals.length : Int) := ⟨_, rfl⟩
  have u_k4 : ((q16).vals.length : Int) = k4 := by rw [h_k4]; exact congrArg (fun n : Nat => (n : Int)) s16.len
  obtain ⟨q18, h_q18⟩ : ∃ x, x = sameM q17 off k4 := ⟨_, rfl⟩
  obtain ⟨r18, h_r18⟩ : ∃ x, x = sameM r17 off k4 := ⟨_, rfl⟩
  have s18 := s17.same off k4
  rw [← h_q18, ← h_r18] at s18
  obtain ⟨q19, h_q19⟩ : ∃ x, x = (manE q18 [hi, v3, v4]).1 := ⟨_, rfl⟩
  obtain ⟨r19, h_r19⟩ : ∃ x, x = (manE r18 [hi, v3, v4]).1 := ⟨_, rfl⟩
  have s19 := s18.many [hi, v3, v4]
  obtain ⟨s19, w19⟩ := s19
  rw [← h_q19, ← h_r19] at s19
  obtain ⟨h19, h_h19⟩ : ∃ x, x = (manE r18 [hi, v3, v4]).2 := ⟨_, rfl⟩
  have u_h19 : (manE q18 [hi, v3, v4]).2 = h19 := by rw [h_h19]; exact w19
  obtain ⟨q20, h_q20⟩ : ∃ x, x = sameM q19 h19 en := ⟨_, rfl⟩
  obtain ⟨r20, h_r20⟩ : ∃ x, x = sameM r19 h19 en := ⟨_, rfl⟩
  have s20 := s19.same h19 en
  rw [← h_q20, ← h_r20] at s20
  obtain ⟨q21, h_q21⟩ : ∃ x, x = twoM q20 hi si := ⟨_, rfl⟩
  obtain ⟨r21, h_r21⟩ : ∃ x, x = twoM r20 hi si := ⟨_, rfl⟩
  have s21 := s20.two hi si
  obtain ⟨s21, w21⟩ := s21
  rw [← h_q21, ← h_r21] at s21
  obtain ⟨an1, h_an1⟩ : ∃ x, x = twoR r20 hi si := ⟨_, rfl⟩
  have u_an1 : twoR q20 hi si = an1 := by rw [h_an1]; exact w21
  obtain ⟨q22, h_q22⟩ : ∃ x, x = sameM q21 an1 an := ⟨_, rfl⟩
  obtain ⟨r22, h_r22⟩ : ∃ x, x = sameM r21 an1 an := ⟨_, rfl⟩
  have s22 := s21.same an1 an
  rw [← h_q22, ← h_r22] at s22
  have eL : inpM m k v o rh a p d ro si en an = q22 := by
    clear h_v0 h_v1 h_v2 h_v3 h_v4 h_P h_k1 h_hi h_k2 h_ow h_h12 h_B h_h14 h_k3 h_off h_k4 h_h19 h_an1
    subst h_q1 u_v0 h_q2 u_v1 h_q3 u_v2 h_q4 u_v3 h_q5 u_v4 h_q6 u_P h_q7 u_k1 h_q8 u_hi h_q9 u_k2 h_q10 u_ow h_q11 h_q12 u_h12 h_q13 u_B h_q14 u_h14 h_q15 u_k3 h_q16 u_off h_q17 u_k4 h_q18 h_q19 u_h19 h_q20 h_q21 u_an1 h_q22
    rfl
  have eR : inpM m' k' v' o' rh' a' p' d ro si en an = r22 := by
    clear u_v0 u_v1 u_v2 u_v3 u_v4 u_P u_k1 u_hi u_k2 u_ow u_h12 u_B u_h14 u_k3 u_off u_k4 u_h19 u_an1
    subst h_r1 h_v0 h_r2 h_v1 h_r3 h_v2 h_r4 h_v3 h_r5 h_v4 h_r6 h_P h_r7 h_k1 h_r8 h_hi h_r9 h_k2 h_r10 h_ow h_r11 h_r12 h_h12 h_r13 h_B h_r14 h_h14 h_r15 h_k3 h_r16 h_off h_r17 h_k4 h_r18 h_r19 h_h19 h_r20 h_r21 h_an1 h_r22
    rfl
  rw [eL, eR]
  exact s22
theorem Shp.out {m m' : Mk} (s : Shp m m') (n n' : Int × Int × Int) (e : Int) : Shp (outM m n e) (outM m' n' e) := by
  have s1 := s.fresh n.1 n'.1
  have s2 := s1.fresh n.2.1 n'.2.1
  have s3 := s2.fresh n.2.2 n'.2.2
  have s4 := s3.bit m'.vals.length 32
  have s5 := s4.many [(m'.vals.length : Int), (freshM m' n'.1).vals.length, (freshM (freshM m' n'.1) n'.2.1).vals.length]
  unfold outM
  dsimp only
  rw [s.len, s1.len, s2.len, s5.2]
  exact s5.1.same _ _
theorem pubK_shp {V V' : List Int} (h : V.length = V'.length) : Shp (pubK V) (pubK V') := ⟨by show ((V.length + 1 : Nat) : Int) = _; rw [h]; rfl, by show (V.length : Int) = _; rw [h]; rfl, rfl, by simp [pubK, h]⟩
theorem numsH_len (m : Mv) : (numsH m).length = 10 := rfl
theorem Shp.make {m m' : Mv} {d : Int} (hx : m.x.p.length = m'.x.p.length) (hy : m.y.p.length = m'.y.p.length) : Shp (makM m d) (makM m' d) := by
  have s0 : Shp (pubK (numsH m)) (pubK (numsH m')) := pubK_shp (by rw [numsH_len, numsH_len])
  have s1 : Shp (mkG1 m d) (mkG1 m' d) := s0.inp _ _ _ _ _ _ _ _ _ _ _ _ hx _ _ _ _ _
  have s2 : Shp (mkG2 m d) (mkG2 m' d) := s1.inp _ _ _ _ _ _ _ _ _ _ _ _ hy _ _ _ _ _
  have s3 : Shp (mkG3 m d) (mkG3 m' d) := s2.out _ _ _
  have s4 : Shp (mkG4 m d) (mkG4 m' d) := s3.out _ _ _
  have v1 : mkV1 m = mkV1 m' := congrArg (fun n : Nat => (n : Int)) (s0.fresh m.x.k m'.x.k).len
  have v2 : mkV2 m d = mkV2 m' d := congrArg (fun n : Nat => (n : Int)) (s1.fresh m.y.k m'.y.k).len
  have s5 : Shp (mkG5 m d) (mkG5 m' d) := by show Shp (linM _ (sumS 0 1 [2, mkV1 m, mkV2 m d])) _; rw [v1, v2]; exact s4.lin _
  have s6 : Shp (mkG6 m d) (mkG6 m' d) := by show Shp (linM _ (sumS 0 1 [3, ((mkG2 m d).vals.length : Int), ((mkG3 m d).vals.length : Int)])) _; rw [s2.len, s3.len]; exact s5.lin _
  show Shp (sameM (mkG6 m d) (mkG4 m d).vals.length (mkG5 m d).vals.length) _
  rw [s4.len, s5.len]
  exact s6.same _ _
/-! ### ten are public -/
end Go.Proofs.YtngphcdhdllnnaaGreat.E.M
end
section
/- obollaw18: the document's examples; whether paths are short: contracts over E. -/
set_option linter.unusedVariables false
set_option linter.unusedSimpArgs false
set_option maxRecDepth 10000
open Go Go.Proofs.YtngphcdhdllnnaaGreat.E Go.Proofs
namespace Go.Proofs.YtngphcdhdllnnaaGreat.E.M
abbrev simI : Ip := ⟨7, (0, twoH 7 2, 0), 0, [0]⟩
abbrev simM (a b c : Int) : Mv := ⟨0, a, 0, 0, simI, simI, (b, 0, 0), (c, 0, 0)⟩
def litH (m : Mv) (d : Int) : Bool := ((decide (d < 5) || decide (d > 16)) || ((m.x.p.length : Int) != d)) || ((m.y.p.length : Int) != d)
theorem simM_w {a b c : Int} (ha : w64 a) (hb : w64 b) (hc : w64 c) : wM (simM a b c) := by
  have w0 : w64 0 := by decide
  have wt : w64 (twoH 7 2) := (twoH_l 7 2).w
  have wi : wI simI := ⟨by decide, ⟨w0, wt, w0⟩, show (0:Int) < 9223372036854775808 by decide, fun v hv => by simp only [List.mem_singleton] at hv; subst hv; exact w0, by decide⟩
  exact ⟨w0, ha, w0, w0, wi, wi, ⟨hb, w0, w0⟩, ⟨hc, w0, w0⟩⟩
theorem simM_f {a b c : Int} (ha : bw a = true) (hb : bw b = true) (hc : bw c = true) : fitsH (simM a b c) 1 = true := by
  have b0 : bw 0 = true := rfl
  have b7 : bw 7 = true := rfl
  have bt : bw (twoH 7 2) = true := by unfold bw; rw [decide_eq_true_eq]; exact (hash_lt 7 2).2
  have hp : decide ((0:Int) < 2 ^ (1:Int).toNat) = true := rfl
  have hl : decide (((1:Nat):Int) = 1) = true := rfl
  have hd : decide ((1:Int) ≤ 1 ∧ (1:Int) ≤ 16) = true := rfl
  have h0 : decide ((0:Int) ≤ 0) = true := rfl
  simp only [fitsH, hdF, inF, outF, List.all_cons, List.all_nil, List.length_cons, List.length_nil, Nat.zero_add, b0, b7, bt, ha, hb, hc, hp, hl, hd, h0, Bool.and_self]
theorem simM_r : rightH (simM 5 2 3) = true ∧ rightH (simM 5 2 4) = false := by
  constructor <;> simp [rightH, okI, rAdd]
set_option maxHeartbeats 4000000 in
theorem obollaw18_simple_c {a b c : Int} : Fn Tryz.prog 26 [u a, u b, u c] [] (fun r h_ => r = .agg (mvc (simM a b c))) := by
  refine Fn.enter Tryz.func26 Tryz.ntmps26 rfl (h := ?_)
  have tf := tfm
  have ot_ : (false || true) = true := rfl
  have tfv := tfv
  have tfn := tfn
  have tfr := tfr
  have n0 : Int.toNat 0 = 0 := rfl
  have n1 : Int.toNat 1 = 1 := rfl
  have q0 : (0:Int) ≤ 0 := by decide
  have q1' : (0:Int) ≤ 1 := by decide
  have x02 : (0:Int) < ((2:Nat):Int) := by decide
  have x12 : (1:Int) < ((2:Nat):Int) := by decide
  have z02 : (0:Int) < 2 := by decide
  have z12 : (1:Int) < 2 := by decide
  have a1_ : IntKind.i64.wrap (0 + 1) = 1 := by decide
  have a2_ : IntKind.i64.wrap (1 + 1) = 2 := by decide
  have i02 : decide ((0:Int) < 2) = true := rfl
  have i12 : decide ((1:Int) < 2) = true := rfl
  have i22 : decide ((2:Int) < 2) = false := rfl
  have cT := obolref10_Two_c (a := 7) (b := 2) (by decide) (by decide)
  obtain ⟨tt, htt⟩ : ∃ x, x = twoH 7 2 := ⟨_, rfl⟩
  rw [← htt] at cT
  replace htt : id (tt = twoH 7 2) := htt
  repeat refine AW.seq ?_
  refine AW.reg ?_
  iterate 1 refine AOL.s1 (h := ?_)
  refine AOL.nil ?_
  refine AW.kq [0, 1, 2, 6] (h := ?_)
  repeat refine AW.seq ?_
  refine AW.reg ?_
  iterate 4 refine AOL.s1 (h := ?_)
  refine AOL.nil ?_
  refine AW.kq [1, 2, 6, 7] (h := ?_)
  repeat refine AW.seq ?_
  refine AW.reg ?_
  iterate 1 refine AOL.s1 (h := ?_)
  refine AOL.nil ?_
  refine AW.kq [1, 2, 6, 7, 8] (h := ?_)
  repeat refine AW.seq ?_
  refine AW.block ?_
  repeat refine AW.seq ?_
  refine AW.rounds ?_
  refine AWin.next [1, 2, 6, 7, 8] (h := ?_)
  repeat refine AW.seq ?_
  refine AW.reg ?_
  iterate 2 refine AOL.s1 (h := ?_)
  refine AOL.nil ?_
  refine AW.kq [1, 2, 6, 7, 8, 12] (h := ?_)
  repeat refine AW.seq ?_
  refine AW.cond rfl (fun c_ => ?_) (fun c_ => ?_)
  rotate_left
  · cases c_
  refine AW.skip ?_
  repeat refine AW.seq ?_
  refine AW.block ?_
  repeat refine AW.seq ?_
  refine AW.reg ?_
  iterate 1 refine AOL.s1 (h := ?_)
  refine AOL.callD rfl (cT) (by kernel_rfl) rfl rfl (h := ?_)
  iterate 6 refine AOL.s1 (h := ?_)
  refine AOL.nil ?_
  refine AW.fz 1288 rfl (fun h => by cases h) (h := ?_)
  repeat refine AW.seq ?_
  refine AW.reg ?_
  iterate 3 refine AOL.s1 (h := ?_)
  refine AOL.nil ?_
  refine AWin.next [1, 2, 6, 7, 8] (h := ?_)
  repeat refine AW.seq ?_
  refine AW.reg ?_
  iterate 2 refine AOL.s1 (h := ?_)
  refine AOL.nil ?_
  refine AW.kq [1, 2, 6, 7, 8, 12] (h := ?_)
  repeat refine AW.seq ?_
  refine AW.cond rfl (fun c_ => ?_) (fun c_ => ?_)
  rotate_left
  · cases c_
  refine AW.skip ?_
  repeat refine AW.seq ?_
  refine AW.block ?_
  repeat refine AW.seq ?_
  refine AW.reg ?_
  iterate 1 refine AOL.s1 (h := ?_)
  refine AOL.callD rfl (cT) (by kernel_rfl) rfl rfl (h := ?_)
  iterate 6 refine AOL.s1 (h := ?_)
  refine AOL.nil ?_
  refine AW.fz 1288 rfl (fun h => by cases h) (h := ?_)
  repeat refine AW.seq ?_
  refine AW.reg ?_
  iterate 3 refine AOL.s1 (h := ?_)
  refine AOL.nil ?_
  refine AWin.next [1, 2, 6, 7, 8] (h := ?_)
  repeat refine AW.seq ?_
  refine AW.reg ?_
  iterate 2 refine AOL.s1 (h := ?_)
  refine AOL.nil ?_
  refine AW.kq [1, 2, 6, 7, 8, 12] (h := ?_)
  repeat refine AW.seq ?_
  refine AW.cond rfl (fun c_ => ?_) (fun c_ => ?_)
  · cases c_
  repeat refine AW.seq ?_
  refine AW.exit ?_
  repeat (first | refine Kseq.ex ?_ | refine Kloop.ex ?_ | refine Kblock.miss (by decide) ?_)
  refine Kblock.hit ?_
  refine AW.kq [1, 2, 6, 7] (h := ?_)
  repeat refine AW.seq ?_
  refine AW.reg ?_
  iterate 5 refine AOL.s1 (h := ?_)
  refine AOL.nil ?_
  refine AW.kq [2, 6, 7] (h := ?_)
  repeat refine AW.seq ?_
  refine AW.reg ?_
  iterate 5 refine AOL.s1 (h := ?_)
  refine AOL.nil ?_
  refine AW.kq [6, 7] (h := ?_)
  repeat refine AW.seq ?_
  refine AW.reg ?_
  iterate 2 refine AOL.s1 (h := ?_)
  refine AOL.nil ?_
  refine AW.kq [6] (h := ?_)
  repeat refine AW.seq ?_
  refine AW.ret ?_
  refine ⟨_, [], rfl, HOk.nil _, ?_⟩
  rw [show tt = twoH 7 2 from htt]
  rfl
set_option maxHeartbeats 8000000 in
theorem obollaw18_up_c : Fn Tryz.prog 5 [] [] (fun r h_ => r = bo true) := by
  refine Fn.enter Tryz.func5 Tryz.ntmps5 rfl (h := ?_)
  have tf := tfm
  have ot_ : (false || true) = true := rfl
  have tfv := tfv
  have tfn := tfn
  have tfr := tfr
  have w5 : w64 5 := by decide
  have w2 : w64 2 := by decide
  have w3 : w64 3 := by decide
  have w4 : w64 4 := by decide
  have hW := simM_w w5 w2 w3
  have hF : fitsH (simM 5 2 3) 1 = true := simM_f rfl rfl rfl
  have hF2 : fitsH (simM 5 2 4) 1 = true := simM_f rfl rfl rfl
  have fr := frM.of hW hF
  have mk := make_law fr
  have ml := makM_len fr
  have hH := (holds_good mk.1 (by omega) (by omega)).1.2 (mk.2.2 simM_r.1)
  have cR1 := circuit_Right_c (m := simM 5 2 3) (d := 1) hW ⟨show (-9223372036854775808:Int) ≤ 0 by decide, show (-9223372036854775808:Int) ≤ 0 by decide⟩
  have cR2 := circuit_Right_c (m := simM 5 2 4) (d := 1) (simM_w w5 w2 w4) ⟨show (-9223372036854775808:Int) ≤ 0 by decide, show (-9223372036854775808:Int) ≤ 0 by decide⟩
  rw [if_pos hF, simM_r.1] at cR1
  rw [if_pos hF2, simM_r.2] at cR2
  have cM := circuit_Make_y hW hF mk.1.rok
  obtain ⟨G, hG⟩ : ∃ x, x = makM (simM 5 2 3) 1 := ⟨_, rfl⟩
  rw [← hG] at cM mk ml hH
  have cH := rank_Holds_c (s := sysM G) (V := G.vals) (mk.1.len (by omega)) mk.1.wR mk.1.wV (by omega)
  rw [hH] at cH
  have cS1 := obollaw18_simple_c (a := 5) (b := 2) (c := 3)
  have cS2 := obollaw18_simple_c (a := 5) (b := 2) (c := 4)
  have hfl : id (AV.sl G.vals.length (sub 0 (G.vals.length * 1) (fm u1 G.vals)) = ul G.vals) := by show _ = _; rw [sub_all (by rw [fm_len u1_len]; exact Nat.le_refl _)]
  clear hH fr hG hW hF hF2 mk ml
  repeat refine AW.seq ?_
  refine AW.reg ?_
  iterate 1 refine AOL.s1 (h := ?_)
  refine AOL.nil ?_
  refine AW.kq [] (h := ?_)
  repeat refine AW.seq ?_
  refine AW.reg ?_
  refine AOL.callD rfl (cS1) (by kernel_rfl) rfl rfl (h := ?_)
  refine AOL.callD rfl (cR1) (by kernel_rfl) rfl rfl (h := ?_)
  iterate 5 refine AOL.s1 (h := ?_)
  refine AOL.nil ?_
  refine AW.kq [1, 2] (h := ?_)
  repeat refine AW.seq ?_
  refine AW.reg ?_
  refine AOL.callD rfl (cS2) (by kernel_rfl) rfl rfl (h := ?_)
  refine AOL.callD rfl (cR2) (by kernel_rfl) rfl rfl (h := ?_)
  iterate 5 refine AOL.s1 (h := ?_)
  refine AOL.nil ?_
  refine AW.kq [1, 2, 3, 4] (h := ?_)
  repeat refine AW.seq ?_
  refine AW.reg ?_
  refine AOL.callD rfl (cS1) (by kernel_rfl) rfl rfl (h := ?_)
  refine AOL.callO 5000 (cM) rfl (by kernel_rfl) rfl (by first | rfl | exact frees_fm (fun _ => rfl) _ | exact a64_free _ | exact by8_free _) (by intro l_ hl_; simp [labs, labss] at hl_ <;> exact hl_) (by decide) (by simp only [St.drop, mapT, mapH, kill, kills, del, St.put, ins, ren, rens, reduceIte, Nat.reduceLT, Nat.reduceEqDiff, Bool.false_eq_true]; exact rfl) ?_
  iterate 8 refine AOL.s1 (h := ?_)
  refine AOL.nil ?_
  refine AW.kq [1, 2, 3, 4, 5, 6, 7] (h := ?_)
  refine AW.fz 5000 rfl (fun h => by cases h) (h := ?_)
  rw [show AV.sl G.vals.length (sub 0 (G.vals.length * 1) (fm u1 G.vals)) = ul G.vals from hfl]
  repeat refine AW.seq ?_
  refine AW.reg ?_
  iterate 2 refine AOL.s1 (h := ?_)
  skip
  iterate 3 refine AOL.s1 (h := ?_)
  iterate 1 refine AOL.s1 (h := ?_)
  skip
  iterate 3 refine AOL.s1 (h := ?_)
  iterate 1 refine AOL.s1 (h := ?_)
  skip
  iterate 3 refine AOL.s1 (h := ?_)
  iterate 1 refine AOL.s1 (h := ?_)
  skip
  iterate 3 refine AOL.s1 (h := ?_)
  iterate 1 refine AOL.s1 (h := ?_)
  skip
  iterate 2 refine AOL.s1 (h := ?_)
  refine AOL.callD rfl (cH) (by kernel_rfl) rfl rfl (h := ?_)
  iterate 2 refine AOL.s1 (h := ?_)
  iterate 1 refine AOL.s1 (h := ?_)
  refine AOL.nil ?_
  refine AW.kq [0] (h := ?_)
  repeat refine AW.seq ?_
  refine AW.ret ?_
  refine ⟨_, [], rfl, HOk.nil _, ?_⟩
  rfl
set_option maxHeartbeats 4000000 in
theorem obollaw18_light_c {m : Mv} {d : Int} : Fn Tryz.prog 6 [.agg (mvc m), i d] [] (fun r h_ => r = bo (litH m d)) := by
  refine Fn.enter Tryz.func6 Tryz.ntmps6 rfl (h := ?_)
  have tf := tfm
  have ot_ : (false || true) = true := rfl
  have tfv := tfv
  have tfn := tfn
  have tfr := tfr
  obtain ⟨mr, mi, mo, ms, ⟨xk, ⟨xv, xo, xr⟩, xa, xp⟩, ⟨yk, ⟨yv, yo, yr⟩, ya, yp⟩, ⟨pv, po, pr⟩, ⟨qv, qo, qr⟩⟩ := m
  have n0 : Int.toNat 0 = 0 := rfl
  have n1 : Int.toNat 1 = 1 := rfl
  have q0 : (0:Int) ≤ 0 := by decide
  have q1' : (0:Int) ≤ 1 := by decide
  have x02 : (0:Int) < ((2:Nat):Int) := by decide
  have x12 : (1:Int) < ((2:Nat):Int) := by decide
  have z02 : (0:Int) < 2 := by decide
  have z12 : (1:Int) < 2 := by decide
  repeat refine AW.seq ?_
  refine AW.reg ?_
  iterate 2 refine AOL.s1 (h := ?_)
  refine AOL.nil ?_
  refine AW.kq [1, 2] (h := ?_)
  repeat refine AW.seq ?_
  refine AW.reg ?_
  iterate 3 refine AOL.s1 (h := ?_)
  refine AOL.kq [1, 2, 7] (h := ?_)
  refine AOL.or 7 10 (os' := ?_) (x := ?_) (h1 := ?_) (h0 := ?_) (h := ?_)
  rotate_left 2
  iterate 2
    · intro hb_ K' hK; (iterate 3 refine AOL.s1 (h := ?_)); refine AOL.kq [1, 2, 10] (h := ?_); exact hK
  iterate 1 refine AOL.s1 (h := ?_)
  refine AOL.kq [1, 2, 11] (h := ?_)
  refine AOL.or 11 19 (os' := ?_) (x := ?_) (h1 := ?_) (h0 := ?_) (h := ?_)
  rotate_left 2
  iterate 2
    · intro hb_ K' hK; (iterate 8 refine AOL.s1 (h := ?_)); refine AOL.kq [1, 2, 19] (h := ?_); exact hK
  iterate 1 refine AOL.s1 (h := ?_)
  refine AOL.kq [1, 2, 20] (h := ?_)
  refine AOL.or 20 28 (os' := ?_) (x := ?_) (h1 := ?_) (h0 := ?_) (h := ?_)
  rotate_left 2
  iterate 2
    · intro hb_ K' hK; (iterate 8 refine AOL.s1 (h := ?_)); refine AOL.kq [1, 2, 28] (h := ?_); exact hK
  iterate 1 refine AOL.s1 (h := ?_)
  refine AOL.nil ?_
  refine AW.kq [4] (h := ?_)
  repeat refine AW.seq ?_
  refine AW.ret ?_
  refine ⟨_, [], rfl, HOk.nil _, ?_⟩
  rfl
end Go.Proofs.YtngphcdhdllnnaaGreat.E.M
end
section
/- obollaw18: the public numbers of a move, whether it is right, its system: the laws over E. -/
set_option linter.unusedVariables false
set_option linter.unusedSimpArgs false
set_option maxRecDepth 10000
open Go Go.Proofs.YtngphcdhdllnnaaGreat.E Go.Proofs
namespace Go.Proofs.YtngphcdhdllnnaaGreat.E.M
set_option maxHeartbeats 8000000 in
theorem obolref18_Numbers_c {m : Mv} (hm : wM m) (ha : 0 ≤ m.x.a ∧ 0 ≤ m.y.a) : Fn Tryz.prog 10 [.agg (mvc m)] [] (fun r h_ => r = ul (numsH m)) := by
  refine Fn.enter Tryz.func10 Tryz.ntmps10 rfl (h := ?_)
  have tf := tfm
  have ot_ : (false || true) = true := rfl
  have tfv := tfv
  have tfm := tfm
  have tfn := tfn
  have tfr := tfr
  have n0 : Int.toNat 0 = 0 := rfl
  have n1 : Int.toNat 1 = 1 := rfl
  have q0 : (0:Int) ≤ 0 := by decide
  have q1' : (0:Int) ≤ 1 := by decide
  have x02 : (0:Int) < ((2:Nat):Int) := by decide
  have x12 : (1:Int) < ((2:Nat):Int) := by decide
  have z02 : (0:Int) < 2 := by decide
  have z12 : (1:Int) < 2 := by decide
  have a1_ : IntKind.i64.wrap (0 + 1) = 1 := by decide
  have a2_ : IntKind.i64.wrap (1 + 1) = 2 := by decide
  have i02 : decide ((0:Int) < 2) = true := rfl
  have i12 : decide ((1:Int) < 2) = true := rfl
  have i22 : decide ((2:Int) < 2) = false := rfl
  obtain ⟨mr, mi, mo, ms, ⟨xk, ⟨xv, xo, xr⟩, xa, xp⟩, ⟨yk, ⟨yv, yo, yr⟩, ya, yp⟩, ⟨pv, po, pr⟩, ⟨qv, qo, qr⟩⟩ := m
  obtain ⟨w1, w2, w3, w4, ⟨x1, ⟨x2, x3, x4⟩, x5, x6, x7⟩, ⟨y1, ⟨y2, y3, y4⟩, y5, y6, y7⟩, ⟨p1, p2, p3⟩, ⟨q1, q2, q3⟩⟩ := hm
  simp only at w1 w2 w3 w4 x1 x2 x3 x4 x5 x6 x7 y1 y2 y3 y4 y5 y6 y7 p1 p2 p3 q1 q2 q3 ha
  have cX := obolref18_End_c (x := ⟨xk, (xv, xo, xr), xa, xp⟩) x1 x4 ⟨ha.1, x5⟩
  have cY := obolref18_End_c (x := ⟨yk, (yv, yo, yr), ya, yp⟩) y1 y4 ⟨ha.2, y5⟩
  have cP := obolref17_Mark_c (n := (pv, po, pr)) ⟨p1, p2, p3⟩
  have cQ := obolref17_Mark_c (n := (qv, qo, qr)) ⟨q1, q2, q3⟩
  have cTx := obolref10_Two_c (a := xk) (b := 1) x1 (by decide)
  have cTy := obolref10_Two_c (a := yk) (b := 1) y1 (by decide)
  have cSx := obolref10_Two_c (a := twoH xk 1) (b := ms) (twoH_l _ _).w w4
  have cSy := obolref10_Two_c (a := twoH yk 1) (b := ms) (twoH_l _ _).w w4
  have hN : numsH ⟨mr, mi, mo, ms, ⟨xk, (xv, xo, xr), xa, xp⟩, ⟨yk, (yv, yo, yr), ya, yp⟩, (pv, po, pr), (qv, qo, qr)⟩ = [mr, mi, mo, ms, endH ⟨xk, (xv, xo, xr), xa, xp⟩, endH ⟨yk, (yv, yo, yr), ya, yp⟩, mrkH (pv, po, pr), mrkH (qv, qo, qr), twoH (twoH xk 1) ms, twoH (twoH yk 1) ms] := rfl
  rw [hN]
  clear hN
  generalize endH ⟨xk, (xv, xo, xr), xa, xp⟩ = e1 at *
  generalize endH ⟨yk, (yv, yo, yr), ya, yp⟩ = e2 at *
  generalize mrkH (pv, po, pr) = m1 at *
  generalize mrkH (qv, qo, qr) = m2 at *
  generalize twoH (twoH xk 1) ms = s1 at *
  generalize twoH (twoH yk 1) ms = s2 at *
  generalize twoH xk 1 = t1 at *
  generalize twoH yk 1 = t2 at *
  repeat refine AW.seq ?_
  refine AW.reg ?_
  iterate 2 refine AOL.s1 (h := ?_)
  refine AOL.nil ?_
  refine AW.kq [1] (h := ?_)
  repeat refine AW.seq ?_
  refine AW.drw 24 [] (by kernel_rfl) (h := ?_)
  iterate 11 refine ADL.dm 1 (h := ?_)
  refine ADL.call rfl (cX) (by kernel_rfl) rfl rfl (h := ?_)
  iterate 3 refine ADL.dm 1 (h := ?_)
  refine ADL.call rfl (cY) (by kernel_rfl) rfl rfl (h := ?_)
  iterate 3 refine ADL.dm 1 (h := ?_)
  refine ADL.call rfl (cP) (by kernel_rfl) rfl rfl (h := ?_)
  iterate 3 refine ADL.dm 1 (h := ?_)
  refine ADL.call rfl (cQ) (by kernel_rfl) rfl rfl (h := ?_)
  refine ADL.done hmix rfl rfl (hT := ?_)
  iterate 2 refine AOL.s1 (h := ?_)
  refine AOL.nil ?_
  refine AW.kq [1, 3] (h := ?_)
  repeat refine AW.seq ?_
  refine AW.reg ?_
  iterate 1 refine AOL.s1 (h := ?_)
  refine AOL.nil ?_
  refine AW.kq [1, 3, 4] (h := ?_)
  repeat refine AW.seq ?_
  refine AW.block ?_
  repeat refine AW.seq ?_
  refine AW.rounds ?_
  refine AWin.next [1, 3, 4] (h := ?_)
  repeat refine AW.seq ?_
  refine AW.reg ?_
  iterate 2 refine AOL.s1 (h := ?_)
  refine AOL.nil ?_
  refine AW.kq [1, 3, 4, 31] (h := ?_)
  repeat refine AW.seq ?_
  refine AW.cond rfl (fun c_ => ?_) (fun c_ => ?_)
  rotate_left
  · cases c_
  refine AW.skip ?_
  repeat refine AW.seq ?_
  refine AW.block ?_
  repeat refine AW.seq ?_
  refine AW.drw 11 [1704] (by kernel_rfl) (h := ?_)
  iterate 6 refine ADL.dm 1 (h := ?_)
  refine ADL.call rfl (cTx) (by kernel_rfl) rfl rfl (h := ?_)
  iterate 2 refine ADL.dm 1 (h := ?_)
  refine ADL.call rfl (cSx) (by kernel_rfl) rfl rfl (h := ?_)
  iterate 1 refine ADL.dm 1 (h := ?_)
  refine ADL.done hmix rfl rfl (hT := ?_)
  iterate 2 refine AOL.s1 (h := ?_)
  refine AOL.nil ?_
  repeat refine AW.seq ?_
  refine AW.let 1704 (h := ?_)
  refine AW.reg ?_
  iterate 3 refine AOL.s1 (h := ?_)
  refine AOL.nil ?_
  refine AWin.next [1, 3, 4] (h := ?_)
  repeat refine AW.seq ?_
  refine AW.reg ?_
  iterate 2 refine AOL.s1 (h := ?_)
  refine AOL.nil ?_
  refine AW.kq [1, 3, 4, 31] (h := ?_)
  repeat refine AW.seq ?_
  refine AW.cond rfl (fun c_ => ?_) (fun c_ => ?_)
  rotate_left
  · cases c_
  refine AW.skip ?_
  repeat refine AW.seq ?_
  refine AW.block ?_
  repeat refine AW.seq ?_
  refine AW.drw 11 [1704] (by kernel_rfl) (h := ?_)
  iterate 6 refine ADL.dm 1 (h := ?_)
  refine ADL.call rfl (cTy) (by kernel_rfl) rfl rfl (h := ?_)
  iterate 2 refine ADL.dm 1 (h := ?_)
  refine ADL.call rfl (cSy) (by kernel_rfl) rfl rfl (h := ?_)
  iterate 1 refine ADL.dm 1 (h := ?_)
  refine ADL.done hmix rfl rfl (hT := ?_)
  iterate 2 refine AOL.s1 (h := ?_)
  refine AOL.nil ?_
  repeat refine AW.seq ?_
  refine AW.let 1704 (h := ?_)
  refine AW.reg ?_
  iterate 3 refine AOL.s1 (h := ?_)
  refine AOL.nil ?_
  refine AWin.next [1, 3, 4] (h := ?_)
  repeat refine AW.seq ?_
  refine AW.reg ?_
  iterate 2 refine AOL.s1 (h := ?_)
  refine AOL.nil ?_
  refine AW.kq [1, 3, 4, 31] (h := ?_)
  repeat refine AW.seq ?_
  refine AW.cond rfl (fun c_ => ?_) (fun c_ => ?_)
  · cases c_
  repeat refine AW.seq ?_
  refine AW.exit ?_
  repeat (first | refine Kseq.ex ?_ | refine Kloop.ex ?_ | refine Kblock.miss (by decide) ?_)
  refine Kblock.hit ?_
  refine AW.kq [3] (h := ?_)
  repeat refine AW.seq ?_
  refine AW.reg ?_
  iterate 2 refine AOL.s1 (h := ?_)
  refine AOL.nil ?_
  refine AW.kq [2] (h := ?_)
  refine AW.fz 1464 rfl (fun h => by cases h) (h := ?_)
  repeat refine AW.seq ?_
  refine AW.ret ?_
  refine ⟨_, [], rfl, HOk.nil _, ?_⟩
  rfl
theorem mod17 (d : Int) : ∃ n : Nat, n ≤ 16 ∧ (if 0 > d then 0 else d).tmod 17 = (n : Int) ∧ (1 ≤ d ∧ d ≤ 16 → d = n) := by
  have h0 : 0 ≤ (if 0 > d then 0 else d) := by split <;> omega
  have e : (if 0 > d then 0 else d).tmod 17 = (if 0 > d then 0 else d) % 17 := Int.tmod_eq_emod_of_nonneg h0
  rw [e]
  have h1 := Int.emod_nonneg (if 0 > d then 0 else d) (show (17:Int) ≠ 0 by decide)
  have h2 := Int.emod_lt_of_pos (if 0 > d then 0 else d) (show (0:Int) < 17 by decide)
  refine ⟨((if 0 > d then 0 else d) % 17).toNat, by omega, by omega, fun hd => ?_⟩
  rw [if_neg (by omega)]
  omega
end Go.Proofs.YtngphcdhdllnnaaGreat.E.M
end
section
/- obollaw12: the document's examples; systems that are the same: contracts over E. -/
set_option linter.unusedVariables false
set_option linter.unusedSimpArgs false
set_option maxRecDepth 10000
open Go Go.Proofs.YtngphcdhdllnnaaGreat.E Go.Proofs
namespace Go.Proofs.YtngphcdhdllnnaaGreat.E.M
theorem eqTm : eqT Tryz.prog 80 = some [.int, .int] := eqT_of (by kernel_rfl) (by kernel_rfl) (by kernel_rfl)
set_option maxHeartbeats 1000000 in
theorem obolref11_Same_c {L : List Tm} (hL : L.length < 1000000000) : Fn Tryz.prog 45 [slF tm L, slF tm L] [] (fun r h_ => r = bo true) := by
  refine Fn.enter Tryz.func45 Tryz.ntmps45 rfl (h := ?_)
  have tf := tfm
  have ot_ : (false || true) = true := rfl
  have tfr := tfr
  have eq := eqTm
  repeat refine AW.seq ?_
  refine AW.reg ?_
  iterate 1 refine AOL.s1 (h := ?_)
  refine AOL.nil ?_
  refine AW.kq [0, 1] (h := ?_)
  repeat refine AW.seq ?_
  refine AW.reg ?_
  iterate 5 refine AOL.s1 (h := ?_)
  refine AOL.nil ?_
  refine AW.kq [0, 1, 10] (h := ?_)
  repeat refine AW.seq ?_
  refine AW.cond rfl (fun c_ => ?_) (fun c_ => ?_)
  · simp at c_
  refine AW.skip ?_
  repeat refine AW.seq ?_
  refine AW.reg ?_
  iterate 1 refine AOL.s1 (h := ?_)
  refine AOL.nil ?_
  refine AW.kq [0, 1, 5] (h := ?_)
  repeat refine AW.seq ?_
  refine AW.block ?_
  repeat refine AW.seq ?_
  refine AW.loopK [0, 1, 5] (fun n s => ∃ (k : Nat), s = ⟨26, [(0, slF tm L), (1, slF tm L), (5, i k)], []⟩ ∧ k ≤ L.length ∧ n = L.length - k) (L.length) ?_ ?_
  · exact ⟨0, rfl, Nat.zero_le _, rfl⟩
  rintro n s ⟨k, rfl, hkl, rfl⟩
  repeat refine AW.seq ?_
  refine AW.reg ?_
  iterate 4 refine AOL.s1 (h := ?_)
  refine AOL.nil ?_
  refine AW.kq [0, 1, 5, 14] (h := ?_)
  repeat refine AW.seq ?_
  refine AW.cond rfl (fun c_ => ?_) (fun c_ => ?_)
  · have h1 : k < L.length := by simpa using c_
    have k0 : (0:Int) ≤ k := by omega
    have k1 : (k:Int) < L.length := by omega
    have hw := incq h1 hL
    have hd : (fm tm L).drop (k * 2) = i L[k].v :: u L[k].k :: fm tm (L.drop (k + 1)) := fm_at tm_len h1
    clear c_
    generalize L[k] = t at *
    obtain ⟨tv, tk⟩ := t
    refine AW.skip ?_
    repeat refine AW.seq ?_
    refine AW.block ?_
    repeat refine AW.seq ?_
    refine AW.drw 8 [] (by kernel_rfl) (h := ?_)
    iterate 8 refine ADL.dm 1 (h := ?_)
    refine ADL.done hmix rfl rfl (hT := ?_)
    iterate 1 refine AOL.s1 (h := ?_)
    refine AOL.nil ?_
    refine AW.kq [0, 1, 5, 25] (h := ?_)
    repeat refine AW.seq ?_
    refine AW.cond rfl (fun d_ => ?_) (fun d_ => ?_)
    · cases d_
    refine AW.skip ?_
    repeat refine AW.seq ?_
    refine AW.reg ?_
    iterate 3 refine AOL.s1 (h := ?_)
    refine AOL.nil ?_
    exact ⟨L.length - (k + 1), by omega, k + 1, rfl, h1, rfl⟩
  · skip
    repeat refine AW.seq ?_
    refine AW.exit ?_
    repeat (first | refine Kseq.ex ?_ | refine Kloop.ex ?_ | refine Kblock.miss (by decide) ?_)
    refine Kblock.hit ?_
    refine AW.kq [] (h := ?_)
    repeat refine AW.seq ?_
    refine AW.reg ?_
    iterate 1 refine AOL.s1 (h := ?_)
    refine AOL.nil ?_
    refine AW.kq [4] (h := ?_)
    repeat refine AW.seq ?_
    refine AW.ret ?_
    refine ⟨_, [], rfl, HOk.nil _, ?_⟩
    rfl
set_option maxHeartbeats 4000000 in
theorem obolref11_SameRank_c {s : Rk} (hS : Len s) : Fn Tryz.prog 20 [.agg (rk s), .agg (rk s)] [] (fun r h_ => r = bo true) := by
  refine Fn.enter Tryz.func20 Tryz.ntmps20 rfl (h := ?_)
  have tf := tfm
  have ot_ : (false || true) = true := rfl
  have tfr := tfr
  obtain ⟨l1, l2⟩ := hS
  obtain ⟨sv, sp, L⟩ := s
  simp only at l1 l2
  repeat refine AW.seq ?_
  refine AW.reg ?_
  iterate 3 refine AOL.s1 (h := ?_)
  refine AOL.nil ?_
  refine AW.kq [2, 3] (h := ?_)
  repeat refine AW.seq ?_
  refine AW.reg ?_
  iterate 6 refine AOL.s1 (h := ?_)
  refine AOL.kq [2, 3, 11] (h := ?_)
  iterate 6 refine AOL.s1 (h := ?_)
  iterate 1 refine AOL.s1 (h := ?_)
  refine AOL.kq [2, 3, 18] (h := ?_)
  iterate 8 refine AOL.s1 (h := ?_)
  refine AOL.nil ?_
  refine AW.kq [2, 3, 26] (h := ?_)
  repeat refine AW.seq ?_
  refine AW.cond rfl (fun c_ => ?_) (fun c_ => ?_)
  · cases c_
  refine AW.skip ?_
  repeat refine AW.seq ?_
  refine AW.reg ?_
  iterate 1 refine AOL.s1 (h := ?_)
  refine AOL.nil ?_
  refine AW.kq [2, 3, 5] (h := ?_)
  repeat refine AW.seq ?_
  refine AW.block ?_
  repeat refine AW.seq ?_
  refine AW.loopK [2, 3, 5] (fun n s => ∃ (k : Nat), s = ⟨80, [(2, .ptr 1032 0), (3, .ptr 1048 0), (5, i k)], [(1032, ⟨36, true, [i sv, i sp, slF rw_ L]⟩), (1048, ⟨36, true, [i sv, i sp, slF rw_ L]⟩)]⟩ ∧ k ≤ L.length ∧ n = L.length - k) (L.length) ?_ ?_
  · exact ⟨0, rfl, Nat.zero_le _, rfl⟩
  rintro n s ⟨k, rfl, hkl, rfl⟩
  repeat refine AW.seq ?_
  refine AW.reg ?_
  iterate 5 refine AOL.s1 (h := ?_)
  refine AOL.nil ?_
  refine AW.kq [2, 3, 5, 31] (h := ?_)
  repeat refine AW.seq ?_
  refine AW.cond rfl (fun c_ => ?_) (fun c_ => ?_)
  · have h1 : k < L.length := by simpa using c_
    have k0 : (0:Int) ≤ k := by omega
    have k1 : (k:Int) < L.length := by omega
    have hw := incq h1 l1
    have hd : (fm rw_ L).drop (k * 3) = slF tm L[k].a :: slF tm L[k].b :: slF tm L[k].c :: fm rw_ (L.drop (k + 1)) := fm_at rw_len h1
    obtain ⟨ta, tb, tc⟩ := l2 L[k] (List.getElem_mem h1)
    have cA := obolref11_Same_c ta
    have cB := obolref11_Same_c tb
    have cC := obolref11_Same_c tc
    clear c_ l2
    generalize L[k] = t at *
    obtain ⟨xa, xb, xc⟩ := t
    refine AW.skip ?_
    repeat refine AW.seq ?_
    refine AW.block ?_
    repeat refine AW.seq ?_
    refine AW.drw 43 [] (by kernel_rfl) (h := ?_)
    iterate 12 refine ADL.dm 1 (h := ?_)
    refine ADL.call rfl (cA) (by kernel_rfl) rfl rfl (h := ?_)
    iterate 14 refine ADL.dm 1 (h := ?_)
    refine ADL.call rfl (cB) (by kernel_rfl) rfl rfl (h := ?_)
    iterate 15 refine ADL.dm 1 (h := ?_)
    refine ADL.done hmix rfl rfl (hT := ?_)
    refine AOL.kq [2, 3, 5, 64, 70, 76] (h := ?_)
    refine AOL.callD rfl (cC) (by kernel_rfl) rfl rfl (h := ?_)
    iterate 2 refine AOL.s1 (h := ?_)
    refine AOL.nil ?_
    refine AW.kq [2, 3, 5, 79] (h := ?_)
    repeat refine AW.seq ?_
    refine AW.cond rfl (fun d_ => ?_) (fun d_ => ?_)
    · cases d_
    refine AW.skip ?_
    repeat refine AW.seq ?_
    refine AW.reg ?_
    iterate 3 refine AOL.s1 (h := ?_)
    refine AOL.nil ?_
    exact ⟨L.length - (k + 1), by omega, k + 1, rfl, h1, rfl⟩
  · skip
    repeat refine AW.seq ?_
    refine AW.exit ?_
    repeat (first | refine Kseq.ex ?_ | refine Kloop.ex ?_ | refine Kblock.miss (by decide) ?_)
    refine Kblock.hit ?_
    refine AW.kq [] (h := ?_)
    repeat refine AW.seq ?_
    refine AW.reg ?_
    iterate 1 refine AOL.s1 (h := ?_)
    refine AOL.nil ?_
    refine AW.kq [4] (h := ?_)
    repeat refine AW.seq ?_
    refine AW.ret ?_
    refine ⟨_, [], rfl, HOk.nil _, ?_⟩
    rfl
end Go.Proofs.YtngphcdhdllnnaaGreat.E.M
end
