/- Texts joined: ZVCmk, ZVCsh, ZVGps, ZVGpt. -/
import Derived.Test.YtngphcdhdllnnaaGreatZW10
import Derived.Test.YtngphcdhdllnnaaGreatProg
import Derived.KernelRfl
section
/- circuit.Make: a move's system and its values: contracts over E. -/
set_option linter.unusedVariables false
set_option linter.unusedSimpArgs false
set_option maxRecDepth 10000
open Go Go.Proofs.YtngphcdhdllnnaaGreat.E Go.Proofs
namespace Go.Proofs.YtngphcdhdllnnaaGreat.E.M
theorem A1 {P : Program} {ops : Array Oper} {fuel : Nat} {listed : Array Bool} {K : St → Prop} {st : St} {o : Oper} (a : Nat) (hrs : Region.ready .any ops listed = [a]) (ho : nthO ops.toList a = some o) (hg : o.guard = none)
    (h : AOL P #[o] [o] (fun st' => AAny P ops fuel (listed.setIfInBounds a true) K st') st) : AAny P ops (fuel + 1) listed K st := AAny.stepC [a] hrs rfl (AAllC.cons ho hg h AAllC.nil)
theorem A2 {P : Program} {ops : Array Oper} {fuel : Nat} {listed : Array Bool} {K : St → Prop} {st : St} {o p : Oper} (a b : Nat) (hrs : Region.ready .any ops listed = [a, b]) (ho : nthO ops.toList a = some o) (hg : o.guard = none) (ho' : nthO ops.toList b = some p) (hg' : p.guard = none)
    (h : AOL P #[o] [o] (fun st' => AAny P ops fuel (listed.setIfInBounds a true) K st') st) (h' : AOL P #[p] [p] (fun st' => AAny P ops fuel (listed.setIfInBounds b true) K st') st) : AAny P ops (fuel + 1) listed K st := AAny.stepC [a, b] hrs rfl (AAllC.cons ho hg h (AAllC.cons ho' hg' h' AAllC.nil))
set_option maxHeartbeats 16000000 in
theorem circuit_Make_y0 {mr mi mo ms xk xv xo xr xa : Int} {xp : List Int} {yk yv yo yr ya : Int} {yp : List Int} {pv po pr qv qo qr d : Int} (hm : wM (⟨mr, mi, mo, ms, ⟨xk, (xv, xo, xr), xa, xp⟩, ⟨yk, (yv, yo, yr), ya, yp⟩, (pv, po, pr), (qv, qo, qr)⟩ : Mv)) (hf : fitsH (⟨mr, mi, mo, ms, ⟨xk, (xv, xo, xr), xa, xp⟩, ⟨yk, (yv, yo, yr), ya, yp⟩, (pv, po, pr), (qv, qo, qr)⟩ : Mv) d = true) (hg : rok (makM (⟨mr, mi, mo, ms, ⟨xk, (xv, xo, xr), xa, xp⟩, ⟨yk, (yv, yo, yr), ya, yp⟩, (pv, po, pr), (qv, qo, qr)⟩ : Mv) d).rows) : Fn Tryz.prog 7 [.agg [u mr, u mi, u mo, u ms, u xk, u xv, u xo, u xr, i xa, ul xp, u yk, u yv, u yo, u yr, i ya, ul yp, u pv, u po, u pr, u qv, u qo, u qr], i d] [] (Tells (.tup [.agg [i (makM (⟨mr, mi, mo, ms, ⟨xk, (xv, xo, xr), xa, xp⟩, ⟨yk, (yv, yo, yr), ya, yp⟩, (pv, po, pr), (qv, qo, qr)⟩ : Mv) d).v, i (makM (⟨mr, mi, mo, ms, ⟨xk, (xv, xo, xr), xa, xp⟩, ⟨yk, (yv, yo, yr), ya, yp⟩, (pv, po, pr), (qv, qo, qr)⟩ : Mv) d).p, slF rw_ (makM (⟨mr, mi, mo, ms, ⟨xk, (xv, xo, xr), xa, xp⟩, ⟨yk, (yv, yo, yr), ya, yp⟩, (pv, po, pr), (qv, qo, qr)⟩ : Mv) d).rows], .ref 1000 0 (makM (⟨mr, mi, mo, ms, ⟨xk, (xv, xo, xr), xa, xp⟩, ⟨yk, (yv, yo, yr), ya, yp⟩, (pv, po, pr), (qv, qo, qr)⟩ : Mv) d).vals.length 1, .val .nilIface]) [(1000, vlB (makM (⟨mr, mi, mo, ms, ⟨xk, (xv, xo, xr), xa, xp⟩, ⟨yk, (yv, yo, yr), ya, yp⟩, (pv, po, pr), (qv, qo, qr)⟩ : Mv) d).vals)]) := by
  refine Fn.enter Tryz.func7 Tryz.ntmps7 rfl (h := ?_)
  have tf := tfm
  have ot_ : (false || true) = true := rfl
  have cN := circuit_Numbers_c (d := d) hm
  rw [hf] at cN
  simp only [if_true] at cN
  have wN_ := numsH_w hm
  have lN : (numsH (⟨mr, mi, mo, ms, ⟨xk, (xv, xo, xr), xa, xp⟩, ⟨yk, (yv, yo, yr), ya, yp⟩, (pv, po, pr), (qv, qo, qr)⟩ : Mv)).length = 10 := rfl
  obtain ⟨hx0, hy0, hxp, hyp, hdx, hdy⟩ : (0 ≤ xa) ∧ (0 ≤ ya) ∧ xp.length ≤ 16 ∧ yp.length ≤ 16 ∧ d = (xp.length : Int) ∧ d = (yp.length : Int) := by
    simp only [fitsH, inF, hdF, Bool.and_eq_true, decide_eq_true_eq] at hf
    omega
  replace hdx : id (d = (xp.length : Int)) := hdx
  replace hdy : id (d = (yp.length : Int)) := hdy
  obtain ⟨GF, hGF⟩ : ∃ x, x = makM (⟨mr, mi, mo, ms, ⟨xk, (xv, xo, xr), xa, xp⟩, ⟨yk, (yv, yo, yr), ya, yp⟩, (pv, po, pr), (qv, qo, qr)⟩ : Mv) d := ⟨_, rfl⟩
  rw [← hGF] at hg ⊢
  obtain ⟨N, hN⟩ : ∃ x, x = numsH (⟨mr, mi, mo, ms, ⟨xk, (xv, xo, xr), xa, xp⟩, ⟨yk, (yv, yo, yr), ya, yp⟩, (pv, po, pr), (qv, qo, qr)⟩ : Mv) := ⟨_, rfl⟩
  rw [← hN] at cN wN_ lN
  replace hN : id (N = numsH (⟨mr, mi, mo, ms, ⟨xk, (xv, xo, xr), xa, xp⟩, ⟨yk, (yv, yo, yr), ya, yp⟩, (pv, po, pr), (qv, qo, qr)⟩ : Mv)) := hN
  replace hGF : id (GF = makM (⟨mr, mi, mo, ms, ⟨xk, (xv, xo, xr), xa, xp⟩, ⟨yk, (yv, yo, yr), ya, yp⟩, (pv, po, pr), (qv, qo, qr)⟩ : Mv) d) := hGF
  replace lN : id (N.length = 10) := lN
  clear hf
  obtain ⟨w1, w2, w3, w4, ⟨x1, ⟨x2, x3, x4⟩, x5, x6, x7⟩, ⟨y1, ⟨y2, y3, y4⟩, y5, y6, y7⟩, ⟨p1, p2, p3⟩, ⟨q1, q2, q3⟩⟩ := hm
  simp only at w1 w2 w3 w4 x1 x2 x3 x4 x5 x6 x7 y1 y2 y3 y4 y5 y6 y7 p1 p2 p3 q1 q2 q3
  replace cN : Fn Tryz.prog 27 [.agg [u mr, u mi, u mo, u ms, u xk, u xv, u xo, u xr, i xa, ul xp, u yk, u yv, u yo, u yr, i ya, ul yp, u pv, u po, u pr, u qv, u qo, u qr], i d] [] (fun r _ => r = .tup [ul N, .val .nilIface]) := cN
  have tfv := tfv
  have tfm := tfm
  have tfn := tfn
  have tfr := tfr
  have n0 : Int.toNat 0 = 0 := rfl
  have n1 : Int.toNat 1 = 1 := rfl
  have q0 : (0:Int) ≤ 0 := by decide
  have q1' : (0:Int) ≤ 1 := by decide
  have x02 : (0:Int) < ((2:Nat):Int) := by decide
  have x12 : (1:Int) < ((2:Nat):Int) := by decide
  have z02 : (0:Int) < 2 := by decide
  have z12 : (1:Int) < 2 := by decide
  have a1 : IntKind.i64.wrap (0 + 1) = 1 := by decide
  have a2 : IntKind.i64.wrap (1 + 1) = 2 := by decide
  have i02 : decide ((0:Int) < 2) = true := rfl
  have i12 : decide ((1:Int) < 2) = true := rfl
  have i22 : decide ((2:Int) < 2) = false := rfl
  repeat refine AW.seq ?_
  refine AW.reg ?_
  iterate 4 refine AOL.s1 (h := ?_)
  refine AOL.nil ?_
  refine AW.kq [1, 2, 4] (h := ?_)
  repeat refine AW.seq ?_
  refine AW.reg ?_
  iterate 2 refine AOL.s1 (h := ?_)
  refine AOL.callD rfl (cN) (by kernel_rfl) rfl rfl (h := ?_)
  iterate 5 refine AOL.s1 (h := ?_)
  refine AOL.nil ?_
  refine AW.kq [1, 2, 4, 7, 8] (h := ?_)
  repeat refine AW.seq ?_
  refine AW.reg ?_
  iterate 2 refine AOL.s1 (h := ?_)
  refine AOL.nil ?_
  refine AW.kq [1, 2, 4, 7, 8, 35] (h := ?_)
  repeat refine AW.seq ?_
  refine AW.cond rfl (fun c_ => ?_) (fun c_ => ?_)
  · simp at c_
  refine AW.skip ?_
  repeat refine AW.seq ?_
  refine AW.reg ?_
  refine AOL.callNew (b := 1004) rfl (hst := by simp only [St.drops, St.drop, mapT, mapH, kill, kills, del, St.put, ins, reduceIte, Nat.reduceAdd, Nat.reduceLT, Nat.reduceEqDiff, Bool.false_eq_true]; exact rfl) ?_
  iterate 1 refine AOL.s1 (h := ?_)
  refine AOL.nil ?_
  refine AW.kq [1, 2, 4, 7, 9] (h := ?_)
  repeat refine AW.seq ?_
  refine AW.reg ?_
  iterate 1 refine AOL.s1 (h := ?_)
  refine AOL.nil ?_
  refine AW.kq [1, 2, 4, 7, 9, 10] (h := ?_)
  repeat refine AW.seq ?_
  refine AW.reg ?_
  iterate 3 refine AOL.s1 (h := ?_)
  refine AOL.nil ?_
  refine AW.kq [1, 2, 4, 9, 10, 39, 40, 41] (h := ?_)
  repeat refine AW.seq ?_
  refine AW.block ?_
  repeat refine AW.seq ?_
  refine AW.born 10 9003 3 1 (.inl rfl) (h := ?_)
  refine AW.loopK [1, 2, 4, 9, 10, 39, 40, 41] (fun n' s => ∃ (W r : List Int), s = ⟨154, [(1, i d), (2, .ptr 1032 0), (4, .ptr 1064 0), (9, .ptr 1004 0), (10, .ref 9003 0 W.length 1), (39, ul N), (40, i N.length), (41, i W.length)], [(1004, mkB (pubK W) 1005 1006), (1005, rwB (pubK W).rows), (1006, vlB (pubK W).vals), (1032, ⟨31, true, [u mr, u mi, u mo, u ms, u xk, u xv, u xo, u xr, i xa, ul xp, u yk, u yv, u yo, u yr, i ya, ul yp, u pv, u po, u pr, u qv, u qo, u qr]⟩), (1064, ⟨36, true, [i 0, i 0, .val (.slice none 0 0)]⟩), (9003, ⟨3, false, fm i1 (oneS W.length)⟩)]⟩ ∧ N.drop W.length = r ∧ W.length ≤ N.length ∧ n' = r.length ∧ id (W ++ r = N)) (N.length) ?_ ?_
  · exact ⟨[], N, rfl, rfl, Nat.zero_le _, rfl, rfl⟩
  rintro n' s ⟨W, r, rfl, hr, hkl, rfl, hW⟩
  repeat refine AW.seq ?_
  refine AW.reg ?_
  iterate 1 refine AOL.s1 (h := ?_)
  refine AOL.nil ?_
  refine AW.kq [1, 2, 4, 9, 10, 39, 40, 41, 42] (h := ?_)
  repeat refine AW.seq ?_
  refine AW.cond rfl (fun c_ => ?_) (fun c_ => ?_)
  · obtain ⟨z, r, rfl⟩ := ends_cons hr hkl (by simpa using c_)
    obtain ⟨hlt, hr', hz⟩ := dconsq hr
    have lN' : N.length = 10 := lN
    have hw := incq hlt (by rw [lN']; decide)
    have k0 : (0:Int) ≤ W.length := by omega
    have k1 : (W.length:Int) < N.length := by omega
    have hd1 : (fm u1 N).drop (W.length * 1) = u z :: fm u1 r := fm_drop u1_len hr
    have hd' : (fm u1 N).drop W.length = u z :: fm u1 r := by simpa using hd1
    clear hd1 hr
    have wz : w64 z := wN_ z (List.mem_of_getElem? hz)
    have ll : (fm i1 (oneS W.length)).length = W.length := by
      rw [fm_len i1_len, Nat.mul_one]
      have : ∀ n, (oneS n).length = n := by intro n; induction n with
        | zero => rfl
        | succ n ih => simp [oneS, ih]
      exact this _
    have o1 : (W.length + 1) * 8 ≤ 140737488355328 := by omega
    have o3 : W.length ≤ 4611686018427387903 := by omega
    have o2 : W.length + 1 ≤ 4611686018427387904 := by omega
    have cq := gadget_Maker_Public_c (m := pubK W) (x := z) (Mok.mono (pubK_ok (by omega)) (by decide)) wz (by show 0 ≤ (W.length : Int) ∧ (W.length : Int) < 1000000; omega)
    rw [pubK_s, show pubR (pubK W) = [i ((W.length + 1 : Nat) : Int), .val .nilIface] by unfold pubR; rw [pubK_i, pubK_e]] at cq
    have eW : (W ++ [z]).length = W.length + 1 := by simp
    clear lN'
    refine AW.skip ?_
    repeat refine AW.seq ?_
    refine AW.block ?_
    repeat refine AW.seq ?_
    refine AW.reg ?_
    iterate 3 refine AOL.s1 (h := ?_)
    refine AOL.nil ?_
    refine AW.kq [1, 2, 4, 9, 10, 12, 39, 40, 41] (h := ?_)
    repeat refine AW.seq ?_
    refine AW.reg ?_
    iterate 2 refine AOL.s1 (h := ?_)
    refine AOL.callM (l := 1004) (b := 1004) (cq) rfl (by kernel_rfl) rfl rfl rfl rfl rfl (hst := by simp only [St.drops, St.drop, mapT, mapH, kill, kills, del, St.put, ins, reduceIte, Nat.reduceAdd, Nat.reduceLT, Nat.reduceEqDiff, Bool.false_eq_true]; exact rfl) ?_
    iterate 5 refine AOL.s1 (h := ?_)
    refine AOL.nil ?_
    refine AW.kq [1, 2, 4, 9, 10, 13, 14, 39, 40, 41] (h := ?_)
    repeat refine AW.seq ?_
    refine AW.reg ?_
    iterate 2 refine AOL.s1 (h := ?_)
    refine AOL.nil ?_
    refine AW.kq [1, 2, 4, 9, 10, 13, 14, 39, 40, 41, 52] (h := ?_)
    repeat refine AW.seq ?_
    refine AW.cond rfl (fun d_ => ?_) (fun d_ => ?_)
    · simp at d_
    refine AW.skip ?_
    repeat refine AW.seq ?_
    refine AW.reg ?_
    iterate 5 refine AOL.s1 (h := ?_)
    refine AOL.nil ?_
    repeat refine AW.seq ?_
    refine AW.let 1912 (h := ?_)
    refine AW.reg ?_
    iterate 2 refine AOL.s1 (h := ?_)
    refine AOL.nil ?_
    refine ⟨r.length, by simp, W ++ [z], r, ?_, by rw [eW]; exact hr', by rw [eW]; exact hlt, rfl, by show W ++ [z] ++ r = N; rw [List.append_assoc]; exact hW⟩
    rw [eW]
    simp only [oneS, fmi_snoc]
    rfl
  · obtain rfl := ends_nil hr (by simpa using c_)
    rw [List.append_nil] at hW
    obtain rfl : N = W := hW.symm
    rw [show N.length = 10 from lN]
    clear hr hkl c_ cN
    have hfl : AV.sl 10 (sub 0 (10 * 1) (fm i1 (oneS 10))) = AV.sl 10 [i 1, i 2, i 3, i 4, i 5, i 6, i 7, i 8, i 9, i 10] := rfl
    refine AW.fz 9003 rfl (fun h => by cases h) (h := ?_)
    rw [hfl]
    clear hfl
    repeat refine AW.seq ?_
    refine AW.exit ?_
    repeat (first | refine Kseq.ex ?_ | refine Kloop.ex ?_ | refine Kblock.miss (by decide) ?_)
    refine Kblock.hit ?_
    refine AW.kq [1, 2, 4, 9, 10] (h := ?_)
    repeat refine AW.seq ?_
    refine AW.anyO (st1 := ⟨154, [(1, i d), (2, .ptr 1032 0), (4, .ptr 1064 0), (9, .ptr 1004 0), (10, AV.sl 10 [i 1, i 2, i 3, i 4, i 5, i 6, i 7, i 8, i 9, i 10]), (15, .ref 2008 0 1 1), (16, .ref 2072 0 1 1)], [(1004, mkB (pubK N) 1005 1006), (1005, rwB (pubK N).rows), (1006, vlB (pubK N).vals), (1032, ⟨31, true, [u mr, u mi, u mo, u ms, u xk, u xv, u xo, u xr, i xa, ul xp, u yk, u yv, u yo, u yr, i ya, ul yp, u pv, u po, u pr, u qv, u qo, u qr]⟩), (1064, ⟨36, true, [i 0, i 0, .val (.slice none 0 0)]⟩), (2008, ⟨3, false, [i 2]⟩), (2072, ⟨3, false, [i 3]⟩)]⟩) hmix ?_ ?_
    · refine A2 0 4 (by kernel_rfl) rfl rfl rfl rfl ?_ ?_
      · refine AOL.s1 (h := ?_); refine AOL.nil ?_
        refine A2 1 4 (by kernel_rfl) rfl rfl rfl rfl ?_ ?_
        · refine AOL.s1 (h := ?_); refine AOL.nil ?_
          refine A2 2 4 (by kernel_rfl) rfl rfl rfl rfl ?_ ?_
          · refine AOL.s1 (h := ?_); refine AOL.nil ?_
            refine A2 3 4 (by kernel_rfl) rfl rfl rfl rfl ?_ ?_
            · refine AOL.s1 (h := ?_); refine AOL.nil ?_
              refine A2 4 8 (by kernel_rfl) rfl rfl rfl rfl ?_ ?_
              · refine AOL.s1 (h := ?_); refine AOL.nil ?_
                refine A2 5 8 (by kernel_rfl) rfl rfl rfl rfl ?_ ?_
                · refine AOL.s1 (h := ?_); refine AOL.nil ?_
                  refine A2 6 8 (by kernel_rfl) rfl rfl rfl rfl ?_ ?_
                  · refine AOL.s1 (h := ?_); refine AOL.nil ?_
                    refine A2 7 8 (by kernel_rfl) rfl rfl rfl rfl ?_ ?_
                    · refine AOL.s1 (h := ?_); refine AOL.nil ?_
                      refine A1 8 (by kernel_rfl) rfl rfl ?_
                      refine AOL.s1 (h := ?_); refine AOL.nil ?_
                      refine A1 9 (by kernel_rfl) rfl rfl ?_
                      iterate 1 refine AOL.s1 (h := ?_); refine AOL.kq [1, 2, 4, 9, 10, 15, 16] (h := ?_); refine AOL.nil ?_
                      exact AAny.done (by kernel_rfl) rfl
                    · refine AOL.s1 (h := ?_); refine AOL.nil ?_
                      refine A1 7 (by kernel_rfl) rfl rfl ?_
                      refine AOL.s1 (h := ?_); refine AOL.nil ?_
                      refine A1 9 (by kernel_rfl) rfl rfl ?_
                      iterate 1 refine AOL.s1 (h := ?_); refine AOL.kq [1, 2, 4, 9, 10, 15, 16] (h := ?_); refine AOL.nil ?_
                      exact AAny.done (by kernel_rfl) rfl
                  · refine AOL.s1 (h := ?_); refine AOL.nil ?_
                    refine A1 6 (by kernel_rfl) rfl rfl ?_
                    refine AOL.s1 (h := ?_); refine AOL.nil ?_
                    refine A1 7 (by kernel_rfl) rfl rfl ?_
                    refine AOL.s1 (h := ?_); refine AOL.nil ?_
                    refine A1 9 (by kernel_rfl) rfl rfl ?_
                    iterate 1 refine AOL.s1 (h := ?_); refine AOL.kq [1, 2, 4, 9, 10, 15, 16] (h := ?_); refine AOL.nil ?_
                    exact AAny.done (by kernel_rfl) rfl
                · refine AOL.s1 (h := ?_); refine AOL.nil ?_
                  refine A1 5 (by kernel_rfl) rfl rfl ?_
                  refine AOL.s1 (h := ?_); refine AOL.nil ?_
                  refine A1 6 (by kernel_rfl) rfl rfl ?_
                  refine AOL.s1 (h := ?_); refine AOL.nil ?_
                  refine A1 7 (by kernel_rfl) rfl rfl ?_
                  refine AOL.s1 (h := ?_); refine AOL.nil ?_
                  refine A1 9 (by kernel_rfl) rfl rfl ?_
                  iterate 1 refine AOL.s1 (h := ?_); refine AOL.kq [1, 2, 4, 9, 10, 15, 16] (h := ?_); refine AOL.nil ?_
                  exact AAny.done (by kernel_rfl) rfl
              · refine AOL.s1 (h := ?_); refine AOL.nil ?_
                refine A1 4 (by kernel_rfl) rfl rfl ?_
                refine AOL.s1 (h := ?_); refine AOL.nil ?_
                refine A1 5 (by kernel_rfl) rfl rfl ?_
                refine AOL.s1 (h := ?_); refine AOL.nil ?_
                refine A1 6 (by kernel_rfl) rfl rfl ?_
                refine AOL.s1 (h := ?_); refine AOL.nil ?_
                refine A1 7 (by kernel_rfl) rfl rfl ?_
                refine AOL.s1 (h := ?_); refine AOL.nil ?_
                refine A1 9 (by kernel_rfl) rfl rfl ?_
                iterate 1 refine AOL.s1 (h := ?_); refine AOL.kq [1, 2, 4, 9, 10, 15, 16] (h := ?_); refine AOL.nil ?_
                exact AAny.done (by kernel_rfl) rfl
            · refine AOL.s1 (h := ?_); refine AOL.nil ?_
              refine A2 3 5 (by kernel_rfl) rfl rfl rfl rfl ?_ ?_
              · refine AOL.s1 (h := ?_); refine AOL.nil ?_
                refine A2 5 8 (by kernel_rfl) rfl rfl rfl rfl ?_ ?_
                · refine AOL.s1 (h := ?_); refine AOL.nil ?_
                  refine A2 6 8 (by kernel_rfl) rfl rfl rfl rfl ?_ ?_
                  · refine AOL.s1 (h := ?_); refine AOL.nil ?_
                    refine A2 7 8 (by kernel_rfl) rfl rfl rfl rfl ?_ ?_
                    · refine AOL.s1 (h := ?_); refine AOL.nil ?_
                      refine A1 8 (by kernel_rfl) rfl rfl ?_
                      refine AOL.s1 (h := ?_); refine AOL.nil ?_
                      refine A1 9 (by kernel_rfl) rfl rfl ?_
                      iterate 1 refine AOL.s1 (h := ?_); refine AOL.kq [1, 2, 4, 9, 10, 15, 16] (h := ?_); refine AOL.nil ?_
                      exact AAny.done (by kernel_rfl) rfl
                    · refine AOL.s1 (h := ?_); refine AOL.nil ?_
                      refine A1 7 (by kernel_rfl) rfl rfl ?_
                      refine AOL.s1 (h := ?_); refine AOL.nil ?_
                      refine A1 9 (by kernel_rfl) rfl rfl ?_
                      iterate 1 refine AOL.s1 (h := ?_); refine AOL.kq [1, 2, 4, 9, 10, 15, 16] (h := ?_); refine AOL.nil ?_
                      exact AAny.done (by kernel_rfl) rfl
                  · refine AOL.s1 (h := ?_); refine AOL.nil ?_
                    refine A1 6 (by kernel_rfl) rfl rfl ?_
                    refine AOL.s1 (h := ?_); refine AOL.nil ?_
                    refine A1 7 (by kernel_rfl) rfl rfl ?_
                    refine AOL.s1 (h := ?_); refine AOL.nil ?_
                    refine A1 9 (by kernel_rfl) rfl rfl ?_
                    iterate 1 refine AOL.s1 (h := ?_); refine AOL.kq [1, 2, 4, 9, 10, 15, 16] (h := ?_); refine AOL.nil ?_
                    exact AAny.done (by kernel_rfl) rfl
                · refine AOL.s1 (h := ?_); refine AOL.nil ?_
                  refine A1 5 (by kernel_rfl) rfl rfl ?_
                  refine AOL.s1 (h := ?_); refine AOL.nil ?_
                  refine A1 6 (by kernel_rfl) rfl rfl ?_
                  refine AOL.s1 (h := ?_); refine AOL.nil ?_
                  refine A1 7 (by kernel_rfl) rfl rfl ?_
                  refine AOL.s1 (h := ?_); refine AOL.nil ?_
                  refine A1 9 (by kernel_rfl) rfl rfl ?_
                  iterate 1 refine AOL.s1 (h := ?_); refine AOL.kq [1, 2, 4, 9, 10, 15, 16] (h := ?_); refine AOL.nil ?_
                  exact AAny.done (by kernel_rfl) rfl
              · refine AOL.s1 (h := ?_); refine AOL.nil ?_
                refine A2 3 6 (by kernel_rfl) rfl rfl rfl rfl ?_ ?_
                · refine AOL.s1 (h := ?_); refine AOL.nil ?_
                  refine A2 6 8 (by kernel_rfl) rfl rfl rfl rfl ?_ ?_
                  · refine AOL.s1 (h := ?_); refine AOL.nil ?_
                    refine A2 7 8 (by kernel_rfl) rfl rfl rfl rfl ?_ ?_
                    · refine AOL.s1 (h := ?_); refine AOL.nil ?_
                      refine A1 8 (by kernel_rfl) rfl rfl ?_
                      refine AOL.s1 (h := ?_); refine AOL.nil ?_
                      refine A1 9 (by kernel_rfl) rfl rfl ?_
                      iterate 1 refine AOL.s1 (h := ?_); refine AOL.kq [1, 2, 4, 9, 10, 15, 16] (h := ?_); refine AOL.nil ?_
                      exact AAny.done (by kernel_rfl) rfl
                    · refine AOL.s1 (h := ?_); refine AOL.nil ?_
                      refine A1 7 (by kernel_rfl) rfl rfl ?_
                      refine AOL.s1 (h := ?_); refine AOL.nil ?_
                      refine A1 9 (by kernel_rfl) rfl rfl ?_
                      iterate 1 refine AOL.s1 (h := ?_); refine AOL.kq [1, 2, 4, 9, 10, 15, 16] (h := ?_); refine AOL.nil ?_
                      exact AAny.done (by kernel_rfl) rfl
                  · refine AOL.s1 (h := ?_); refine AOL.nil ?_
                    refine A1 6 (by kernel_rfl) rfl rfl ?_
                    refine AOL.s1 (h := ?_); refine AOL.nil ?_
                    refine A1 7 (by kernel_rfl) rfl rfl ?_
                    refine AOL.s1 (h := ?_); refine AOL.nil ?_
                    refine A1 9 (by kernel_rfl) rfl rfl ?_
                    iterate 1 refine AOL.s1 (h := ?_); refine AOL.kq [1, 2, 4, 9, 10, 15, 16] (h := ?_); refine AOL.nil ?_
                    exact AAny.done (by kernel_rfl) rfl
                · refine AOL.s1 (h := ?_); refine AOL.nil ?_
                  refine A2 3 7 (by kernel_rfl) rfl rfl rfl rfl ?_ ?_
                  · refine AOL.s1 (h := ?_); refine AOL.nil ?_
                    refine A2 7 8 (by kernel_rfl) rfl rfl rfl rfl ?_ ?_
                    · refine AOL.s1 (h := ?_); refine AOL.nil ?_
                      refine A1 8 (by kernel_rfl) rfl rfl ?_
                      refine AOL.s1 (h := ?_); refine AOL.nil ?_
                      refine A1 9 (by kernel_rfl) rfl rfl ?_
                      iterate 1 refine AOL.s1 (h := ?_); refine AOL.kq [1, 2, 4, 9, 10, 15, 16] (h := ?_); refine AOL.nil ?_
                      exact AAny.done (by kernel_rfl) rfl
                    · refine AOL.s1 (h := ?_); refine AOL.nil ?_
                      refine A1 7 (by kernel_rfl) rfl rfl ?_
                      refine AOL.s1 (h := ?_); refine AOL.nil ?_
                      refine A1 9 (by kernel_rfl) rfl rfl ?_
                      iterate 1 refine AOL.s1 (h := ?_); refine AOL.kq [1, 2, 4, 9, 10, 15, 16] (h := ?_); refine AOL.nil ?_
                      exact AAny.done (by kernel_rfl) rfl
                  · refine AOL.s1 (h := ?_); refine AOL.nil ?_
                    refine A1 3 (by kernel_rfl) rfl rfl ?_
                    refine AOL.s1 (h := ?_); refine AOL.nil ?_
                    refine A1 8 (by kernel_rfl) rfl rfl ?_
                    refine AOL.s1 (h := ?_); refine AOL.nil ?_
                    refine A1 9 (by kernel_rfl) rfl rfl ?_
                    iterate 1 refine AOL.s1 (h := ?_); refine AOL.kq [1, 2, 4, 9, 10, 15, 16] (h := ?_); refine AOL.nil ?_
                    exact AAny.done (by kernel_rfl) rfl
          · refine AOL.s1 (h := ?_); refine AOL.nil ?_
            refine A2 2 5 (by kernel_rfl) rfl rfl rfl rfl ?_ ?_
            · refine AOL.s1 (h := ?_); refine AOL.nil ?_
              refine A2 3 5 (by kernel_rfl) rfl rfl rfl rfl ?_ ?_
              · refine AOL.s1 (h := ?_); refine AOL.nil ?_
                refine A2 5 8 (by kernel_rfl) rfl rfl rfl rfl ?_ ?_
                · refine AOL.s1 (h := ?_); refine AOL.nil ?_
                  refine A2 6 8 (by kernel_rfl) rfl rfl rfl rfl ?_ ?_
                  · refine AOL.s1 (h := ?_); refine AOL.nil ?_
                    refine A2 7 8 (by kernel_rfl) rfl rfl rfl rfl ?_ ?_
                    · refine AOL.s1 (h := ?_); refine AOL.nil ?_
                      refine A1 8 (by kernel_rfl) rfl rfl ?_
                      refine AOL.s1 (h := ?_); refine AOL.nil ?_
                      refine A1 9 (by kernel_rfl) rfl rfl ?_
                      iterate 1 refine AOL.s1 (h := ?_); refine AOL.kq [1, 2, 4, 9, 10, 15, 16] (h := ?_); refine AOL.nil ?_
                      exact AAny.done (by kernel_rfl) rfl
                    · refine AOL.s1 (h := ?_); refine AOL.nil ?_
                      refine A1 7 (by kernel_rfl) rfl rfl ?_
                      refine AOL.s1 (h := ?_); refine AOL.nil ?_
                      refine A1 9 (by kernel_rfl) rfl rfl ?_
                      iterate 1 refine AOL.s1 (h := ?_); refine AOL.kq [1, 2, 4, 9, 10, 15, 16] (h := ?_); refine AOL.nil ?_
                      exact AAny.done (by kernel_rfl) rfl
                  · refine AOL.s1 (h := ?_); refine AOL.nil ?_
                    refine A1 6 (by kernel_rfl) rfl rfl ?_
                    refine AOL.s1 (h := ?_); refine AOL.nil ?_
                    refine A1 7 (by kernel_rfl) rfl rfl ?_
                    refine AOL.s1 (h := ?_); refine AOL.nil ?_
                    refine A1 9 (by kernel_rfl) rfl rfl ?_
                    iterate 1 refine AOL.s1 (h := ?_); refine AOL.kq [1, 2, 4, 9, 10, 15, 16] (h := ?_); refine AOL.nil ?_
                    exact AAny.done (by kernel_rfl) rfl
                · refine AOL.s1 (h := ?_); refine AOL.nil ?_
                  refine A1 5 (by kernel_rfl) rfl rfl ?_
                  refine AOL.s1 (h := ?_); refine AOL.nil ?_
                  refine A1 6 (by kernel_rfl) rfl rfl ?_
                  refine AOL.s1 (h := ?_); refine AOL.nil ?_
                  refine A1 7 (by kernel_rfl) rfl rfl ?_
                  refine AOL.s1 (h := ?_); refine AOL.nil ?_
                  refine A1 9 (by kernel_rfl) rfl rfl ?_
                  iterate 1 refine AOL.s1 (h := ?_); refine AOL.kq [1, 2, 4, 9, 10, 15, 16] (h := ?_); refine AOL.nil ?_
                  exact AAny.done (by kernel_rfl) rfl
              · refine AOL.s1 (h := ?_); refine AOL.nil ?_
                refine A2 3 6 (by kernel_rfl) rfl rfl rfl rfl ?_ ?_
                · refine AOL.s1 (h := ?_); refine AOL.nil ?_
                  refine A2 6 8 (by kernel_rfl) rfl rfl rfl rfl ?_ ?_
                  · refine AOL.s1 (h := ?_); refine AOL.nil ?_
                    refine A2 7 8 (by kernel_rfl) rfl rfl rfl rfl ?_ ?_
                    · refine AOL.s1 (h := ?_); refine AOL.nil ?_
                      refine A1 8 (by kernel_rfl) rfl rfl ?_
                      refine AOL.s1 (h := ?_); refine AOL.nil ?_
                      refine A1 9 (by kernel_rfl) rfl rfl ?_
                      iterate 1 refine AOL.s1 (h := ?_); refine AOL.kq [1, 2, 4, 9, 10, 15, 16] (h := ?_); refine AOL.nil ?_
                      exact AAny.done (by kernel_rfl) rfl
                    · refine AOL.s1 (h := ?_); refine AOL.nil ?_
                      refine A1 7 (by kernel_rfl) rfl rfl ?_
                      refine AOL.s1 (h := ?_); refine AOL.nil ?_
                      refine A1 9 (by kernel_rfl) rfl rfl ?_
                      iterate 1 refine AOL.s1 (h := ?_); refine AOL.kq [1, 2, 4, 9, 10, 15, 16] (h := ?_); refine AOL.nil ?_
                      exact AAny.done (by kernel_rfl) rfl
                  · refine AOL.s1 (h := ?_); refine AOL.nil ?_
                    refine A1 6 (by kernel_rfl) rfl rfl ?_
                    refine AOL.s1 (h := ?_); refine AOL.nil ?_
                    refine A1 7 (by kernel_rfl) rfl rfl ?_
                    refine AOL.s1 (h := ?_); refine AOL.nil ?_
                    refine A1 9 (by kernel_rfl) rfl rfl ?_
                    iterate 1 refine AOL.s1 (h := ?_); refine AOL.kq [1, 2, 4, 9, 10, 15, 16] (h := ?_); refine AOL.nil ?_
                    exact AAny.done (by kernel_rfl) rfl
                · refine AOL.s1 (h := ?_); refine AOL.nil ?_
                  refine A2 3 7 (by kernel_rfl) rfl rfl rfl rfl ?_ ?_
                  · refine AOL.s1 (h := ?_); refine AOL.nil ?_
                    refine A2 7 8 (by kernel_rfl) rfl rfl rfl rfl ?_ ?_
                    · refine AOL.s1 (h := ?_); refine AOL.nil ?_
                      refine A1 8 (by kernel_rfl) rfl rfl ?_
                      refine AOL.s1 (h := ?_); refine AOL.nil ?_
                      refine A1 9 (by kernel_rfl) rfl rfl ?_
                      iterate 1 refine AOL.s1 (h := ?_); refine AOL.kq [1, 2, 4, 9, 10, 15, 16] (h := ?_); refine AOL.nil ?_
                      exact AAny.done (by kernel_rfl) rfl
                    · refine AOL.s1 (h := ?_); refine AOL.nil ?_
                      refine A1 7 (by kernel_rfl) rfl rfl ?_
                      refine AOL.s1 (h := ?_); refine AOL.nil ?_
                      refine A1 9 (by kernel_rfl) rfl rfl ?_
                      iterate 1 refine AOL.s1 (h := ?_); refine AOL.kq [1, 2, 4, 9, 10, 15, 16] (h := ?_); refine AOL.nil ?_
                      exact AAny.done (by kernel_rfl) rfl
                  · refine AOL.s1 (h := ?_); refine AOL.nil ?_
                    refine A1 3 (by kernel_rfl) rfl rfl ?_
                    refine AOL.s1 (h := ?_); refine AOL.nil ?_
                    refine A1 8 (by kernel_rfl) rfl rfl ?_
                    refine AOL.s1 (h := ?_); refine AOL.nil ?_
                    refine A1 9 (by kernel_rfl) rfl rfl ?_
                    iterate 1 refine AOL.s1 (h := ?_); refine AOL.kq [1, 2, 4, 9, 10, 15, 16] (h := ?_); refine AOL.nil ?_
                    exact AAny.done (by kernel_rfl) rfl
            · refine AOL.s1 (h := ?_); refine AOL.nil ?_
              refine A2 2 6 (by kernel_rfl) rfl rfl rfl rfl ?_ ?_
              · refine AOL.s1 (h := ?_); refine AOL.nil ?_
                refine A2 3 6 (by kernel_rfl) rfl rfl rfl rfl ?_ ?_
                · refine AOL.s1 (h := ?_); refine AOL.nil ?_
                  refine A2 6 8 (by kernel_rfl) rfl rfl rfl rfl ?_ ?_
                  · refine AOL.s1 (h := ?_); refine AOL.nil ?_
                    refine A2 7 8 (by kernel_rfl) rfl rfl rfl rfl ?_ ?_
                    · refine AOL.s1 (h := ?_); refine AOL.nil ?_
                      refine A1 8 (by kernel_rfl) rfl rfl ?_
                      refine AOL.s1 (h := ?_); refine AOL.nil ?_
                      refine A1 9 (by kernel_rfl) rfl rfl ?_
                      iterate 1 refine AOL.s1 (h := ?_); refine AOL.kq [1, 2, 4, 9, 10, 15, 16] (h := ?_); refine AOL.nil ?_
                      exact AAny.done (by kernel_rfl) rfl
                    · refine AOL.s1 (h := ?_); refine AOL.nil ?_
                      refine A1 7 (by kernel_rfl) rfl rfl ?_
                      refine AOL.s1 (h := ?_); refine AOL.nil ?_
                      refine A1 9 (by kernel_rfl) rfl rfl ?_
                      iterate 1 refine AOL.s1 (h := ?_); refine AOL.kq [1, 2, 4, 9, 10, 15, 16] (h := ?_); refine AOL.nil ?_
                      exact AAny.done (by kernel_rfl) rfl
                  · refine AOL.s1 (h := ?_); refine AOL.nil ?_
                    refine A1 6 (by kernel_rfl) rfl rfl ?_
                    refine AOL.s1 (h := ?_); refine AOL.nil ?_
                    refine A1 7 (by kernel_rfl) rfl rfl ?_
                    refine AOL.s1 (h := ?_); refine AOL.nil ?_
                    refine A1 9 (by kernel_rfl) rfl rfl ?_
                    iterate 1 refine AOL.s1 (h := ?_); refine AOL.kq [1, 2, 4, 9, 10, 15, 16] (h := ?_); refine AOL.nil ?_
                    exact AAny.done (by kernel_rfl) rfl
                · refine AOL.s1 (h := ?_); refine AOL.nil ?_
                  refine A2 3 7 (by kernel_rfl) rfl rfl rfl rfl ?_ ?_
                  · refine AOL.s1 (h := ?_); refine AOL.nil ?_
                    refine A2 7 8 (by kernel_rfl) rfl rfl rfl rfl ?_ ?_
                    · refine AOL.s1 (h := ?_); refine AOL.nil ?_
                      refine A1 8 (by kernel_rfl) rfl rfl ?_
                      refine AOL.s1 (h := ?_); refine AOL.nil ?_
                      refine A1 9 (by kernel_rfl) rfl rfl ?_
                      iterate 1 refine AOL.s1 (h := ?_); refine AOL.kq [1, 2, 4, 9, 10, 15, 16] (h := ?_); refine AOL.nil ?_
                      exact AAny.done (by kernel_rfl) rfl
                    · refine AOL.s1 (h := ?_); refine AOL.nil ?_
                      refine A1 7 (by kernel_rfl) rfl rfl ?_
                      refine AOL.s1 (h := ?_); refine AOL.nil ?_
                      refine A1 9 (by kernel_rfl) rfl rfl ?_
                      iterate 1 refine AOL.s1 (h := ?_); refine AOL.kq [1, 2, 4, 9, 10, 15, 16] (h := ?_); refine AOL.nil ?_
                      exact AAny.done (by kernel_rfl) rfl
                  · refine AOL.s1 (h := ?_); refine AOL.nil ?_
                    refine A1 3 (by kernel_rfl) rfl rfl ?_
                    refine AOL.s1 (h := ?_); refine AOL.nil ?_
                    refine A1 8 (by kernel_rfl) rfl rfl ?_
                    refine AOL.s1 (h := ?_); refine AOL.nil ?_
                    refine A1 9 (by kernel_rfl) rfl rfl ?_
                    iterate 1 refine AOL.s1 (h := ?_); refine AOL.kq [1, 2, 4, 9, 10, 15, 16] (h := ?_); refine AOL.nil ?_
                    exact AAny.done (by kernel_rfl) rfl
              · refine AOL.s1 (h := ?_); refine AOL.nil ?_
                refine A2 2 7 (by kernel_rfl) rfl rfl rfl rfl ?_ ?_
                · refine AOL.s1 (h := ?_); refine AOL.nil ?_
                  refine A2 3 7 (by kernel_rfl) rfl rfl rfl rfl ?_ ?_
                  · refine AOL.s1 (h := ?_); refine AOL.nil ?_
                    refine A2 7 8 (by kernel_rfl) rfl rfl rfl rfl ?_ ?_
                    · refine AOL.s1 (h := ?_); refine AOL.nil ?_
                      refine A1 8 (by kernel_rfl) rfl rfl ?_
                      refine AOL.s1 (h := ?_); refine AOL.nil ?_
                      refine A1 9 (by kernel_rfl) rfl rfl ?_
                      iterate 1 refine AOL.s1 (h := ?_); refine AOL.kq [1, 2, 4, 9, 10, 15, 16] (h := ?_); refine AOL.nil ?_
                      exact AAny.done (by kernel_rfl) rfl
                    · refine AOL.s1 (h := ?_); refine AOL.nil ?_
                      refine A1 7 (by kernel_rfl) rfl rfl ?_
                      refine AOL.s1 (h := ?_); refine AOL.nil ?_
                      refine A1 9 (by kernel_rfl) rfl rfl ?_
                      iterate 1 refine AOL.s1 (h := ?_); refine AOL.kq [1, 2, 4, 9, 10, 15, 16] (h := ?_); refine AOL.nil ?_
                      exact AAny.done (by kernel_rfl) rfl
                  · refine AOL.s1 (h := ?_); refine AOL.nil ?_
                    refine A1 3 (by kernel_rfl) rfl rfl ?_
                    refine AOL.s1 (h := ?_); refine AOL.nil ?_
                    refine A1 8 (by kernel_rfl) rfl rfl ?_
                    refine AOL.s1 (h := ?_); refine AOL.nil ?_
                    refine A1 9 (by kernel_rfl) rfl rfl ?_
                    iterate 1 refine AOL.s1 (h := ?_); refine AOL.kq [1, 2, 4, 9, 10, 15, 16] (h := ?_); refine AOL.nil ?_
                    exact AAny.done (by kernel_rfl) rfl
                · refine AOL.s1 (h := ?_); refine AOL.nil ?_
                  refine A1 2 (by kernel_rfl) rfl rfl ?_
                  refine AOL.s1 (h := ?_); refine AOL.nil ?_
                  refine A1 3 (by kernel_rfl) rfl rfl ?_
                  refine AOL.s1 (h := ?_); refine AOL.nil ?_
                  refine A1 8 (by kernel_rfl) rfl rfl ?_
                  refine AOL.s1 (h := ?_); refine AOL.nil ?_
                  refine A1 9 (by kernel_rfl) rfl rfl ?_
                  iterate 1 refine AOL.s1 (h := ?_); refine AOL.kq [1, 2, 4, 9, 10, 15, 16] (h := ?_); refine AOL.nil ?_
                  exact AAny.done (by kernel_rfl) rfl
        · refine AOL.s1 (h := ?_); refine AOL.nil ?_
          refine A2 1 5 (by kernel_rfl) rfl rfl rfl rfl ?_ ?_
          · refine AOL.s1 (h := ?_); refine AOL.nil ?_
            refine A2 2 5 (by kernel_rfl) rfl rfl rfl rfl ?_ ?_
            · refine AOL.s1 (h := ?_); refine AOL.nil ?_
              refine A2 3 5 (by kernel_rfl) rfl rfl rfl rfl ?_ ?_
              · refine AOL.s1 (h := ?_); refine AOL.nil ?_
                refine A2 5 8 (by kernel_rfl) rfl rfl rfl rfl ?_ ?_
                · refine AOL.s1 (h := ?_); refine AOL.nil ?_
                  refine A2 6 8 (by kernel_rfl) rfl rfl rfl rfl ?_ ?_
                  · refine AOL.s1 (h := ?_); refine AOL.nil ?_
                    refine A2 7 8 (by kernel_rfl) rfl rfl rfl rfl ?_ ?_
                    · refine AOL.s1 (h := ?_); refine AOL.nil ?_
                      refine A1 8 (by kernel_rfl) rfl rfl ?_
                      refine AOL.s1 (h := ?_); refine AOL.nil ?_
                      refine A1 9 (by kernel_rfl) rfl rfl ?_
                      iterate 1 refine AOL.s1 (h := ?_); refine AOL.kq [1, 2, 4, 9, 10, 15, 16] (h := ?_); refine AOL.nil ?_
                      exact AAny.done (by kernel_rfl) rfl
                    · refine AOL.s1 (h := ?_); refine AOL.nil ?_
                      refine A1 7 (by kernel_rfl) rfl rfl ?_
                      refine AOL.s1 (h := ?_); refine AOL.nil ?_
                      refine A1 9 (by kernel_rfl) rfl rfl ?_
                      iterate 1 refine AOL.s1 (h := ?_); refine AOL.kq [1, 2, 4, 9, 10, 15, 16] (h := ?_); refine AOL.nil ?_
                      exact AAny.done (by kernel_rfl) rfl
                  · refine AOL.s1 (h := ?_); refine AOL.nil ?_
                    refine A1 6 (by kernel_rfl) rfl rfl ?_
                    refine AOL.s1 (h := ?_); refine AOL.nil ?_
                    refine A1 7 (by kernel_rfl) rfl rfl ?_
                    refine AOL.s1 (h := ?_); refine AOL.nil ?_
                    refine A1 9 (by kernel_rfl) rfl rfl ?_
                    iterate 1 refine AOL.s1 (h := ?_); refine AOL.kq [1, 2, 4, 9, 10, 15, 16] (h := ?_); refine AOL.nil ?_
                    exact AAny.done (by kernel_rfl) rfl
                · refine AOL.s1 (h := ?_); refine AOL.nil ?_
                  refine A1 5 (by kernel_rfl) rfl rfl ?_
                  refine AOL.s1 (h := ?_); refine AOL.nil ?_
                  refine A1 6 (by kernel_rfl) rfl rfl ?_
                  refine AOL.s1 (h := ?_); refine AOL.nil ?_
                  refine A1 7 (by kernel_rfl) rfl rfl ?_
                  refine AOL.s1 (h := ?_); refine AOL.nil ?_
                  refine A1 9 (by kernel_rfl) rfl rfl ?_
                  iterate 1 refine AOL.s1 (h := ?_); refine AOL.kq [1, 2, 4, 9, 10, 15, 16] (h := ?_); refine AOL.nil ?_
                  exact AAny.done (by kernel_rfl) rfl
              · refine AOL.s1 (h := ?_); refine AOL.nil ?_
                refine A2 3 6 (by kernel_rfl) rfl rfl rfl rfl ?_ ?_
                · refine AOL.s1 (h := ?_); refine AOL.nil ?_
                  refine A2 6 8 (by kernel_rfl) rfl rfl rfl rfl ?_ ?_
                  · refine AOL.s1 (h := ?_); refine AOL.nil ?_
                    refine A2 7 8 (by kernel_rfl) rfl rfl rfl rfl ?_ ?_
                    · refine AOL.s1 (h := ?_); refine AOL.nil ?_
                      refine A1 8 (by kernel_rfl) rfl rfl ?_
                      refine AOL.s1 (h := ?_); refine AOL.nil ?_
                      refine A1 9 (by kernel_rfl) rfl rfl ?_
                      iterate 1 refine AOL.s1 (h := ?_); refine AOL.kq [1, 2, 4, 9, 10, 15, 16] (h := ?_); refine AOL.nil ?_
                      exact AAny.done (by kernel_rfl) rfl
                    · refine AOL.s1 (h := ?_); refine AOL.nil ?_
                      refine A1 7 (by kernel_rfl) rfl rfl ?_
                      refine AOL.s1 (h := ?_); refine AOL.nil ?_
                      refine A1 9 (by kernel_rfl) rfl rfl ?_
                      iterate 1 refine AOL.s1 (h := ?_); refine AOL.kq [1, 2, 4, 9, 10, 15, 16] (h := ?_); refine AOL.nil ?_
                      exact AAny.done (by kernel_rfl) rfl
                  · refine AOL.s1 (h := ?_); refine AOL.nil ?_
                    refine A1 6 (by kernel_rfl) rfl rfl ?_
                    refine AOL.s1 (h := ?_); refine AOL.nil ?_
                    refine A1 7 (by kernel_rfl) rfl rfl ?_
                    refine AOL.s1 (h := ?_); refine AOL.nil ?_
                    refine A1 9 (by kernel_rfl) rfl rfl ?_
                    iterate 1 refine AOL.s1 (h := ?_); refine AOL.kq [1, 2, 4, 9, 10, 15, 16] (h := ?_); refine AOL.nil ?_
                    exact AAny.done (by kernel_rfl) rfl
                · refine AOL.s1 (h := ?_); refine AOL.nil ?_
                  refine A2 3 7 (by kernel_rfl) rfl rfl rfl rfl ?_ ?_
                  · refine AOL.s1 (h := ?_); refine AOL.nil ?_
                    refine A2 7 8 (by kernel_rfl) rfl rfl rfl rfl ?_ ?_
                    · refine AOL.s1 (h := ?_); refine AOL.nil ?_
                      refine A1 8 (by kernel_rfl) rfl rfl ?_
                      refine AOL.s1 (h := ?_); refine AOL.nil ?_
                      refine A1 9 (by kernel_rfl) rfl rfl ?_
                      iterate 1 refine AOL.s1 (h := ?_); refine AOL.kq [1, 2, 4, 9, 10, 15, 16] (h := ?_); refine AOL.nil ?_
                      exact AAny.done (by kernel_rfl) rfl
                    · refine AOL.s1 (h := ?_); refine AOL.nil ?_
                      refine A1 7 (by kernel_rfl) rfl rfl ?_
                      refine AOL.s1 (h := ?_); refine AOL.nil ?_
                      refine A1 9 (by kernel_rfl) rfl rfl ?_
                      iterate 1 refine AOL.s1 (h := ?_); refine AOL.kq [1, 2, 4, 9, 10, 15, 16] (h := ?_); refine AOL.nil ?_
                      exact AAny.done (by kernel_rfl) rfl
                  · refine AOL.s1 (h := ?_); refine AOL.nil ?_
                    refine A1 3 (by kernel_rfl) rfl rfl ?_
                    refine AOL.s1 (h := ?_); refine AOL.nil ?_
                    refine A1 8 (by kernel_rfl) rfl rfl ?_
                    refine AOL.s1 (h := ?_); refine AOL.nil ?_
                    refine A1 9 (by kernel_rfl) rfl rfl ?_
                    iterate 1 refine AOL.s1 (h := ?_); refine AOL.kq [1, 2, 4, 9, 10, 15, 16] (h := ?_); refine AOL.nil ?_
                    exact AAny.done (by kernel_rfl) rfl
            · refine AOL.s1 (h := ?_); refine AOL.nil ?_
              refine A2 2 6 (by kernel_rfl) rfl rfl rfl rfl ?_ ?_
              · refine AOL.s1 (h := ?_); refine AOL.nil ?_
                refine A2 3 6 (by kernel_rfl) rfl rfl rfl rfl ?_ ?_
                · refine AOL.s1 (h := ?_); refine AOL.nil ?_
                  refine A2 6 8 (by kernel_rfl) rfl rfl rfl rfl ?_ ?_
                  · refine AOL.s1 (h := ?_); refine AOL.nil ?_
                    refine A2 7 8 (by kernel_rfl) rfl rfl rfl rfl ?_ ?_
                    · refine AOL.s1 (h := ?_); refine AOL.nil ?_
                      refine A1 8 (by kernel_rfl) rfl rfl ?_
                      refine AOL.s1 (h := ?_); refine AOL.nil ?_
                      refine A1 9 (by kernel_rfl) rfl rfl ?_
                      iterate 1 refine AOL.s1 (h := ?_); refine AOL.kq [1, 2, 4, 9, 10, 15, 16] (h := ?_); refine AOL.nil ?_
                      exact AAny.done (by kernel_rfl) rfl
                    · refine AOL.s1 (h := ?_); refine AOL.nil ?_
                      refine A1 7 (by kernel_rfl) rfl rfl ?_
                      refine AOL.s1 (h := ?_); refine AOL.nil ?_
                      refine A1 9 (by kernel_rfl) rfl rfl ?_
                      iterate 1 refine AOL.s1 (h := ?_); refine AOL.kq [1, 2, 4, 9, 10, 15, 16] (h := ?_); refine AOL.nil ?_
                      exact AAny.done (by kernel_rfl) rfl
                  · refine AOL.s1 (h := ?_); refine AOL.nil ?_
                    refine A1 6 (by kernel_rfl) rfl rfl ?_
                    refine AOL.s1 (h := ?_); refine AOL.nil ?_
                    refine A1 7 (by kernel_rfl) rfl rfl ?_
                    refine AOL.s1 (h := ?_); refine AOL.nil ?_
                    refine A1 9 (by kernel_rfl) rfl rfl ?_
                    iterate 1 refine AOL.s1 (h := ?_); refine AOL.kq [1, 2, 4, 9, 10, 15, 16] (h := ?_); refine AOL.nil ?_
                    exact AAny.done (by kernel_rfl) rfl
                · refine AOL.s1 (h := ?_); refine AOL.nil ?_
                  refine A2 3 7 (by kernel_rfl) rfl rfl rfl rfl ?_ ?_
                  · refine AOL.s1 (h := ?_); refine AOL.nil ?_
                    refine A2 7 8 (by kernel_rfl) rfl rfl rfl rfl ?_ ?_
                    · refine AOL.s1 (h := ?_); refine AOL.nil ?_
                      refine A1 8 (by kernel_rfl) rfl rfl ?_
                      refine AOL.s1 (h := ?_); refine AOL.nil ?_
                      refine A1 9 (by kernel_rfl) rfl rfl ?_
                      iterate 1 refine AOL.s1 (h := ?_); refine AOL.kq [1, 2, 4, 9, 10, 15, 16] (h := ?_); refine AOL.nil ?_
                      exact AAny.done (by kernel_rfl) rfl
                    · refine AOL.s1 (h := ?_); refine AOL.nil ?_
                      refine A1 7 (by kernel_rfl) rfl rfl ?_
                      refine AOL.s1 (h := ?_); refine AOL.nil ?_
                      refine A1 9 (by kernel_rfl) rfl rfl ?_
                      iterate 1 refine AOL.s1 (h := ?_); refine AOL.kq [1, 2, 4, 9, 10, 15, 16] (h := ?_); refine AOL.nil ?_
                      exact AAny.done (by kernel_rfl) rfl
                  · refine AOL.s1 (h := ?_); refine AOL.nil ?_
                    refine A1 3 (by kernel_rfl) rfl rfl ?_
                    refine AOL.s1 (h := ?_); refine AOL.nil ?_
                    refine A1 8 (by kernel_rfl) rfl rfl ?_
                    refine AOL.s1 (h := ?_); refine AOL.nil ?_
                    refine A1 9 (by kernel_rfl) rfl rfl ?_
                    iterate 1 refine AOL.s1 (h := ?_); refine AOL.kq [1, 2, 4, 9, 10, 15, 16] (h := ?_); refine AOL.nil ?_
                    exact AAny.done (by kernel_rfl) rfl
              · refine AOL.s1 (h := ?_); refine AOL.nil ?_
                refine A2 2 7 (by kernel_rfl) rfl rfl rfl rfl ?_ ?_
                · refine AOL.s1 (h := ?_); refine AOL.nil ?_
                  refine A2 3 7 (by kernel_rfl) rfl rfl rfl rfl ?_ ?_
                  · refine AOL.s1 (h := ?_); refine AOL.nil ?_
                    refine A2 7 8 (by kernel_rfl) rfl rfl rfl rfl ?_ ?_
                    · refine AOL.s1 (h := ?_); refine AOL.nil ?_
                      refine A1 8 (by kernel_rfl) rfl rfl ?_
                      refine AOL.s1 (h := ?_); refine AOL.nil ?_
                      refine A1 9 (by kernel_rfl) rfl rfl ?_
                      iterate 1 refine AOL.s1 (h := ?_); refine AOL.kq [1, 2, 4, 9, 10, 15, 16] (h := ?_); refine AOL.nil ?_
                      exact AAny.done (by kernel_rfl) rfl
                    · refine AOL.s1 (h := ?_); refine AOL.nil ?_
                      refine A1 7 (by kernel_rfl) rfl rfl ?_
                      refine AOL.s1 (h := ?_); refine AOL.nil ?_
                      refine A1 9 (by kernel_rfl) rfl rfl ?_
                      iterate 1 refine AOL.s1 (h := ?_); refine AOL.kq [1, 2, 4, 9, 10, 15, 16] (h := ?_); refine AOL.nil ?_
                      exact AAny.done (by kernel_rfl) rfl
                  · refine AOL.s1 (h := ?_); refine AOL.nil ?_
                    refine A1 3 (by kernel_rfl) rfl rfl ?_
                    refine AOL.s1 (h := ?_); refine AOL.nil ?_
                    refine A1 8 (by kernel_rfl) rfl rfl ?_
                    refine AOL.s1 (h := ?_); refine AOL.nil ?_
                    refine A1 9 (by kernel_rfl) rfl rfl ?_
                    iterate 1 refine AOL.s1 (h := ?_); refine AOL.kq [1, 2, 4, 9, 10, 15, 16] (h := ?_); refine AOL.nil ?_
                    exact AAny.done (by kernel_rfl) rfl
                · refine AOL.s1 (h := ?_); refine AOL.nil ?_
                  refine A1 2 (by kernel_rfl) rfl rfl ?_
                  refine AOL.s1 (h := ?_); refine AOL.nil ?_
                  refine A1 3 (by kernel_rfl) rfl rfl ?_
                  refine AOL.s1 (h := ?_); refine AOL.nil ?_
                  refine A1 8 (by kernel_rfl) rfl rfl ?_
                  refine AOL.s1 (h := ?_); refine AOL.nil ?_
                  refine A1 9 (by kernel_rfl) rfl rfl ?_
                  iterate 1 refine AOL.s1 (h := ?_); refine AOL.kq [1, 2, 4, 9, 10, 15, 16] (h := ?_); refine AOL.nil ?_
                  exact AAny.done (by kernel_rfl) rfl
          · refine AOL.s1 (h := ?_); refine AOL.nil ?_
            refine A2 1 6 (by kernel_rfl) rfl rfl rfl rfl ?_ ?_
            · refine AOL.s1 (h := ?_); refine AOL.nil ?_
              refine A2 2 6 (by kernel_rfl) rfl rfl rfl rfl ?_ ?_
              · refine AOL.s1 (h := ?_); refine AOL.nil ?_
                refine A2 3 6 (by kernel_rfl) rfl rfl rfl rfl ?_ ?_
                · refine AOL.s1 (h := ?_); refine AOL.nil ?_
                  refine A2 6 8 (by kernel_rfl) rfl rfl rfl rfl ?_ ?_
                  · refine AOL.s1 (h := ?_); refine AOL.nil ?_
                    refine A2 7 8 (by kernel_rfl) rfl rfl rfl rfl ?_ ?_
                    · refine AOL.s1 (h := ?_); refine AOL.nil ?_
                      refine A1 8 (by kernel_rfl) rfl rfl ?_
                      refine AOL.s1 (h := ?_); refine AOL.nil ?_
                      refine A1 9 (by kernel_rfl) rfl rfl ?_
                      iterate 1 refine AOL.s1 (h := ?_); refine AOL.kq [1, 2, 4, 9, 10, 15, 16] (h := ?_); refine AOL.nil ?_
                      exact AAny.done (by kernel_rfl) rfl
                    · refine AOL.s1 (h := ?_); refine AOL.nil ?_
                      refine A1 7 (by kernel_rfl) rfl rfl ?_
                      refine AOL.s1 (h := ?_); refine AOL.nil ?_
                      refine A1 9 (by kernel_rfl) rfl rfl ?_
                      iterate 1 refine AOL.s1 (h := ?_); refine AOL.kq [1, 2, 4, 9, 10, 15, 16] (h := ?_); refine AOL.nil ?_
                      exact AAny.done (by kernel_rfl) rfl
                  · refine AOL.s1 (h := ?_); refine AOL.nil ?_
                    refine A1 6 (by kernel_rfl) rfl rfl ?_
                    refine AOL.s1 (h := ?_); refine AOL.nil ?_
                    refine A1 7 (by kernel_rfl) rfl rfl ?_
                    refine AOL.s1 (h := ?_); refine AOL.nil ?_
                    refine A1 9 (by kernel_rfl) rfl rfl ?_
                    iterate 1 refine AOL.s1 (h := ?_); refine AOL.kq [1, 2, 4, 9, 10, 15, 16] (h := ?_); refine AOL.nil ?_
                    exact AAny.done (by kernel_rfl) rfl
                · refine AOL.s1 (h := ?_); refine AOL.nil ?_
                  refine A2 3 7 (by kernel_rfl) rfl rfl rfl rfl ?_ ?_
                  · refine AOL.s1 (h := ?_); refine AOL.nil ?_
                    refine A2 7 8 (by kernel_rfl) rfl rfl rfl rfl ?_ ?_
                    · refine AOL.s1 (h := ?_); refine AOL.nil ?_
                      refine A1 8 (by kernel_rfl) rfl rfl ?_
                      refine AOL.s1 (h := ?_); refine AOL.nil ?_
                      refine A1 9 (by kernel_rfl) rfl rfl ?_
                      iterate 1 refine AOL.s1 (h := ?_); refine AOL.kq [1, 2, 4, 9, 10, 15, 16] (h := ?_); refine AOL.nil ?_
                      exact AAny.done (by kernel_rfl) rfl
                    · refine AOL.s1 (h := ?_); refine AOL.nil ?_
                      refine A1 7 (by kernel_rfl) rfl rfl ?_
                      refine AOL.s1 (h := ?_); refine AOL.nil ?_
                      refine A1 9 (by kernel_rfl) rfl rfl ?_
                      iterate 1 refine AOL.s1 (h := ?_); refine AOL.kq [1, 2, 4, 9, 10, 15, 16] (h := ?_); refine AOL.nil ?_
                      exact AAny.done (by kernel_rfl) rfl
                  · refine AOL.s1 (h := ?_); refine AOL.nil ?_
                    refine A1 3 (by kernel_rfl) rfl rfl ?_
                    refine AOL.s1 (h := ?_); refine AOL.nil ?_
                    refine A1 8 (by kernel_rfl) rfl rfl ?_
                    refine AOL.s1 (h := ?_); refine AOL.nil ?_
                    refine A1 9 (by kernel_rfl) rfl rfl ?_
                    iterate 1 refine AOL.s1 (h := ?_); refine AOL.kq [1, 2, 4, 9, 10, 15, 16] (h := ?_); refine AOL.nil ?_
                    exact AAny.done (by kernel_rfl) rfl
              · refine AOL.s1 (h := ?_); refine AOL.nil ?_
                refine A2 2 7 (by kernel_rfl) rfl rfl rfl rfl ?_ ?_
                · refine AOL.s1 (h := ?_); refine AOL.nil ?_
                  refine A2 3 7 (by kernel_rfl) rfl rfl rfl rfl ?_ ?_
                  · refine AOL.s1 (h := ?_); refine AOL.nil ?_
                    refine A2 7 8 (by kernel_rfl) rfl rfl rfl rfl ?_ ?_
                    · refine AOL.s1 (h := ?_); refine AOL.nil ?_
                      refine A1 8 (by kernel_rfl) rfl rfl ?_
                      refine AOL.s1 (h := ?_); refine AOL.nil ?_
                      refine A1 9 (by kernel_rfl) rfl rfl ?_
                      iterate 1 refine AOL.s1 (h := ?_); refine AOL.kq [1, 2, 4, 9, 10, 15, 16] (h := ?_); refine AOL.nil ?_
                      exact AAny.done (by kernel_rfl) rfl
                    · refine AOL.s1 (h := ?_); refine AOL.nil ?_
                      refine A1 7 (by kernel_rfl) rfl rfl ?_
                      refine AOL.s1 (h := ?_); refine AOL.nil ?_
                      refine A1 9 (by kernel_rfl) rfl rfl ?_
                      iterate 1 refine AOL.s1 (h := ?_); refine AOL.kq [1, 2, 4, 9, 10, 15, 16] (h := ?_); refine AOL.nil ?_
                      exact AAny.done (by kernel_rfl) rfl
                  · refine AOL.s1 (h := ?_); refine AOL.nil ?_
                    refine A1 3 (by kernel_rfl) rfl rfl ?_
                    refine AOL.s1 (h := ?_); refine AOL.nil ?_
                    refine A1 8 (by kernel_rfl) rfl rfl ?_
                    refine AOL.s1 (h := ?_); refine AOL.nil ?_
                    refine A1 9 (by kernel_rfl) rfl rfl ?_
                    iterate 1 refine AOL.s1 (h := ?_); refine AOL.kq [1, 2, 4, 9, 10, 15, 16] (h := ?_); refine AOL.nil ?_
                    exact AAny.done (by kernel_rfl) rfl
                · refine AOL.s1 (h := ?_); refine AOL.nil ?_
                  refine A1 2 (by kernel_rfl) rfl rfl ?_
                  refine AOL.s1 (h := ?_); refine AOL.nil ?_
                  refine A1 3 (by kernel_rfl) rfl rfl ?_
                  refine AOL.s1 (h := ?_); refine AOL.nil ?_
                  refine A1 8 (by kernel_rfl) rfl rfl ?_
                  refine AOL.s1 (h := ?_); refine AOL.nil ?_
                  refine A1 9 (by kernel_rfl) rfl rfl ?_
                  iterate 1 refine AOL.s1 (h := ?_); refine AOL.kq [1, 2, 4, 9, 10, 15, 16] (h := ?_); refine AOL.nil ?_
                  exact AAny.done (by kernel_rfl) rfl
            · refine AOL.s1 (h := ?_); refine AOL.nil ?_
              refine A2 1 7 (by kernel_rfl) rfl rfl rfl rfl ?_ ?_
              · refine AOL.s1 (h := ?_); refine AOL.nil ?_
                refine A2 2 7 (by kernel_rfl) rfl rfl rfl rfl ?_ ?_
                · refine AOL.s1 (h := ?_); refine AOL.nil ?_
                  refine A2 3 7 (by kernel_rfl) rfl rfl rfl rfl ?_ ?_
                  · refine AOL.s1 (h := ?_); refine AOL.nil ?_
                    refine A2 7 8 (by kernel_rfl) rfl rfl rfl rfl ?_ ?_
                    · refine AOL.s1 (h := ?_); refine AOL.nil ?_
                      refine A1 8 (by kernel_rfl) rfl rfl ?_
                      refine AOL.s1 (h := ?_); refine AOL.nil ?_
                      refine A1 9 (by kernel_rfl) rfl rfl ?_
                      iterate 1 refine AOL.s1 (h := ?_); refine AOL.kq [1, 2, 4, 9, 10, 15, 16] (h := ?_); refine AOL.nil ?_
                      exact AAny.done (by kernel_rfl) rfl
                    · refine AOL.s1 (h := ?_); refine AOL.nil ?_
                      refine A1 7 (by kernel_rfl) rfl rfl ?_
                      refine AOL.s1 (h := ?_); refine AOL.nil ?_
                      refine A1 9 (by kernel_rfl) rfl rfl ?_
                      iterate 1 refine AOL.s1 (h := ?_); refine AOL.kq [1, 2, 4, 9, 10, 15, 16] (h := ?_); refine AOL.nil ?_
                      exact AAny.done (by kernel_rfl) rfl
                  · refine AOL.s1 (h := ?_); refine AOL.nil ?_
                    refine A1 3 (by kernel_rfl) rfl rfl ?_
                    refine AOL.s1 (h := ?_); refine AOL.nil ?_
                    refine A1 8 (by kernel_rfl) rfl rfl ?_
                    refine AOL.s1 (h := ?_); refine AOL.nil ?_
                    refine A1 9 (by kernel_rfl) rfl rfl ?_
                    iterate 1 refine AOL.s1 (h := ?_); refine AOL.kq [1, 2, 4, 9, 10, 15, 16] (h := ?_); refine AOL.nil ?_
                    exact AAny.done (by kernel_rfl) rfl
                · refine AOL.s1 (h := ?_); refine AOL.nil ?_
                  refine A1 2 (by kernel_rfl) rfl rfl ?_
                  refine AOL.s1 (h := ?_); refine AOL.nil ?_
                  refine A1 3 (by kernel_rfl) rfl rfl ?_
                  refine AOL.s1 (h := ?_); refine AOL.nil ?_
                  refine A1 8 (by kernel_rfl) rfl rfl ?_
                  refine AOL.s1 (h := ?_); refine AOL.nil ?_
                  refine A1 9 (by kernel_rfl) rfl rfl ?_
                  iterate 1 refine AOL.s1 (h := ?_); refine AOL.kq [1, 2, 4, 9, 10, 15, 16] (h := ?_); refine AOL.nil ?_
                  exact AAny.done (by kernel_rfl) rfl
              · refine AOL.s1 (h := ?_); refine AOL.nil ?_
                refine A1 1 (by kernel_rfl) rfl rfl ?_
                refine AOL.s1 (h := ?_); refine AOL.nil ?_
                refine A1 2 (by kernel_rfl) rfl rfl ?_
                refine AOL.s1 (h := ?_); refine AOL.nil ?_
                refine A1 3 (by kernel_rfl) rfl rfl ?_
                refine AOL.s1 (h := ?_); refine AOL.nil ?_
                refine A1 8 (by kernel_rfl) rfl rfl ?_
                refine AOL.s1 (h := ?_); refine AOL.nil ?_
                refine A1 9 (by kernel_rfl) rfl rfl ?_
                iterate 1 refine AOL.s1 (h := ?_); refine AOL.kq [1, 2, 4, 9, 10, 15, 16] (h := ?_); refine AOL.nil ?_
                exact AAny.done (by kernel_rfl) rfl
      · refine AOL.s1 (h := ?_); refine AOL.nil ?_
        refine A2 0 5 (by kernel_rfl) rfl rfl rfl rfl ?_ ?_
        · refine AOL.s1 (h := ?_); refine AOL.nil ?_
          refine A2 1 5 (by kernel_rfl) rfl rfl rfl rfl ?_ ?_
          · refine AOL.s1 (h := ?_); refine AOL.nil ?_
            refine A2 2 5 (by kernel_rfl) rfl rfl rfl rfl ?_ ?_
            · refine AOL.s1 (h := ?_); refine AOL.nil ?_
              refine A2 3 5 (by kernel_rfl) rfl rfl rfl rfl ?_ ?_
              · refine AOL.s1 (h := ?_); refine AOL.nil ?_
                refine A2 5 8 (by kernel_rfl) rfl rfl rfl rfl ?_ ?_
                · refine AOL.s1 (h := ?_); refine AOL.nil ?_
                  refine A2 6 8 (by kernel_rfl) rfl rfl rfl rfl ?_ ?_
                  · refine AOL.s1 (h := ?_); refine AOL.nil ?_
                    refine A2 7 8 (by kernel_rfl) rfl rfl rfl rfl ?_ ?_
                    · refine AOL.s1 (h := ?_); refine AOL.nil ?_
                      refine A1 8 (by kernel_rfl) rfl rfl ?_
                      refine AOL.s1 (h := ?_); refine AOL.nil ?_
                      refine A1 9 (by kernel_rfl) rfl rfl ?_
                      iterate 1 refine AOL.s1 (h := ?_); refine AOL.kq [1, 2, 4, 9, 10, 15, 16] (h := ?_); refine AOL.nil ?_
                      exact AAny.done (by kernel_rfl) rfl
                    · refine AOL.s1 (h := ?_); refine AOL.nil ?_
                      refine A1 7 (by kernel_rfl) rfl rfl ?_
                      refine AOL.s1 (h := ?_); refine AOL.nil ?_
                      refine A1 9 (by kernel_rfl) rfl rfl ?_
                      iterate 1 refine AOL.s1 (h := ?_); refine AOL.kq [1, 2, 4, 9, 10, 15, 16] (h := ?_); refine AOL.nil ?_
                      exact AAny.done (by kernel_rfl) rfl
                  · refine AOL.s1 (h := ?_); refine AOL.nil ?_
                    refine A1 6 (by kernel_rfl) rfl rfl ?_
                    refine AOL.s1 (h := ?_); refine AOL.nil ?_
                    refine A1 7 (by kernel_rfl) rfl rfl ?_
                    refine AOL.s1 (h := ?_); refine AOL.nil ?_
                    refine A1 9 (by kernel_rfl) rfl rfl ?_
                    iterate 1 refine AOL.s1 (h := ?_); refine AOL.kq [1, 2, 4, 9, 10, 15, 16] (h := ?_); refine AOL.nil ?_
                    exact AAny.done (by kernel_rfl) rfl
                · refine AOL.s1 (h := ?_); refine AOL.nil ?_
                  refine A1 5 (by kernel_rfl) rfl rfl ?_
                  refine AOL.s1 (h := ?_); refine AOL.nil ?_
                  refine A1 6 (by kernel_rfl) rfl rfl ?_
                  refine AOL.s1 (h := ?_); refine AOL.nil ?_
                  refine A1 7 (by kernel_rfl) rfl rfl ?_
                  refine AOL.s1 (h := ?_); refine AOL.nil ?_
                  refine A1 9 (by kernel_rfl) rfl rfl ?_
                  iterate 1 refine AOL.s1 (h := ?_); refine AOL.kq [1, 2, 4, 9, 10, 15, 16] (h := ?_); refine AOL.nil ?_
                  exact AAny.done (by kernel_rfl) rfl
              · refine AOL.s1 (h := ?_); refine AOL.nil ?_
                refine A2 3 6 (by kernel_rfl) rfl rfl rfl rfl ?_ ?_
                · refine AOL.s1 (h := ?_); refine AOL.nil ?_
                  refine A2 6 8 (by kernel_rfl) rfl rfl rfl rfl ?_ ?_
                  · refine AOL.s1 (h := ?_); refine AOL.nil ?_
                    refine A2 7 8 (by kernel_rfl) rfl rfl rfl rfl ?_ ?_
                    · refine AOL.s1 (h := ?_); refine AOL.nil ?_
                      refine A1 8 (by kernel_rfl) rfl rfl ?_
                      refine AOL.s1 (h := ?_); refine AOL.nil ?_
                      refine A1 9 (by kernel_rfl) rfl rfl ?_
                      iterate 1 refine AOL.s1 (h := ?_); refine AOL.kq [1, 2, 4, 9, 10, 15, 16] (h := ?_); refine AOL.nil ?_
                      exact AAny.done (by kernel_rfl) rfl
                    · refine AOL.s1 (h := ?_); refine AOL.nil ?_
                      refine A1 7 (by kernel_rfl) rfl rfl ?_
                      refine AOL.s1 (h := ?_); refine AOL.nil ?_
                      refine A1 9 (by kernel_rfl) rfl rfl ?_
                      iterate 1 refine AOL.s1 (h := ?_); refine AOL.kq [1, 2, 4, 9, 10, 15, 16] (h := ?_); refine AOL.nil ?_
                      exact AAny.done (by kernel_rfl) rfl
                  · refine AOL.s1 (h := ?_); refine AOL.nil ?_
                    refine A1 6 (by kernel_rfl) rfl rfl ?_
                    refine AOL.s1 (h := ?_); refine AOL.nil ?_
                    refine A1 7 (by kernel_rfl) rfl rfl ?_
                    refine AOL.s1 (h := ?_); refine AOL.nil ?_
                    refine A1 9 (by kernel_rfl) rfl rfl ?_
                    iterate 1 refine AOL.s1 (h := ?_); refine AOL.kq [1, 2, 4, 9, 10, 15, 16] (h := ?_); refine AOL.nil ?_
                    exact AAny.done (by kernel_rfl) rfl
                · refine AOL.s1 (h := ?_); refine AOL.nil ?_
                  refine A2 3 7 (by kernel_rfl) rfl rfl rfl rfl ?_ ?_
                  · refine AOL.s1 (h := ?_); refine AOL.nil ?_
                    refine A2 7 8 (by kernel_rfl) rfl rfl rfl rfl ?_ ?_
                    · refine AOL.s1 (h := ?_); refine AOL.nil ?_
                      refine A1 8 (by kernel_rfl) rfl rfl ?_
                      refine AOL.s1 (h := ?_); refine AOL.nil ?_
                      refine A1 9 (by kernel_rfl) rfl rfl ?_
                      iterate 1 refine AOL.s1 (h := ?_); refine AOL.kq [1, 2, 4, 9, 10, 15, 16] (h := ?_); refine AOL.nil ?_
                      exact AAny.done (by kernel_rfl) rfl
                    · refine AOL.s1 (h := ?_); refine AOL.nil ?_
                      refine A1 7 (by kernel_rfl) rfl rfl ?_
                      refine AOL.s1 (h := ?_); refine AOL.nil ?_
                      refine A1 9 (by kernel_rfl) rfl rfl ?_
                      iterate 1 refine AOL.s1 (h := ?_); refine AOL.kq [1, 2, 4, 9, 10, 15, 16] (h := ?_); refine AOL.nil ?_
                      exact AAny.done (by kernel_rfl) rfl
                  · refine AOL.s1 (h := ?_); refine AOL.nil ?_
                    refine A1 3 (by kernel_rfl) rfl rfl ?_
                    refine AOL.s1 (h := ?_); refine AOL.nil ?_
                    refine A1 8 (by kernel_rfl) rfl rfl ?_
                    refine AOL.s1 (h := ?_); refine AOL.nil ?_
                    refine A1 9 (by kernel_rfl) rfl rfl ?_
                    iterate 1 refine AOL.s1 (h := ?_); refine AOL.kq [1, 2, 4, 9, 10, 15, 16] (h := ?_); refine AOL.nil ?_
                    exact AAny.done (by kernel_rfl) rfl
            · refine AOL.s1 (h := ?_); refine AOL.nil ?_
              refine A2 2 6 (by kernel_rfl) rfl rfl rfl rfl ?_ ?_
              · refine AOL.s1 (h := ?_); refine AOL.nil ?_
                refine A2 3 6 (by kernel_rfl) rfl rfl rfl rfl ?_ ?_
                · refine AOL.s1 (h := ?_); refine AOL.nil ?_
                  refine A2 6 8 (by kernel_rfl) rfl rfl rfl rfl ?_ ?_
                  · refine AOL.s1 (h := ?_); refine AOL.nil ?_
                    refine A2 7 8 (by kernel_rfl) rfl rfl rfl rfl ?_ ?_
                    · refine AOL.s1 (h := ?_); refine AOL.nil ?_
                      refine A1 8 (by kernel_rfl) rfl rfl ?_
                      refine AOL.s1 (h := ?_); refine AOL.nil ?_
                      refine A1 9 (by kernel_rfl) rfl rfl ?_
                      iterate 1 refine AOL.s1 (h := ?_); refine AOL.kq [1, 2, 4, 9, 10, 15, 16] (h := ?_); refine AOL.nil ?_
                      exact AAny.done (by kernel_rfl) rfl
                    · refine AOL.s1 (h := ?_); refine AOL.nil ?_
                      refine A1 7 (by kernel_rfl) rfl rfl ?_
                      refine AOL.s1 (h := ?_); refine AOL.nil ?_
                      refine A1 9 (by kernel_rfl) rfl rfl ?_
                      iterate 1 refine AOL.s1 (h := ?_); refine AOL.kq [1, 2, 4, 9, 10, 15, 16] (h := ?_); refine AOL.nil ?_
                      exact AAny.done (by kernel_rfl) rfl
                  · refine AOL.s1 (h := ?_); refine AOL.nil ?_
                    refine A1 6 (by kernel_rfl) rfl rfl ?_
                    refine AOL.s1 (h := ?_); refine AOL.nil ?_
                    refine A1 7 (by kernel_rfl) rfl rfl ?_
                    refine AOL.s1 (h := ?_); refine AOL.nil ?_
                    refine A1 9 (by kernel_rfl) rfl rfl ?_
                    iterate 1 refine AOL.s1 (h := ?_); refine AOL.kq [1, 2, 4, 9, 10, 15, 16] (h := ?_); refine AOL.nil ?_
                    exact AAny.done (by kernel_rfl) rfl
                · refine AOL.s1 (h := ?_); refine AOL.nil ?_
                  refine A2 3 7 (by kernel_rfl) rfl rfl rfl rfl ?_ ?_
                  · refine AOL.s1 (h := ?_); refine AOL.nil ?_
                    refine A2 7 8 (by kernel_rfl) rfl rfl rfl rfl ?_ ?_
                    · refine AOL.s1 (h := ?_); refine AOL.nil ?_
                      refine A1 8 (by kernel_rfl) rfl rfl ?_
                      refine AOL.s1 (h := ?_); refine AOL.nil ?_
                      refine A1 9 (by kernel_rfl) rfl rfl ?_
                      iterate 1 refine AOL.s1 (h := ?_); refine AOL.kq [1, 2, 4, 9, 10, 15, 16] (h := ?_); refine AOL.nil ?_
                      exact AAny.done (by kernel_rfl) rfl
                    · refine AOL.s1 (h := ?_); refine AOL.nil ?_
                      refine A1 7 (by kernel_rfl) rfl rfl ?_
                      refine AOL.s1 (h := ?_); refine AOL.nil ?_
                      refine A1 9 (by kernel_rfl) rfl rfl ?_
                      iterate 1 refine AOL.s1 (h := ?_); refine AOL.kq [1, 2, 4, 9, 10, 15, 16] (h := ?_); refine AOL.nil ?_
                      exact AAny.done (by kernel_rfl) rfl
                  · refine AOL.s1 (h := ?_); refine AOL.nil ?_
                    refine A1 3 (by kernel_rfl) rfl rfl ?_
                    refine AOL.s1 (h := ?_); refine AOL.nil ?_
                    refine A1 8 (by kernel_rfl) rfl rfl ?_
                    refine AOL.s1 (h := ?_); refine AOL.nil ?_
                    refine A1 9 (by kernel_rfl) rfl rfl ?_
                    iterate 1 refine AOL.s1 (h := ?_); refine AOL.kq [1, 2, 4, 9, 10, 15, 16] (h := ?_); refine AOL.nil ?_
                    exact AAny.done (by kernel_rfl) rfl
              · refine AOL.s1 (h := ?_); refine AOL.nil ?_
                refine A2 2 7 (by kernel_rfl) rfl rfl rfl rfl ?_ ?_
                · refine AOL.s1 (h := ?_); refine AOL.nil ?_
                  refine A2 3 7 (by kernel_rfl) rfl rfl rfl rfl ?_ ?_
                  · refine AOL.s1 (h := ?_); refine AOL.nil ?_
                    refine A2 7 8 (by kernel_rfl) rfl rfl rfl rfl ?_ ?_
                    · refine AOL.s1 (h := ?_); refine AOL.nil ?_
                      refine A1 8 (by kernel_rfl) rfl rfl ?_
                      refine AOL.s1 (h := ?_); refine AOL.nil ?_
                      refine A1 9 (by kernel_rfl) rfl rfl ?_
                      iterate 1 refine AOL.s1 (h := ?_); refine AOL.kq [1, 2, 4, 9, 10, 15, 16] (h := ?_); refine AOL.nil ?_
                      exact AAny.done (by kernel_rfl) rfl
                    · refine AOL.s1 (h := ?_); refine AOL.nil ?_
                      refine A1 7 (by kernel_rfl) rfl rfl ?_
                      refine AOL.s1 (h := ?_); refine AOL.nil ?_
                      refine A1 9 (by kernel_rfl) rfl rfl ?_
                      iterate 1 refine AOL.s1 (h := ?_); refine AOL.kq [1, 2, 4, 9, 10, 15, 16] (h := ?_); refine AOL.nil ?_
                      exact AAny.done (by kernel_rfl) rfl
                  · refine AOL.s1 (h := ?_); refine AOL.nil ?_
                    refine A1 3 (by kernel_rfl) rfl rfl ?_
                    refine AOL.s1 (h := ?_); refine AOL.nil ?_
                    refine A1 8 (by kernel_rfl) rfl rfl ?_
                    refine AOL.s1 (h := ?_); refine AOL.nil ?_
                    refine A1 9 (by kernel_rfl) rfl rfl ?_
                    iterate 1 refine AOL.s1 (h := ?_); refine AOL.kq [1, 2, 4, 9, 10, 15, 16] (h := ?_); refine AOL.nil ?_
                    exact AAny.done (by kernel_rfl) rfl
                · refine AOL.s1 (h := ?_); refine AOL.nil ?_
                  refine A1 2 (by kernel_rfl) rfl rfl ?_
                  refine AOL.s1 (h := ?_); refine AOL.nil ?_
                  refine A1 3 (by kernel_rfl) rfl rfl ?_
                  refine AOL.s1 (h := ?_); refine AOL.nil ?_
                  refine A1 8 (by kernel_rfl) rfl rfl ?_
                  refine AOL.s1 (h := ?_); refine AOL.nil ?_
                  refine A1 9 (by kernel_rfl) rfl rfl ?_
                  iterate 1 refine AOL.s1 (h := ?_); refine AOL.kq [1, 2, 4, 9, 10, 15, 16] (h := ?_); refine AOL.nil ?_
                  exact AAny.done (by kernel_rfl) rfl
          · refine AOL.s1 (h := ?_); refine AOL.nil ?_
            refine A2 1 6 (by kernel_rfl) rfl rfl rfl rfl ?_ ?_
            · refine AOL.s1 (h := ?_); refine AOL.nil ?_
              refine A2 2 6 (by kernel_rfl) rfl rfl rfl rfl ?_ ?_
              · refine AOL.s1 (h := ?_); refine AOL.nil ?_
                refine A2 3 6 (by kernel_rfl) rfl rfl rfl rfl ?_ ?_
                · refine AOL.s1 (h := ?_); refine AOL.nil ?_
                  refine A2 6 8 (by kernel_rfl) rfl rfl rfl rfl ?_ ?_
                  · refine AOL.s1 (h := ?_); refine AOL.nil ?_
                    refine A2 7 8 (by kernel_rfl) rfl rfl rfl rfl ?_ ?_
                    · refine AOL.s1 (h := ?_); refine AOL.nil ?_
                      refine A1 8 (by kernel_rfl) rfl rfl ?_
                      refine AOL.s1 (h := ?_); refine AOL.nil ?_
                      refine A1 9 (by kernel_rfl) rfl rfl ?_
                      iterate 1 refine AOL.s1 (h := ?_); refine AOL.kq [1, 2, 4, 9, 10, 15, 16] (h := ?_); refine AOL.nil ?_
                      exact AAny.done (by kernel_rfl) rfl
                    · refine AOL.s1 (h := ?_); refine AOL.nil ?_
                      refine A1 7 (by kernel_rfl) rfl rfl ?_
                      refine AOL.s1 (h := ?_); refine AOL.nil ?_
                      refine A1 9 (by kernel_rfl) rfl rfl ?_
                      iterate 1 refine AOL.s1 (h := ?_); refine AOL.kq [1, 2, 4, 9, 10, 15, 16] (h := ?_); refine AOL.nil ?_
                      exact AAny.done (by kernel_rfl) rfl
                  · refine AOL.s1 (h := ?_); refine AOL.nil ?_
                    refine A1 6 (by kernel_rfl) rfl rfl ?_
                    refine AOL.s1 (h := ?_); refine AOL.nil ?_
                    refine A1 7 (by kernel_rfl) rfl rfl ?_
                    refine AOL.s1 (h := ?_); refine AOL.nil ?_
                    refine A1 9 (by kernel_rfl) rfl rfl ?_
                    iterate 1 refine AOL.s1 (h := ?_); refine AOL.kq [1, 2, 4, 9, 10, 15, 16] (h := ?_); refine AOL.nil ?_
                    exact AAny.done (by kernel_rfl) rfl
                · refine AOL.s1 (h := ?_); refine AOL.nil ?_
                  refine A2 3 7 (by kernel_rfl) rfl rfl rfl rfl ?_ ?_
                  · refine AOL.s1 (h := ?_); refine AOL.nil ?_
                    refine A2 7 8 (by kernel_rfl) rfl rfl rfl rfl ?_ ?_
                    · refine AOL.s1 (h := ?_); refine AOL.nil ?_
                      refine A1 8 (by kernel_rfl) rfl rfl ?_
                      refine AOL.s1 (h := ?_); refine AOL.nil ?_
                      refine A1 9 (by kernel_rfl) rfl rfl ?_
                      iterate 1 refine AOL.s1 (h := ?_); refine AOL.kq [1, 2, 4, 9, 10, 15, 16] (h := ?_); refine AOL.nil ?_
                      exact AAny.done (by kernel_rfl) rfl
                    · refine AOL.s1 (h := ?_); refine AOL.nil ?_
                      refine A1 7 (by kernel_rfl) rfl rfl ?_
                      refine AOL.s1 (h := ?_); refine AOL.nil ?_
                      refine A1 9 (by kernel_rfl) rfl rfl ?_
                      iterate 1 refine AOL.s1 (h := ?_); refine AOL.kq [1, 2, 4, 9, 10, 15, 16] (h := ?_); refine AOL.nil ?_
                      exact AAny.done (by kernel_rfl) rfl
                  · refine AOL.s1 (h := ?_); refine AOL.nil ?_
                    refine A1 3 (by kernel_rfl) rfl rfl ?_
                    refine AOL.s1 (h := ?_); refine AOL.nil ?_
                    refine A1 8 (by kernel_rfl) rfl rfl ?_
                    refine AOL.s1 (h := ?_); refine AOL.nil ?_
                    refine A1 9 (by kernel_rfl) rfl rfl ?_
                    iterate 1 refine AOL.s1 (h := ?_); refine AOL.kq [1, 2, 4, 9, 10, 15, 16] (h := ?_); refine AOL.nil ?_
                    exact AAny.done (by kernel_rfl) rfl
              · refine AOL.s1 (h := ?_); refine AOL.nil ?_
                refine A2 2 7 (by kernel_rfl) rfl rfl rfl rfl ?_ ?_
                · refine AOL.s1 (h := ?_); refine AOL.nil ?_
                  refine A2 3 7 (by kernel_rfl) rfl rfl rfl rfl ?_ ?_
                  · refine AOL.s1 (h := ?_); refine AOL.nil ?_
                    refine A2 7 8 (by kernel_rfl) rfl rfl rfl rfl ?_ ?_
                    · refine AOL.s1 (h := ?_); refine AOL.nil ?_
                      refine A1 8 (by kernel_rfl) rfl rfl ?_
                      refine AOL.s1 (h := ?_); refine AOL.nil ?_
                      refine A1 9 (by kernel_rfl) rfl rfl ?_
                      iterate 1 refine AOL.s1 (h := ?_); refine AOL.kq [1, 2, 4, 9, 10, 15, 16] (h := ?_); refine AOL.nil ?_
                      exact AAny.done (by kernel_rfl) rfl
                    · refine AOL.s1 (h := ?_); refine AOL.nil ?_
                      refine A1 7 (by kernel_rfl) rfl rfl ?_
                      refine AOL.s1 (h := ?_); refine AOL.nil ?_
                      refine A1 9 (by kernel_rfl) rfl rfl ?_
                      iterate 1 refine AOL.s1 (h := ?_); refine AOL.kq [1, 2, 4, 9, 10, 15, 16] (h := ?_); refine AOL.nil ?_
                      exact AAny.done (by kernel_rfl) rfl
                  · refine AOL.s1 (h := ?_); refine AOL.nil ?_
                    refine A1 3 (by kernel_rfl) rfl rfl ?_
                    refine AOL.s1 (h := ?_); refine AOL.nil ?_
                    refine A1 8 (by kernel_rfl) rfl rfl ?_
                    refine AOL.s1 (h := ?_); refine AOL.nil ?_
                    refine A1 9 (by kernel_rfl) rfl rfl ?_
                    iterate 1 refine AOL.s1 (h := ?_); refine AOL.kq [1, 2, 4, 9, 10, 15, 16] (h := ?_); refine AOL.nil ?_
                    exact AAny.done (by kernel_rfl) rfl
                · refine AOL.s1 (h := ?_); refine AOL.nil ?_
                  refine A1 2 (by kernel_rfl) rfl rfl ?_
                  refine AOL.s1 (h := ?_); refine AOL.nil ?_
                  refine A1 3 (by kernel_rfl) rfl rfl ?_
                  refine AOL.s1 (h := ?_); refine AOL.nil ?_
                  refine A1 8 (by kernel_rfl) rfl rfl ?_
                  refine AOL.s1 (h := ?_); refine AOL.nil ?_
                  refine A1 9 (by kernel_rfl) rfl rfl ?_
                  iterate 1 refine AOL.s1 (h := ?_); refine AOL.kq [1, 2, 4, 9, 10, 15, 16] (h := ?_); refine AOL.nil ?_
                  exact AAny.done (by kernel_rfl) rfl
            · refine AOL.s1 (h := ?_); refine AOL.nil ?_
              refine A2 1 7 (by kernel_rfl) rfl rfl rfl rfl ?_ ?_
              · refine AOL.s1 (h := ?_); refine AOL.nil ?_
                refine A2 2 7 (by kernel_rfl) rfl rfl rfl rfl ?_ ?_
                · refine AOL.s1 (h := ?_); refine AOL.nil ?_
                  refine A2 3 7 (by kernel_rfl) rfl rfl rfl rfl ?_ ?_
                  · refine AOL.s1 (h := ?_); refine AOL.nil ?_
                    refine A2 7 8 (by kernel_rfl) rfl rfl rfl rfl ?_ ?_
                    · refine AOL.s1 (h := ?_); refine AOL.nil ?_
                      refine A1 8 (by kernel_rfl) rfl rfl ?_
                      refine AOL.s1 (h := ?_); refine AOL.nil ?_
                      refine A1 9 (by kernel_rfl) rfl rfl ?_
                      iterate 1 refine AOL.s1 (h := ?_); refine AOL.kq [1, 2, 4, 9, 10, 15, 16] (h := ?_); refine AOL.nil ?_
                      exact AAny.done (by kernel_rfl) rfl
                    · refine AOL.s1 (h := ?_); refine AOL.nil ?_
                      refine A1 7 (by kernel_rfl) rfl rfl ?_
                      refine AOL.s1 (h := ?_); refine AOL.nil ?_
                      refine A1 9 (by kernel_rfl) rfl rfl ?_
                      iterate 1 refine AOL.s1 (h := ?_); refine AOL.kq [1, 2, 4, 9, 10, 15, 16] (h := ?_); refine AOL.nil ?_
                      exact AAny.done (by kernel_rfl) rfl
                  · refine AOL.s1 (h := ?_); refine AOL.nil ?_
                    refine A1 3 (by kernel_rfl) rfl rfl ?_
                    refine AOL.s1 (h := ?_); refine AOL.nil ?_
                    refine A1 8 (by kernel_rfl) rfl rfl ?_
                    refine AOL.s1 (h := ?_); refine AOL.nil ?_
                    refine A1 9 (by kernel_rfl) rfl rfl ?_
                    iterate 1 refine AOL.s1 (h := ?_); refine AOL.kq [1, 2, 4, 9, 10, 15, 16] (h := ?_); refine AOL.nil ?_
                    exact AAny.done (by kernel_rfl) rfl
                · refine AOL.s1 (h := ?_); refine AOL.nil ?_
                  refine A1 2 (by kernel_rfl) rfl rfl ?_
                  refine AOL.s1 (h := ?_); refine AOL.nil ?_
                  refine A1 3 (by kernel_rfl) rfl rfl ?_
                  refine AOL.s1 (h := ?_); refine AOL.nil ?_
                  refine A1 8 (by kernel_rfl) rfl rfl ?_
                  refine AOL.s1 (h := ?_); refine AOL.nil ?_
                  refine A1 9 (by kernel_rfl) rfl rfl ?_
                  iterate 1 refine AOL.s1 (h := ?_); refine AOL.kq [1, 2, 4, 9, 10, 15, 16] (h := ?_); refine AOL.nil ?_
                  exact AAny.done (by kernel_rfl) rfl
              · refine AOL.s1 (h := ?_); refine AOL.nil ?_
                refine A1 1 (by kernel_rfl) rfl rfl ?_
                refine AOL.s1 (h := ?_); refine AOL.nil ?_
                refine A1 2 (by kernel_rfl) rfl rfl ?_
                refine AOL.s1 (h := ?_); refine AOL.nil ?_
                refine A1 3 (by kernel_rfl) rfl rfl ?_
                refine AOL.s1 (h := ?_); refine AOL.nil ?_
                refine A1 8 (by kernel_rfl) rfl rfl ?_
                refine AOL.s1 (h := ?_); refine AOL.nil ?_
                refine A1 9 (by kernel_rfl) rfl rfl ?_
                iterate 1 refine AOL.s1 (h := ?_); refine AOL.kq [1, 2, 4, 9, 10, 15, 16] (h := ?_); refine AOL.nil ?_
                exact AAny.done (by kernel_rfl) rfl
        · refine AOL.s1 (h := ?_); refine AOL.nil ?_
          refine A2 0 6 (by kernel_rfl) rfl rfl rfl rfl ?_ ?_
          · refine AOL.s1 (h := ?_); refine AOL.nil ?_
            refine A2 1 6 (by kernel_rfl) rfl rfl rfl rfl ?_ ?_
            · refine AOL.s1 (h := ?_); refine AOL.nil ?_
              refine A2 2 6 (by kernel_rfl) rfl rfl rfl rfl ?_ ?_
              · refine AOL.s1 (h := ?_); refine AOL.nil ?_
                refine A2 3 6 (by kernel_rfl) rfl rfl rfl rfl ?_ ?_
                · refine AOL.s1 (h := ?_); refine AOL.nil ?_
                  refine A2 6 8 (by kernel_rfl) rfl rfl rfl rfl ?_ ?_
                  · refine AOL.s1 (h := ?_); refine AOL.nil ?_
                    refine A2 7 8 (by kernel_rfl) rfl rfl rfl rfl ?_ ?_
                    · refine AOL.s1 (h := ?_); refine AOL.nil ?_
                      refine A1 8 (by kernel_rfl) rfl rfl ?_
                      refine AOL.s1 (h := ?_); refine AOL.nil ?_
                      refine A1 9 (by kernel_rfl) rfl rfl ?_
                      iterate 1 refine AOL.s1 (h := ?_); refine AOL.kq [1, 2, 4, 9, 10, 15, 16] (h := ?_); refine AOL.nil ?_
                      exact AAny.done (by kernel_rfl) rfl
                    · refine AOL.s1 (h := ?_); refine AOL.nil ?_
                      refine A1 7 (by kernel_rfl) rfl rfl ?_
                      refine AOL.s1 (h := ?_); refine AOL.nil ?_
                      refine A1 9 (by kernel_rfl) rfl rfl ?_
                      iterate 1 refine AOL.s1 (h := ?_); refine AOL.kq [1, 2, 4, 9, 10, 15, 16] (h := ?_); refine AOL.nil ?_
                      exact AAny.done (by kernel_rfl) rfl
                  · refine AOL.s1 (h := ?_); refine AOL.nil ?_
                    refine A1 6 (by kernel_rfl) rfl rfl ?_
                    refine AOL.s1 (h := ?_); refine AOL.nil ?_
                    refine A1 7 (by kernel_rfl) rfl rfl ?_
                    refine AOL.s1 (h := ?_); refine AOL.nil ?_
                    refine A1 9 (by kernel_rfl) rfl rfl ?_
                    iterate 1 refine AOL.s1 (h := ?_); refine AOL.kq [1, 2, 4, 9, 10, 15, 16] (h := ?_); refine AOL.nil ?_
                    exact AAny.done (by kernel_rfl) rfl
                · refine AOL.s1 (h := ?_); refine AOL.nil ?_
                  refine A2 3 7 (by kernel_rfl) rfl rfl rfl rfl ?_ ?_
                  · refine AOL.s1 (h := ?_); refine AOL.nil ?_
                    refine A2 7 8 (by kernel_rfl) rfl rfl rfl rfl ?_ ?_
                    · refine AOL.s1 (h := ?_); refine AOL.nil ?_
                      refine A1 8 (by kernel_rfl) rfl rfl ?_
                      refine AOL.s1 (h := ?_); refine AOL.nil ?_
                      refine A1 9 (by kernel_rfl) rfl rfl ?_
                      iterate 1 refine AOL.s1 (h := ?_); refine AOL.kq [1, 2, 4, 9, 10, 15, 16] (h := ?_); refine AOL.nil ?_
                      exact AAny.done (by kernel_rfl) rfl
                    · refine AOL.s1 (h := ?_); refine AOL.nil ?_
                      refine A1 7 (by kernel_rfl) rfl rfl ?_
                      refine AOL.s1 (h := ?_); refine AOL.nil ?_
                      refine A1 9 (by kernel_rfl) rfl rfl ?_
                      iterate 1 refine AOL.s1 (h := ?_); refine AOL.kq [1, 2, 4, 9, 10, 15, 16] (h := ?_); refine AOL.nil ?_
                      exact AAny.done (by kernel_rfl) rfl
                  · refine AOL.s1 (h := ?_); refine AOL.nil ?_
                    refine A1 3 (by kernel_rfl) rfl rfl ?_
                    refine AOL.s1 (h := ?_); refine AOL.nil ?_
                    refine A1 8 (by kernel_rfl) rfl rfl ?_
                    refine AOL.s1 (h := ?_); refine AOL.nil ?_
                    refine A1 9 (by kernel_rfl) rfl rfl ?_
                    iterate 1 refine AOL.s1 (h := ?_); refine AOL.kq [1, 2, 4, 9, 10, 15, 16] (h := ?_); refine AOL.nil ?_
                    exact AAny.done (by kernel_rfl) rfl
              · refine AOL.s1 (h := ?_); refine AOL.nil ?_
                refine A2 2 7 (by kernel_rfl) rfl rfl rfl rfl ?_ ?_
                · refine AOL.s1 (h := ?_); refine AOL.nil ?_
                  refine A2 3 7 (by kernel_rfl) rfl rfl rfl rfl ?_ ?_
                  · refine AOL.s1 (h := ?_); refine AOL.nil ?_
                    refine A2 7 8 (by kernel_rfl) rfl rfl rfl rfl ?_ ?_
                    · refine AOL.s1 (h := ?_); refine AOL.nil ?_
                      refine A1 8 (by kernel_rfl) rfl rfl ?_
                      refine AOL.s1 (h := ?_); refine AOL.nil ?_
                      refine A1 9 (by kernel_rfl) rfl rfl ?_
                      iterate 1 refine AOL.s1 (h := ?_); refine AOL.kq [1, 2, 4, 9, 10, 15, 16] (h := ?_); refine AOL.nil ?_
                      exact AAny.done (by kernel_rfl) rfl
                    · refine AOL.s1 (h := ?_); refine AOL.nil ?_
                      refine A1 7 (by kernel_rfl) rfl rfl ?_
                      refine AOL.s1 (h := ?_); refine AOL.nil ?_
                      refine A1 9 (by kernel_rfl) rfl rfl ?_
                      iterate 1 refine AOL.s1 (h := ?_); refine AOL.kq [1, 2, 4, 9, 10, 15, 16] (h := ?_); refine AOL.nil ?_
                      exact AAny.done (by kernel_rfl) rfl
                  · refine AOL.s1 (h := ?_); refine AOL.nil ?_
                    refine A1 3 (by kernel_rfl) rfl rfl ?_
                    refine AOL.s1 (h := ?_); refine AOL.nil ?_
                    refine A1 8 (by kernel_rfl) rfl rfl ?_
                    refine AOL.s1 (h := ?_); refine AOL.nil ?_
                    refine A1 9 (by kernel_rfl) rfl rfl ?_
                    iterate 1 refine AOL.s1 (h := ?_); refine AOL.kq [1, 2, 4, 9, 10, 15, 16] (h := ?_); refine AOL.nil ?_
                    exact AAny.done (by kernel_rfl) rfl
                · refine AOL.s1 (h := ?_); refine AOL.nil ?_
                  refine A1 2 (by kernel_rfl) rfl rfl ?_
                  refine AOL.s1 (h := ?_); refine AOL.nil ?_
                  refine A1 3 (by kernel_rfl) rfl rfl ?_
                  refine AOL.s1 (h := ?_); refine AOL.nil ?_
                  refine A1 8 (by kernel_rfl) rfl rfl ?_
                  refine AOL.s1 (h := ?_); refine AOL.nil ?_
                  refine A1 9 (by kernel_rfl) rfl rfl ?_
                  iterate 1 refine AOL.s1 (h := ?_); refine AOL.kq [1, 2, 4, 9, 10, 15, 16] (h := ?_); refine AOL.nil ?_
                  exact AAny.done (by kernel_rfl) rfl
            · refine AOL.s1 (h := ?_); refine AOL.nil ?_
              refine A2 1 7 (by kernel_rfl) rfl rfl rfl rfl ?_ ?_
              · refine AOL.s1 (h := ?_); refine AOL.nil ?_
                refine A2 2 7 (by kernel_rfl) rfl rfl rfl rfl ?_ ?_
                · refine AOL.s1 (h := ?_); refine AOL.nil ?_
                  refine A2 3 7 (by kernel_rfl) rfl rfl rfl rfl ?_ ?_
                  · refine AOL.s1 (h := ?_); refine AOL.nil ?_
                    refine A2 7 8 (by kernel_rfl) rfl rfl rfl rfl ?_ ?_
                    · refine AOL.s1 (h := ?_); refine AOL.nil ?_
                      refine A1 8 (by kernel_rfl) rfl rfl ?_
                      refine AOL.s1 (h := ?_); refine AOL.nil ?_
                      refine A1 9 (by kernel_rfl) rfl rfl ?_
                      iterate 1 refine AOL.s1 (h := ?_); refine AOL.kq [1, 2, 4, 9, 10, 15, 16] (h := ?_); refine AOL.nil ?_
                      exact AAny.done (by kernel_rfl) rfl
                    · refine AOL.s1 (h := ?_); refine AOL.nil ?_
                      refine A1 7 (by kernel_rfl) rfl rfl ?_
                      refine AOL.s1 (h := ?_); refine AOL.nil ?_
                      refine A1 9 (by kernel_rfl) rfl rfl ?_
                      iterate 1 refine AOL.s1 (h := ?_); refine AOL.kq [1, 2, 4, 9, 10, 15, 16] (h := ?_); refine AOL.nil ?_
                      exact AAny.done (by kernel_rfl) rfl
                  · refine AOL.s1 (h := ?_); refine AOL.nil ?_
                    refine A1 3 (by kernel_rfl) rfl rfl ?_
                    refine AOL.s1 (h := ?_); refine AOL.nil ?_
                    refine A1 8 (by kernel_rfl) rfl rfl ?_
                    refine AOL.s1 (h := ?_); refine AOL.nil ?_
                    refine A1 9 (by kernel_rfl) rfl rfl ?_
                    iterate 1 refine AOL.s1 (h := ?_); refine AOL.kq [1, 2, 4, 9, 10, 15, 16] (h := ?_); refine AOL.nil ?_
                    exact AAny.done (by kernel_rfl) rfl
                · refine AOL.s1 (h := ?_); refine AOL.nil ?_
                  refine A1 2 (by kernel_rfl) rfl rfl ?_
                  refine AOL.s1 (h := ?_); refine AOL.nil ?_
                  refine A1 3 (by kernel_rfl) rfl rfl ?_
                  refine AOL.s1 (h := ?_); refine AOL.nil ?_
                  refine A1 8 (by kernel_rfl) rfl rfl ?_
                  refine AOL.s1 (h := ?_); refine AOL.nil ?_
                  refine A1 9 (by kernel_rfl) rfl rfl ?_
                  iterate 1 refine AOL.s1 (h := ?_); refine AOL.kq [1, 2, 4, 9, 10, 15, 16] (h := ?_); refine AOL.nil ?_
                  exact AAny.done (by kernel_rfl) rfl
              · refine AOL.s1 (h := ?_); refine AOL.nil ?_
                refine A1 1 (by kernel_rfl) rfl rfl ?_
                refine AOL.s1 (h := ?_); refine AOL.nil ?_
                refine A1 2 (by kernel_rfl) rfl rfl ?_
                refine AOL.s1 (h := ?_); refine AOL.nil ?_
                refine A1 3 (by kernel_rfl) rfl rfl ?_
                refine AOL.s1 (h := ?_); refine AOL.nil ?_
                refine A1 8 (by kernel_rfl) rfl rfl ?_
                refine AOL.s1 (h := ?_); refine AOL.nil ?_
                refine A1 9 (by kernel_rfl) rfl rfl ?_
                iterate 1 refine AOL.s1 (h := ?_); refine AOL.kq [1, 2, 4, 9, 10, 15, 16] (h := ?_); refine AOL.nil ?_
                exact AAny.done (by kernel_rfl) rfl
          · refine AOL.s1 (h := ?_); refine AOL.nil ?_
            refine A2 0 7 (by kernel_rfl) rfl rfl rfl rfl ?_ ?_
            · refine AOL.s1 (h := ?_); refine AOL.nil ?_
              refine A2 1 7 (by kernel_rfl) rfl rfl rfl rfl ?_ ?_
              · refine AOL.s1 (h := ?_); refine AOL.nil ?_
                refine A2 2 7 (by kernel_rfl) rfl rfl rfl rfl ?_ ?_
                · refine AOL.s1 (h := ?_); refine AOL.nil ?_
                  refine A2 3 7 (by kernel_rfl) rfl rfl rfl rfl ?_ ?_
                  · refine AOL.s1 (h := ?_); refine AOL.nil ?_
                    refine A2 7 8 (by kernel_rfl) rfl rfl rfl rfl ?_ ?_
                    · refine AOL.s1 (h := ?_); refine AOL.nil ?_
                      refine A1 8 (by kernel_rfl) rfl rfl ?_
                      refine AOL.s1 (h := ?_); refine AOL.nil ?_
                      refine A1 9 (by kernel_rfl) rfl rfl ?_
                      iterate 1 refine AOL.s1 (h := ?_); refine AOL.kq [1, 2, 4, 9, 10, 15, 16] (h := ?_); refine AOL.nil ?_
                      exact AAny.done (by kernel_rfl) rfl
                    · refine AOL.s1 (h := ?_); refine AOL.nil ?_
                      refine A1 7 (by kernel_rfl) rfl rfl ?_
                      refine AOL.s1 (h := ?_); refine AOL.nil ?_
                      refine A1 9 (by kernel_rfl) rfl rfl ?_
                      iterate 1 refine AOL.s1 (h := ?_); refine AOL.kq [1, 2, 4, 9, 10, 15, 16] (h := ?_); refine AOL.nil ?_
                      exact AAny.done (by kernel_rfl) rfl
                  · refine AOL.s1 (h := ?_); refine AOL.nil ?_
                    refine A1 3 (by kernel_rfl) rfl rfl ?_
                    refine AOL.s1 (h := ?_); refine AOL.nil ?_
                    refine A1 8 (by kernel_rfl) rfl rfl ?_
                    refine AOL.s1 (h := ?_); refine AOL.nil ?_
                    refine A1 9 (by kernel_rfl) rfl rfl ?_
                    iterate 1 refine AOL.s1 (h := ?_); refine AOL.kq [1, 2, 4, 9, 10, 15, 16] (h := ?_); refine AOL.nil ?_
                    exact AAny.done (by kernel_rfl) rfl
                · refine AOL.s1 (h := ?_); refine AOL.nil ?_
                  refine A1 2 (by kernel_rfl) rfl rfl ?_
                  refine AOL.s1 (h := ?_); refine AOL.nil ?_
                  refine A1 3 (by kernel_rfl) rfl rfl ?_
                  refine AOL.s1 (h := ?_); refine AOL.nil ?_
                  refine A1 8 (by kernel_rfl) rfl rfl ?_
                  refine AOL.s1 (h := ?_); refine AOL.nil ?_
                  refine A1 9 (by kernel_rfl) rfl rfl ?_
                  iterate 1 refine AOL.s1 (h := ?_); refine AOL.kq [1, 2, 4, 9, 10, 15, 16] (h := ?_); refine AOL.nil ?_
                  exact AAny.done (by kernel_rfl) rfl
              · refine AOL.s1 (h := ?_); refine AOL.nil ?_
                refine A1 1 (by kernel_rfl) rfl rfl ?_
                refine AOL.s1 (h := ?_); refine AOL.nil ?_
                refine A1 2 (by kernel_rfl) rfl rfl ?_
                refine AOL.s1 (h := ?_); refine AOL.nil ?_
                refine A1 3 (by kernel_rfl) rfl rfl ?_
                refine AOL.s1 (h := ?_); refine AOL.nil ?_
                refine A1 8 (by kernel_rfl) rfl rfl ?_
                refine AOL.s1 (h := ?_); refine AOL.nil ?_
                refine A1 9 (by kernel_rfl) rfl rfl ?_
                iterate 1 refine AOL.s1 (h := ?_); refine AOL.kq [1, 2, 4, 9, 10, 15, 16] (h := ?_); refine AOL.nil ?_
                exact AAny.done (by kernel_rfl) rfl
            · refine AOL.s1 (h := ?_); refine AOL.nil ?_
              refine A1 0 (by kernel_rfl) rfl rfl ?_
              refine AOL.s1 (h := ?_); refine AOL.nil ?_
              refine A1 1 (by kernel_rfl) rfl rfl ?_
              refine AOL.s1 (h := ?_); refine AOL.nil ?_
              refine A1 2 (by kernel_rfl) rfl rfl ?_
              refine AOL.s1 (h := ?_); refine AOL.nil ?_
              refine A1 3 (by kernel_rfl) rfl rfl ?_
              refine AOL.s1 (h := ?_); refine AOL.nil ?_
              refine A1 8 (by kernel_rfl) rfl rfl ?_
              refine AOL.s1 (h := ?_); refine AOL.nil ?_
              refine A1 9 (by kernel_rfl) rfl rfl ?_
              iterate 1 refine AOL.s1 (h := ?_); refine AOL.kq [1, 2, 4, 9, 10, 15, 16] (h := ?_); refine AOL.nil ?_
              exact AAny.done (by kernel_rfl) rfl
    skip
    skip
    skip
    skip
    refine AW.kq [1, 2, 4, 9, 10, 15, 16] (h := ?_)
    repeat refine AW.seq ?_
    refine AW.reg ?_
    iterate 3 refine AOL.s1 (h := ?_)
    refine AOL.nil ?_
    refine AW.kq [1, 2, 4, 9, 10, 15, 16, 69, 70] (h := ?_)
    repeat refine AW.seq ?_
    refine AW.block ?_
    repeat refine AW.seq ?_
    have k_0 : (0:Int) ≤ 0 := by decide
    have l_0 : (0:Int) < ((10:Nat):Int) := by decide
    have t_0 : Int.toNat 0 = 0 := rfl
    have k_1 : (0:Int) ≤ 1 := by decide
    have l_1 : (1:Int) < ((10:Nat):Int) := by decide
    have t_1 : Int.toNat 1 = 1 := rfl
    have k_2 : (0:Int) ≤ 2 := by decide
    have l_2 : (2:Int) < ((10:Nat):Int) := by decide
    have t_2 : Int.toNat 2 = 2 := rfl
    have k_3 : (0:Int) ≤ 3 := by decide
    have l_3 : (3:Int) < ((10:Nat):Int) := by decide
    have t_3 : Int.toNat 3 = 3 := rfl
    have k_4 : (0:Int) ≤ 4 := by decide
    have l_4 : (4:Int) < ((10:Nat):Int) := by decide
    have t_4 : Int.toNat 4 = 4 := rfl
    have k_5 : (0:Int) ≤ 5 := by decide
    have l_5 : (5:Int) < ((10:Nat):Int) := by decide
    have t_5 : Int.toNat 5 = 5 := rfl
    have k_6 : (0:Int) ≤ 6 := by decide
    have l_6 : (6:Int) < ((10:Nat):Int) := by decide
    have t_6 : Int.toNat 6 = 6 := rfl
    have k_7 : (0:Int) ≤ 7 := by decide
    have l_7 : (7:Int) < ((10:Nat):Int) := by decide
    have t_7 : Int.toNat 7 = 7 := rfl
    have k_8 : (0:Int) ≤ 8 := by decide
    have l_8 : (8:Int) < ((10:Nat):Int) := by decide
    have t_8 : Int.toNat 8 = 8 := rfl
    have k_9 : (0:Int) ≤ 9 := by decide
    have l_9 : (9:Int) < ((10:Nat):Int) := by decide
    have t_9 : Int.toNat 9 = 9 := rfl
    have b_40 : IntKind.i64.wrap (4 + 0) = 4 := by decide
    have b_41 : IntKind.i64.wrap (4 + 1) = 5 := by decide
    have b_80 : IntKind.i64.wrap (8 + 0) = 8 := by decide
    have b_81 : IntKind.i64.wrap (8 + 1) = 9 := by decide
    have b_60 : IntKind.i64.wrap (6 + 0) = 6 := by decide
    have b_61 : IntKind.i64.wrap (6 + 1) = 7 := by decide
    have o0_ : Mok 900000 (pubK N) := pubK_ok (Nat.le_of_eq lN)
    obtain ⟨G1, h_G1⟩ : ∃ x, x = inpM (pubK N) xk xv xo xr xa xp d 1 4 5 9 := ⟨_, rfl⟩
    obtain ⟨V1, h_V1⟩ : ∃ x : Int, x = ((freshM (pubK N) xk).vals.length : Int) := ⟨_, rfl⟩
    have c_G1 := circuit_input_c (m := (pubK N)) (k := xk) (v := xv) (o := xo) (rh := xr) (a := xa) (p := xp) (d := d) (ro := 1) (si := 4) (en := 5) (an := 9) (Mok.mono o0_ (by decide)) x1 x2 x3 x4 ⟨hx0, x5⟩ x6 hxp hdx
    rw [← h_G1, ← h_V1] at c_G1
    have o_G1 : Mok 899000 G1 := by rw [h_G1]; exact inpM_ok (Mok.mono o0_ (by decide)) _ _ _ _ _ hxp _ _ _ _ _
    replace h_G1 : id (G1 = inpM (pubK N) xk xv xo xr xa xp d 1 4 5 9) := h_G1
    replace h_V1 : id (V1 = ((freshM (pubK N) xk).vals.length : Int)) := h_V1
    refine AW.rounds ?_
    refine AWin.next [1, 2, 4, 9, 10, 15, 16, 69, 70] (h := ?_)
    repeat refine AW.seq ?_
    refine AW.reg ?_
    iterate 1 refine AOL.s1 (h := ?_)
    refine AOL.nil ?_
    refine AW.kq [1, 2, 4, 9, 10, 15, 16, 69, 70, 71] (h := ?_)
    repeat refine AW.seq ?_
    refine AW.cond rfl (fun c_ => ?_) (fun c_ => ?_)
    rotate_left
    · cases c_
    refine AW.skip ?_
    repeat refine AW.seq ?_
    refine AW.block ?_
    repeat refine AW.seq ?_
    refine AW.reg ?_
    iterate 5 refine AOL.s1 (h := ?_)
    refine AOL.nil ?_
    refine AW.kq [1, 2, 4, 9, 10, 15, 16, 17, 18, 69, 70] (h := ?_)
    repeat refine AW.seq ?_
    refine AW.dM 22 [(1288, ⟨27, true, [u xk, u xv, u xo, u xr, i xa, ul xp]⟩)] [1005, 1006, 1005, 1006] (by kernel_rfl) (h := ?_)
    iterate 20 refine ADM.dm (h := ?_)
    refine ADM.callM (l := 1004) (b := 1004) (c_G1) rfl (by kernel_rfl) rfl rfl rfl rfl rfl rfl rfl rfl (by simp only [St.drops, St.drop, mapT, mapH, kill, kills, del, ins, reduceIte, Nat.reduceAdd, Nat.reduceLT, Nat.reduceEqDiff, Bool.false_eq_true]; exact rfl) (by simp only [List.cons_append, List.nil_append, List.length_cons, List.length_nil, Nat.zero_add, Nat.reduceAdd]; exact rfl) (by simp only [List.cons_append, List.nil_append, List.length_cons, List.length_nil, Nat.zero_add, Nat.reduceAdd]; exact rfl) ?_
    iterate 1 refine ADM.dm (h := ?_)
    refine ADM.done hmix (by kernel_rfl) rfl (by simp only [chainP, and_self, and_true]) rfl ⟨by simp [List.forall_mem_cons], by simp [List.forall_mem_cons]⟩ (by intro l_ hl_; simp only [List.mem_cons, List.not_mem_nil, or_false] at hl_; rcases hl_ with rfl | rfl | rfl | rfl <;> rfl) (by intro l_ hl_; simp only [List.mem_cons, List.not_mem_nil, or_false] at hl_; rcases hl_ with rfl | rfl | rfl | rfl <;> rfl) (hT := ?_)
    iterate 2 refine AOL.s1 (h := ?_)
    refine AOL.nil ?_
    repeat refine AW.seq ?_
    refine AW.let 1288 (h := ?_)
    refine AW.reg ?_
    iterate 2 refine AOL.s1 (h := ?_)
    refine AOL.nil ?_
    obtain ⟨G2, h_G2⟩ : ∃ x, x = inpM G1 yk yv yo yr ya yp d 1 4 6 10 := ⟨_, rfl⟩
    obtain ⟨V2, h_V2⟩ : ∃ x : Int, x = ((freshM G1 yk).vals.length : Int) := ⟨_, rfl⟩
    have c_G2 := circuit_input_c (m := G1) (k := yk) (v := yv) (o := yo) (rh := yr) (a := ya) (p := yp) (d := d) (ro := 1) (si := 4) (en := 6) (an := 10) (Mok.mono o_G1 (by decide)) y1 y2 y3 y4 ⟨hy0, y5⟩ y6 hyp hdy
    rw [← h_G2, ← h_V2] at c_G2
    have o_G2 : Mok 898000 G2 := by rw [h_G2]; exact inpM_ok (Mok.mono o_G1 (by decide)) _ _ _ _ _ hyp _ _ _ _ _
    replace h_G2 : id (G2 = inpM G1 yk yv yo yr ya yp d 1 4 6 10) := h_G2
    replace h_V2 : id (V2 = ((freshM G1 yk).vals.length : Int)) := h_V2
    refine AWin.next [1, 2, 4, 9, 10, 15, 16, 69, 70] (h := ?_)
    repeat refine AW.seq ?_
    refine AW.reg ?_
    iterate 1 refine AOL.s1 (h := ?_)
    refine AOL.nil ?_
    refine AW.kq [1, 2, 4, 9, 10, 15, 16, 69, 70, 71] (h := ?_)
    repeat refine AW.seq ?_
    refine AW.cond rfl (fun c_ => ?_) (fun c_ => ?_)
    rotate_left
    · cases c_
    refine AW.skip ?_
    repeat refine AW.seq ?_
    refine AW.block ?_
    repeat refine AW.seq ?_
    refine AW.reg ?_
    iterate 5 refine AOL.s1 (h := ?_)
    refine AOL.nil ?_
    refine AW.kq [1, 2, 4, 9, 10, 15, 16, 17, 18, 69, 70] (h := ?_)
    repeat refine AW.seq ?_
    refine AW.dM 22 [(1288, ⟨27, true, [u yk, u yv, u yo, u yr, i ya, ul yp]⟩)] [1005, 1006, 1005, 1006] (by kernel_rfl) (h := ?_)
    iterate 20 refine ADM.dm (h := ?_)
    refine ADM.callM (l := 1004) (b := 1004) (c_G2) rfl (by kernel_rfl) rfl rfl rfl rfl rfl rfl rfl rfl (by simp only [St.drops, St.drop, mapT, mapH, kill, kills, del, ins, reduceIte, Nat.reduceAdd, Nat.reduceLT, Nat.reduceEqDiff, Bool.false_eq_true]; exact rfl) (by simp only [List.cons_append, List.nil_append, List.length_cons, List.length_nil, Nat.zero_add, Nat.reduceAdd]; exact rfl) (by simp only [List.cons_append, List.nil_append, List.length_cons, List.length_nil, Nat.zero_add, Nat.reduceAdd]; exact rfl) ?_
    iterate 1 refine ADM.dm (h := ?_)
    refine ADM.done hmix (by kernel_rfl) rfl (by simp only [chainP, and_self, and_true]) rfl ⟨by simp [List.forall_mem_cons], by simp [List.forall_mem_cons]⟩ (by intro l_ hl_; simp only [List.mem_cons, List.not_mem_nil, or_false] at hl_; rcases hl_ with rfl | rfl | rfl | rfl <;> rfl) (by intro l_ hl_; simp only [List.mem_cons, List.not_mem_nil, or_false] at hl_; rcases hl_ with rfl | rfl | rfl | rfl <;> rfl) (hT := ?_)
    iterate 2 refine AOL.s1 (h := ?_)
    refine AOL.nil ?_
    repeat refine AW.seq ?_
    refine AW.let 1288 (h := ?_)
    refine AW.reg ?_
    iterate 2 refine AOL.s1 (h := ?_)
    refine AOL.nil ?_
    refine AWin.next [1, 2, 4, 9, 10, 15, 16, 69, 70] (h := ?_)
    repeat refine AW.seq ?_
    refine AW.reg ?_
    iterate 1 refine AOL.s1 (h := ?_)
    refine AOL.nil ?_
    refine AW.kq [1, 2, 4, 9, 10, 15, 16, 69, 70, 71] (h := ?_)
    repeat refine AW.seq ?_
    refine AW.cond rfl (fun c_ => ?_) (fun c_ => ?_)
    · cases c_
    repeat refine AW.seq ?_
    refine AW.exit ?_
    repeat (first | refine Kseq.ex ?_ | refine Kloop.ex ?_ | refine Kblock.miss (by decide) ?_)
    refine Kblock.hit ?_
    refine AW.kq [2, 4, 9, 10, 15, 16] (h := ?_)
    repeat refine AW.seq ?_
    refine AW.reg ?_
    iterate 3 refine AOL.s1 (h := ?_)
    refine AOL.nil ?_
    refine AW.kq [4, 9, 10, 15, 16, 99, 100] (h := ?_)
    repeat refine AW.seq ?_
    refine AW.block ?_
    repeat refine AW.seq ?_
    obtain ⟨a1, h_a1⟩ : ∃ x, x = freshM G2 pv := ⟨_, rfl⟩
    obtain ⟨av1, h_av1⟩ : ∃ x : Int, x = (G2.vals.length : Int) := ⟨_, rfl⟩
    have c_a1 := gadget_Maker_Private_c (m := G2) (x := pv) (Mok.mono o_G2 (by decide)) p1
    rw [← h_a1, ← h_av1] at c_a1
    have o_a1 : Mok 897999 a1 := by rw [h_a1]; exact Mok.fresh (Mok.mono o_G2 (by decide)) _
    replace h_a1 : id (a1 = freshM G2 pv) := h_a1
    replace h_av1 : id (av1 = (G2.vals.length : Int)) := h_av1
    obtain ⟨a2, h_a2⟩ : ∃ x, x = freshM a1 po := ⟨_, rfl⟩
    obtain ⟨av2, h_av2⟩ : ∃ x : Int, x = (a1.vals.length : Int) := ⟨_, rfl⟩
    have c_a2 := gadget_Maker_Private_c (m := a1) (x := po) (Mok.mono o_a1 (by decide)) p2
    rw [← h_a2, ← h_av2] at c_a2
    have o_a2 : Mok 897998 a2 := by rw [h_a2]; exact Mok.fresh (Mok.mono o_a1 (by decide)) _
    replace h_a2 : id (a2 = freshM a1 po) := h_a2
    replace h_av2 : id (av2 = (a1.vals.length : Int)) := h_av2
    obtain ⟨a3, h_a3⟩ : ∃ x, x = freshM a2 pr := ⟨_, rfl⟩
    obtain ⟨av3, h_av3⟩ : ∃ x : Int, x = (a2.vals.length : Int) := ⟨_, rfl⟩
    have c_a3 := gadget_Maker_Private_c (m := a2) (x := pr) (Mok.mono o_a2 (by decide)) p3
    rw [← h_a3, ← h_av3] at c_a3
    have o_a3 : Mok 897997 a3 := by rw [h_a3]; exact Mok.fresh (Mok.mono o_a2 (by decide)) _
    replace h_a3 : id (a3 = freshM a2 pr) := h_a3
    replace h_av3 : id (av3 = (a2.vals.length : Int)) := h_av3
    obtain ⟨a4, h_a4⟩ : ∃ x, x = bitM a3 av1 32 := ⟨_, rfl⟩
    have c_a4 := gadget_Maker_Bits_c (m := a3) (a := av1) (n := 32) (Mok.mono o_a3 (by decide))
    rw [← h_a4] at c_a4
    have o_a4 : Mok 897800 a4 := by rw [h_a4]; exact bitM_ok (Mok.mono o_a3 (by decide)) _ _
    replace h_a4 : id (a4 = bitM a3 av1 32) := h_a4
    obtain ⟨a5, h_a5⟩ : ∃ x, x = (manE a4 [av1, av2, av3]).1 := ⟨_, rfl⟩
    obtain ⟨ah, h_ah⟩ : ∃ x : Int, x = (manE a4 [av1, av2, av3]).2 := ⟨_, rfl⟩
    have c_a5 := gadget_Maker_Many_c (m := a4) (V := [av1, av2, av3]) (Mok.mono o_a4 (by simp))
    rw [← h_a5, ← h_ah] at c_a5
    have o_a5 : Mok 897600 a5 := by rw [h_a5]; exact manE_ok (Mok.mono o_a4 (by simp))
    replace h_a5 : id (a5 = (manE a4 [av1, av2, av3]).1) := h_a5
    replace h_ah : id (ah = (manE a4 [av1, av2, av3]).2) := h_ah
    obtain ⟨a6, h_a6⟩ : ∃ x, x = sameM a5 ah 7 := ⟨_, rfl⟩
    have c_a6 := gadget_Maker_Same_c (m := a5) (a := ah) (b := 7) (Mok.mono o_a5 (by decide))
    rw [← h_a6] at c_a6
    have o_a6 : Mok 897500 a6 := by rw [h_a6]; exact Mok.row (Mok.mono o_a5 (by decide)) _ _ _
    replace h_a6 : id (a6 = sameM a5 ah 7) := h_a6
    refine AW.rounds ?_
    refine AWin.next [4, 9, 10, 15, 16, 99, 100] (h := ?_)
    repeat refine AW.seq ?_
    refine AW.reg ?_
    iterate 1 refine AOL.s1 (h := ?_)
    refine AOL.nil ?_
    refine AW.kq [4, 9, 10, 15, 16, 99, 100, 101] (h := ?_)
    repeat refine AW.seq ?_
    refine AW.cond rfl (fun c_ => ?_) (fun c_ => ?_)
    rotate_left
    · cases c_
    refine AW.skip ?_
    repeat refine AW.seq ?_
    refine AW.block ?_
    repeat refine AW.seq ?_
    refine AW.reg ?_
    iterate 5 refine AOL.s1 (h := ?_)
    refine AOL.nil ?_
    refine AW.kq [4, 9, 10, 15, 16, 19, 20, 99, 100] (h := ?_)
    repeat refine AW.seq ?_
    refine AW.dM 11 [(1320, ⟨24, true, [u pv, u po, u pr]⟩)] [1005, 1006, 1005, 1006] (by kernel_rfl) (h := ?_)
    iterate 3 refine ADM.dm (h := ?_)
    refine ADM.callM (l := 1004) (b := 1004) (c_a1) rfl (by kernel_rfl) rfl rfl rfl rfl rfl rfl rfl rfl (by simp only [St.drops, St.drop, mapT, mapH, kill, kills, del, ins, reduceIte, Nat.reduceAdd, Nat.reduceLT, Nat.reduceEqDiff, Bool.false_eq_true]; exact rfl) (by simp only [List.cons_append, List.nil_append, List.length_cons, List.length_nil, Nat.zero_add, Nat.reduceAdd]; exact rfl) (by simp only [List.cons_append, List.nil_append, List.length_cons, List.length_nil, Nat.zero_add, Nat.reduceAdd]; exact rfl) ?_
    iterate 3 refine ADM.dm (h := ?_)
    refine ADM.callM (l := 1004) (b := 1004) (c_a2) rfl (by kernel_rfl) rfl rfl rfl rfl rfl rfl rfl rfl (by simp only [St.drops, St.drop, mapT, mapH, kill, kills, del, ins, reduceIte, Nat.reduceAdd, Nat.reduceLT, Nat.reduceEqDiff, Bool.false_eq_true]; exact rfl) (by simp only [List.cons_append, List.nil_append, List.length_cons, List.length_nil, Nat.zero_add, Nat.reduceAdd]; exact rfl) (by simp only [List.cons_append, List.nil_append, List.length_cons, List.length_nil, Nat.zero_add, Nat.reduceAdd]; exact rfl) ?_
    iterate 3 refine ADM.dm (h := ?_)
    refine ADM.done hmix (by kernel_rfl) rfl (by simp only [chainP, and_self, and_true]) rfl ⟨by simp [List.forall_mem_cons], by simp [List.forall_mem_cons]⟩ (by intro l_ hl_; simp only [List.mem_cons, List.not_mem_nil, or_false] at hl_; rcases hl_ with rfl | rfl | rfl | rfl <;> rfl) (by intro l_ hl_; simp only [List.mem_cons, List.not_mem_nil, or_false] at hl_; rcases hl_ with rfl | rfl | rfl | rfl <;> rfl) (hT := ?_)
    refine AOL.callM (l := 1004) (b := 1004) (c_a3) rfl (by kernel_rfl) rfl rfl rfl rfl rfl (hst := by simp only [St.drops, St.drop, mapT, mapH, kill, kills, del, St.put, ins, reduceIte, Nat.reduceAdd, Nat.reduceLT, Nat.reduceEqDiff, Bool.false_eq_true]; exact rfl) ?_
    iterate 3 refine AOL.s1 (h := ?_)
    refine AOL.nil ?_
    refine AW.kq [4, 9, 10, 15, 16, 19, 21, 22, 23, 99, 100] (h := ?_)
    repeat refine AW.seq ?_
    refine AW.reg ?_
    iterate 2 refine AOL.s1 (h := ?_)
    refine AOL.callM (l := 1004) (b := 1004) (c_a4) rfl (by kernel_rfl) rfl rfl rfl rfl rfl (hst := by simp only [St.drops, St.drop, mapT, mapH, kill, kills, del, St.put, ins, reduceIte, Nat.reduceAdd, Nat.reduceLT, Nat.reduceEqDiff, Bool.false_eq_true]; exact rfl) ?_
    refine AOL.nil ?_
    refine AW.kq [4, 9, 10, 15, 16, 19, 21, 22, 23, 99, 100] (h := ?_)
    repeat refine AW.seq ?_
    refine AW.dM 12 [] [1005, 1006, 1005, 1006] (by kernel_rfl) (h := ?_)
    iterate 6 refine ADM.dm (h := ?_)
    refine ADM.callM (l := 1004) (b := 1004) (c_a5) rfl (by kernel_rfl) rfl rfl rfl rfl rfl rfl rfl rfl (by simp only [St.drops, St.drop, mapT, mapH, kill, kills, del, ins, reduceIte, Nat.reduceAdd, Nat.reduceLT, Nat.reduceEqDiff, Bool.false_eq_true]; exact rfl) (by simp only [List.cons_append, List.nil_append, List.length_cons, List.length_nil, Nat.zero_add, Nat.reduceAdd]; exact rfl) (by simp only [List.cons_append, List.nil_append, List.length_cons, List.length_nil, Nat.zero_add, Nat.reduceAdd]; exact rfl) ?_
    iterate 5 refine ADM.dm (h := ?_)
    refine ADM.done hmix (by kernel_rfl) rfl (by simp only [chainP, and_self, and_true]) rfl ⟨by simp [List.forall_mem_cons], by simp [List.forall_mem_cons]⟩ (by intro l_ hl_; simp only [List.mem_cons, List.not_mem_nil, or_false] at hl_; rcases hl_ with rfl | rfl | rfl | rfl <;> rfl) (by intro l_ hl_; simp only [List.mem_cons, List.not_mem_nil, or_false] at hl_; rcases hl_ with rfl | rfl | rfl | rfl <;> rfl) (hT := ?_)
    refine AOL.callM (l := 1004) (b := 1004) (c_a6) rfl (by kernel_rfl) rfl rfl rfl rfl rfl (hst := by simp only [St.drops, St.drop, mapT, mapH, kill, kills, del, St.put, ins, reduceIte, Nat.reduceAdd, Nat.reduceLT, Nat.reduceEqDiff, Bool.false_eq_true]; exact rfl) ?_
    refine AOL.nil ?_
    refine AW.kq [4, 9, 10, 15, 16, 21, 99, 100] (h := ?_)
    repeat refine AW.seq ?_
    refine AW.reg ?_
    iterate 5 refine AOL.s1 (h := ?_)
    refine AOL.nil ?_
    repeat refine AW.seq ?_
    refine AW.let 1320 (h := ?_)
    refine AW.let 3144 (h := ?_)
    refine AW.reg ?_
    iterate 2 refine AOL.s1 (h := ?_)
    refine AOL.nil ?_
    obtain ⟨b1, h_b1⟩ : ∃ x, x = freshM a6 qv := ⟨_, rfl⟩
    obtain ⟨bv1, h_bv1⟩ : ∃ x : Int, x = (a6.vals.length : Int) := ⟨_, rfl⟩
    have c_b1 := gadget_Maker_Private_c (m := a6) (x := qv) (Mok.mono o_a6 (by decide)) q1
    rw [← h_b1, ← h_bv1] at c_b1
    have o_b1 : Mok 896999 b1 := by rw [h_b1]; exact Mok.fresh (Mok.mono o_a6 (by decide)) _
    replace h_b1 : id (b1 = freshM a6 qv) := h_b1
    replace h_bv1 : id (bv1 = (a6.vals.length : Int)) := h_bv1
    obtain ⟨b2, h_b2⟩ : ∃ x, x = freshM b1 qo := ⟨_, rfl⟩
    obtain ⟨bv2, h_bv2⟩ : ∃ x : Int, x = (b1.vals.length : Int) := ⟨_, rfl⟩
    have c_b2 := gadget_Maker_Private_c (m := b1) (x := qo) (Mok.mono o_b1 (by decide)) q2
    rw [← h_b2, ← h_bv2] at c_b2
    have o_b2 : Mok 896998 b2 := by rw [h_b2]; exact Mok.fresh (Mok.mono o_b1 (by decide)) _
    replace h_b2 : id (b2 = freshM b1 qo) := h_b2
    replace h_bv2 : id (bv2 = (b1.vals.length : Int)) := h_bv2
    obtain ⟨b3, h_b3⟩ : ∃ x, x = freshM b2 qr := ⟨_, rfl⟩
    obtain ⟨bv3, h_bv3⟩ : ∃ x : Int, x = (b2.vals.length : Int) := ⟨_, rfl⟩
    have c_b3 := gadget_Maker_Private_c (m := b2) (x := qr) (Mok.mono o_b2 (by decide)) q3
    rw [← h_b3, ← h_bv3] at c_b3
    have o_b3 : Mok 896997 b3 := by rw [h_b3]; exact Mok.fresh (Mok.mono o_b2 (by decide)) _
    replace h_b3 : id (b3 = freshM b2 qr) := h_b3
    replace h_bv3 : id (bv3 = (b2.vals.length : Int)) := h_bv3
    obtain ⟨b4, h_b4⟩ : ∃ x, x = bitM b3 bv1 32 := ⟨_, rfl⟩
    have c_b4 := gadget_Maker_Bits_c (m := b3) (a := bv1) (n := 32) (Mok.mono o_b3 (by decide))
    rw [← h_b4] at c_b4
    have o_b4 : Mok 896800 b4 := by rw [h_b4]; exact bitM_ok (Mok.mono o_b3 (by decide)) _ _
    replace h_b4 : id (b4 = bitM b3 bv1 32) := h_b4
    obtain ⟨b5, h_b5⟩ : ∃ x, x = (manE b4 [bv1, bv2, bv3]).1 := ⟨_, rfl⟩
    obtain ⟨bh, h_bh⟩ : ∃ x : Int, x = (manE b4 [bv1, bv2, bv3]).2 := ⟨_, rfl⟩
    have c_b5 := gadget_Maker_Many_c (m := b4) (V := [bv1, bv2, bv3]) (Mok.mono o_b4 (by simp))
    rw [← h_b5, ← h_bh] at c_b5
    have o_b5 : Mok 896600 b5 := by rw [h_b5]; exact manE_ok (Mok.mono o_b4 (by simp))
    replace h_b5 : id (b5 = (manE b4 [bv1, bv2, bv3]).1) := h_b5
    replace h_bh : id (bh = (manE b4 [bv1, bv2, bv3]).2) := h_bh
    obtain ⟨b6, h_b6⟩ : ∃ x, x = sameM b5 bh 8 := ⟨_, rfl⟩
    have c_b6 := gadget_Maker_Same_c (m := b5) (a := bh) (b := 8) (Mok.mono o_b5 (by decide))
    rw [← h_b6] at c_b6
    have o_b6 : Mok 896500 b6 := by rw [h_b6]; exact Mok.row (Mok.mono o_b5 (by decide)) _ _ _
    replace h_b6 : id (b6 = sameM b5 bh 8) := h_b6
    refine AWin.next [4, 9, 10, 15, 16, 99, 100] (h := ?_)
    repeat refine AW.seq ?_
    refine AW.reg ?_
    iterate 1 refine AOL.s1 (h := ?_)
    refine AOL.nil ?_
    refine AW.kq [4, 9, 10, 15, 16, 99, 100, 101] (h := ?_)
    repeat refine AW.seq ?_
    refine AW.cond rfl (fun c_ => ?_) (fun c_ => ?_)
    rotate_left
    · cases c_
    refine AW.skip ?_
    repeat refine AW.seq ?_
    refine AW.block ?_
    repeat refine AW.seq ?_
    refine AW.reg ?_
    iterate 5 refine AOL.s1 (h := ?_)
    refine AOL.nil ?_
    refine AW.kq [4, 9, 10, 15, 16, 19, 20, 99, 100] (h := ?_)
    repeat refine AW.seq ?_
    refine AW.dM 11 [(1320, ⟨24, true, [u qv, u qo, u qr]⟩)] [1005, 1006, 1005, 1006] (by kernel_rfl) (h := ?_)
    iterate 3 refine ADM.dm (h := ?_)
    refine ADM.callM (l := 1004) (b := 1004) (c_b1) rfl (by kernel_rfl) rfl rfl rfl rfl rfl rfl rfl rfl (by simp only [St.drops, St.drop, mapT, mapH, kill, kills, del, ins, reduceIte, Nat.reduceAdd, Nat.reduceLT, Nat.reduceEqDiff, Bool.false_eq_true]; exact rfl) (by simp only [List.cons_append, List.nil_append, List.length_cons, List.length_nil, Nat.zero_add, Nat.reduceAdd]; exact rfl) (by simp only [List.cons_append, List.nil_append, List.length_cons, List.length_nil, Nat.zero_add, Nat.reduceAdd]; exact rfl) ?_
    iterate 3 refine ADM.dm (h := ?_)
    refine ADM.callM (l := 1004) (b := 1004) (c_b2) rfl (by kernel_rfl) rfl rfl rfl rfl rfl rfl rfl rfl (by simp only [St.drops, St.drop, mapT, mapH, kill, kills, del, ins, reduceIte, Nat.reduceAdd, Nat.reduceLT, Nat.reduceEqDiff, Bool.false_eq_true]; exact rfl) (by simp only [List.cons_append, List.nil_append, List.length_cons, List.length_nil, Nat.zero_add, Nat.reduceAdd]; exact rfl) (by simp only [List.cons_append, List.nil_append, List.length_cons, List.length_nil, Nat.zero_add, Nat.reduceAdd]; exact rfl) ?_
    iterate 3 refine ADM.dm (h := ?_)
    refine ADM.done hmix (by kernel_rfl) rfl (by simp only [chainP, and_self, and_true]) rfl ⟨by simp [List.forall_mem_cons], by simp [List.forall_mem_cons]⟩ (by intro l_ hl_; simp only [List.mem_cons, List.not_mem_nil, or_false] at hl_; rcases hl_ with rfl | rfl | rfl | rfl <;> rfl) (by intro l_ hl_; simp only [List.mem_cons, List.not_mem_nil, or_false] at hl_; rcases hl_ with rfl | rfl | rfl | rfl <;> rfl) (hT := ?_)
    refine AOL.callM (l := 1004) (b := 1004) (c_b3) rfl (by kernel_rfl) rfl rfl rfl rfl rfl (hst := by simp only [St.drops, St.drop, mapT, mapH, kill, kills, del, St.put, ins, reduceIte, Nat.reduceAdd, Nat.reduceLT, Nat.reduceEqDiff, Bool.false_eq_true]; exact rfl) ?_
    iterate 3 refine AOL.s1 (h := ?_)
    refine AOL.nil ?_
    refine AW.kq [4, 9, 10, 15, 16, 19, 21, 22, 23, 99, 100] (h := ?_)
    repeat refine AW.seq ?_
    refine AW.reg ?_
    iterate 2 refine AOL.s1 (h := ?_)
    refine AOL.callM (l := 1004) (b := 1004) (c_b4) rfl (by kernel_rfl) rfl rfl rfl rfl rfl (hst := by simp only [St.drops, St.drop, mapT, mapH, kill, kills, del, St.put, ins, reduceIte, Nat.reduceAdd, Nat.reduceLT, Nat.reduceEqDiff, Bool.false_eq_true]; exact rfl) ?_
    refine AOL.nil ?_
    refine AW.kq [4, 9, 10, 15, 16, 19, 21, 22, 23, 99, 100] (h := ?_)
    repeat refine AW.seq ?_
    refine AW.dM 12 [] [1005, 1006, 1005, 1006] (by kernel_rfl) (h := ?_)
    iterate 6 refine ADM.dm (h := ?_)
    refine ADM.callM (l := 1004) (b := 1004) (c_b5) rfl (by kernel_rfl) rfl rfl rfl rfl rfl rfl rfl rfl (by simp only [St.drops, St.drop, mapT, mapH, kill, kills, del, ins, reduceIte, Nat.reduceAdd, Nat.reduceLT, Nat.reduceEqDiff, Bool.false_eq_true]; exact rfl) (by simp only [List.cons_append, List.nil_append, List.length_cons, List.length_nil, Nat.zero_add, Nat.reduceAdd]; exact rfl) (by simp only [List.cons_append, List.nil_append, List.length_cons, List.length_nil, Nat.zero_add, Nat.reduceAdd]; exact rfl) ?_
    iterate 5 refine ADM.dm (h := ?_)
    refine ADM.done hmix (by kernel_rfl) rfl (by simp only [chainP, and_self, and_true]) rfl ⟨by simp [List.forall_mem_cons], by simp [List.forall_mem_cons]⟩ (by intro l_ hl_; simp only [List.mem_cons, List.not_mem_nil, or_false] at hl_; rcases hl_ with rfl | rfl | rfl | rfl <;> rfl) (by intro l_ hl_; simp only [List.mem_cons, List.not_mem_nil, or_false] at hl_; rcases hl_ with rfl | rfl | rfl | rfl <;> rfl) (hT := ?_)
    refine AOL.callM (l := 1004) (b := 1004) (c_b6) rfl (by kernel_rfl) rfl rfl rfl rfl rfl (hst := by simp only [St.drops, St.drop, mapT, mapH, kill, kills, del, St.put, ins, reduceIte, Nat.reduceAdd, Nat.reduceLT, Nat.reduceEqDiff, Bool.false_eq_true]; exact rfl) ?_
    refine AOL.nil ?_
    refine AW.kq [4, 9, 10, 15, 16, 21, 99, 100] (h := ?_)
    repeat refine AW.seq ?_
    refine AW.reg ?_
    iterate 5 refine AOL.s1 (h := ?_)
    refine AOL.nil ?_
    repeat refine AW.seq ?_
    refine AW.let 1320 (h := ?_)
    refine AW.let 3144 (h := ?_)
    refine AW.reg ?_
    iterate 2 refine AOL.s1 (h := ?_)
    refine AOL.nil ?_
    refine AWin.next [4, 9, 10, 15, 16, 99, 100] (h := ?_)
    repeat refine AW.seq ?_
    refine AW.reg ?_
    iterate 1 refine AOL.s1 (h := ?_)
    refine AOL.nil ?_
    refine AW.kq [4, 9, 10, 15, 16, 99, 100, 101] (h := ?_)
    repeat refine AW.seq ?_
    refine AW.cond rfl (fun c_ => ?_) (fun c_ => ?_)
    · cases c_
    repeat refine AW.seq ?_
    refine AW.exit ?_
    repeat (first | refine Kseq.ex ?_ | refine Kloop.ex ?_ | refine Kblock.miss (by decide) ?_)
    refine Kblock.hit ?_
    refine AW.kq [4, 9, 15, 16] (h := ?_)
    obtain ⟨G5, h_G5⟩ : ∃ x, x = linM b6 (sumS 0 1 [2, V1, V2]) := ⟨_, rfl⟩
    obtain ⟨V5, h_V5⟩ : ∃ x : Int, x = (b6.vals.length : Int) := ⟨_, rfl⟩
    have c_G5 := circuit_sum_c (m := b6) (k := 1) (V := [2, V1, V2]) (Mok.mono o_b6 (by decide)) w64_1 (by simp)
    rw [← h_G5, ← h_V5] at c_G5
    have o_G5 : Mok 890000 G5 := by rw [h_G5]; exact Mok.lin (Mok.mono o_b6 (by decide)) _
    replace h_G5 : id (G5 = linM b6 (sumS 0 1 [2, V1, V2])) := h_G5
    replace h_V5 : id (V5 = (b6.vals.length : Int)) := h_V5
    obtain ⟨G6, h_G6⟩ : ∃ x, x = linM G5 (sumS 0 1 [3, av1, bv1]) := ⟨_, rfl⟩
    obtain ⟨V6, h_V6⟩ : ∃ x : Int, x = (G5.vals.length : Int) := ⟨_, rfl⟩
    have c_G6 := circuit_sum_c (m := G5) (k := 1) (V := [3, av1, bv1]) (Mok.mono o_G5 (by decide)) w64_1 (by simp)
    rw [← h_G6, ← h_V6] at c_G6
    have o_G6 : Mok 880000 G6 := by rw [h_G6]; exact Mok.lin (Mok.mono o_G5 (by decide)) _
    replace h_G6 : id (G6 = linM G5 (sumS 0 1 [3, av1, bv1])) := h_G6
    replace h_V6 : id (V6 = (G5.vals.length : Int)) := h_V6
    obtain ⟨QF, h_QF⟩ : ∃ x, x = sameM G6 V5 V6 := ⟨_, rfl⟩
    have c_QF := gadget_Maker_Same_c (m := G6) (a := V5) (b := V6) (Mok.mono o_G6 (by decide))
    rw [← h_QF] at c_QF
    have o_QF : Mok 870000 QF := by rw [h_QF]; exact Mok.row (Mok.mono o_G6 (by decide)) _ _ _
    replace h_QF : id (QF = sameM G6 V5 V6) := h_QF
    repeat refine AW.seq ?_
    refine AW.reg ?_
    iterate 2 refine AOL.s1 (h := ?_)
    refine AOL.fz 2008 rfl (fun h => by cases h) (h := ?_)
    refine AOL.callM (l := 1004) (b := 1004) (c_G5) rfl (by kernel_rfl) rfl rfl rfl rfl rfl (hst := by simp only [St.drops, St.drop, mapT, mapH, kill, kills, del, St.put, ins, reduceIte, Nat.reduceAdd, Nat.reduceLT, Nat.reduceEqDiff, Bool.false_eq_true]; exact rfl) ?_
    iterate 1 refine AOL.s1 (h := ?_)
    refine AOL.nil ?_
    refine AW.kq [4, 9, 16, 24] (h := ?_)
    repeat refine AW.seq ?_
    refine AW.reg ?_
    iterate 2 refine AOL.s1 (h := ?_)
    refine AOL.fz 2072 rfl (fun h => by cases h) (h := ?_)
    refine AOL.callM (l := 1004) (b := 1004) (c_G6) rfl (by kernel_rfl) rfl rfl rfl rfl rfl (hst := by simp only [St.drops, St.drop, mapT, mapH, kill, kills, del, St.put, ins, reduceIte, Nat.reduceAdd, Nat.reduceLT, Nat.reduceEqDiff, Bool.false_eq_true]; exact rfl) ?_
    iterate 1 refine AOL.s1 (h := ?_)
    refine AOL.nil ?_
    refine AW.kq [4, 9, 24, 25] (h := ?_)
    repeat refine AW.seq ?_
    refine AW.reg ?_
    iterate 3 refine AOL.s1 (h := ?_)
    refine AOL.callM (l := 1004) (b := 1004) (c_QF) rfl (by kernel_rfl) rfl rfl rfl rfl rfl (hst := by simp only [St.drops, St.drop, mapT, mapH, kill, kills, del, St.put, ins, reduceIte, Nat.reduceAdd, Nat.reduceLT, Nat.reduceEqDiff, Bool.false_eq_true]; exact rfl) ?_
    refine AOL.nil ?_
    have eF : id (QF = GF) := by
      simp only [id] at *
      subst hN h_V1 h_G1 h_V2 h_G2 h_av1 h_a1 h_av2 h_a2 h_av3 h_a3 h_a4 h_ah h_a5 h_a6 h_bv1 h_b1 h_bv2 h_b2 h_bv3 h_b3 h_b4 h_bh h_b5 h_b6 h_V5 h_G5 h_V6 h_G6 h_QF
      rw [hGF]
      rfl
    obtain rfl : QF = GF := eF
    refine AW.kq [4, 9] (h := ?_)
    repeat refine AW.seq ?_
    refine AW.reg ?_
    iterate 1 refine AOL.s1 (h := ?_)
    refine AOL.callDone (l := 1004) (b := 1004) (⟨Mok.mono o_QF (by decide), hg⟩) rfl rfl rfl rfl (hst := by simp only [St.drops, St.drop, mapT, mapH, kill, kills, del, St.put, ins, reduceIte, Nat.reduceAdd, Nat.reduceLT, Nat.reduceEqDiff, Bool.false_eq_true]; exact rfl) ?_
    iterate 6 refine AOL.s1 (h := ?_)
    refine AOL.nil ?_
    refine AW.kq [4, 26, 27] (h := ?_)
    repeat refine AW.seq ?_
    refine AW.reg ?_
    iterate 5 refine AOL.s1 (h := ?_)
    refine AOL.nil ?_
    refine AW.kq [4, 5, 6] (h := ?_)
    repeat refine AW.seq ?_
    refine AW.let 1004 (h := ?_)
    refine AW.let 1005 (h := ?_)
    refine AW.let 1006 (h := ?_)
    refine AW.ret ?_
    refine ⟨_, [(1007, _)], rfl, (fun p_ hp_ => by simp only [List.mem_singleton] at hp_; subst hp_; first | exact List.mem_cons_self | exact List.mem_cons_of_mem _ List.mem_cons_self | exact List.mem_cons_of_mem _ (List.mem_cons_of_mem _ List.mem_cons_self)), ?_⟩
    refine Tells.one 1007 (by decide) ?_
    first | rfl | exact frees_fm (fun _ => rfl) _ | exact a64_free _ | exact by8_free _
theorem circuit_Make_y {m : Mv} {d : Int} (hm : wM m) (hf : fitsH m d = true) (hg : rok (makM m d).rows) : Fn Tryz.prog 7 [.agg (mvc m), i d] [] (Tells (.tup [.agg [i (makM m d).v, i (makM m d).p, slF rw_ (makM m d).rows], .ref 1000 0 (makM m d).vals.length 1, .val .nilIface]) [(1000, vlB (makM m d).vals)]) := by
  obtain ⟨mr, mi, mo, ms, ⟨xk, ⟨xv, xo, xr⟩, xa, xp⟩, ⟨yk, ⟨yv, yo, yr⟩, ya, yp⟩, ⟨pv, po, pr⟩, ⟨qv, qo, qr⟩⟩ := m
  exact circuit_Make_y0 hm hf hg

end Go.Proofs.YtngphcdhdllnnaaGreat.E.M
end
section
/- circuit.Shape: a depth's system: a contract over E. -/
set_option linter.unusedVariables false
set_option linter.unusedSimpArgs false
set_option maxRecDepth 10000
open Go Go.Proofs.YtngphcdhdllnnaaGreat.E Go.Proofs
namespace Go.Proofs.YtngphcdhdllnnaaGreat.E.M
/-- the move of zeros alone -/
abbrev zerI (n : Nat) : Ip := ⟨0, (0, 0, 0), 0, List.replicate n 0⟩
abbrev shpM (n : Nat) : Mv := ⟨0, 0, 0, 0, zerI n, zerI n, (0, 0, 0), (0, 0, 0)⟩
theorem shpM_w {n : Nat} (h : n ≤ 16) : wM (shpM n) := by
  have w0 : w64 0 := by decide
  have wz : wV (List.replicate n 0) := fun v hv => by rw [List.eq_of_mem_replicate hv]; exact w0
  have wi : wI (zerI n) := ⟨w0, ⟨w0, w0, w0⟩, show (0:Int) < 9223372036854775808 by decide, wz, by rw [List.length_replicate]; omega⟩
  exact ⟨w0, w0, w0, w0, wi, wi, ⟨w0, w0, w0⟩, ⟨w0, w0, w0⟩⟩
theorem shpM_f {n : Nat} (h : n ≤ 16) {d : Int} (hd : 1 ≤ d ∧ d ≤ 16) (e : d = n) : fitsH (shpM n) d = true := by
  have ha : (List.replicate n (0:Int)).all bw = true := by rw [List.all_eq_true]; intro v hv; rw [List.eq_of_mem_replicate hv]; rfl
  have b0 : bw 0 = true := rfl
  have hp : (0:Int) < 2 ^ d.toNat := Int.pow_pos (by decide)
  simp only [fitsH, hdF, inF, outF, ha, b0, List.length_replicate, Bool.and_true, Bool.and_eq_true, decide_eq_true_eq]
  exact ⟨⟨hd, ⟨e.symm, by decide⟩, hp⟩, ⟨e.symm, by decide⟩, hp⟩
theorem rep_u (n : Nat) : fm u1 (List.replicate n 0) = List.replicate n (u 0) := by
  induction n with
  | zero => rfl
  | succ n ih => rw [List.replicate_succ, List.replicate_succ, ← ih]; rfl
theorem mkU {n : Nat} (h : n ≤ 1000000) : ∀ st d, aMake Tryz.prog st d 25 (n:Int) (n:Int) = some (.ref (lab d) 0 n 1, st.new (lab d) ⟨22, false, fm u1 (List.replicate n 0)⟩) := by
  intro st d
  have tf := tfm
  have tfr := tfr
  have e : cMake Tryz.prog 25 (n:Int) (n:Int) = some (22, 1, fm u1 (List.replicate n 0)) := by
    rw [rep_u]
    simp only [cMake, tf, tfr]
    rw [if_pos ⟨rfl, by decide, rfl, by omega, Int.le_refl _, by omega, by omega⟩]
    rw [Int.toNat_natCast]
  simp only [aMake, e, Option.map_some, Int.toNat_natCast]

set_option maxHeartbeats 8000000 in
theorem circuit_Shape_y {d : Int} {n : Nat} (hn : n ≤ 16) (hm : (if 0 > d then 0 else d).tmod 17 = (n : Int)) (hf : fitsH (shpM n) d = true) (hg : rok (makM (shpM n) d).rows) : Fn Tryz.prog 19 [i d] [] (fun r h_ => r = .tup [.agg [i (makM (shpM n) d).v, i (makM (shpM n) d).p, slF rw_ (makM (shpM n) d).rows], .val .nilIface]) := by
  refine Fn.enter Tryz.func19 Tryz.ntmps19 rfl (h := ?_)
  have tf := tfm
  have ot_ : (false || true) = true := rfl
  have tfv := tfv
  have tfm := tfm
  have tfn := tfn
  have tfr := tfr
  have n0 : Int.toNat 0 = 0 := rfl
  have n1 : Int.toNat 1 = 1 := rfl
  have q0 : (0:Int) ≤ 0 := by decide
  have q1' : (0:Int) ≤ 1 := by decide
  have x02 : (0:Int) < ((2:Nat):Int) := by decide
  have x12 : (1:Int) < ((2:Nat):Int) := by decide
  have z02 : (0:Int) < 2 := by decide
  have z12 : (1:Int) < 2 := by decide
  have a1_ : IntKind.i64.wrap (0 + 1) = 1 := by decide
  have a2_ : IntKind.i64.wrap (1 + 1) = 2 := by decide
  have i02 : decide ((0:Int) < 2) = true := rfl
  have i12 : decide ((1:Int) < 2) = true := rfl
  have i22 : decide ((2:Int) < 2) = false := rfl
  have t17 : (17:Int) ≠ 0 := by decide
  have mk := mkU (n := n) (by omega)
  have ez : (List.replicate n (0:Int)).length = n := List.length_replicate
  have ll : (fm u1 (List.replicate n 0)).length = n := by rw [fm_len u1_len, Nat.mul_one, ez]
  have hfl : id (AV.sl n (sub 0 (n * 1) (fm u1 (List.replicate n 0))) = ul (List.replicate n 0)) := by
    show _ = AV.sl (List.replicate n (0:Int)).length (fm u1 (List.replicate n 0))
    rw [sub_all (by omega), ez]
  clear ll ez
  have cM := circuit_Make_y (shpM_w hn) hf hg
  generalize (makM (shpM n) d) = G at *
  clear hf
  repeat refine AW.seq ?_
  refine AW.reg ?_
  iterate 2 refine AOL.s1 (h := ?_)
  refine AOL.nil ?_
  refine AW.kq [0, 2] (h := ?_)
  repeat refine AW.seq ?_
  refine AW.reg ?_
  iterate 1 refine AOL.s1 (h := ?_)
  refine AOL.nil ?_
  refine AW.kq [0, 2, 4] (h := ?_)
  repeat refine AW.seq ?_
  refine AW.reg ?_
  iterate 1 refine AOL.s1 (h := ?_)
  refine AOL.nil ?_
  refine AW.kq [0, 2, 4, 9] (h := ?_)
  repeat refine AW.seq ?_
  refine AW.block ?_
  repeat refine AW.seq ?_
  refine AW.rounds ?_
  refine AWin.next [0, 2, 4, 9] (h := ?_)
  repeat refine AW.seq ?_
  refine AW.reg ?_
  iterate 1 refine AOL.s1 (h := ?_)
  refine AOL.nil ?_
  refine AW.kq [0, 2, 4, 9, 10] (h := ?_)
  repeat refine AW.seq ?_
  refine AW.cond rfl (fun c_ => ?_) (fun c_ => ?_)
  rotate_left
  · cases c_
  refine AW.skip ?_
  repeat refine AW.seq ?_
  refine AW.block ?_
  repeat refine AW.seq ?_
  refine AW.reg ?_
  iterate 2 refine AOL.s1 (h := ?_)
  refine AOL.nil ?_
  refine AW.kq [0, 2, 4, 5, 9] (h := ?_)
  repeat refine AW.seq ?_
  refine AW.reg ?_
  iterate 9 refine AOL.s1 (h := ?_)
  refine AOL.nil ?_
  refine AW.fz 1256 rfl (fun h => by cases h) (h := ?_)
  rw [show AV.sl n (sub 0 (n * 1) (fm u1 (List.replicate n 0))) = ul (List.replicate n 0) from hfl]
  repeat refine AW.seq ?_
  refine AW.reg ?_
  iterate 2 refine AOL.s1 (h := ?_)
  refine AOL.nil ?_
  refine AWin.next [0, 2, 4, 9] (h := ?_)
  repeat refine AW.seq ?_
  refine AW.reg ?_
  iterate 1 refine AOL.s1 (h := ?_)
  refine AOL.nil ?_
  refine AW.kq [0, 2, 4, 9, 10] (h := ?_)
  repeat refine AW.seq ?_
  refine AW.cond rfl (fun c_ => ?_) (fun c_ => ?_)
  rotate_left
  · cases c_
  refine AW.skip ?_
  repeat refine AW.seq ?_
  refine AW.block ?_
  repeat refine AW.seq ?_
  refine AW.reg ?_
  iterate 2 refine AOL.s1 (h := ?_)
  refine AOL.nil ?_
  refine AW.kq [0, 2, 4, 5, 9] (h := ?_)
  repeat refine AW.seq ?_
  refine AW.reg ?_
  iterate 9 refine AOL.s1 (h := ?_)
  refine AOL.nil ?_
  refine AW.fz 1256 rfl (fun h => by cases h) (h := ?_)
  rw [show AV.sl n (sub 0 (n * 1) (fm u1 (List.replicate n 0))) = ul (List.replicate n 0) from hfl]
  repeat refine AW.seq ?_
  refine AW.reg ?_
  iterate 2 refine AOL.s1 (h := ?_)
  refine AOL.nil ?_
  refine AWin.next [0, 2, 4, 9] (h := ?_)
  repeat refine AW.seq ?_
  refine AW.reg ?_
  iterate 1 refine AOL.s1 (h := ?_)
  refine AOL.nil ?_
  refine AW.kq [0, 2, 4, 9, 10] (h := ?_)
  repeat refine AW.seq ?_
  refine AW.cond rfl (fun c_ => ?_) (fun c_ => ?_)
  · cases c_
  repeat refine AW.seq ?_
  refine AW.exit ?_
  repeat (first | refine Kseq.ex ?_ | refine Kloop.ex ?_ | refine Kblock.miss (by decide) ?_)
  refine Kblock.hit ?_
  refine AW.kq [0, 2, 4] (h := ?_)
  repeat refine AW.seq ?_
  refine AW.reg ?_
  iterate 2 refine AOL.s1 (h := ?_)
  refine AOL.callO 5000 (cM) rfl (by kernel_rfl) rfl (by first | rfl | exact frees_fm (fun _ => rfl) _ | exact a64_free _ | exact by8_free _) (by intro l_ hl_; simp [labs, labss] at hl_ <;> exact hl_) (by decide) (by simp only [St.drop, mapT, mapH, kill, kills, del, St.put, ins, ren, rens, reduceIte, Nat.reduceLT, Nat.reduceEqDiff, Bool.false_eq_true]; exact rfl) ?_
  iterate 8 refine AOL.s1 (h := ?_)
  refine AOL.nil ?_
  refine AW.kq [2, 6, 8] (h := ?_)
  repeat refine AW.seq ?_
  refine AW.reg ?_
  iterate 4 refine AOL.s1 (h := ?_)
  refine AOL.nil ?_
  refine AW.kq [2, 3] (h := ?_)
  repeat refine AW.seq ?_
  refine AW.ret ?_
  refine ⟨_, [], rfl, HOk.nil _, ?_⟩
  rfl
end Go.Proofs.YtngphcdhdllnnaaGreat.E.M
end
section
/- What any values say by which a maker's rows hold: the plain law. -/
set_option linter.unusedVariables false
set_option linter.unusedSimpArgs false
set_option maxRecDepth 10000
open Go Go.Proofs.YtngphcdhdllnnaaGreat.E Go.Proofs
namespace Go.Proofs.YtngphcdhdllnnaaGreat.E.M
/-- values that are below R, the first one 1 -/
structure VG (V : List Int) : Prop where
  lt : ∀ v, 0 ≤ gV V v ∧ gV V v < 288230376287764481
  one : gV V 0 = 1
theorem VG.of {V : List Int} (h1 : V.head? = some 1) (h2 : ∀ v ∈ V, 0 ≤ v ∧ v < 288230376287764481) : VG V := by
  refine ⟨fun v => ?_, ?_⟩
  · unfold gV
    split
    · rename_i hv
      have hl : v.toNat < V.length := by omega
      rw [List.getElem?_eq_getElem hl]
      exact h2 _ (List.getElem_mem hl)
    · decide
  · cases V with
    | nil => cases h1
    | cons a l =>
      simp only [List.head?_cons, Option.some.injEq] at h1
      subst h1
      unfold gV
      rw [if_pos ⟨Int.le_refl _, by simp only [List.length_cons]; omega⟩]; rfl
def Sat (m : Mk) (V : List Int) : Prop := ∀ r ∈ m.rows, rowH V r
theorem Sat.row {m : Mk} {V : List Int} (a b c : List Tm) : Sat (rowM m a b c) V ↔ Sat m V ∧ lin V a * lin V b % 288230376287764481 = lin V c % 288230376287764481 := by
  unfold Sat
  simp only [rowM, List.mem_append, List.mem_singleton]
  constructor
  · intro k; exact ⟨fun r hr => k r (.inl hr), (rowH_sum V a b c).1 (k _ (.inr rfl))⟩
  · rintro ⟨k1, k2⟩ r (hr | rfl)
    · exact k1 r hr
    · exact (rowH_sum V a b c).2 k2
theorem Sat.fresh {m : Mk} {V : List Int} (x : Int) : Sat (freshM m x) V ↔ Sat m V := Iff.rfl
theorem Sat.prod {m : Mk} {V : List Int} (g : VG V) {a b : List Tm} (h : Sat (prodM m a b) V) : Sat m V ∧ gV V m.vals.length = lin V a * lin V b % 288230376287764481 := by
  unfold prodM at h
  rw [Sat.row, Sat.fresh, lin_1] at h
  have := g.lt m.vals.length
  exact ⟨h.1, by omega⟩
theorem Sat.lin {m : Mk} {V : List Int} (g : VG V) {L : List Tm} (h : Sat (linM m L) V) : Sat m V ∧ gV V m.vals.length = M.lin V (ownT m.vals L) % 288230376287764481 := by
  unfold linM at h
  rw [Sat.row, Sat.fresh, lin_1, lin_1, g.one, Int.mul_one] at h
  have := g.lt m.vals.length
  exact ⟨h.1, by omega⟩
theorem Sat.same {m : Mk} {V : List Int} (g : VG V) {a b : Int} (h : Sat (sameM m a b) V) : Sat m V ∧ gV V (isM m.vals a) = gV V (isM m.vals b) := by
  unfold sameM at h
  rw [Sat.row, lin_2, lin_1, g.one] at h
  simp only [M.lin] at h
  have h1 := g.lt (isM m.vals a)
  have h2 := g.lt (isM m.vals b)
  refine ⟨h.1, ?_⟩
  have h3 := h.2
  show gV V (isMk m a) = gV V (isMk m b)
  have h1 : 0 ≤ gV V (isMk m a) ∧ gV V (isMk m a) < 288230376287764481 := h1
  have h2 : 0 ≤ gV V (isMk m b) ∧ gV V (isMk m b) < 288230376287764481 := h2
  omega
theorem Sat.twoS {V : List Int} (g : VG V) (a : Int) : ∀ (n j : Nat) (m : Mk) (x c : Int), j + n = 3 → c = 7 ^ j % 288230376287764481 → Sat (twoS a n j m x).1 V →
    Sat m V ∧ gV V (twoS a n j m x).2 = trn (gV V a) n c (gV V x)
  | 0, j, m, x, c, _, _, h => ⟨h, rfl⟩
  | n + 1, j, m, x, c, hj, hc, h => by
    have hp := ipow7 j (by omega)
    have hc' : rMul c 7 = 7 ^ (j + 1) % 288230376287764481 := by
      unfold rMul; rw [hc, Int.pow_succ, Int.mul_emod (7 ^ j % 288230376287764481), Int.emod_emod, ← Int.mul_emod]
    obtain ⟨h1, h2⟩ := Sat.twoS g a n (j + 1) _ _ (rMul c 7) (by omega) hc' h
    obtain ⟨h3, h4⟩ := h1.prod g
    obtain ⟨h5, h6⟩ := h3.prod g
    refine ⟨h5, ?_⟩
    show gV V (M.twoS a n (j + 1) _ _).2 = _
    rw [h2, trn, h4, lin_1, h6, cube_mod _ (rAdd (gV V x) (rAdd (gV V a) (rMul c 7)))]
    rw [lin_3, g.one, hp, hc']
    unfold rAdd
    generalize (7:Int) ^ (j + 1) % 288230376287764481 = z
    omega
theorem Sat.two {m : Mk} {V : List Int} (g : VG V) (hm : Good m) {a b : Int} (h : Sat (twoM m a b) V) : Sat m V ∧ gV V (twoR m a b) = twoH (gV V (isM m.vals a)) (gV V (isM m.vals b)) := by
  have h0 := hm.ne
  have i1 := isM_in h0 a
  have i2 := isM_in h0 b
  obtain ⟨X, l1, x0, x1, hx⟩ : ∃ X, Law m (twoE m a b).1 X ∧ 0 ≤ (twoE m a b).2 ∧ (twoE m a b).2 < (twoE m a b).1.vals.length ∧ gV (twoE m a b).1.vals (twoE m a b).2 = trn (gV m.vals (isM m.vals a)) 3 1 (gV m.vals (isM m.vals b)) := twoS_law (isM m.vals a) 3 0 m (isM m.vals b) 1 hm rfl (by decide) i1.1 i1.2 i2.1 i2.2
  have n1 := l1.len
  unfold twoM at h
  obtain ⟨h1, h2⟩ := h.lin g
  rw [ownT_id (V := (twoE m a b).1.vals) (by
    intro t ht
    simp only [List.mem_cons, List.not_mem_nil, or_false] at ht
    rcases ht with rfl | rfl | rfl
    · exact ⟨x0, x1⟩
    · exact ⟨i1.1, by rw [n1]; have := i1.2; show isM m.vals a < _; omega⟩
    · exact ⟨i2.1, by rw [n1]; have := i2.2; show isM m.vals b < _; omega⟩)] at h2
  obtain ⟨h3, h4⟩ : Sat m V ∧ gV V (twoE m a b).2 = trn (gV V (isM m.vals a)) 3 1 (gV V (isM m.vals b)) := Sat.twoS g (isM m.vals a) 3 0 m (isM m.vals b) 1 rfl (by decide) h1
  refine ⟨h3, ?_⟩
  unfold twoR
  rw [h2, lin_3, h4]
  unfold twoH turnH rAdd
  generalize trn _ 3 1 _ = z
  omega
theorem Sat.man {V : List Int} (g : VG V) : ∀ (L : List Int) (m : Mk) (x : Int), Good m → 0 ≤ x → x < m.vals.length → (∀ v ∈ L, 0 ≤ v ∧ v < m.vals.length) → Sat (manS L m x).1 V → Sat m V ∧ gV V (manS L m x).2 = (L.map (gV V)).foldl twoH (gV V x)
  | [], m, x, _, _, _, _, h => ⟨h, rfl⟩
  | v :: L, m, x, hm, x0, x1, hL, h => by
    obtain ⟨X, l1, y0, y1, _⟩ := two_law hm x v
    have n1 := l1.len
    have hv := hL v (by simp)
    obtain ⟨h1, h2⟩ := Sat.man g L _ _ l1.good y0 y1 (fun w hw => by have := hL w (List.mem_cons_of_mem _ hw); omega) h
    obtain ⟨h3, h4⟩ := h1.two g hm
    refine ⟨h3, ?_⟩
    show gV V (manS L _ _).2 = _
    rw [h2, h4, isM_of x0 x1, isM_of hv.1 hv.2]
    rfl
theorem Sat.many {m : Mk} {V : List Int} (g : VG V) (hm : Good m) {L : List Int} (hL : ∀ v ∈ L, 0 ≤ v ∧ v < m.vals.length) (h : Sat (manE m L).1 V) : Sat m V ∧ gV V (manE m L).2 = manyH (L.map (gV V)) := by
  have l1 := lin_law hm (L := [⟨0, L.length⟩]) (by simp)
  have n1 := l1.len
  simp only [List.length_singleton] at n1
  have h0 := hm.ne
  obtain ⟨h1, h2⟩ := Sat.man g L _ m.vals.length l1.good (by omega) (by omega) (fun v hv => by have := hL v hv; omega) h
  obtain ⟨h3, h4⟩ := h1.lin g
  refine ⟨h3, ?_⟩
  show gV V (manS L (linM m [⟨0, L.length⟩]) m.vals.length).2 = _
  rw [h2, h4, ownT_id (V := m.vals) (by
    intro t ht
    simp only [List.mem_singleton] at ht; subst ht
    exact ⟨Int.le_refl _, by show (0:Int) < _; omega⟩)]
  unfold manyH
  congr 1
  simp only [M.lin, g.one, List.length_map]
  omega
end Go.Proofs.YtngphcdhdllnnaaGreat.E.M
end
section
/- What any values say of bits and of what is chosen: the plain law. -/
set_option linter.unusedVariables false
set_option linter.unusedSimpArgs false
set_option maxRecDepth 10000
open Go Go.Proofs.YtngphcdhdllnnaaGreat.E Go.Proofs
namespace Go.Proofs.YtngphcdhdllnnaaGreat.E.M
theorem bit01 {b : Int} (h0 : 0 ≤ b) (h1 : b < 288230376287764481) (h : b * (b + 288230376287764480 * 1) % 288230376287764481 = 0) : b = 0 ∨ b = 1 := by
  rcases Int.lt_or_eq_of_le h0 with hb | hb
  · right
    have hg := (gcd_prime (m := 288230376287764481) (.inr (.inl rfl)) h0 h1).2 (by omega)
    have hd : (288230376287764481:Int) ∣ b * (b + 288230376287764480 * 1) := Int.dvd_of_emod_eq_zero h
    have hn := Int.natAbs_dvd_natAbs.2 hd
    rw [Int.natAbs_mul] at hn
    obtain ⟨k, hk⟩ := Int.natAbs_dvd_natAbs.1 (Nat.Coprime.dvd_of_dvd_mul_left (k := (288230376287764481:Int).natAbs) (m := b.natAbs) hg hn)
    omega
  · exact .inl hb.symm
theorem Sat.cho {m : Mk} {V : List Int} (g : VG V) {c a b : Int} (h : Sat (choM m c a b) V) : Sat m V ∧ (gV V (isM m.vals c) = 0 → gV V m.vals.length = gV V (isM m.vals b)) ∧ (gV V (isM m.vals c) = 1 → gV V m.vals.length = gV V (isM m.vals a)) := by
  unfold choM isMk at h
  rw [Sat.row, Sat.fresh, lin_1, lin_2, lin_2] at h
  obtain ⟨h1, h2⟩ := h
  have ga := g.lt (isM m.vals a)
  have gb := g.lt (isM m.vals b)
  have gn := g.lt m.vals.length
  generalize isM m.vals a = va at *
  generalize isM m.vals b = vb at *
  generalize isM m.vals c = vc at *
  generalize (m.vals.length : Int) = vn at *
  refine ⟨h1, fun hc => ?_, fun hc => ?_⟩
  · rw [hc] at h2; omega
  · rw [hc] at h2; omega
/-- so many bits, the lowest first -/
def bsum : Nat → List Int → Int
  | _, [] => 0
  | j, b :: B => 2 ^ j * b + bsum (j + 1) B
theorem bsum_s : ∀ (B : List Int) (j : Nat), bsum (j + 1) B = 2 * bsum j B
  | [], _ => rfl
  | b :: B, j => by
    simp only [bsum, bsum_s B (j + 1), Int.pow_succ, Int.mul_add]
    congr 1
    rw [Int.mul_comm ((2:Int) ^ j) 2, Int.mul_assoc]
theorem bsum_lt : ∀ {B : List Int}, (∀ b ∈ B, b = 0 ∨ b = 1) → 0 ≤ bsum 0 B ∧ bsum 0 B < 2 ^ B.length
  | [], _ => by simp [bsum]
  | b :: B, h => by
    have ih := bsum_lt fun x hx => h x (List.mem_cons_of_mem _ hx)
    have hb := h b (by simp)
    simp only [bsum, bsum_s, List.length_cons, Int.pow_succ, Int.pow_zero]
    omega
theorem Sat.bitS {V : List Int} (g : VG V) (a : Int) : ∀ (n j : Nat) (m : Mk) (o : List Int) (s : List Tm), Sat (bitS a n j m o s).1 V →
    Sat m V ∧ ∃ I : List Int, (bitS a n j m o s).2.1 = o ++ I ∧ I.length = n ∧ (∀ b ∈ I.map (gV V), b = 0 ∨ b = 1) ∧ M.lin V (bitS a n j m o s).2.2 = M.lin V s + bsum j (I.map (gV V))
  | 0, j, m, o, s, h => ⟨h, [], by simp [M.bitS], rfl, by simp, by simp [M.bitS, bsum]⟩
  | n + 1, j, m, o, s, h => by
    obtain ⟨h1, I, e1, e2, e3, e4⟩ := Sat.bitS g a n (j + 1) _ _ _ h
    rw [Sat.row, Sat.fresh, lin_1, lin_2, g.one] at h1
    obtain ⟨h1, h2⟩ := h1
    have hb := bit01 (g.lt m.vals.length).1 (g.lt m.vals.length).2 (by simpa [M.lin] using h2)
    refine ⟨h1, (m.vals.length : Int) :: I, ?_, by simp [e2], ?_, ?_⟩
    · show (M.bitS a n (j + 1) _ _ _).2.1 = _
      rw [e1]; simp
    · intro b hb'
      simp only [List.map_cons] at hb'
      rcases List.mem_cons.1 hb' with rfl | hb'
      · exact hb
      · exact e3 b hb'
    · show M.lin V (M.bitS a n (j + 1) _ _ _).2.2 = _
      rw [e4, lin_append]
      simp only [M.lin, List.map_cons, bsum]
      omega
theorem Sat.bit {m : Mk} {V : List Int} (g : VG V) (hm : Good m) {a n : Int} (h : Sat (bitM m a n) V) : Sat m V ∧ (bitE m a n).2.1.length = bitN n ∧
    (∀ b ∈ (bitE m a n).2.1.map (gV V), b = 0 ∨ b = 1) ∧ bsum 0 ((bitE m a n).2.1.map (gV V)) = gV V (isM m.vals a) := by
  unfold bitM at h
  rw [Sat.row, lin_1, lin_1, g.one, Int.mul_one] at h
  obtain ⟨h1, h2⟩ := h
  obtain ⟨h3, I, e1, e2, e3, e4⟩ : Sat m V ∧ ∃ I : List Int, (bitE m a n).2.1 = [] ++ I ∧ I.length = bitN n ∧ (∀ b ∈ I.map (gV V), b = 0 ∨ b = 1) ∧ M.lin V (bitE m a n).2.2 = M.lin V [] + bsum 0 (I.map (gV V)) :=
    Sat.bitS g (isM m.vals a) (bitN n) 0 m [] [] h1
  rw [List.nil_append] at e1
  rw [e1]
  refine ⟨h3, e2, e3, ?_⟩
  have hl := bsum_lt e3
  rw [List.length_map, e2] at hl
  have hN := bitN_le n
  have hp : (2:Int) ^ bitN n ≤ 2 ^ 58 := by exact_mod_cast Nat.pow_le_pow_right (n := 2) (by decide) hN
  have hg := g.lt (isM m.vals a)
  rw [e4] at h2
  simp only [M.lin] at h2
  omega
end Go.Proofs.YtngphcdhdllnnaaGreat.E.M
end
