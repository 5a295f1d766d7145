/- obollaw21.WalletRight: true for every input: a contract over E. -/
import Derived.Test.YthajlelljnkdiaaWld
import Derived.Test.YthajlelljnkdiaaOpw
import Derived.Test.YthajlelljnkdiaaProg
import Derived.KernelRfl
set_option linter.unusedVariables false
set_option linter.unusedSimpArgs false
set_option maxRecDepth 10000
open Go Go.Proofs.Ythajlelljnkdiaa.E Go.Proofs
namespace Go.Proofs.Ythajlelljnkdiaa.E.M
set_option maxHeartbeats 16000000 in
theorem obollaw21_WalletRight_c {n : Int} {L : List Tx} {w : Ws} (hn : i64b n) (hL : ∀ t ∈ L, wTx t) (hw : wWs w) : Fn Try.prog 3 [i n, slF txc L, .agg (wsc w)] [] (fun r _ => r = bo true) := by
  have cU := obollaw21_up_c
  have cL := obollaw21_light_c (L := L)
  have cM := obollaw21_may_c hw
  have cV := fun (d : Nat) (h1 : 1 ≤ d) (h3 : d ≤ 3) (hf : fewT L) (hy : mayW w = true) => obollaw21_move_c (L := L) (w := w) h1 h3 hf hw hy
  have lg : lightH L = true → fewT L := by
    intro h
    unfold lightH at h
    split at h
    · cases h
    · rename_i hl
      refine ⟨by omega, fun t ht => ⟨hL t ht, ?_⟩⟩
      rw [Bool.not_eq_true', List.any_eq_false] at h
      have := h t ht
      simp only [longT, Bool.or_eq_true, decide_eq_true_eq, not_or] at this
      omega
  generalize hlt : lightH L = lt at *
  generalize hmy : mayW w = my at *
  clear hlt hmy
  obtain ⟨k, inn, fr, sq, ou, ⟨tx, ty⟩, pay, ao, ⟨px, py⟩, d0, d1, d2, d3, d4, d5, d6, d7⟩ := w
  clear hw
  have eW : (wsc ⟨k, inn, fr, sq, ou, (tx, ty), pay, ao, (px, py), d0, d1, d2, d3, d4, d5, d6, d7⟩) = [u k, u inn, u fr, u sq, u ou, u tx, u ty, u pay, u ao, u px, u py, u d0, u d1, u d2, u d3, u d4, u d5, u d6, u d7] := rfl
  rw [eW] at cM cV ⊢
  clear eW
  refine Fn.enter Try.func3 Try.ntmps3 rfl (h := ?_)
  have tf := tfw
  have ot_ : (false || true) = true := rfl
  repeat refine AW.seq ?_
  refine AW.reg ?_
  iterate 2 refine AOL.s1 (h := ?_)
  refine AOL.nil ?_
  refine AW.kq [0, 1, 5] (h := ?_)
  repeat refine AW.seq ?_
  refine AW.reg ?_
  refine AOL.callD rfl (cU) (by kernel_rfl) rfl rfl (h := ?_)
  iterate 1 refine AOL.s1 (h := ?_)
  refine AOL.nil ?_
  refine AW.kq [0, 1, 5, 7] (h := ?_)
  repeat refine AW.seq ?_
  refine AW.reg ?_
  iterate 1 refine AOL.s1 (h := ?_)
  refine AOL.callD rfl (cL) (by kernel_rfl) rfl rfl (h := ?_)
  iterate 1 refine AOL.s1 (h := ?_)
  refine AOL.nil ?_
  refine AW.kq [0, 1, 5, 7, 8] (h := ?_)
  repeat refine AW.seq ?_
  refine AW.reg ?_
  iterate 1 refine AOL.s1 (h := ?_)
  refine AOL.callD rfl (cM) (by kernel_rfl) rfl rfl (h := ?_)
  iterate 1 refine AOL.s1 (h := ?_)
  refine AOL.nil ?_
  refine AW.kq [0, 1, 5, 7, 8, 9] (h := ?_)
  repeat refine AW.seq ?_
  refine AW.reg ?_
  iterate 3 refine AOL.s1 (h := ?_)
  refine AOL.kq [0, 1, 5, 7, 9, 19] (h := ?_)
  refine AOL.or 19 22 (os' := ?_) (x := ?_) (h1 := ?_) (h0 := ?_) (h := ?_)
  rotate_left 2
  iterate 2
    · intro hb_ K' hK; (iterate 3 refine AOL.s1 (h := ?_)); refine AOL.kq [0, 1, 5, 7, 9, 22] (h := ?_); exact hK
  iterate 1 refine AOL.s1 (h := ?_)
  refine AOL.kq [0, 1, 5, 7, 23] (h := ?_)
  refine AOL.or 23 26 (os' := ?_) (x := ?_) (h1 := ?_) (h0 := ?_) (h := ?_)
  rotate_left 2
  iterate 2
    · intro hb_ K' hK; (iterate 3 refine AOL.s1 (h := ?_)); refine AOL.kq [0, 1, 5, 7, 26] (h := ?_); exact hK
  iterate 1 refine AOL.s1 (h := ?_)
  refine AOL.kq [0, 1, 5, 7, 27] (h := ?_)
  refine AOL.or 27 30 (os' := ?_) (x := ?_) (h1 := ?_) (h0 := ?_) (h := ?_)
  rotate_left 2
  iterate 2
    · intro hb_ K' hK; (iterate 3 refine AOL.s1 (h := ?_)); refine AOL.kq [0, 1, 5, 7, 30] (h := ?_); exact hK
  refine AOL.nil ?_
  refine AW.kq [0, 1, 5, 7, 30] (h := ?_)
  repeat refine AW.seq ?_
  refine AW.cond rfl (fun c_ => ?_) (fun c_ => ?_)
  · repeat refine AW.seq ?_
    refine AW.reg ?_
    iterate 2 refine AOL.s1 (h := ?_)
    refine AOL.nil ?_
    refine AW.kq [6] (h := ?_)
    repeat refine AW.seq ?_
    refine AW.ret ?_
    refine ⟨_, [], rfl, HOk.nil _, ?_⟩
    rfl
  have hc : lt = true ∧ my = true ∧ 1 ≤ n ∧ n ≤ 3 := by
    simp only [Bool.or_eq_false_iff, Bool.not_eq_false', decide_eq_false_iff_not] at c_
    obtain ⟨⟨⟨h1, h2⟩, h3⟩, h4⟩ := c_
    exact ⟨h1, h2, by omega, by omega⟩
  obtain ⟨h1, h2, h3, h4⟩ := hc
  obtain ⟨d, rfl⟩ : ∃ d : Nat, n = (d:Int) := ⟨n.toNat, by omega⟩
  have cV := cV d (by omega) (by omega) (lg h1) h2
  clear c_ lg cM cL cU h1 h2
  refine AW.skip ?_
  repeat refine AW.seq ?_
  refine AW.reg ?_
  iterate 3 refine AOL.s1 (h := ?_)
  refine AOL.call rfl cV (by kernel_rfl) rfl (fun r_ h_ hr_ => ?_)
  rcases hr_ with ⟨c, rfl, hc⟩ | ⟨m, rfl, gm⟩
  · refine ⟨rfl, ?_⟩
    simp only [St.put, ins, reduceIte, Nat.reduceLT, Nat.reduceEqDiff]
    iterate 6 refine AOL.s1 (h := ?_)
    refine AOL.nil ?_
    refine AW.kq [0, 7, 10, 11] (h := ?_)
    repeat refine AW.seq ?_
    refine AW.reg ?_
    iterate 2 refine AOL.s1 (h := ?_)
    refine AOL.nil ?_
    refine AW.kq [0, 7, 10, 40] (h := ?_)
    repeat refine AW.seq ?_
    refine AW.cond rfl (fun c_ => ?_) (fun c_ => ?_)
    · repeat refine AW.seq ?_
      refine AW.reg ?_
      iterate 2 refine AOL.s1 (h := ?_)
      refine AOL.nil ?_
      refine AW.kq [6] (h := ?_)
      repeat refine AW.seq ?_
      refine AW.ret ?_
      refine ⟨_, [], rfl, HOk.nil _, ?_⟩
      rfl
    exact absurd (by simpa using c_) hc
  obtain ⟨wm, hf, hr⟩ := gm
  have cF := obolref18_Fits_c (d := (d:Int)) wm
  have cR := obolref18_Right_c wm
  rw [hf] at cF
  rw [hr] at cR
  clear hf hr wm
  obtain ⟨mr, mi, mo, ms, ⟨xk, ⟨xv, xo, xr⟩, xa, xp⟩, ⟨yk, ⟨yv, yo, yr⟩, ya, yp⟩, ⟨pv, po, pr⟩, ⟨qv, qo, qr⟩⟩ := m
  have eM : mvc ⟨mr, mi, mo, ms, ⟨xk, (xv, xo, xr), xa, xp⟩, ⟨yk, (yv, yo, yr), ya, yp⟩, (pv, po, pr), (qv, qo, qr)⟩ = [u mr, u mi, u mo, u ms, u xk, u xv, u xo, u xr, i xa, ul xp, u yk, u yv, u yo, u yr, i ya, ul yp, u pv, u po, u pr, u qv, u qo, u qr] := rfl
  rw [eM] at cF cR ⊢
  clear eM
  refine ⟨rfl, ?_⟩
  simp only [St.put, ins, reduceIte, Nat.reduceLT, Nat.reduceEqDiff]
  iterate 6 refine AOL.s1 (h := ?_)
  refine AOL.nil ?_
  refine AW.kq [0, 7, 10, 11] (h := ?_)
  repeat refine AW.seq ?_
  refine AW.reg ?_
  iterate 2 refine AOL.s1 (h := ?_)
  refine AOL.nil ?_
  refine AW.kq [0, 7, 10, 40] (h := ?_)
  repeat refine AW.seq ?_
  refine AW.cond rfl (fun c_ => ?_) (fun c_ => ?_)
  · cases c_
  refine AW.skip ?_
  repeat refine AW.seq ?_
  refine AW.reg ?_
  iterate 2 refine AOL.s1 (h := ?_)
  iterate 2 refine AOL.s1 (h := ?_)
  refine AOL.callD rfl (cF) (by kernel_rfl) rfl rfl (h := ?_)
  iterate 3 refine AOL.s1 (h := ?_)
  refine AOL.callD rfl (cR) (by kernel_rfl) rfl rfl (h := ?_)
  iterate 2 refine AOL.s1 (h := ?_)
  refine AOL.nil ?_
  refine AW.kq [6] (h := ?_)
  repeat refine AW.seq ?_
  refine AW.ret ?_
  refine ⟨_, [], rfl, HOk.nil _, ?_⟩
  rfl
end Go.Proofs.Ythajlelljnkdiaa.E.M

