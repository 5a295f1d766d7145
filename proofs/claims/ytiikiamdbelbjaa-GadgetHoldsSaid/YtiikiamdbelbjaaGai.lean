/- obollaw12: the document's examples; systems that are the same: contracts over E. -/
import Derived.Test.YtiikiamdbelbjaaGpo
import Derived.Test.YtiikiamdbelbjaaProg
import Derived.KernelRfl
set_option linter.unusedVariables false
set_option linter.unusedSimpArgs false
set_option maxRecDepth 10000
open Go Go.Proofs.Ytiikiamdbelbjaa.E Go.Proofs
namespace Go.Proofs.Ytiikiamdbelbjaa.E.M
abbrev up1 : Mk := pubM mk0 3
abbrev up2 : Mk := freshM up1 4
abbrev up3 : Mk := mulM up2 1 2
theorem upI : pubI mk0 = 1 := by decide
theorem upE : pubE mk0 = .nilIface := rfl
theorem up1_l : up1.vals = [1, 3] := by decide
theorem up2_l : up2.vals = [1, 3, 4] := by decide
theorem up3_l : up3.vals = [1, 3, 4, 12] := by decide
theorem up3_r : up3.rows.length = 1 := rfl
theorem up2_g : Good up2 := (pub_law good0 3).1.fresh 4
theorem up3_law : ∃ X, Law up2 up3 X := ⟨_, prod_law up2_g (blw_1 (isM_in up2_g.ne 1).2) (blw_1 (isM_in up2_g.ne 2).2) (by simp) (by simp)⟩
theorem up3_g : Good up3 := by obtain ⟨X, l⟩ := up3_law; exact l.good
theorem up3_h : holdsF (sysM up3) up3.vals = nil_ := by
  refine (holds_good up3_g (by rw [up3_l]; decide) (by rw [up3_r]; decide)).1.2 ?_
  obtain ⟨X, l⟩ := up3_law
  refine l.all.2 ((AllH.fresh (pub_law good0 3).1 4).2 ((pub_law good0 3).2.2 allh0))
theorem mok0 : Mok 999999 mk0 := ⟨by decide, by decide, fun v hv => by simp at hv; subst hv; decide, by decide⟩
set_option maxHeartbeats 4000000 in
theorem obollaw12_up_c : Fn Try.prog 8 [] [] (fun r h_ => r = bo true) := by
  refine Fn.enter Try.func8 Try.ntmps8 rfl (h := ?_)
  have tf := tfm
  have ot_ : (false || true) = true := rfl
  have tfr := tfr
  have cH := rank_Holds_c (s := sysM up3) (V := up3.vals) (up3_g.len (by rw [up3_r]; decide)) up3_g.wR up3_g.wV (by rw [up3_l]; decide)
  rw [up3_h] at cH
  have o1 : Mok 999998 up1 := Mok.pub mok0 3
  have o2 : Mok 999997 up2 := Mok.fresh o1 4
  have o3 : Mok 999995 up3 := Mok.prod o2 _ _
  have c1 := gadget_Maker_Public_c (m := mk0) (x := 3) (Mok.mono mok0 (by decide)) (by decide) (by decide)
  have c2 := gadget_Maker_Private_c (m := up1) (x := 4) (Mok.mono o1 (by decide)) (by decide)
  have c3 := gadget_Maker_Mul_c (m := up2) (a := 1) (b := 2) (Mok.mono o2 (by decide))
  have e1 : pubE mk0 = .nilIface := upE
  have e2 : pubI mk0 = 1 := upI
  have e3 : (up1.vals.length : Int) = 2 := by rw [up1_l]; rfl
  have e4 : (up2.vals.length : Int) = 3 := by rw [up2_l]; rfl
  have e5 : (up3.vals.length : Int) = 4 := by rw [up3_l]; rfl
  have e6 : (up3.rows.length : Int) = 1 := by rw [up3_r]; rfl
  have k3 : (3:Int) < 4 := by decide
  have k0 : (0:Int) ≤ 3 := by decide
  have kt : Int.toNat 3 = 3 := rfl
  have hd3 : (fm u1 up3.vals).drop 3 = [u 12] := by rw [up3_l]; rfl
  have hfz : AV.sl up3.vals.length (sub 0 (up3.vals.length * 1) (fm u1 up3.vals)) = ul up3.vals := by rw [sub_all (by rw [fm_len u1_len]; exact Nat.le_refl _)]
  repeat refine AW.seq ?_
  refine AW.reg ?_
  iterate 1 refine AOL.s1 (h := ?_)
  refine AOL.nil ?_
  refine AW.kq [] (h := ?_)
  repeat refine AW.seq ?_
  refine AW.reg ?_
  refine AOL.callNew (b := 1004) rfl (hst := by simp only [St.drops, St.drop, mapT, mapH, kill, kills, del, St.put, ins, reduceIte, Nat.reduceAdd, Nat.reduceLT, Nat.reduceEqDiff, Bool.false_eq_true]; exact rfl) ?_
  iterate 1 refine AOL.s1 (h := ?_)
  refine AOL.nil ?_
  refine AW.kq [1] (h := ?_)
  repeat refine AW.seq ?_
  refine AW.reg ?_
  iterate 1 refine AOL.s1 (h := ?_)
  refine AOL.ptrNil rfl (h := ?_)
  refine AOL.nil ?_
  refine AW.kq [1, 10] (h := ?_)
  repeat refine AW.seq ?_
  refine AW.cond rfl (fun c_ => ?_) (fun c_ => ?_)
  · cases c_
  refine AW.skip ?_
  repeat refine AW.seq ?_
  refine AW.reg ?_
  iterate 1 refine AOL.s1 (h := ?_)
  refine AOL.callM (l := 1004) (b := 1004) (c1) rfl (by kernel_rfl) rfl rfl rfl rfl rfl (hst := by simp only [St.drops, St.drop, mapT, mapH, kill, kills, del, St.put, ins, reduceIte, Nat.reduceAdd, Nat.reduceLT, Nat.reduceEqDiff, Bool.false_eq_true]; exact rfl) ?_
  iterate 5 refine AOL.s1 (h := ?_)
  refine AOL.nil ?_
  refine AW.kq [1, 2, 3] (h := ?_)
  repeat refine AW.seq ?_
  refine AW.reg ?_
  iterate 1 refine AOL.s1 (h := ?_)
  refine AOL.callM (l := 1004) (b := 1004) (c2) rfl (by kernel_rfl) rfl rfl rfl rfl rfl (hst := by simp only [St.drops, St.drop, mapT, mapH, kill, kills, del, St.put, ins, reduceIte, Nat.reduceAdd, Nat.reduceLT, Nat.reduceEqDiff, Bool.false_eq_true]; exact rfl) ?_
  iterate 1 refine AOL.s1 (h := ?_)
  refine AOL.nil ?_
  refine AW.kq [1, 2, 3, 4] (h := ?_)
  repeat refine AW.seq ?_
  refine AW.reg ?_
  iterate 3 refine AOL.s1 (h := ?_)
  refine AOL.callM (l := 1004) (b := 1004) (c3) rfl (by kernel_rfl) rfl rfl rfl rfl rfl (hst := by simp only [St.drops, St.drop, mapT, mapH, kill, kills, del, St.put, ins, reduceIte, Nat.reduceAdd, Nat.reduceLT, Nat.reduceEqDiff, Bool.false_eq_true]; exact rfl) ?_
  iterate 1 refine AOL.s1 (h := ?_)
  refine AOL.nil ?_
  refine AW.kq [1, 2, 3, 4, 5] (h := ?_)
  repeat refine AW.seq ?_
  refine AW.reg ?_
  iterate 1 refine AOL.s1 (h := ?_)
  refine AOL.callDone (l := 1004) (b := 1004) (⟨Mok.mono o3 (by decide), up3_g.rok⟩) rfl rfl rfl rfl (hst := by simp only [St.drops, St.drop, mapT, mapH, kill, kills, del, St.put, ins, reduceIte, Nat.reduceAdd, Nat.reduceLT, Nat.reduceEqDiff, Bool.false_eq_true]; exact rfl) ?_
  iterate 6 refine AOL.s1 (h := ?_)
  refine AOL.nil ?_
  refine AW.kq [2, 3, 4, 5, 6, 7] (h := ?_)
  refine AW.fz 1007 rfl (fun h => by cases h) (h := ?_)
  rw [hfz]
  clear hfz
  repeat refine AW.seq ?_
  refine AW.reg ?_
  iterate 3 refine AOL.s1 (h := ?_)
  refine AOL.kq [2, 4, 5, 6, 7, 29] (h := ?_)
  iterate 3 refine AOL.s1 (h := ?_)
  iterate 1 refine AOL.s1 (h := ?_)
  refine AOL.kq [4, 5, 6, 7, 33] (h := ?_)
  iterate 3 refine AOL.s1 (h := ?_)
  iterate 1 refine AOL.s1 (h := ?_)
  refine AOL.kq [5, 6, 7, 37] (h := ?_)
  iterate 3 refine AOL.s1 (h := ?_)
  iterate 1 refine AOL.s1 (h := ?_)
  refine AOL.kq [6, 7, 41] (h := ?_)
  iterate 5 refine AOL.s1 (h := ?_)
  iterate 1 refine AOL.s1 (h := ?_)
  refine AOL.kq [6, 7, 47] (h := ?_)
  iterate 4 refine AOL.s1 (h := ?_)
  iterate 1 refine AOL.s1 (h := ?_)
  refine AOL.kq [6, 7, 52] (h := ?_)
  iterate 5 refine AOL.s1 (h := ?_)
  iterate 1 refine AOL.s1 (h := ?_)
  refine AOL.kq [6, 7, 58] (h := ?_)
  iterate 2 refine AOL.s1 (h := ?_)
  refine AOL.callD rfl (cH) (by kernel_rfl) rfl rfl (h := ?_)
  iterate 2 refine AOL.s1 (h := ?_)
  iterate 1 refine AOL.s1 (h := ?_)
  refine AOL.nil ?_
  refine AW.kq [0] (h := ?_)
  repeat refine AW.seq ?_
  refine AW.ret ?_
  refine ⟨_, [], rfl, HOk.nil _, ?_⟩
  rfl
theorem eqTm : eqT Try.prog 55 = some [.int, .int] := eqT_of (by kernel_rfl) (by kernel_rfl) (by kernel_rfl)
set_option maxHeartbeats 1000000 in
theorem obolref11_Same_c {L : List Tm} (hL : L.length < 1000000000) : Fn Try.prog 44 [slF tm L, slF tm L] [] (fun r h_ => r = bo true) := by
  refine Fn.enter Try.func44 Try.ntmps44 rfl (h := ?_)
  have tf := tfm
  have ot_ : (false || true) = true := rfl
  have tfr := tfr
  have eq := eqTm
  repeat refine AW.seq ?_
  refine AW.reg ?_
  iterate 1 refine AOL.s1 (h := ?_)
  refine AOL.nil ?_
  refine AW.kq [0, 1] (h := ?_)
  repeat refine AW.seq ?_
  refine AW.reg ?_
  iterate 5 refine AOL.s1 (h := ?_)
  refine AOL.nil ?_
  refine AW.kq [0, 1, 10] (h := ?_)
  repeat refine AW.seq ?_
  refine AW.cond rfl (fun c_ => ?_) (fun c_ => ?_)
  · simp at c_
  refine AW.skip ?_
  repeat refine AW.seq ?_
  refine AW.reg ?_
  iterate 1 refine AOL.s1 (h := ?_)
  refine AOL.nil ?_
  refine AW.kq [0, 1, 5] (h := ?_)
  repeat refine AW.seq ?_
  refine AW.block ?_
  repeat refine AW.seq ?_
  refine AW.loopK [0, 1, 5] (fun n s => ∃ (k : Nat), s = ⟨26, [(0, slF tm L), (1, slF tm L), (5, i k)], []⟩ ∧ k ≤ L.length ∧ n = L.length - k) (L.length) ?_ ?_
  · exact ⟨0, rfl, Nat.zero_le _, rfl⟩
  rintro n s ⟨k, rfl, hkl, rfl⟩
  repeat refine AW.seq ?_
  refine AW.reg ?_
  iterate 4 refine AOL.s1 (h := ?_)
  refine AOL.nil ?_
  refine AW.kq [0, 1, 5, 14] (h := ?_)
  repeat refine AW.seq ?_
  refine AW.cond rfl (fun c_ => ?_) (fun c_ => ?_)
  · have h1 : k < L.length := by simpa using c_
    have k0 : (0:Int) ≤ k := by omega
    have k1 : (k:Int) < L.length := by omega
    have hw := incq h1 hL
    have hd : (fm tm L).drop (k * 2) = i L[k].v :: u L[k].k :: fm tm (L.drop (k + 1)) := fm_at tm_len h1
    clear c_
    generalize L[k] = t at *
    obtain ⟨tv, tk⟩ := t
    refine AW.skip ?_
    repeat refine AW.seq ?_
    refine AW.block ?_
    repeat refine AW.seq ?_
    refine AW.drw 8 [] (by kernel_rfl) (h := ?_)
    iterate 8 refine ADL.dm 1 (h := ?_)
    refine ADL.done hmix rfl rfl (hT := ?_)
    iterate 1 refine AOL.s1 (h := ?_)
    refine AOL.nil ?_
    refine AW.kq [0, 1, 5, 25] (h := ?_)
    repeat refine AW.seq ?_
    refine AW.cond rfl (fun d_ => ?_) (fun d_ => ?_)
    · cases d_
    refine AW.skip ?_
    repeat refine AW.seq ?_
    refine AW.reg ?_
    iterate 3 refine AOL.s1 (h := ?_)
    refine AOL.nil ?_
    exact ⟨L.length - (k + 1), by omega, k + 1, rfl, h1, rfl⟩
  · skip
    repeat refine AW.seq ?_
    refine AW.exit ?_
    repeat (first | refine Kseq.ex ?_ | refine Kloop.ex ?_ | refine Kblock.miss (by decide) ?_)
    refine Kblock.hit ?_
    refine AW.kq [] (h := ?_)
    repeat refine AW.seq ?_
    refine AW.reg ?_
    iterate 1 refine AOL.s1 (h := ?_)
    refine AOL.nil ?_
    refine AW.kq [4] (h := ?_)
    repeat refine AW.seq ?_
    refine AW.ret ?_
    refine ⟨_, [], rfl, HOk.nil _, ?_⟩
    rfl
set_option maxHeartbeats 4000000 in
theorem obolref11_SameRank_c {s : Rk} (hS : Len s) : Fn Try.prog 22 [.agg (rk s), .agg (rk s)] [] (fun r h_ => r = bo true) := by
  refine Fn.enter Try.func22 Try.ntmps22 rfl (h := ?_)
  have tf := tfm
  have ot_ : (false || true) = true := rfl
  have tfr := tfr
  obtain ⟨l1, l2⟩ := hS
  obtain ⟨sv, sp, L⟩ := s
  simp only at l1 l2
  repeat refine AW.seq ?_
  refine AW.reg ?_
  iterate 3 refine AOL.s1 (h := ?_)
  refine AOL.nil ?_
  refine AW.kq [2, 3] (h := ?_)
  repeat refine AW.seq ?_
  refine AW.reg ?_
  iterate 6 refine AOL.s1 (h := ?_)
  refine AOL.kq [2, 3, 11] (h := ?_)
  iterate 6 refine AOL.s1 (h := ?_)
  iterate 1 refine AOL.s1 (h := ?_)
  refine AOL.kq [2, 3, 18] (h := ?_)
  iterate 8 refine AOL.s1 (h := ?_)
  refine AOL.nil ?_
  refine AW.kq [2, 3, 26] (h := ?_)
  repeat refine AW.seq ?_
  refine AW.cond rfl (fun c_ => ?_) (fun c_ => ?_)
  · cases c_
  refine AW.skip ?_
  repeat refine AW.seq ?_
  refine AW.reg ?_
  iterate 1 refine AOL.s1 (h := ?_)
  refine AOL.nil ?_
  refine AW.kq [2, 3, 5] (h := ?_)
  repeat refine AW.seq ?_
  refine AW.block ?_
  repeat refine AW.seq ?_
  refine AW.loopK [2, 3, 5] (fun n s => ∃ (k : Nat), s = ⟨80, [(2, .ptr 1032 0), (3, .ptr 1048 0), (5, i k)], [(1032, ⟨33, true, [i sv, i sp, slF rw_ L]⟩), (1048, ⟨33, true, [i sv, i sp, slF rw_ L]⟩)]⟩ ∧ k ≤ L.length ∧ n = L.length - k) (L.length) ?_ ?_
  · exact ⟨0, rfl, Nat.zero_le _, rfl⟩
  rintro n s ⟨k, rfl, hkl, rfl⟩
  repeat refine AW.seq ?_
  refine AW.reg ?_
  iterate 5 refine AOL.s1 (h := ?_)
  refine AOL.nil ?_
  refine AW.kq [2, 3, 5, 31] (h := ?_)
  repeat refine AW.seq ?_
  refine AW.cond rfl (fun c_ => ?_) (fun c_ => ?_)
  · have h1 : k < L.length := by simpa using c_
    have k0 : (0:Int) ≤ k := by omega
    have k1 : (k:Int) < L.length := by omega
    have hw := incq h1 l1
    have hd : (fm rw_ L).drop (k * 3) = slF tm L[k].a :: slF tm L[k].b :: slF tm L[k].c :: fm rw_ (L.drop (k + 1)) := fm_at rw_len h1
    obtain ⟨ta, tb, tc⟩ := l2 L[k] (List.getElem_mem h1)
    have cA := obolref11_Same_c ta
    have cB := obolref11_Same_c tb
    have cC := obolref11_Same_c tc
    clear c_ l2
    generalize L[k] = t at *
    obtain ⟨xa, xb, xc⟩ := t
    refine AW.skip ?_
    repeat refine AW.seq ?_
    refine AW.block ?_
    repeat refine AW.seq ?_
    refine AW.drw 43 [] (by kernel_rfl) (h := ?_)
    iterate 12 refine ADL.dm 1 (h := ?_)
    refine ADL.call rfl (cA) (by kernel_rfl) rfl rfl (h := ?_)
    iterate 14 refine ADL.dm 1 (h := ?_)
    refine ADL.call rfl (cB) (by kernel_rfl) rfl rfl (h := ?_)
    iterate 15 refine ADL.dm 1 (h := ?_)
    refine ADL.done hmix rfl rfl (hT := ?_)
    refine AOL.kq [2, 3, 5, 64, 70, 76] (h := ?_)
    refine AOL.callD rfl (cC) (by kernel_rfl) rfl rfl (h := ?_)
    iterate 2 refine AOL.s1 (h := ?_)
    refine AOL.nil ?_
    refine AW.kq [2, 3, 5, 79] (h := ?_)
    repeat refine AW.seq ?_
    refine AW.cond rfl (fun d_ => ?_) (fun d_ => ?_)
    · cases d_
    refine AW.skip ?_
    repeat refine AW.seq ?_
    refine AW.reg ?_
    iterate 3 refine AOL.s1 (h := ?_)
    refine AOL.nil ?_
    exact ⟨L.length - (k + 1), by omega, k + 1, rfl, h1, rfl⟩
  · skip
    repeat refine AW.seq ?_
    refine AW.exit ?_
    repeat (first | refine Kseq.ex ?_ | refine Kloop.ex ?_ | refine Kblock.miss (by decide) ?_)
    refine Kblock.hit ?_
    refine AW.kq [] (h := ?_)
    repeat refine AW.seq ?_
    refine AW.reg ?_
    iterate 1 refine AOL.s1 (h := ?_)
    refine AOL.nil ?_
    refine AW.kq [4] (h := ?_)
    repeat refine AW.seq ?_
    refine AW.ret ?_
    refine ⟨_, [], rfl, HOk.nil _, ?_⟩
    rfl
end Go.Proofs.Ytiikiamdbelbjaa.E.M

