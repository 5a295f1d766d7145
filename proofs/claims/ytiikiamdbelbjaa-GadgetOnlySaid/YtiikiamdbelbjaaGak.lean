/- GadgetOnly over E. -/
import Derived.Test.YtiikiamdbelbjaaGpr
import Derived.Test.YtiikiamdbelbjaaGai
import Derived.Test.YtiikiamdbelbjaaProg
import Derived.KernelRfl
set_option linter.unusedVariables false
set_option linter.unusedSimpArgs false
set_option maxRecDepth 10000
open Go Go.Proofs.Ytiikiamdbelbjaa.E Go.Proofs
namespace Go.Proofs.Ytiikiamdbelbjaa.E.M
theorem set_u1 (V : List Int) (n : Nat) (y : Int) : (fm u1 V).set n (u y) = fm u1 (V.set n y) := by
  induction V generalizing n with
  | nil => rfl
  | cons a l ih =>
    cases n with
    | zero => rfl
    | succ n => simp only [fm, List.set_cons_succ, List.cons_append, List.nil_append, ih]
set_option maxHeartbeats 8000000 in
theorem obollaw12_GadgetOnly_c {a b at_ by_ : Int} (ha : w64 a) (hb : w64 b) (hy : w64 by_) : Fn Try.prog 3 [u a, u b, i at_, u by_] [] (fun r h_ => r = bo true) := by
  refine Fn.enter Try.func3 Try.ntmps3 rfl (h := ?_)
  have tf := tfm
  have ot_ : (false || true) = true := rfl
  have tfr := tfr
  have cU := obollaw12_up_c
  have c1 := gadget_Maker_Public_c (m := mk0) (x := a) (Mok.mono mok0 (by decide)) ha (by decide)
  have p1 : Mok 999998 (o1M a) := Mok.pub mok0 a
  have p2 : Mok 999997 (o2M a b) := Mok.pub p1 b
  have c2 := gadget_Maker_Public_c (m := o1M a) (x := b) (Mok.mono p1 (by decide)) hb (by rw [o1_eq]; exact ⟨by show (0:Int) ≤ 1; decide, by show (1:Int) < _; decide⟩)
  have p3 : Mok 999983 (o3M a b) := twoM_ok p2 1 2
  have c3 := gadget_Maker_Two_c (m := o2M a b) (a := 1) (b := 2) (Mok.mono p2 (by decide))
  obtain ⟨g3, a3, t3⟩ := o3_law a b
  have lv : (o3M a b).vals.length ≤ 4096 := by have := p3.1; omega
  have lr : (o3M a b).rows.length ≤ 4096 := by have := p3.2.1; omega
  have e1 : pubE mk0 = .nilIface := rfl
  have e2 : pubI mk0 = 1 := rfl
  have e3 : pubE (o1M a) = .nilIface := by rw [o1_eq]; rfl
  have e4 : pubI (o1M a) = 2 := by rw [o1_eq]; rfl
  have hmod : by_.tmod 288230376287764481 = by_ % 288230376287764481 := Int.tmod_eq_emod_of_nonneg hy.1
  have ne3 := g3.ne
  repeat refine AW.seq ?_
  refine AW.reg ?_
  iterate 1 refine AOL.s1 (h := ?_)
  refine AOL.nil ?_
  refine AW.kq [0, 1, 2, 3] (h := ?_)
  repeat refine AW.seq ?_
  refine AW.reg ?_
  refine AOL.callD rfl (cU) (by kernel_rfl) rfl rfl (h := ?_)
  iterate 1 refine AOL.s1 (h := ?_)
  refine AOL.nil ?_
  refine AW.kq [0, 1, 2, 3, 9] (h := ?_)
  repeat refine AW.seq ?_
  refine AW.reg ?_
  refine AOL.callNew (b := 1004) rfl (hst := by simp only [St.drops, St.drop, mapT, mapH, kill, kills, del, St.put, ins, reduceIte, Nat.reduceAdd, Nat.reduceLT, Nat.reduceEqDiff, Bool.false_eq_true]; exact rfl) ?_
  iterate 1 refine AOL.s1 (h := ?_)
  refine AOL.nil ?_
  refine AW.kq [0, 1, 2, 3, 9, 10] (h := ?_)
  repeat refine AW.seq ?_
  refine AW.reg ?_
  iterate 1 refine AOL.s1 (h := ?_)
  refine AOL.ptrNil rfl (h := ?_)
  refine AOL.nil ?_
  refine AW.kq [0, 1, 2, 3, 9, 10, 21] (h := ?_)
  repeat refine AW.seq ?_
  refine AW.cond rfl (fun c_ => ?_) (fun c_ => ?_)
  · cases c_
  refine AW.skip ?_
  repeat refine AW.seq ?_
  refine AW.reg ?_
  iterate 2 refine AOL.s1 (h := ?_)
  refine AOL.callM (l := 1004) (b := 1004) (c1) rfl (by kernel_rfl) rfl rfl rfl rfl rfl (hst := by simp only [St.drops, St.drop, mapT, mapH, kill, kills, del, St.put, ins, reduceIte, Nat.reduceAdd, Nat.reduceLT, Nat.reduceEqDiff, Bool.false_eq_true]; exact rfl) ?_
  iterate 5 refine AOL.s1 (h := ?_)
  refine AOL.nil ?_
  refine AW.kq [1, 2, 3, 9, 10, 11, 12] (h := ?_)
  repeat refine AW.seq ?_
  refine AW.reg ?_
  iterate 2 refine AOL.s1 (h := ?_)
  refine AOL.callM (l := 1004) (b := 1004) (c2) rfl (by kernel_rfl) rfl rfl rfl rfl rfl (hst := by simp only [St.drops, St.drop, mapT, mapH, kill, kills, del, St.put, ins, reduceIte, Nat.reduceAdd, Nat.reduceLT, Nat.reduceEqDiff, Bool.false_eq_true]; exact rfl) ?_
  iterate 5 refine AOL.s1 (h := ?_)
  refine AOL.nil ?_
  refine AW.kq [2, 3, 9, 10, 11, 12, 13, 14] (h := ?_)
  repeat refine AW.seq ?_
  refine AW.reg ?_
  iterate 3 refine AOL.s1 (h := ?_)
  refine AOL.callM (l := 1004) (b := 1004) (c3) rfl (by kernel_rfl) rfl rfl rfl rfl rfl (hst := by simp only [St.drops, St.drop, mapT, mapH, kill, kills, del, St.put, ins, reduceIte, Nat.reduceAdd, Nat.reduceLT, Nat.reduceEqDiff, Bool.false_eq_true]; exact rfl) ?_
  refine AOL.nil ?_
  refine AW.kq [2, 3, 9, 10, 12, 14] (h := ?_)
  repeat refine AW.seq ?_
  refine AW.reg ?_
  iterate 1 refine AOL.s1 (h := ?_)
  refine AOL.callDone (l := 1004) (b := 1004) (⟨Mok.mono p3 (by decide), g3.rok⟩) rfl rfl rfl rfl (hst := by simp only [St.drops, St.drop, mapT, mapH, kill, kills, del, St.put, ins, reduceIte, Nat.reduceAdd, Nat.reduceLT, Nat.reduceEqDiff, Bool.false_eq_true]; exact rfl) ?_
  iterate 6 refine AOL.s1 (h := ?_)
  refine AOL.nil ?_
  refine AW.kq [2, 3, 9, 12, 14, 15, 16] (h := ?_)
  repeat refine AW.seq ?_
  refine AW.reg ?_
  iterate 3 refine AOL.s1 (h := ?_)
  refine AOL.kq [2, 3, 9, 14, 15, 16, 45] (h := ?_)
  iterate 3 refine AOL.s1 (h := ?_)
  refine AOL.nil ?_
  refine AW.kq [2, 3, 9, 15, 16, 48] (h := ?_)
  repeat refine AW.seq ?_
  refine AW.cond rfl (fun c_ => ?_) (fun c_ => ?_)
  · cases c_
  refine AW.skip ?_
  repeat refine AW.seq ?_
  refine AW.reg ?_
  iterate 3 refine AOL.s1 (h := ?_)
  refine AOL.kq [2, 3, 9, 15, 16, 51] (h := ?_)
  refine AOL.or 51 56 (os' := ?_) (x := ?_) (h1 := ?_) (h0 := ?_) (h := ?_)
  rotate_left 2
  iterate 2
    · intro hb_ K' hK; (iterate 5 refine AOL.s1 (h := ?_)); refine AOL.kq [2, 3, 9, 15, 16, 56] (h := ?_); exact hK
  iterate 1 refine AOL.s1 (h := ?_)
  refine AOL.kq [2, 3, 9, 15, 16, 57] (h := ?_)
  refine AOL.or 57 61 (os' := ?_) (x := ?_) (h1 := ?_) (h0 := ?_) (h := ?_)
  rotate_left 2
  iterate 2
    · intro hb_ K' hK; (iterate 4 refine AOL.s1 (h := ?_)); refine AOL.kq [2, 3, 9, 15, 16, 61] (h := ?_); exact hK
  refine AOL.nil ?_
  refine AW.kq [2, 3, 9, 15, 16, 61] (h := ?_)
  repeat refine AW.seq ?_
  refine AW.cond rfl (fun d_ => ?_) (fun d_ => ?_)
  · skip
    repeat refine AW.seq ?_
    refine AW.reg ?_
    iterate 2 refine AOL.s1 (h := ?_)
    refine AOL.nil ?_
    refine AW.kq [8] (h := ?_)
    repeat refine AW.seq ?_
    refine AW.ret ?_
    refine ⟨_, [], rfl, HOk.nil _, ?_⟩
    rfl
  have hd : 3 ≤ at_ ∧ at_ < (o3M a b).vals.length ∧ by_ % 288230376287764481 ≠ 0 := by
    simp at d_; omega
  obtain ⟨n, rfl⟩ : ∃ n : Nat, at_ = n := ⟨at_.toNat, by omega⟩
  obtain ⟨n0, n1, n2⟩ := hd
  have n1' : n < (o3M a b).vals.length := by omega
  obtain ⟨x, hx, hxw, hd⟩ := at_nat n1 g3.wV
  obtain ⟨j, hj⟩ := only_holds2 a b (by omega) hx lv lr n2
  have k0 : (0:Int) ≤ n := by omega
  have cP := obolref07_Plus_c (a := x) (b := by_) hxw hy
  have hst := set_u1 (o3M a b).vals n ((x + by_) % 288230376287764481)
  have lc : n + 1 ≤ (fm u1 (o3M a b).vals).length := by rw [fm_len u1_len]; omega
  have cH := rank_Holds_c (s := sysM (o3M a b)) (V := (o3M a b).vals.set n ((x + by_) % 288230376287764481)) (g3.len lr) g3.wR (by
    intro v hv
    rcases List.mem_or_eq_of_mem_set hv with h' | rfl
    · exact g3.wV v h'
    · exact w64_r _) (by rw [List.length_set]; omega)
  replace cH := Fn.mono (R' := fun r _ => r = spot (j : Int) 8) cH (fun r _ e => e.trans hj)
  have hfz : AV.sl (o3M a b).vals.length (sub 0 ((o3M a b).vals.length * 1) ((fm u1 (o3M a b).vals).set n (u ((x + by_) % 288230376287764481)))) = ul ((o3M a b).vals.set n ((x + by_) % 288230376287764481)) := by
    rw [hst, sub_all (by rw [fm_len u1_len, List.length_set]; exact Nat.le_refl _)]
    show AV.sl _ _ = AV.sl _ _
    rw [List.length_set]
  replace hst : id (_ = _) := hst
  replace hfz : id (_ = _) := hfz
  replace hj : id (_ = _) := hj
  clear d_
  refine AW.skip ?_
  repeat refine AW.seq ?_
  refine AW.reg ?_
  iterate 7 refine AOL.s1 (h := ?_)
  refine AOL.callD rfl (cP) (by kernel_rfl) rfl rfl (h := ?_)
  iterate 2 refine AOL.s1 (h := ?_)
  refine AOL.nil ?_
  refine AW.kq [9, 15, 16] (h := ?_)
  refine AW.fz 1007 rfl (fun h => by cases h) (h := ?_)
  rw [show _ = _ from hfz]
  repeat refine AW.seq ?_
  refine AW.reg ?_
  iterate 2 refine AOL.s1 (h := ?_)
  refine AOL.callD rfl (cH) (by kernel_rfl) rfl rfl (h := ?_)
  iterate 1 refine AOL.s1 (h := ?_)
  refine AOL.nil ?_
  refine AW.kq [9, 17] (h := ?_)
  repeat refine AW.seq ?_
  refine AW.reg ?_
  iterate 2 refine AOL.s1 (h := ?_)
  refine AOL.kq [17, 76] (h := ?_)
  iterate 3 refine AOL.s1 (h := ?_)
  iterate 1 refine AOL.s1 (h := ?_)
  refine AOL.nil ?_
  refine AW.kq [8] (h := ?_)
  repeat refine AW.seq ?_
  refine AW.ret ?_
  refine ⟨_, [], rfl, HOk.nil _, ?_⟩
  rfl
end Go.Proofs.Ytiikiamdbelbjaa.E.M

