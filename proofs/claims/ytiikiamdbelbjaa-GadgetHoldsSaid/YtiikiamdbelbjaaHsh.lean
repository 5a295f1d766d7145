/- obolref10: hashes of numbers: contracts over E. -/
import Derived.Test.YtiikiamdbelbjaaHdf
import Derived.Test.YtiikiamdbelbjaaQapB
import Derived.Test.YtiikiamdbelbjaaProg
import Derived.KernelRfl
set_option linter.unusedVariables false
set_option linter.unusedSimpArgs false
set_option maxRecDepth 10000
open Go Go.Proofs.Ytiikiamdbelbjaa.E Go.Proofs
namespace Go.Proofs.Ytiikiamdbelbjaa.E.M
theorem obolref07_Mul_r {a b : Int} (ha : w64 a) (hb : w64 b) : Fn Try.prog 52 [u a, u b] [] (fun r h_ => r = u (rMul a b)) := obolref07_Mul_c ha hb
theorem obolref07_Plus_r {a b : Int} (ha : w64 a) (hb : w64 b) : Fn Try.prog 13 [u a, u b] [] (fun r h_ => r = u (rAdd a b)) := obolref07_Plus_c ha hb
set_option maxHeartbeats 1000000 in
theorem obolref10_Turn_c {k x : Int} (hk : w64 k) (hx : w64 x) : Fn Try.prog 40 [u k, u x] [] (fun r h_ => r = u (turnH k x)) := by
  refine Fn.enter Try.func40 Try.ntmps40 rfl (h := ?_)
  have tf := tfr
  have ot_ : (false || true) = true := rfl
  repeat refine AW.seq ?_
  refine AW.reg ?_
  iterate 1 refine AOL.s1 (h := ?_)
  refine AOL.nil ?_
  refine AW.kq [0, 1] (h := ?_)
  repeat refine AW.seq ?_
  refine AW.reg ?_
  iterate 1 refine AOL.s1 (h := ?_)
  refine AOL.nil ?_
  refine AW.kq [0, 1, 5] (h := ?_)
  repeat refine AW.seq ?_
  refine AW.reg ?_
  iterate 1 refine AOL.s1 (h := ?_)
  refine AOL.nil ?_
  refine AW.kq [0, 1, 5, 6] (h := ?_)
  repeat refine AW.seq ?_
  refine AW.block ?_
  repeat refine AW.seq ?_
  refine AW.loopK [0, 1, 5, 6] (fun n s => ∃ (j : Nat) (c y : Int), s = ⟨27, [(0, u k), (1, u y), (5, u c), (6, i j)], []⟩ ∧ j + n = 3 ∧ w64 c ∧ w64 y ∧ trn k n c y = trn k 3 1 x) (3) ?_ ?_
  · exact ⟨0, 1, x, rfl, rfl, by decide, hx, rfl⟩
  rintro n s ⟨j, c, y, rfl, hj, hc, hy, ht⟩
  repeat refine AW.seq ?_
  refine AW.reg ?_
  iterate 2 refine AOL.s1 (h := ?_)
  refine AOL.nil ?_
  refine AW.kq [0, 1, 5, 6, 9] (h := ?_)
  repeat refine AW.seq ?_
  refine AW.cond rfl (fun c_ => ?_) (fun c_ => ?_)
  · have j1 : j < 3 := by simp at c_; omega
    obtain ⟨n, rfl⟩ : ∃ m, n = m + 1 := ⟨n - 1, by omega⟩
    have k2 : IntKind.i64.wrap ((j : Int) + 1) = ((j + 1 : Nat) : Int) := by rw [wrapI_o (by omega) (by omega)]; omega
    have ht : trn k n (rMul c 7) (rMul (rAdd y (rAdd k (rMul c 7))) (rMul (rAdd y (rAdd k (rMul c 7))) (rAdd y (rAdd k (rMul c 7))))) = trn k 3 1 x := ht
    refine AW.skip ?_
    repeat refine AW.seq ?_
    refine AW.block ?_
    repeat refine AW.seq ?_
    refine AW.reg ?_
    iterate 1 refine AOL.s1 (h := ?_)
    refine AOL.callD rfl (obolref07_Mul_r hc w_7) (by kernel_rfl) rfl rfl (h := ?_)
    iterate 1 refine AOL.s1 (h := ?_)
    refine AOL.nil ?_
    refine AW.kq [0, 1, 5, 6] (h := ?_)
    repeat refine AW.seq ?_
    refine AW.reg ?_
    iterate 3 refine AOL.s1 (h := ?_)
    refine AOL.callD rfl (obolref07_Plus_r hk (rMul_l _ _).w) (by kernel_rfl) rfl rfl (h := ?_)
    refine AOL.callD rfl (obolref07_Plus_r hy (rAdd_l _ _).w) (by kernel_rfl) rfl rfl (h := ?_)
    iterate 1 refine AOL.s1 (h := ?_)
    refine AOL.nil ?_
    refine AW.kq [0, 5, 6, 7] (h := ?_)
    repeat refine AW.seq ?_
    refine AW.reg ?_
    iterate 3 refine AOL.s1 (h := ?_)
    refine AOL.callD rfl (obolref07_Mul_r (rAdd_l _ _).w (rAdd_l _ _).w) (by kernel_rfl) rfl rfl (h := ?_)
    refine AOL.callD rfl (obolref07_Mul_r (rAdd_l _ _).w (rMul_l _ _).w) (by kernel_rfl) rfl rfl (h := ?_)
    iterate 1 refine AOL.s1 (h := ?_)
    refine AOL.nil ?_
    repeat refine AW.seq ?_
    refine AW.reg ?_
    iterate 3 refine AOL.s1 (h := ?_)
    refine AOL.nil ?_
    exact ⟨n, by omega, j + 1, _, _, rfl, by omega, (rMul_l _ _).w, (rMul_l _ _).w, ht⟩
  · have j1 : j = 3 := by simp at c_; omega
    have n0 : n = 0 := by omega
    subst n0
    have hT : trn k 3 1 x = y := ht.symm
    clear ht
    repeat refine AW.seq ?_
    refine AW.exit ?_
    repeat (first | refine Kseq.ex ?_ | refine Kloop.ex ?_ | refine Kblock.miss (by decide) ?_)
    refine Kblock.hit ?_
    refine AW.kq [0, 1] (h := ?_)
    repeat refine AW.seq ?_
    refine AW.reg ?_
    iterate 2 refine AOL.s1 (h := ?_)
    refine AOL.callD rfl (obolref07_Plus_r hy hk) (by kernel_rfl) rfl rfl (h := ?_)
    iterate 1 refine AOL.s1 (h := ?_)
    refine AOL.nil ?_
    refine AW.kq [4] (h := ?_)
    repeat refine AW.seq ?_
    refine AW.ret ?_
    refine ⟨_, [], rfl, HOk.nil _, ?_⟩
    rw [turnH, hT]; rfl
set_option maxHeartbeats 1000000 in
theorem obolref10_Two_c {a b : Int} (ha : w64 a) (hb : w64 b) : Fn Try.prog 18 [u a, u b] [] (fun r h_ => r = u (twoH a b)) := by
  refine Fn.enter Try.func18 Try.ntmps18 rfl (h := ?_)
  have tf := tfr
  have ot_ : (false || true) = true := rfl
  repeat refine AW.seq ?_
  refine AW.reg ?_
  iterate 1 refine AOL.s1 (h := ?_)
  refine AOL.nil ?_
  refine AW.kq [0, 1] (h := ?_)
  repeat refine AW.seq ?_
  refine AW.reg ?_
  iterate 2 refine AOL.s1 (h := ?_)
  refine AOL.callD rfl (obolref10_Turn_c ha hb) (by kernel_rfl) rfl rfl (h := ?_)
  iterate 2 refine AOL.s1 (h := ?_)
  refine AOL.callD rfl (obolref07_Plus_r ha hb) (by kernel_rfl) rfl rfl (h := ?_)
  refine AOL.callD rfl (obolref07_Plus_r (turnH_l _ _).w (rAdd_l _ _).w) (by kernel_rfl) rfl rfl (h := ?_)
  iterate 1 refine AOL.s1 (h := ?_)
  refine AOL.nil ?_
  refine AW.kq [4] (h := ?_)
  repeat refine AW.seq ?_
  refine AW.ret ?_
  refine ⟨_, [], rfl, HOk.nil _, ?_⟩
  rfl
set_option maxHeartbeats 1000000 in
theorem obolref10_Many_c {V : List Int} (hV : wV V) (lV : V.length < 1000000000) : Fn Try.prog 19 [ul V] [] (fun r h_ => r = u (manyH V)) := by
  refine Fn.enter Try.func19 Try.ntmps19 rfl (h := ?_)
  have tf := tfr
  have ot_ : (false || true) = true := rfl
  have tf2 := tfr
  have w1 := wrapU_o (n := (V.length : Int)) (by omega) (by omega)
  have t1 := tmod_nn (m := 288230376287764481) (a := (V.length : Int)) (by omega)
  repeat refine AW.seq ?_
  refine AW.reg ?_
  iterate 1 refine AOL.s1 (h := ?_)
  refine AOL.nil ?_
  refine AW.kq [0] (h := ?_)
  repeat refine AW.seq ?_
  refine AW.reg ?_
  iterate 5 refine AOL.s1 (h := ?_)
  refine AOL.nil ?_
  refine AW.kq [0, 3] (h := ?_)
  repeat refine AW.seq ?_
  refine AW.reg ?_
  iterate 1 refine AOL.s1 (h := ?_)
  refine AOL.nil ?_
  refine AW.kq [0, 3, 4] (h := ?_)
  repeat refine AW.seq ?_
  refine AW.block ?_
  repeat refine AW.seq ?_
  refine AW.loopK [0, 3, 4] (fun n s => ∃ (k : Nat) (h : Int) (r : List Int), s = ⟨22, [(0, ul V), (3, u h), (4, i k)], []⟩ ∧ V.drop k = r ∧ k ≤ V.length ∧ n = r.length ∧ w64 h ∧ r.foldl twoH h = manyH V) (V.length) ?_ ?_
  · exact ⟨0, _, V, rfl, rfl, Nat.zero_le _, rfl, (lR_m _).w, rfl⟩
  rintro n s ⟨k, h, r, rfl, hr, hkl, rfl, hh, hi⟩
  repeat refine AW.seq ?_
  refine AW.reg ?_
  iterate 4 refine AOL.s1 (h := ?_)
  refine AOL.nil ?_
  refine AW.kq [0, 3, 4, 12] (h := ?_)
  repeat refine AW.seq ?_
  refine AW.cond rfl (fun c_ => ?_) (fun c_ => ?_)
  · obtain ⟨t, r, rfl⟩ := ends_cons hr hkl (by simpa using c_)
    obtain ⟨hlt, hr', ht⟩ := dconsq hr
    have hw := incq hlt lV
    have k0 : (0:Int) ≤ k := by omega
    have k1 : (k:Int) < V.length := by omega
    have hd : (fm u1 V).drop (k * 1) = u t :: fm u1 r := fm_drop u1_len hr
    have hd' : (fm u1 V).drop k = u t :: fm u1 r := by simpa using hd
    have wt : w64 t := hV t (List.mem_of_getElem? ht)
    have hi : r.foldl twoH (twoH h t) = manyH V := hi
    refine AW.skip ?_
    repeat refine AW.seq ?_
    refine AW.block ?_
    repeat refine AW.seq ?_
    refine AW.reg ?_
    iterate 5 refine AOL.s1 (h := ?_)
    refine AOL.callD rfl (obolref10_Two_c hh wt) (by kernel_rfl) rfl rfl (h := ?_)
    iterate 1 refine AOL.s1 (h := ?_)
    refine AOL.nil ?_
    repeat refine AW.seq ?_
    refine AW.reg ?_
    iterate 3 refine AOL.s1 (h := ?_)
    refine AOL.nil ?_
    exact ⟨r.length, by simp, k + 1, _, r, rfl, hr', hlt, rfl, (twoH_l _ _).w, hi⟩
  · obtain rfl := ends_nil hr (by simpa using c_)
    have hi : h = manyH V := hi
    subst hi
    repeat refine AW.seq ?_
    refine AW.exit ?_
    repeat (first | refine Kseq.ex ?_ | refine Kloop.ex ?_ | refine Kblock.miss (by decide) ?_)
    refine Kblock.hit ?_
    refine AW.kq [3] (h := ?_)
    repeat refine AW.seq ?_
    refine AW.reg ?_
    iterate 2 refine AOL.s1 (h := ?_)
    refine AOL.nil ?_
    refine AW.kq [2] (h := ?_)
    repeat refine AW.seq ?_
    refine AW.ret ?_
    refine ⟨_, [], rfl, HOk.nil _, ?_⟩
    rfl
end Go.Proofs.Ytiikiamdbelbjaa.E.M

