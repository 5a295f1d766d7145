/- obolref10: hashes of numbers; whether points are in the group; keys and notes: contracts over E. -/
import Derived.Test.YthajlelljnkdiaaEdw
import Derived.Test.YthajlelljnkdiaaLst
import Derived.Test.YthajlelljnkdiaaProg
import Derived.KernelRfl
set_option linter.unusedVariables false
set_option linter.unusedSimpArgs false
set_option maxRecDepth 10000
open Go Go.Proofs.Ythajlelljnkdiaa.E Go.Proofs
namespace Go.Proofs.Ythajlelljnkdiaa.E.M
abbrev TFul : Prop := tSz Try.prog 36 = some 1 ∧
    tAgg Try.prog 36 = some false ∧
    tBytes Try.prog 36 = some 24 ∧
    tZero Try.prog 36 = some [(.slice none 0 0)] ∧
    tSlice Try.prog 36 = some 23 ∧
    Try.prog.underlying 36 = some (.slice 23) ∧
    tIface Try.prog 36 = some false ∧
    tCls Try.prog 36 = .slice ∧
    tSz Try.prog 23 = some 1 ∧
    tAgg Try.prog 23 = some false ∧
    tBytes Try.prog 23 = some 8 ∧
    tZero Try.prog 23 = some [(.int .u64 0)] ∧
    tSlice Try.prog 23 = none ∧
    tInt Try.prog 23 = some .u64 ∧
    Try.prog.underlying 23 = some (.int .u64) ∧
    tIface Try.prog 23 = some false ∧
    tCls Try.prog 23 = .other
theorem tful : TFul :=
  ⟨rfl, rfl, rfl, rfl, rfl, rfl, rfl, rfl, rfl, rfl, rfl, rfl, rfl, rfl, rfl, rfl, rfl⟩
theorem eqEd : eqT Try.prog 25 = some [.int, .int] := eqT_of (by kernel_rfl) (by kernel_rfl) (by kernel_rfl)
def trn (k : Int) : Nat → Int → Int → Int
  | 0, _, x => x
  | n + 1, c, x => trn k n (rMul c 7) (rMul (rAdd x (rAdd k (rMul c 7))) (rMul (rAdd x (rAdd k (rMul c 7))) (rAdd x (rAdd k (rMul c 7)))))
theorem trn_w (k : Int) : ∀ (n : Nat) {c x : Int}, w64 x → w64 (trn k n c x)
  | 0, _, _, h => h
  | n + 1, _, _, _ => trn_w k n (rMul_l _ _).w
def turnH (k x : Int) : Int := rAdd (trn k 3 1 x) k
def twoH (a b : Int) : Int := rAdd (turnH a b) (rAdd a b)
theorem turnH_l (k x : Int) : lR (turnH k x) := rAdd_l _ _
theorem twoH_l (a b : Int) : lR (twoH a b) := rAdd_l _ _
def manyH (V : List Int) : Int := V.foldl twoH ((V.length : Int) % 288230376287764481)
theorem foldH_l {h : Int} (hh : lR h) : ∀ (V : List Int), lR (V.foldl twoH h)
  | [] => hh
  | _ :: V => foldH_l (twoH_l _ _) V
theorem manyH_l (V : List Int) : lR (manyH V) := foldH_l (lR_m _) V
def keyH (k : Int) : Bool := decide (k ≠ 0) && decide (k < 288230376287764481)
def ptH (p : Int × Int) : Bool := if p = (0, 1) then false else inEd p
def sclH (k : Int) : Int := if k % 72057593894066549 = 0 then 1 else k % 72057593894066549
theorem pair_dec (a b c d : Int) : (a == c && b == d) = decide ((a, b) = (c, d)) := by
  rw [Bool.eq_iff_iff]; simp
set_option maxHeartbeats 1000000 in
theorem obolref07_In_c {p : Int × Int} (hp : wE p) : Fn Try.prog 14 [ed p] [] (fun r h_ => r = bo (inEd p)) := by
  refine Fn.enter Try.func14 Try.ntmps14 rfl (h := ?_)
  have tf := tfe
  have ot_ : (false || true) = true := rfl
  obtain ⟨x, y⟩ := p
  have ci := obolref07_Is_c hp
  have ct := obolref07_Times_c (k := 72057593894066549) hp (by decide)
  have eq := eqEd
  unfold inEd
  cases hi : isEd (x, y) with
  | false =>
    rw [hi] at ci
    repeat refine AW.seq ?_
    refine AW.reg ?_
    iterate 2 refine AOL.s1 (h := ?_)
    refine AOL.nil ?_
    refine AW.kq [1] (h := ?_)
    repeat refine AW.seq ?_
    refine AW.reg ?_
    iterate 1 refine AOL.s1 (h := ?_)
    refine AOL.callD rfl (ci) (by kernel_rfl) rfl rfl (h := ?_)
    iterate 1 refine AOL.s1 (h := ?_)
    refine AOL.nil ?_
    refine AW.kq [1, 3] (h := ?_)
    repeat refine AW.seq ?_
    refine AW.reg ?_
    iterate 8 refine AOL.s1 (h := ?_)
    refine AOL.nil ?_
    refine AW.kq [2] (h := ?_)
    repeat refine AW.seq ?_
    refine AW.ret ?_
    refine ⟨_, [], rfl, HOk.nil _, ?_⟩
    rfl
  | true =>
  rw [hi] at ci
  generalize timesEd (x, y) 72057593894066549 = q at *
  obtain ⟨qx, qy⟩ := q
  repeat refine AW.seq ?_
  refine AW.reg ?_
  iterate 2 refine AOL.s1 (h := ?_)
  refine AOL.nil ?_
  refine AW.kq [1] (h := ?_)
  repeat refine AW.seq ?_
  refine AW.reg ?_
  iterate 1 refine AOL.s1 (h := ?_)
  refine AOL.callD rfl (ci) (by kernel_rfl) rfl rfl (h := ?_)
  iterate 1 refine AOL.s1 (h := ?_)
  refine AOL.nil ?_
  refine AW.kq [1, 3] (h := ?_)
  repeat refine AW.seq ?_
  refine AW.reg ?_
  iterate 2 refine AOL.s1 (h := ?_)
  refine AOL.kq [1, 7] (h := ?_)
  iterate 1 refine AOL.s1 (h := ?_)
  refine AOL.callD rfl (ct) (by kernel_rfl) rfl rfl (h := ?_)
  iterate 3 refine AOL.s1 (h := ?_)
  iterate 1 refine AOL.s1 (h := ?_)
  refine AOL.nil ?_
  refine AW.kq [2] (h := ?_)
  repeat refine AW.seq ?_
  refine AW.ret ?_
  refine ⟨_, [], rfl, HOk.nil _, ?_⟩
  rw [Bool.true_and, ← pair_dec]
  rfl
set_option maxHeartbeats 1000000 in
theorem obolref17_Point_c {p : Int × Int} (hp : wE p) : Fn Try.prog 16 [ed p] [] (fun r h_ => r = bo (ptH p)) := by
  refine Fn.enter Try.func16 Try.ntmps16 rfl (h := ?_)
  have tf := tfe
  have ot_ : (false || true) = true := rfl
  obtain ⟨x, y⟩ := p
  have ci := obolref07_In_c hp
  have eq := eqEd
  have pd := pair_dec x y 0 1
  unfold ptH
  cases h0 : (x == 0 && y == 1) with
  | true =>
    have g0 : (x, y) = ((0, 1) : Int × Int) := by rw [h0] at pd; simpa using pd
    rw [if_pos g0]
    repeat refine AW.seq ?_
    refine AW.reg ?_
    iterate 2 refine AOL.s1 (h := ?_)
    refine AOL.nil ?_
    refine AW.kq [1] (h := ?_)
    repeat refine AW.seq ?_
    refine AW.reg ?_
    iterate 8 refine AOL.s1 (h := ?_)
    refine AOL.nil ?_
    refine AW.kq [2] (h := ?_)
    repeat refine AW.seq ?_
    refine AW.ret ?_
    refine ⟨_, [], rfl, HOk.nil _, ?_⟩
    rfl
  | false =>
  have g0 : ¬ (x, y) = ((0, 1) : Int × Int) := by rw [h0] at pd; simpa using pd
  rw [if_neg g0]
  clear pd g0
  repeat refine AW.seq ?_
  refine AW.reg ?_
  iterate 2 refine AOL.s1 (h := ?_)
  refine AOL.nil ?_
  refine AW.kq [1] (h := ?_)
  repeat refine AW.seq ?_
  refine AW.reg ?_
  iterate 4 refine AOL.s1 (h := ?_)
  refine AOL.kq [1, 6] (h := ?_)
  iterate 1 refine AOL.s1 (h := ?_)
  refine AOL.callD rfl (ci) (by kernel_rfl) rfl rfl (h := ?_)
  iterate 1 refine AOL.s1 (h := ?_)
  iterate 1 refine AOL.s1 (h := ?_)
  refine AOL.nil ?_
  refine AW.kq [2] (h := ?_)
  repeat refine AW.seq ?_
  refine AW.ret ?_
  refine ⟨_, [], rfl, HOk.nil _, ?_⟩
  rfl
set_option maxHeartbeats 1000000 in
theorem obolref10_Turn_c {k x : Int} (hk : w64 k) (hx : w64 x) : Fn Try.prog 37 [u k, u x] [] (fun r h_ => r = u (turnH k x)) := by
  refine Fn.enter Try.func37 Try.ntmps37 rfl (h := ?_)
  have tf := tfe
  have ot_ : (false || true) = true := rfl
  repeat refine AW.seq ?_
  refine AW.reg ?_
  iterate 1 refine AOL.s1 (h := ?_)
  refine AOL.nil ?_
  refine AW.kq [0, 1] (h := ?_)
  repeat refine AW.seq ?_
  refine AW.reg ?_
  iterate 1 refine AOL.s1 (h := ?_)
  refine AOL.nil ?_
  refine AW.kq [0, 1, 5] (h := ?_)
  repeat refine AW.seq ?_
  refine AW.reg ?_
  iterate 1 refine AOL.s1 (h := ?_)
  refine AOL.nil ?_
  refine AW.kq [0, 1, 5, 6] (h := ?_)
  repeat refine AW.seq ?_
  refine AW.block ?_
  repeat refine AW.seq ?_
  refine AW.loopK [0, 1, 5, 6] (fun n s => ∃ (j : Nat) (c y : Int), s = ⟨27, [(0, u k), (1, u y), (5, u c), (6, i j)], []⟩ ∧ j + n = 3 ∧ w64 c ∧ w64 y ∧ trn k n c y = trn k 3 1 x) (3) ?_ ?_
  · exact ⟨0, 1, x, rfl, rfl, by decide, hx, rfl⟩
  rintro n s ⟨j, c, y, rfl, hj, hc, hy, ht⟩
  repeat refine AW.seq ?_
  refine AW.reg ?_
  iterate 2 refine AOL.s1 (h := ?_)
  refine AOL.nil ?_
  refine AW.kq [0, 1, 5, 6, 9] (h := ?_)
  repeat refine AW.seq ?_
  refine AW.cond rfl (fun c_ => ?_) (fun c_ => ?_)
  · have j1 : j < 3 := by simp at c_; omega
    obtain ⟨n, rfl⟩ : ∃ m, n = m + 1 := ⟨n - 1, by omega⟩
    have k2 : IntKind.i64.wrap ((j : Int) + 1) = ((j + 1 : Nat) : Int) := by rw [wrapI_o (by omega) (by omega)]; omega
    have ht : trn k n (rMul c 7) (rMul (rAdd y (rAdd k (rMul c 7))) (rMul (rAdd y (rAdd k (rMul c 7))) (rAdd y (rAdd k (rMul c 7))))) = trn k 3 1 x := ht
    refine AW.skip ?_
    repeat refine AW.seq ?_
    refine AW.block ?_
    repeat refine AW.seq ?_
    refine AW.reg ?_
    iterate 1 refine AOL.s1 (h := ?_)
    refine AOL.callD rfl (obolref07_Mul_c hc w_7) (by kernel_rfl) rfl rfl (h := ?_)
    iterate 1 refine AOL.s1 (h := ?_)
    refine AOL.nil ?_
    refine AW.kq [0, 1, 5, 6] (h := ?_)
    repeat refine AW.seq ?_
    refine AW.reg ?_
    iterate 3 refine AOL.s1 (h := ?_)
    refine AOL.callD rfl (obolref07_Plus_c hk (rMul_l _ _).w) (by kernel_rfl) rfl rfl (h := ?_)
    refine AOL.callD rfl (obolref07_Plus_c hy (rAdd_l _ _).w) (by kernel_rfl) rfl rfl (h := ?_)
    iterate 1 refine AOL.s1 (h := ?_)
    refine AOL.nil ?_
    refine AW.kq [0, 5, 6, 7] (h := ?_)
    repeat refine AW.seq ?_
    refine AW.reg ?_
    iterate 3 refine AOL.s1 (h := ?_)
    refine AOL.callD rfl (obolref07_Mul_c (rAdd_l _ _).w (rAdd_l _ _).w) (by kernel_rfl) rfl rfl (h := ?_)
    refine AOL.callD rfl (obolref07_Mul_c (rAdd_l _ _).w (rMul_l _ _).w) (by kernel_rfl) rfl rfl (h := ?_)
    iterate 1 refine AOL.s1 (h := ?_)
    refine AOL.nil ?_
    repeat refine AW.seq ?_
    refine AW.reg ?_
    iterate 3 refine AOL.s1 (h := ?_)
    refine AOL.nil ?_
    exact ⟨n, by omega, j + 1, _, _, rfl, by omega, (rMul_l _ _).w, (rMul_l _ _).w, ht⟩
  · have j1 : j = 3 := by simp at c_; omega
    have n0 : n = 0 := by omega
    subst n0
    have hT : trn k 3 1 x = y := ht.symm
    clear ht
    repeat refine AW.seq ?_
    refine AW.exit ?_
    repeat (first | refine Kseq.ex ?_ | refine Kloop.ex ?_ | refine Kblock.miss (by decide) ?_)
    refine Kblock.hit ?_
    refine AW.kq [0, 1] (h := ?_)
    repeat refine AW.seq ?_
    refine AW.reg ?_
    iterate 2 refine AOL.s1 (h := ?_)
    refine AOL.callD rfl (obolref07_Plus_c hy hk) (by kernel_rfl) rfl rfl (h := ?_)
    iterate 1 refine AOL.s1 (h := ?_)
    refine AOL.nil ?_
    refine AW.kq [4] (h := ?_)
    repeat refine AW.seq ?_
    refine AW.ret ?_
    refine ⟨_, [], rfl, HOk.nil _, ?_⟩
    rw [turnH, hT]; rfl
set_option maxHeartbeats 1000000 in
theorem obolref10_Two_c {a b : Int} (ha : w64 a) (hb : w64 b) : Fn Try.prog 28 [u a, u b] [] (fun r h_ => r = u (twoH a b)) := by
  refine Fn.enter Try.func28 Try.ntmps28 rfl (h := ?_)
  have tf := tfe
  have ot_ : (false || true) = true := rfl
  repeat refine AW.seq ?_
  refine AW.reg ?_
  iterate 1 refine AOL.s1 (h := ?_)
  refine AOL.nil ?_
  refine AW.kq [0, 1] (h := ?_)
  repeat refine AW.seq ?_
  refine AW.reg ?_
  iterate 2 refine AOL.s1 (h := ?_)
  refine AOL.callD rfl (obolref10_Turn_c ha hb) (by kernel_rfl) rfl rfl (h := ?_)
  iterate 2 refine AOL.s1 (h := ?_)
  refine AOL.callD rfl (obolref07_Plus_c ha hb) (by kernel_rfl) rfl rfl (h := ?_)
  refine AOL.callD rfl (obolref07_Plus_c (turnH_l _ _).w (rAdd_l _ _).w) (by kernel_rfl) rfl rfl (h := ?_)
  iterate 1 refine AOL.s1 (h := ?_)
  refine AOL.nil ?_
  refine AW.kq [4] (h := ?_)
  repeat refine AW.seq ?_
  refine AW.ret ?_
  refine ⟨_, [], rfl, HOk.nil _, ?_⟩
  rfl
set_option maxHeartbeats 1000000 in
theorem obolref10_Many_c {V : List Int} (hV : wV V) (lV : V.length < 1000000000) : Fn Try.prog 34 [ul V] [] (fun r h_ => r = u (manyH V)) := by
  refine Fn.enter Try.func34 Try.ntmps34 rfl (h := ?_)
  have tf := tfe
  have ot_ : (false || true) = true := rfl
  have tf2 := tful
  have w1 := wrapU_o (n := (V.length : Int)) (by omega) (by omega)
  have t1 := tmod_nn (m := 288230376287764481) (a := (V.length : Int)) (by omega)
  repeat refine AW.seq ?_
  refine AW.reg ?_
  iterate 1 refine AOL.s1 (h := ?_)
  refine AOL.nil ?_
  refine AW.kq [0] (h := ?_)
  repeat refine AW.seq ?_
  refine AW.reg ?_
  iterate 5 refine AOL.s1 (h := ?_)
  refine AOL.nil ?_
  refine AW.kq [0, 3] (h := ?_)
  repeat refine AW.seq ?_
  refine AW.reg ?_
  iterate 1 refine AOL.s1 (h := ?_)
  refine AOL.nil ?_
  refine AW.kq [0, 3, 4] (h := ?_)
  repeat refine AW.seq ?_
  refine AW.block ?_
  repeat refine AW.seq ?_
  refine AW.loopK [0, 3, 4] (fun n s => ∃ (k : Nat) (h : Int) (r : List Int), s = ⟨22, [(0, ul V), (3, u h), (4, i k)], []⟩ ∧ V.drop k = r ∧ k ≤ V.length ∧ n = r.length ∧ w64 h ∧ r.foldl twoH h = manyH V) (V.length) ?_ ?_
  · exact ⟨0, _, V, rfl, rfl, Nat.zero_le _, rfl, (lR_m _).w, rfl⟩
  rintro n s ⟨k, h, r, rfl, hr, hkl, rfl, hh, hi⟩
  repeat refine AW.seq ?_
  refine AW.reg ?_
  iterate 4 refine AOL.s1 (h := ?_)
  refine AOL.nil ?_
  refine AW.kq [0, 3, 4, 12] (h := ?_)
  repeat refine AW.seq ?_
  refine AW.cond rfl (fun c_ => ?_) (fun c_ => ?_)
  · obtain ⟨t, r, rfl⟩ := ends_cons hr hkl (by simpa using c_)
    obtain ⟨hlt, hr', ht⟩ := dconsq hr
    have hw := incq hlt lV
    have k0 : (0:Int) ≤ k := by omega
    have k1 : (k:Int) < V.length := by omega
    have hd : (fm u1 V).drop (k * 1) = u t :: fm u1 r := fm_drop u1_len hr
    have hd' : (fm u1 V).drop k = u t :: fm u1 r := by simpa using hd
    have wt : w64 t := hV t (List.mem_of_getElem? ht)
    have hi : r.foldl twoH (twoH h t) = manyH V := hi
    refine AW.skip ?_
    repeat refine AW.seq ?_
    refine AW.block ?_
    repeat refine AW.seq ?_
    refine AW.reg ?_
    iterate 5 refine AOL.s1 (h := ?_)
    refine AOL.callD rfl (obolref10_Two_c hh wt) (by kernel_rfl) rfl rfl (h := ?_)
    iterate 1 refine AOL.s1 (h := ?_)
    refine AOL.nil ?_
    repeat refine AW.seq ?_
    refine AW.reg ?_
    iterate 3 refine AOL.s1 (h := ?_)
    refine AOL.nil ?_
    exact ⟨r.length, by simp, k + 1, _, r, rfl, hr', hlt, rfl, (twoH_l _ _).w, hi⟩
  · obtain rfl := ends_nil hr (by simpa using c_)
    have hi : h = manyH V := hi
    subst hi
    repeat refine AW.seq ?_
    refine AW.exit ?_
    repeat (first | refine Kseq.ex ?_ | refine Kloop.ex ?_ | refine Kblock.miss (by decide) ?_)
    refine Kblock.hit ?_
    refine AW.kq [3] (h := ?_)
    repeat refine AW.seq ?_
    refine AW.reg ?_
    iterate 2 refine AOL.s1 (h := ?_)
    refine AOL.nil ?_
    refine AW.kq [2] (h := ?_)
    repeat refine AW.seq ?_
    refine AW.ret ?_
    refine ⟨_, [], rfl, HOk.nil _, ?_⟩
    rfl
end Go.Proofs.Ythajlelljnkdiaa.E.M

