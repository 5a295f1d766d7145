/- The values of a domain's base, and of all variables: contracts over E. -/
import Derived.Test.YtdbpjegocmdplaaQapD
import Derived.Test.YtdbpjegocmdplaaProg
import Derived.KernelRfl
set_option linter.unusedVariables false
set_option linter.unusedSimpArgs false
set_option maxRecDepth 10000
open Go Go.Proofs.Ytdbpjegocmdplaa.E Go.Proofs
namespace Go.Proofs.Ytdbpjegocmdplaa.E.M
theorem cmk64 {n : Nat} (h : n ≤ 1000000000) : cMake Try.prog 28 (n:Int) (n:Int) = some (25, 1, fm u1 (List.replicate n 0)) := by
  have tf := tfr
  rw [← fm_rep]
  simp only [cMake, tf]
  rw [if_pos (by refine ⟨rfl, by decide, rfl, by omega, by omega, by omega, by omega⟩)]
  rfl
/-- a row that is filled from its begin on -/
def upL (f : Nat → Int) (n j : Nat) : List Int := (List.range j).map f ++ List.replicate (n - j) 0
theorem upL_zero (f : Nat → Int) (n : Nat) : upL f n 0 = List.replicate n 0 := by simp [upL]
theorem upL_full (f : Nat → Int) (n : Nat) : upL f n n = (List.range n).map f := by simp [upL]
theorem upL_len (f : Nat → Int) {n j : Nat} (h : j ≤ n) : (upL f n j).length = n := by simp [upL]; omega
theorem upL_set (f : Nat → Int) {n j : Nat} (h : j < n) : (upL f n j).set j (f j) = upL f n (j + 1) := by
  have e : n - j = (n - (j + 1)) + 1 := by omega
  unfold upL
  rw [List.set_append_right _ _ (by simp), e, List.replicate_succ]
  simp [List.range_succ]
def lagI (x b w : Int) (j : Nat) : Int := if (x - pwq w j) % 288230376287764481 = 0 then 1 else b * pwq w j % 288230376287764481 * ipow 288230376287764481 ((x - pwq w j) % 288230376287764481) 288230376287764479 % 288230376287764481
def zF (k : Nat) (x : Int) : Int := (ipow 288230376287764481 x (2 ^ k : Nat) - 1) % 288230376287764481
def byF (k : Nat) (x : Int) : Int := zF k x * ipow 288230376287764481 (2 ^ k : Nat) 288230376287764479 % 288230376287764481
def lagF (k : Nat) (x : Int) : List Int := (List.range (2 ^ k)).map (lagI x (byF k x) (rootF k))
theorem lagI_w (x b w : Int) (j : Nat) : w64 (lagI x b w j) := by
  unfold lagI; split
  · decide
  · exact w64_r _
theorem lagF_w (k : Nat) (x : Int) : wV (lagF k x) := by
  intro v hv
  obtain ⟨j, _, rfl⟩ := List.mem_map.1 hv
  exact lagI_w _ _ _ j
theorem lagF_len (k : Nat) (x : Int) : (lagF k x).length = 2 ^ k := by simp [lagF]
set_option maxHeartbeats 8000000 in
theorem poly_Lagrange_o {k : Nat} {x : Int} (h : k ≤ 12) (hx : w64 x) : Fn Try.prog 50 [i k, u x] [] (Tells (.tup [.ref 1000 0 (2 ^ k) 1, nil_]) [(1000, blk (lagF k x))]) := by
  refine Fn.enter Try.func50 Try.ntmps50 rfl (h := ?_)
  have tf := tfr
  have ot_ : (false || true) = true := rfl
  have cr := poly_Root_c h
  have hr := rootF_w k h
  have k0 : ¬ (k:Int) < 0 := by omega
  have sh := shlu (k := k) (by omega)
  rw [Int.toNat_natCast] at sh
  obtain ⟨t1, t2⟩ := two_le h
  have hN : w64 ((2 ^ k : Nat) : Int) := by omega
  have hmk := mk64 (n := 2 ^ k) (by omega)
  have e1 : lagF k x = (List.range (2 ^ k)).map (lagI x (byF k x) (rootF k)) := rfl
  have e2 : byF k x = zF k x * ipow 288230376287764481 (2 ^ k : Nat) 288230376287764479 % 288230376287764481 := rfl
  have e3 : zF k x = (ipow 288230376287764481 x (2 ^ k : Nat) - 1) % 288230376287764481 := rfl
  have z0 : (0:Int) ≤ 0 := by decide
  rw [e1, e2, e3]
  clear e1 e2 e3
  generalize rootF k = w at *
  generalize 2 ^ k = N at *
  have p1 := ipow_w (a := x) (e := (N:Int)) hx.1 hN
  have p2 := ipow_w (a := (N:Int)) (e := 288230376287764479) hN.1 (by decide)
  repeat refine AW.seq ?_
  refine AW.reg ?_
  iterate 2 refine AOL.s1 (h := ?_)
  refine AOL.nil ?_
  refine AW.kq [0, 1] (h := ?_)
  repeat refine AW.seq ?_
  refine AW.reg ?_
  iterate 1 refine AOL.s1 (h := ?_)
  refine AOL.callD rfl (cr) (by kernel_rfl) rfl rfl (h := ?_)
  iterate 5 refine AOL.s1 (h := ?_)
  refine AOL.nil ?_
  refine AW.kq [0, 1, 6, 7] (h := ?_)
  repeat refine AW.seq ?_
  refine AW.reg ?_
  iterate 2 refine AOL.s1 (h := ?_)
  refine AOL.nil ?_
  refine AW.kq [0, 1, 6, 7, 21] (h := ?_)
  repeat refine AW.seq ?_
  refine AW.cond rfl (fun c_ => ?_) (fun c_ => ?_)
  · cases c_
  refine AW.skip ?_
  repeat refine AW.seq ?_
  refine AW.reg ?_
  iterate 3 refine AOL.s1 (h := ?_)
  refine AOL.nil ?_
  refine AW.kq [1, 6, 8] (h := ?_)
  repeat refine AW.seq ?_
  refine AW.reg ?_
  iterate 2 refine AOL.s1 (h := ?_)
  refine AOL.callD rfl (modular_Pow_c hR hx hN) (by kernel_rfl) rfl rfl (h := ?_)
  refine AOL.callD rfl (modular_Sub_c hR p1 (by decide)) (by kernel_rfl) rfl rfl (h := ?_)
  iterate 1 refine AOL.s1 (h := ?_)
  refine AOL.nil ?_
  refine AW.kq [1, 6, 8, 9] (h := ?_)
  repeat refine AW.seq ?_
  refine AW.reg ?_
  iterate 2 refine AOL.s1 (h := ?_)
  refine AOL.callD rfl (modular_Pow_c hR hN (by decide)) (by kernel_rfl) rfl rfl (h := ?_)
  refine AOL.callD rfl (poly_mul_c (w64_r _) p2) (by kernel_rfl) rfl rfl (h := ?_)
  iterate 1 refine AOL.s1 (h := ?_)
  refine AOL.nil ?_
  refine AW.kq [1, 6, 8, 10] (h := ?_)
  repeat refine AW.seq ?_
  refine AW.reg ?_
  iterate 3 refine AOL.s1 (h := ?_)
  refine AOL.nil ?_
  refine AW.kq [1, 6, 10, 11] (h := ?_)
  repeat refine AW.seq ?_
  refine AW.reg ?_
  iterate 1 refine AOL.s1 (h := ?_)
  refine AOL.nil ?_
  refine AW.kq [1, 6, 10, 11, 12] (h := ?_)
  repeat refine AW.seq ?_
  refine AW.reg ?_
  iterate 3 refine AOL.s1 (h := ?_)
  refine AOL.nil ?_
  refine AW.kq [1, 6, 10, 11, 12, 36, 37] (h := ?_)
  repeat refine AW.seq ?_
  refine AW.block ?_
  repeat refine AW.seq ?_
  clear hmk
  generalize hb : (ipow 288230376287764481 x N - 1) % 288230376287764481 * ipow 288230376287764481 N 288230376287764479 % 288230376287764481 = b at *
  have hbw : w64 b := by rw [← hb]; exact w64_r _
  clear hb p1 p2
  refine AW.loopK [1, 6, 10, 11, 12, 36, 37] (fun n s => ∃ (j : Nat), s = ⟨62, [(1, u x), (6, u w), (10, u b), (11, .ref 1544 0 N 1), (12, u (pwq w j)), (36, i N), (37, i j)], [(1544, blk (upL (lagI x b w) N j))]⟩ ∧ j ≤ N ∧ n = N - j) (N) ?_ ?_
  · exact ⟨0, by rw [upL_zero]; rfl, Nat.zero_le _, rfl⟩
  rintro n s ⟨j, rfl, jN, rfl⟩
  repeat refine AW.seq ?_
  refine AW.reg ?_
  iterate 1 refine AOL.s1 (h := ?_)
  refine AOL.nil ?_
  refine AW.kq [1, 6, 10, 11, 12, 36, 37, 38] (h := ?_)
  repeat refine AW.seq ?_
  refine AW.cond rfl (fun c_ => ?_) (fun c_ => ?_)
  · have hj : j < N := by have : (j:Int) < N := by simpa using c_
                          omega
    have j0 : (0:Int) ≤ j := by omega
    have j1 : (j:Int) < N := by omega
    have hw := incq hj (by omega)
    have hpw := pw_w w j
    have hset := upL_set (lagI x b w) hj
    have hlen := upL_len (lagI x b w) jN
    have hfs := fset (upL (lagI x b w) N j) j (lagI x b w j)
    rw [hset] at hfs
    have hfl := fml (upL (lagI x b w) N j)
    rw [hlen] at hfl
    have hjs : j + 1 ≤ N := hj
    have hd : (x - pwq w j) % 288230376287764481 = 0 ∨ ¬ (x - pwq w j) % 288230376287764481 = 0 := by omega
    clear c_ hset hlen
    refine AW.skip ?_
    repeat refine AW.seq ?_
    refine AW.block ?_
    repeat refine AW.seq ?_
    refine AW.reg ?_
    iterate 2 refine AOL.s1 (h := ?_)
    refine AOL.nil ?_
    refine AW.kq [1, 6, 10, 11, 12, 13, 36, 37] (h := ?_)
    repeat refine AW.seq ?_
    refine AW.reg ?_
    iterate 2 refine AOL.s1 (h := ?_)
    refine AOL.callD rfl (modular_Sub_c hR hx hpw) (by kernel_rfl) rfl rfl (h := ?_)
    iterate 1 refine AOL.s1 (h := ?_)
    refine AOL.nil ?_
    refine AW.kq [1, 6, 10, 11, 12, 13, 14, 36, 37] (h := ?_)
    repeat refine AW.seq ?_
    refine AW.reg ?_
    iterate 2 refine AOL.s1 (h := ?_)
    refine AOL.nil ?_
    refine AW.kq [1, 6, 10, 11, 12, 13, 14, 36, 37, 44] (h := ?_)
    repeat refine AW.seq ?_
    refine AW.midK [1, 6, 10, 11, 12, 36, 37] (fun t => t = ⟨62, [(1, u x), (6, u w), (10, u b), (11, .ref 1544 0 N 1), (12, u (pwq w j)), (36, i N), (37, i j)], [(1544, blk (upL (lagI x b w) N (j + 1)))]⟩) ?_ ?_
    · refine AW.cond rfl (fun d_ => ?_) (fun d_ => ?_)
      · have hv : lagI x b w j = 1 := by unfold lagI; rw [if_pos (by simpa using d_)]
        rw [hv] at hfs
        repeat refine AW.seq ?_
        refine AW.reg ?_
        iterate 4 refine AOL.s1 (h := ?_)
        refine AOL.nil ?_
        exact rfl
      · have hv : lagI x b w j = b * pwq w j % 288230376287764481 * ipow 288230376287764481 ((x - pwq w j) % 288230376287764481) 288230376287764479 % 288230376287764481 := by unfold lagI; rw [if_neg (by simpa using d_)]
        rw [hv] at hfs
        clear hv
        have hdw := w64_r (x - pwq w j)
        repeat refine AW.seq ?_
        refine AW.reg ?_
        iterate 4 refine AOL.s1 (h := ?_)
        refine AOL.callD rfl (poly_mul_c hbw hpw) (by kernel_rfl) rfl rfl (h := ?_)
        iterate 1 refine AOL.s1 (h := ?_)
        refine AOL.callD rfl (modular_Pow_c hR hdw (by decide)) (by kernel_rfl) rfl rfl (h := ?_)
        refine AOL.callD rfl (poly_mul_c (w64_r _) (ipow_w hdw.1 (by decide))) (by kernel_rfl) rfl rfl (h := ?_)
        iterate 2 refine AOL.s1 (h := ?_)
        refine AOL.nil ?_
        exact rfl
    rintro t rfl
    repeat refine AW.seq ?_
    refine AW.reg ?_
    iterate 2 refine AOL.s1 (h := ?_)
    refine AOL.callD rfl (poly_mul_c hpw hr) (by kernel_rfl) rfl rfl (h := ?_)
    iterate 1 refine AOL.s1 (h := ?_)
    refine AOL.nil ?_
    repeat refine AW.seq ?_
    refine AW.reg ?_
    iterate 2 refine AOL.s1 (h := ?_)
    refine AOL.nil ?_
    exact ⟨N - (j + 1), by omega, j + 1, rfl, hj, rfl⟩
  · have hj : j = N := by have : ¬ (j:Int) < N := by simpa using c_
                          omega
    subst hj
    rw [upL_full]
    repeat refine AW.seq ?_
    refine AW.exit ?_
    repeat (first | refine Kseq.ex ?_ | refine Kloop.ex ?_ | refine Kblock.miss (by decide) ?_)
    refine Kblock.hit ?_
    refine AW.kq [11] (h := ?_)
    repeat refine AW.seq ?_
    refine AW.reg ?_
    iterate 3 refine AOL.s1 (h := ?_)
    refine AOL.nil ?_
    refine AW.kq [4, 5] (h := ?_)
    repeat refine AW.seq ?_
    refine AW.ret ?_
    refine ⟨_, [(1544, _)], rfl, (fun p_ hp_ => by simp only [List.mem_singleton] at hp_; subst hp_; first | exact List.mem_cons_self | exact List.mem_cons_of_mem _ List.mem_cons_self | exact List.mem_cons_of_mem _ (List.mem_cons_of_mem _ List.mem_cons_self)), ?_⟩
    refine Tells.one 1544 (by decide) ?_
    first | rfl | exact frees_fm (fun _ => rfl) _
    skip
end Go.Proofs.Ytdbpjegocmdplaa.E.M

