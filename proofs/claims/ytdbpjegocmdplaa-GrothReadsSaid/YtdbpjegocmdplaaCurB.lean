/- Whether something is a point, sums of points, and a point's opposite, by the program: contracts over E. -/
import Derived.Test.YtdbpjegocmdplaaCurA
import Derived.Test.YtdbpjegocmdplaaProg
import Derived.KernelRfl
set_option linter.unusedVariables false
set_option linter.unusedSimpArgs false
set_option maxRecDepth 10000
open Go Go.Proofs.Ytdbpjegocmdplaa.E Go.Proofs
namespace Go.Proofs.Ytdbpjegocmdplaa.E.M
theorem isPt_true (x y : Int) : isPt true x y = (x == 0 && y == 0) := by unfold isPt; rw [if_pos rfl]
theorem isPt_false (x y : Int) : isPt false x y = (decide (0 ≤ x ∧ x < 1152921505151057923) && decide (0 ≤ y ∧ y < 1152921505151057923) && (y * y % 1152921505151057923 == (x * x * x + x) % 1152921505151057923)) := by unfold isPt; rw [if_neg (by decide)]
theorem isPt_cub (x : Int) : (x * x % 1152921505151057923 * x % 1152921505151057923 + x) % 1152921505151057923 = (x * x * x + x) % 1152921505151057923 := by
  refine emodP ?_; simp only [K_add, K_mul, K_emod]
theorem isPt_cub' (x : Int) : (x * (x * x % 1152921505151057923) % 1152921505151057923 + x) % 1152921505151057923 = (x * x * x + x) % 1152921505151057923 := by
  refine emodP ?_; simp only [K_add, K_mul, K_emod]; rw [← Obol.fin_mul_assoc]
set_option maxHeartbeats 1000000 in
theorem curve_Is_c {b : Bool} {x y : Int} (hx : w64 x) (hy : w64 y) : Fn Try.prog 72 [pt (b, x, y)] [] (fun r _ => r = bo (isPt b x y)) := by
  refine Fn.enter Try.func72 Try.ntmps72 rfl (h := ?_)
  have tf := tf
  repeat refine AW.seq ?_
  refine AW.reg ?_
  iterate 2 refine AOL.s1 (h := ?_)
  refine AOL.nil ?_
  refine AW.kq [1] (h := ?_)
  repeat refine AW.seq ?_
  refine AW.reg ?_
  iterate 2 refine AOL.s1 (h := ?_)
  refine AOL.nil ?_
  refine AW.kq [1, 4] (h := ?_)
  repeat refine AW.seq ?_
  refine AW.cond rfl (fun c_ => ?_) (fun c_ => ?_)
  · have hb : b = true := c_
    subst hb
    clear c_
    repeat refine AW.seq ?_
    refine AW.reg ?_
    iterate 4 refine AOL.s1 (h := ?_)
    refine AOL.kq [1, 8] (h := ?_)
    refine AOL.and 8 12 (os' := ?_) (x := ?_) (h1 := ?_) (h0 := ?_) (h := ?_)
    rotate_left 2
    iterate 2
      · intro hb_ K' hK; (iterate 4 refine AOL.s1 (h := ?_)); refine AOL.kq [1, 12] (h := ?_); exact hK
    iterate 1 refine AOL.s1 (h := ?_)
    refine AOL.nil ?_
    refine AW.kq [2] (h := ?_)
    repeat refine AW.seq ?_
    refine AW.ret ?_
    refine ⟨_, [], rfl, HOk.nil _, ?_⟩
    simp only [one?, isPt_true]
  have hb : b = false := c_
  subst hb
  clear c_
  refine AW.skip ?_
  repeat refine AW.seq ?_
  by_cases h1 : x < 1152921505151057923
  · by_cases h2 : y < 1152921505151057923
    · have a1 : decide (0 ≤ x ∧ x < 1152921505151057923) = true := decide_eq_true ⟨hx.1, h1⟩
      have a2 : decide (0 ≤ y ∧ y < 1152921505151057923) = true := decide_eq_true ⟨hy.1, h2⟩
      have e : isPt false x y = (y * y % 1152921505151057923 == (x * x * x + x) % 1152921505151057923) := by rw [isPt_false, a1, a2]; rfl
      rw [e]
      have cb := isPt_cub x
      clear a1 a2 e
      refine AW.drw 24 [] (by kernel_rfl) (h := ?_)
      iterate 13 refine ADL.dm 1 (h := ?_)
      refine ADL.call rfl (curve_mul_c hy hy) (by kernel_rfl) rfl rfl (h := ?_)
      iterate 4 refine ADL.dm 1 (h := ?_)
      refine ADL.call rfl (curve_mul_c hx hx) (by kernel_rfl) rfl rfl (h := ?_)
      iterate 2 refine ADL.dm 1 (h := ?_)
      refine ADL.call rfl (curve_mul_c (ltm _).w hx) (by kernel_rfl) rfl rfl (h := ?_)
      iterate 2 refine ADL.dm 1 (h := ?_)
      refine ADL.done hmix rfl rfl (hT := ?_)
      refine AOL.callD rfl (modular_Add_c mdP (ltm _).w hx) (by kernel_rfl) rfl rfl (h := ?_)
      iterate 3 refine AOL.s1 (h := ?_)
      refine AOL.nil ?_
      refine AW.kq [2] (h := ?_)
      repeat refine AW.seq ?_
      refine AW.ret ?_
      refine ⟨_, [], rfl, HOk.nil _, ?_⟩
      simp only [one?]
    · have a2 : isPt false x y = false := by rw [isPt_false, decide_eq_false (p := 0 ≤ y ∧ y < 1152921505151057923) (fun h => h2 h.2)]; simp
      rw [a2]
      clear a2
      refine AW.drw 24 [] (by kernel_rfl) (h := ?_)
      iterate 24 refine ADL.dm 1 (h := ?_)
      refine ADL.done hmix rfl rfl (hT := ?_)
      iterate 4 refine AOL.s1 (h := ?_)
      refine AOL.nil ?_
      refine AW.kq [2] (h := ?_)
      repeat refine AW.seq ?_
      refine AW.ret ?_
      refine ⟨_, [], rfl, HOk.nil _, ?_⟩
      simp only [one?]
  · have a2 : isPt false x y = false := by rw [isPt_false, decide_eq_false (p := 0 ≤ x ∧ x < 1152921505151057923) (fun h => h1 h.2)]; simp
    rw [a2]
    clear a2
    refine AW.drw 24 [] (by kernel_rfl) (h := ?_)
    iterate 24 refine ADL.dm 1 (h := ?_)
    refine ADL.done hmix rfl rfl (hT := ?_)
    iterate 4 refine AOL.s1 (h := ?_)
    refine AOL.nil ?_
    refine AW.kq [2] (h := ?_)
    repeat refine AW.seq ?_
    refine AW.ret ?_
    refine ⟨_, [], rfl, HOk.nil _, ?_⟩
    simp only [one?]
theorem curve_sure_c {b : Bool} {x y : Int} (hx : w64 x) (hy : w64 y) : Fn Try.prog 64 [pt (b, x, y)] [] (fun r _ => r = pt (sureP b x y)) := by
  refine Fn.enter Try.func64 Try.ntmps64 rfl (h := ?_)
  have tf := tf
  repeat refine AW.seq ?_
  refine AW.reg ?_
  iterate 2 refine AOL.s1 (h := ?_)
  refine AOL.nil ?_
  refine AW.kq [1, 2] (h := ?_)
  repeat refine AW.seq ?_
  refine AW.reg ?_
  iterate 1 refine AOL.s1 (h := ?_)
  refine AOL.callD rfl (curve_Is_c hx hy) (by kernel_rfl) rfl rfl (h := ?_)
  iterate 1 refine AOL.s1 (h := ?_)
  refine AOL.nil ?_
  refine AW.kq [1, 2, 5] (h := ?_)
  repeat refine AW.seq ?_
  cases hp : isPt b x y with
  | false =>
    refine AW.cond rfl (fun c_ => ?_) (fun c_ => ?_)
    · repeat refine AW.seq ?_
      refine AW.reg ?_
      refine AOL.callD rfl (curve_inf_c) (by kernel_rfl) rfl rfl (h := ?_)
      iterate 1 refine AOL.s1 (h := ?_)
      refine AOL.nil ?_
      refine AW.kq [2] (h := ?_)
      repeat refine AW.seq ?_
      refine AW.ret ?_
      refine ⟨_, [], rfl, HOk.nil _, ?_⟩
      simp only [sureP, hp]; rfl
    · cases c_
  | true =>
    refine AW.cond rfl (fun c_ => ?_) (fun c_ => ?_)
    · cases c_
    refine AW.skip ?_
    repeat refine AW.seq ?_
    refine AW.reg ?_
    iterate 2 refine AOL.s1 (h := ?_)
    refine AOL.nil ?_
    refine AW.kq [2] (h := ?_)
    repeat refine AW.seq ?_
    refine AW.ret ?_
    refine ⟨_, [], rfl, HOk.nil _, ?_⟩
    simp only [sureP, hp]; rfl
theorem line_x (l ax bx : Int) : ((l * l % 1152921505151057923 - ax) % 1152921505151057923 - bx) % 1152921505151057923 = (l * l - ax - bx) % 1152921505151057923 := by
  refine emodP ?_; simp only [K_sub, K_mul, K_emod]
theorem line_y (l ax ay X : Int) : (l * ((ax - X) % 1152921505151057923) % 1152921505151057923 - ay) % 1152921505151057923 = (l * (ax - X) - ay) % 1152921505151057923 := by
  refine emodP ?_; simp only [K_sub, K_mul, K_emod]
theorem lam_eq1 (ax d : Int) : (3 * (ax * ax % 1152921505151057923) % 1152921505151057923 + 1) % 1152921505151057923 * d % 1152921505151057923 = (3 * (ax * ax) + 1) * d % 1152921505151057923 := by
  refine emodP ?_; simp only [K_add, K_mul, K_emod]
theorem lam_eq2 (v d : Int) : v % 1152921505151057923 * d % 1152921505151057923 = v * d % 1152921505151057923 := by
  refine emodP ?_; simp only [K_mul, K_emod]
set_option maxHeartbeats 4000000 in
theorem curve_sum_c {a0 b0 : Bool} {ax ay bx bY : Int} (ha : Pt (a0, ax, ay)) (hb : Pt (b0, bx, bY)) : Fn Try.prog 63 [pt (a0, ax, ay), pt (b0, bx, bY)] [] (fun r _ => r = pt (sumP (a0, ax, ay) (b0, bx, bY))) := by
  refine Fn.enter Try.func63 Try.ntmps63 rfl (h := ?_)
  have tf := tf
  repeat refine AW.seq ?_
  refine AW.reg ?_
  iterate 3 refine AOL.s1 (h := ?_)
  refine AOL.nil ?_
  refine AW.kq [2, 3, 4] (h := ?_)
  repeat refine AW.seq ?_
  refine AW.block ?_
  repeat refine AW.seq ?_
  refine AW.block ?_
  repeat refine AW.seq ?_
  refine AW.block ?_
  repeat refine AW.seq ?_
  refine AW.block ?_
  repeat refine AW.seq ?_
  refine AW.reg ?_
  iterate 3 refine AOL.s1 (h := ?_)
  refine AOL.nil ?_
  refine AW.kq [2, 3, 4, 11] (h := ?_)
  repeat refine AW.seq ?_
  cases a0 with
  | true =>
    refine AW.cond rfl (fun c_ => ?_) (fun c_ => ?_)
    · repeat refine AW.seq ?_
      refine AW.exit ?_
      repeat (first | refine Kseq.ex ?_ | refine Kloop.ex ?_ | refine Kblock.miss (by decide) ?_)
      refine Kblock.hit ?_
      refine AW.kq [2, 3, 4] (h := ?_)
      repeat refine AW.seq ?_
      refine AW.reg ?_
      iterate 2 refine AOL.s1 (h := ?_)
      refine AOL.nil ?_
      repeat refine AW.seq ?_
      refine AW.reg ?_
      iterate 2 refine AOL.s1 (h := ?_)
      refine AOL.nil ?_
      refine AW.kq [4] (h := ?_)
      repeat refine AW.seq ?_
      refine AW.ret ?_
      refine ⟨_, [], rfl, HOk.nil _, ?_⟩
      simp only [sumP]; rfl
    · cases c_
  | false =>
  refine AW.cond rfl (fun c_ => ?_) (fun c_ => ?_)
  · cases c_
  refine AW.skip ?_
  clear c_
  repeat refine AW.seq ?_
  refine AW.reg ?_
  iterate 3 refine AOL.s1 (h := ?_)
  refine AOL.nil ?_
  refine AW.kq [2, 3, 4, 14] (h := ?_)
  repeat refine AW.seq ?_
  cases b0 with
  | true =>
    refine AW.cond rfl (fun c_ => ?_) (fun c_ => ?_)
    · repeat refine AW.seq ?_
      refine AW.exit ?_
      repeat (first | refine Kseq.ex ?_ | refine Kloop.ex ?_ | refine Kblock.miss (by decide) ?_)
      refine Kblock.hit ?_
      refine AW.kq [2, 4] (h := ?_)
      repeat refine AW.seq ?_
      refine AW.reg ?_
      iterate 2 refine AOL.s1 (h := ?_)
      refine AOL.nil ?_
      refine AW.kq [4] (h := ?_)
      repeat refine AW.seq ?_
      refine AW.ret ?_
      refine ⟨_, [], rfl, HOk.nil _, ?_⟩
      simp only [sumP]; rfl
    · cases c_
  | false =>
  refine AW.cond rfl (fun c_ => ?_) (fun c_ => ?_)
  · cases c_
  refine AW.skip ?_
  clear c_
  obtain ⟨ax1, ay1, ac⟩ := ha.fin
  obtain ⟨bx1, by1, bc⟩ := hb.fin
  have sp : sumP (false, ax, ay) (false, bx, bY) = if ax = bx ∧ (ay + bY) % 1152921505151057923 = 0 then (true, 0, 0) else lineP (lam (false, ax, ay) (false, bx, bY)) (false, ax, ay) (false, bx, bY) := sumP_fin _ _ _ _
  have dn0 := down_ne ha hb
  clear ac bc ha hb
  repeat refine AW.seq ?_
  refine AW.reg ?_
  iterate 6 refine AOL.s1 (h := ?_)
  refine AOL.kq [2, 3, 4, 23] (h := ?_)
  refine AOL.and 23 30 (os' := ?_) (x := ?_) (h1 := ?_) (h0 := ?_) (h := ?_)
  rotate_left 2
  iterate 2
    · intro hb_ K' hK; (first | (iterate 7 refine AOL.s1 (h := ?_)) | ((iterate 4 refine AOL.s1 (h := ?_)); refine AOL.callD rfl (modular_Add_c mdP ay1.w by1.w) (by kernel_rfl) rfl rfl (h := ?_); (iterate 2 refine AOL.s1 (h := ?_)))); refine AOL.kq [2, 3, 4, 30] (h := ?_); exact hK
  iterate 1 refine AOL.s1 (h := ?_)
  refine AOL.nil ?_
  refine AW.kq [2, 3, 4, 17] (h := ?_)
  repeat refine AW.seq ?_
  refine AW.cond rfl (fun c_ => ?_) (fun c_ => ?_)
  · have hw : ax = bx ∧ (ay + bY) % 1152921505151057923 = 0 := by simpa using c_
    rw [sp, if_pos hw]
    clear sp dn0 hw c_
    repeat refine AW.seq ?_
    refine AW.exit ?_
    repeat (first | refine Kseq.ex ?_ | refine Kloop.ex ?_ | refine Kblock.miss (by decide) ?_)
    refine Kblock.hit ?_
    refine AW.kq [4] (h := ?_)
    repeat refine AW.seq ?_
    refine AW.reg ?_
    refine AOL.callD rfl (curve_inf_c) (by kernel_rfl) rfl rfl (h := ?_)
    iterate 1 refine AOL.s1 (h := ?_)
    refine AOL.nil ?_
    refine AW.kq [4] (h := ?_)
    repeat refine AW.seq ?_
    refine AW.ret ?_
    refine ⟨_, [], rfl, HOk.nil _, ?_⟩
    rfl
  have hw : ¬ (ax = bx ∧ (ay + bY) % 1152921505151057923 = 0) := by
    intro h
    have : (ax == bx && (ay + bY) % 1152921505151057923 == 0) = true := by simp [h.1, h.2]
    rw [this] at c_; cases c_
  rw [sp, if_neg hw]
  have dn := dn0 hw
  clear dn0
  clear sp hw c_
  refine AW.skip ?_
  repeat refine AW.seq ?_
  refine AW.exit ?_
  repeat (first | refine Kseq.ex ?_ | refine Kloop.ex ?_ | refine Kblock.miss (by decide) ?_)
  refine Kblock.hit ?_
  refine AW.kq [2, 3, 4] (h := ?_)
  repeat refine AW.seq ?_
  refine AW.drw 9 [] (by kernel_rfl) (h := ?_)
  iterate 4 refine ADL.dm 1 (h := ?_)
  refine ADL.call rfl (curve_sub_c by1.w ay1.w) (by kernel_rfl) rfl rfl (h := ?_)
  iterate 4 refine ADL.dm 1 (h := ?_)
  refine ADL.done hmix rfl rfl (hT := ?_)
  refine AOL.callD rfl (curve_sub_c bx1.w ax1.w) (by kernel_rfl) rfl rfl (h := ?_)
  iterate 2 refine AOL.s1 (h := ?_)
  refine AOL.nil ?_
  refine AW.kq [2, 3, 4, 5, 6] (h := ?_)
  repeat refine AW.seq ?_
  refine AW.reg ?_
  iterate 5 refine AOL.s1 (h := ?_)
  refine AOL.nil ?_
  refine AW.kq [2, 3, 4, 5, 6, 48] (h := ?_)
  repeat refine AW.seq ?_
  refine AW.midK [2, 3, 4, 5, 6] (fun t => ∃ up down : Int, t = ⟨92, [(2, .ptr 1032 0), (3, .ptr 1048 0), (4, .ptr 1064 0), (5, u up), (6, u down)], [(1032, ⟨32, true, [bo false, u ax, u ay]⟩), (1048, ⟨32, true, [bo false, u bx, u bY]⟩), (1064, ⟨32, true, [bo false, u 0, u 0]⟩)]⟩ ∧ lt up ∧ lt down ∧ down ≠ 0 ∧ up * inv 1152921505151057923 down % 1152921505151057923 = lam (false, ax, ay) (false, bx, bY)) ?_ ?_
  · refine AW.cond rfl (fun c_ => ?_) (fun c_ => ?_)
    · have e : ax = bx := by simpa using c_
      rw [if_pos e] at dn
      clear c_
      subst e
      repeat refine AW.seq ?_
      refine AW.drw 11 [] (by kernel_rfl) (h := ?_)
      iterate 4 refine ADL.dm 1 (h := ?_)
      refine ADL.call rfl (curve_mul_c ax1.w ax1.w) (by kernel_rfl) rfl rfl (h := ?_)
      refine ADL.call rfl (curve_mul_c (by decide) (ltm _).w) (by kernel_rfl) rfl rfl (h := ?_)
      refine ADL.call rfl (modular_Add_c mdP (ltm _).w (by decide)) (by kernel_rfl) rfl rfl (h := ?_)
      iterate 4 refine ADL.dm 1 (h := ?_)
      refine ADL.done hmix rfl rfl (hT := ?_)
      refine AOL.callD rfl (modular_Add_c mdP ay1.w ay1.w) (by kernel_rfl) rfl rfl (h := ?_)
      iterate 2 refine AOL.s1 (h := ?_)
      refine AOL.nil ?_
      refine ⟨_, _, rfl, ltm _, ltm _, dn, ?_⟩
      simp only [lam, if_true, lam_eq1]
    · have e : ¬ ax = bx := by simpa using c_
      rw [if_neg e] at dn
      clear c_
      refine AW.skip ?_
      refine ⟨_, _, rfl, ltm _, ltm _, dn, ?_⟩
      simp only [lam, if_neg e, lam_eq2]
  rintro t ⟨up, down, rfl, hu, hd, hd0, hl⟩
  generalize lam (false, ax, ay) (false, bx, bY) = l at *
  have ci := modular_Inv_c (m := 1152921505151057923) (a := down) prmP hd.w
  rw [hd.self, if_neg hd0] at ci
  have hi := (K_inv hd hd0).2
  have ll : lt l := by rw [← hl]; exact ltm _
  have cm := curve_mul_c (a := up) (b := inv 1152921505151057923 down) hu.w hi.w
  rw [hl] at cm
  clear hl dn
  have lx := line_x l ax bx
  have ly := line_y l ax ay ((l * l - ax - bx) % 1152921505151057923)
  repeat refine AW.seq ?_
  refine AW.reg ?_
  iterate 1 refine AOL.s1 (h := ?_)
  refine AOL.callD rfl (ci) (by kernel_rfl) rfl rfl (h := ?_)
  iterate 5 refine AOL.s1 (h := ?_)
  refine AOL.nil ?_
  refine AW.kq [2, 3, 4, 5, 7, 8] (h := ?_)
  repeat refine AW.seq ?_
  refine AW.reg ?_
  iterate 2 refine AOL.s1 (h := ?_)
  refine AOL.nil ?_
  refine AW.kq [2, 3, 4, 5, 7, 67] (h := ?_)
  repeat refine AW.seq ?_
  refine AW.cond rfl (fun c_ => ?_) (fun c_ => ?_)
  · cases c_
  refine AW.skip ?_
  repeat refine AW.seq ?_
  refine AW.reg ?_
  iterate 2 refine AOL.s1 (h := ?_)
  refine AOL.callD rfl (cm) (by kernel_rfl) rfl rfl (h := ?_)
  iterate 1 refine AOL.s1 (h := ?_)
  refine AOL.nil ?_
  refine AW.kq [2, 3, 4, 9] (h := ?_)
  repeat refine AW.seq ?_
  refine AW.drw 8 [] (by kernel_rfl) (h := ?_)
  iterate 2 refine ADL.dm 1 (h := ?_)
  refine ADL.call rfl (curve_mul_c ll.w ll.w) (by kernel_rfl) rfl rfl (h := ?_)
  iterate 2 refine ADL.dm 1 (h := ?_)
  refine ADL.call rfl (curve_sub_c (ltm _).w ax1.w) (by kernel_rfl) rfl rfl (h := ?_)
  iterate 2 refine ADL.dm 1 (h := ?_)
  refine ADL.done hmix rfl rfl (hT := ?_)
  refine AOL.callD rfl (curve_sub_c (ltm _).w bx1.w) (by kernel_rfl) rfl rfl (h := ?_)
  iterate 1 refine AOL.s1 (h := ?_)
  refine AOL.nil ?_
  refine AW.kq [2, 4, 9, 10] (h := ?_)
  repeat refine AW.seq ?_
  refine AW.drw 10 [] (by kernel_rfl) (h := ?_)
  iterate 5 refine ADL.dm 1 (h := ?_)
  refine ADL.call rfl (curve_sub_c ax1.w (ltm _).w) (by kernel_rfl) rfl rfl (h := ?_)
  refine ADL.call rfl (curve_mul_c ll.w (ltm _).w) (by kernel_rfl) rfl rfl (h := ?_)
  iterate 2 refine ADL.dm 1 (h := ?_)
  refine ADL.call rfl (curve_sub_c (ltm _).w ay1.w) (by kernel_rfl) rfl rfl (h := ?_)
  refine ADL.done hmix rfl rfl (hT := ?_)
  iterate 2 refine AOL.s1 (h := ?_)
  refine AOL.nil ?_
  refine AW.kq [4] (h := ?_)
  repeat refine AW.seq ?_
  refine AW.ret ?_
  refine ⟨_, [], rfl, HOk.nil _, ?_⟩
  simp only [lineP]; rfl
theorem curve_Add_c {a0 b0 : Bool} {ax ay bx bY : Int} (hax : w64 ax) (hay : w64 ay) (hbx : w64 bx) (hby : w64 bY) : Fn Try.prog 31 [pt (a0, ax, ay), pt (b0, bx, bY)] [] (fun r _ => r = pt (sumP (sureP a0 ax ay) (sureP b0 bx bY))) := by
  have pa := sureP_pt a0 ax ay
  have pb := sureP_pt b0 bx bY
  have ca := curve_sure_c (b := a0) hax hay
  have cb := curve_sure_c (b := b0) hbx hby
  have cs : Fn Try.prog 63 [pt (sureP a0 ax ay), pt (sureP b0 bx bY)] [] (fun r _ => r = pt (sumP (sureP a0 ax ay) (sureP b0 bx bY))) := curve_sum_c pa pb
  generalize sureP a0 ax ay = A at *
  generalize sureP b0 bx bY = B at *
  refine Fn.enter Try.func31 Try.ntmps31 rfl (h := ?_)
  have tf := tf
  repeat refine AW.seq ?_
  refine AW.reg ?_
  iterate 3 refine AOL.s1 (h := ?_)
  refine AOL.nil ?_
  refine AW.kq [2, 3, 4] (h := ?_)
  repeat refine AW.seq ?_
  refine AW.drw 3 [] (by kernel_rfl) (h := ?_)
  iterate 1 refine ADL.dm 1 (h := ?_)
  refine ADL.call rfl (ca) (by kernel_rfl) rfl rfl (h := ?_)
  iterate 1 refine ADL.dm 1 (h := ?_)
  refine ADL.done hmix rfl rfl (hT := ?_)
  refine AOL.callD rfl (cb) (by kernel_rfl) rfl rfl (h := ?_)
  refine AOL.callD rfl (cs) (by kernel_rfl) rfl rfl (h := ?_)
  iterate 1 refine AOL.s1 (h := ?_)
  refine AOL.nil ?_
  refine AW.kq [4] (h := ?_)
  repeat refine AW.seq ?_
  refine AW.ret ?_
  refine ⟨_, [], rfl, HOk.nil _, ?_⟩
  rfl
end Go.Proofs.Ytdbpjegocmdplaa.E.M

