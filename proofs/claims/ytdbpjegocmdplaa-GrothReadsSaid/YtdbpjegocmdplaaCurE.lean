/- Points, sums and multiples by the document: contracts over E. -/
import Derived.Test.YtdbpjegocmdplaaCurD
import Derived.Test.YtdbpjegocmdplaaProg
import Derived.KernelRfl
set_option linter.unusedVariables false
set_option linter.unusedSimpArgs false
set_option maxRecDepth 10000
open Go Go.Proofs.Ytdbpjegocmdplaa.E Go.Proofs
namespace Go.Proofs.Ytdbpjegocmdplaa.E.M
set_option maxHeartbeats 1000000 in
theorem obolref03_Is_c {b : Bool} {x y : Int} (hx : w64 x) (hy : w64 y) : Fn Try.prog 13 [pt (b, x, y)] [] (fun r _ => r = bo (isPt b x y)) := by
  refine Fn.enter Try.func13 Try.ntmps13 rfl (h := ?_)
  have tf := tf
  repeat refine AW.seq ?_
  refine AW.reg ?_
  iterate 2 refine AOL.s1 (h := ?_)
  refine AOL.nil ?_
  refine AW.kq [1] (h := ?_)
  repeat refine AW.seq ?_
  refine AW.reg ?_
  iterate 2 refine AOL.s1 (h := ?_)
  refine AOL.nil ?_
  refine AW.kq [1, 4] (h := ?_)
  repeat refine AW.seq ?_
  refine AW.cond rfl (fun c_ => ?_) (fun c_ => ?_)
  · have hb : b = true := c_
    subst hb
    clear c_
    repeat refine AW.seq ?_
    refine AW.reg ?_
    iterate 4 refine AOL.s1 (h := ?_)
    refine AOL.kq [1, 8] (h := ?_)
    refine AOL.and 8 12 (os' := ?_) (x := ?_) (h1 := ?_) (h0 := ?_) (h := ?_)
    rotate_left 2
    iterate 2
      · intro hb_ K' hK; (iterate 4 refine AOL.s1 (h := ?_)); refine AOL.kq [1, 12] (h := ?_); exact hK
    iterate 1 refine AOL.s1 (h := ?_)
    refine AOL.nil ?_
    refine AW.kq [2] (h := ?_)
    repeat refine AW.seq ?_
    refine AW.ret ?_
    refine ⟨_, [], rfl, HOk.nil _, ?_⟩
    simp only [one?, isPt_true]
  have hb : b = false := c_
  subst hb
  clear c_
  refine AW.skip ?_
  repeat refine AW.seq ?_
  refine AW.reg ?_
  iterate 4 refine AOL.s1 (h := ?_)
  refine AOL.kq [1, 16] (h := ?_)
  refine AOL.or 16 20 (os' := ?_) (x := ?_) (h1 := ?_) (h0 := ?_) (h := ?_)
  rotate_left 2
  iterate 2
    · intro hb_ K' hK; (iterate 4 refine AOL.s1 (h := ?_)); refine AOL.kq [1, 20] (h := ?_); exact hK
  refine AOL.nil ?_
  refine AW.kq [1, 20] (h := ?_)
  repeat refine AW.seq ?_
  refine AW.cond rfl (fun c_ => ?_) (fun c_ => ?_)
  · have c1 : x ≥ 1152921505151057923 ∨ y ≥ 1152921505151057923 := by simpa using c_
    have e : isPt false x y = false := by
      rw [isPt_false]
      rcases c1 with c1 | c1
      · rw [decide_eq_false (p := 0 ≤ x ∧ x < 1152921505151057923) (fun h => by omega)]; simp
      · rw [decide_eq_false (p := 0 ≤ y ∧ y < 1152921505151057923) (fun h => by omega)]; simp
    repeat refine AW.seq ?_
    refine AW.reg ?_
    iterate 1 refine AOL.s1 (h := ?_)
    refine AOL.nil ?_
    refine AW.kq [2] (h := ?_)
    repeat refine AW.seq ?_
    refine AW.ret ?_
    refine ⟨_, [], rfl, HOk.nil _, ?_⟩
    simp only [one?, e]
  have c1 : x < 1152921505151057923 ∧ y < 1152921505151057923 := by simpa using c_
  have e : isPt false x y = (y * y % 1152921505151057923 == (x * x * x + x) % 1152921505151057923) := by
    rw [isPt_false, decide_eq_true (p := 0 ≤ x ∧ x < 1152921505151057923) ⟨hx.1, c1.1⟩, decide_eq_true (p := 0 ≤ y ∧ y < 1152921505151057923) ⟨hy.1, c1.2⟩]; rfl
  rw [e]
  have cb := isPt_cub' x
  clear e c1 c_
  refine AW.skip ?_
  repeat refine AW.seq ?_
  refine AW.drw 15 [] (by kernel_rfl) (h := ?_)
  iterate 4 refine ADL.dm 1 (h := ?_)
  refine ADL.call rfl (obolref03_mul_c hy hy) (by kernel_rfl) rfl rfl (h := ?_)
  iterate 6 refine ADL.dm 1 (h := ?_)
  refine ADL.call rfl (obolref03_mul_c hx hx) (by kernel_rfl) rfl rfl (h := ?_)
  refine ADL.call rfl (obolref03_mul_c hx (ltm _).w) (by kernel_rfl) rfl rfl (h := ?_)
  iterate 2 refine ADL.dm 1 (h := ?_)
  refine ADL.done hmix rfl rfl (hT := ?_)
  refine AOL.callD rfl (obolref01_Add_c ⟨by decide, by decide⟩ (ltm _).w hx) (by kernel_rfl) rfl rfl (h := ?_)
  iterate 2 refine AOL.s1 (h := ?_)
  refine AOL.nil ?_
  refine AW.kq [2] (h := ?_)
  repeat refine AW.seq ?_
  refine AW.ret ?_
  refine ⟨_, [], rfl, HOk.nil _, ?_⟩
  simp only [one?]
def wallP (a b : Bool × Int × Int) : Bool := a.1 || (b.1 || (a.2.1 == b.2.1 && (a.2.2 + b.2.2) % 1152921505151057923 == 0))
set_option maxHeartbeats 1000000 in
theorem obolref03_Wall_c {a0 b0 : Bool} {ax ay bx bY : Int} (hay : w64 ay) (hby : w64 bY) : Fn Try.prog 89 [pt (a0, ax, ay), pt (b0, bx, bY)] [] (fun r _ => r = bo (wallP (a0, ax, ay) (b0, bx, bY))) := by
  refine Fn.enter Try.func89 Try.ntmps89 rfl (h := ?_)
  have tf := tf
  repeat refine AW.seq ?_
  refine AW.reg ?_
  iterate 3 refine AOL.s1 (h := ?_)
  refine AOL.nil ?_
  refine AW.kq [2, 3] (h := ?_)
  repeat refine AW.seq ?_
  cases a0 with
  | true =>
    refine AW.reg ?_
    iterate 22 refine AOL.s1 (h := ?_)
    refine AOL.nil ?_
    refine AW.kq [4] (h := ?_)
    repeat refine AW.seq ?_
    refine AW.ret ?_
    refine ⟨_, [], rfl, HOk.nil _, ?_⟩
    rfl
  | false =>
  cases b0 with
  | true =>
    refine AW.reg ?_
    iterate 22 refine AOL.s1 (h := ?_)
    refine AOL.nil ?_
    refine AW.kq [4] (h := ?_)
    repeat refine AW.seq ?_
    refine AW.ret ?_
    refine ⟨_, [], rfl, HOk.nil _, ?_⟩
    rfl
  | false =>
  by_cases e : ax = bx
  · subst e
    refine AW.reg ?_
    iterate 17 refine AOL.s1 (h := ?_)
    refine AOL.callD rfl (obolref01_Add_c ⟨by decide, by decide⟩ hay hby) (by kernel_rfl) rfl rfl (h := ?_)
    iterate 4 refine AOL.s1 (h := ?_)
    refine AOL.nil ?_
    refine AW.kq [4] (h := ?_)
    repeat refine AW.seq ?_
    refine AW.ret ?_
    refine ⟨_, [], rfl, HOk.nil _, ?_⟩
    simp [one?, wallP]
  · have e1 : (ax == bx) = false := by simpa using e
    refine AW.reg ?_
    iterate 22 refine AOL.s1 (h := ?_)
    refine AOL.nil ?_
    refine AW.kq [4] (h := ?_)
    repeat refine AW.seq ?_
    refine AW.ret ?_
    refine ⟨_, [], rfl, HOk.nil _, ?_⟩
    simp [one?, wallP, e1]
theorem slope_1 (ax : Int) : (3 * (ax * ax % 1152921505151057923) % 1152921505151057923 + 1) % 1152921505151057923 * 1 % 1152921505151057923 = (3 * (ax * ax) + 1) % 1152921505151057923 := by
  have := lam_eq1 ax 1; rwa [Int.mul_one (3 * (ax * ax) + 1)] at this
theorem two_mul' (a : Int) : 2 * a % 1152921505151057923 = (a + a) % 1152921505151057923 := by rw [Int.two_mul]
set_option maxHeartbeats 1000000 in
theorem obolref03_Slope_c {ax ay bx bY : Int} (ha : Pt (false, ax, ay)) (hb : Pt (false, bx, bY)) (hw : ¬ (ax = bx ∧ (ay + bY) % 1152921505151057923 = 0)) : Fn Try.prog 90 [pt (false, ax, ay), pt (false, bx, bY)] [] (fun r _ => r = u (lam (false, ax, ay) (false, bx, bY))) := by
  have dn := down_ne ha hb hw
  obtain ⟨ax1, ay1, -⟩ := ha.fin
  obtain ⟨bx1, by1, -⟩ := hb.fin
  clear ha hb hw
  refine Fn.enter Try.func90 Try.ntmps90 rfl (h := ?_)
  have tf := tf
  repeat refine AW.seq ?_
  refine AW.reg ?_
  iterate 3 refine AOL.s1 (h := ?_)
  refine AOL.nil ?_
  refine AW.kq [2, 3] (h := ?_)
  repeat refine AW.seq ?_
  refine AW.reg ?_
  iterate 5 refine AOL.s1 (h := ?_)
  refine AOL.nil ?_
  refine AW.kq [2, 3, 9] (h := ?_)
  repeat refine AW.seq ?_
  refine AW.cond rfl (fun c_ => ?_) (fun c_ => ?_)
  · have e : ax = bx := by simpa using c_
    rw [if_pos e] at dn
    subst e
    have lm : lam (false, ax, ay) (false, ax, bY) = (3 * (ax * ax % 1152921505151057923) % 1152921505151057923 + 1) % 1152921505151057923 * inv 1152921505151057923 ((ay + ay) % 1152921505151057923) % 1152921505151057923 := by
      simp only [lam, if_true, lam_eq1]
    rw [lm]
    have c2 := obolref03_mul_c (a := 2) (b := ay) (by decide) ay1.w
    rw [two_mul'] at c2
    clear c_ lm
    repeat refine AW.seq ?_
    refine AW.drw 9 [] (by kernel_rfl) (h := ?_)
    iterate 4 refine ADL.dm 1 (h := ?_)
    refine ADL.call rfl (obolref03_mul_c ax1.w ax1.w) (by kernel_rfl) rfl rfl (h := ?_)
    refine ADL.call rfl (obolref03_mul_c (by decide) (ltm _).w) (by kernel_rfl) rfl rfl (h := ?_)
    refine ADL.call rfl (obolref01_Add_c ⟨by decide, by decide⟩ (ltm _).w (by decide)) (by kernel_rfl) rfl rfl (h := ?_)
    iterate 2 refine ADL.dm 1 (h := ?_)
    refine ADL.done hmix rfl rfl (hT := ?_)
    refine AOL.callD rfl (c2) (by kernel_rfl) rfl rfl (h := ?_)
    refine AOL.callD rfl (obolref03_Over_c (ltm _).w (ltm _) dn) (by kernel_rfl) rfl rfl (h := ?_)
    iterate 1 refine AOL.s1 (h := ?_)
    refine AOL.nil ?_
    refine AW.kq [4] (h := ?_)
    repeat refine AW.seq ?_
    refine AW.ret ?_
    refine ⟨_, [], rfl, HOk.nil _, ?_⟩
    simp only [one?]
  have e : ¬ ax = bx := by simpa using c_
  rw [if_neg e] at dn
  have lm : lam (false, ax, ay) (false, bx, bY) = (bY - ay) % 1152921505151057923 * inv 1152921505151057923 ((bx - ax) % 1152921505151057923) % 1152921505151057923 := by
    simp only [lam, if_neg e, lam_eq2]
  rw [lm]
  clear c_ lm e
  refine AW.skip ?_
  repeat refine AW.seq ?_
  refine AW.drw 9 [] (by kernel_rfl) (h := ?_)
  iterate 4 refine ADL.dm 1 (h := ?_)
  refine ADL.call rfl (obolref03_less_c by1.w ay1.w) (by kernel_rfl) rfl rfl (h := ?_)
  iterate 4 refine ADL.dm 1 (h := ?_)
  refine ADL.done hmix rfl rfl (hT := ?_)
  refine AOL.callD rfl (obolref03_less_c bx1.w ax1.w) (by kernel_rfl) rfl rfl (h := ?_)
  refine AOL.callD rfl (obolref03_Over_c (ltm _).w (ltm _) dn) (by kernel_rfl) rfl rfl (h := ?_)
  iterate 1 refine AOL.s1 (h := ?_)
  refine AOL.nil ?_
  refine AW.kq [4] (h := ?_)
  repeat refine AW.seq ?_
  refine AW.ret ?_
  refine ⟨_, [], rfl, HOk.nil _, ?_⟩
  simp only [one?]
theorem ref_x (l ax bx : Int) : (l * l % 1152921505151057923 - (ax + bx) % 1152921505151057923) % 1152921505151057923 = (l * l - ax - bx) % 1152921505151057923 := by
  have : l * l - ax - bx = l * l - (ax + bx) := by omega
  rw [this]; refine emodP ?_; simp only [K_sub, K_mul, K_add, K_emod]
set_option maxHeartbeats 2000000 in
theorem obolref03_Sum_c {a0 b0 : Bool} {ax ay bx bY : Int} (ha : Pt (a0, ax, ay)) (hb : Pt (b0, bx, bY)) : Fn Try.prog 76 [pt (a0, ax, ay), pt (b0, bx, bY)] [] (fun r _ => r = pt (sumP (a0, ax, ay) (b0, bx, bY))) := by
  refine Fn.enter Try.func76 Try.ntmps76 rfl (h := ?_)
  have tf := tf
  repeat refine AW.seq ?_
  refine AW.reg ?_
  iterate 3 refine AOL.s1 (h := ?_)
  refine AOL.nil ?_
  refine AW.kq [2, 3, 4] (h := ?_)
  repeat refine AW.seq ?_
  refine AW.reg ?_
  iterate 2 refine AOL.s1 (h := ?_)
  refine AOL.nil ?_
  refine AW.kq [2, 3, 4, 9] (h := ?_)
  repeat refine AW.seq ?_
  cases a0 with
  | true =>
    refine AW.cond rfl (fun c_ => ?_) (fun c_ => ?_)
    · repeat refine AW.seq ?_
      refine AW.reg ?_
      iterate 2 refine AOL.s1 (h := ?_)
      refine AOL.nil ?_
      refine AW.kq [4] (h := ?_)
      repeat refine AW.seq ?_
      refine AW.ret ?_
      refine ⟨_, [], rfl, HOk.nil _, ?_⟩
      simp only [sumP]; rfl
    · cases c_
  | false =>
  refine AW.cond rfl (fun c_ => ?_) (fun c_ => ?_)
  · cases c_
  refine AW.skip ?_
  clear c_
  repeat refine AW.seq ?_
  refine AW.reg ?_
  iterate 2 refine AOL.s1 (h := ?_)
  refine AOL.nil ?_
  refine AW.kq [2, 3, 4, 12] (h := ?_)
  repeat refine AW.seq ?_
  cases b0 with
  | true =>
    refine AW.cond rfl (fun c_ => ?_) (fun c_ => ?_)
    · repeat refine AW.seq ?_
      refine AW.reg ?_
      iterate 2 refine AOL.s1 (h := ?_)
      refine AOL.nil ?_
      refine AW.kq [4] (h := ?_)
      repeat refine AW.seq ?_
      refine AW.ret ?_
      refine ⟨_, [], rfl, HOk.nil _, ?_⟩
      simp only [sumP]; rfl
    · cases c_
  | false =>
  refine AW.cond rfl (fun c_ => ?_) (fun c_ => ?_)
  · cases c_
  refine AW.skip ?_
  clear c_
  have sp := sumP_fin ax ay bx bY
  have hay := ha.wx.2
  have hby := hb.wx.2
  have cw := obolref03_Wall_c (a0 := false) (b0 := false) (ax := ax) (bx := bx) hay.w hby.w
  rw [show wallP (false, ax, ay) (false, bx, bY) = (ax == bx && (ay + bY) % 1152921505151057923 == 0) from rfl] at cw
  repeat refine AW.seq ?_
  refine AW.reg ?_
  iterate 2 refine AOL.s1 (h := ?_)
  refine AOL.callD rfl (cw) (by kernel_rfl) rfl rfl (h := ?_)
  iterate 1 refine AOL.s1 (h := ?_)
  refine AOL.nil ?_
  refine AW.kq [2, 3, 4, 5] (h := ?_)
  repeat refine AW.seq ?_
  refine AW.reg ?_
  iterate 1 refine AOL.s1 (h := ?_)
  refine AOL.nil ?_
  refine AW.kq [2, 3, 4, 17] (h := ?_)
  repeat refine AW.seq ?_
  refine AW.cond rfl (fun c_ => ?_) (fun c_ => ?_)
  · have hw : ax = bx ∧ (ay + bY) % 1152921505151057923 = 0 := by simpa using c_
    rw [sp, if_pos hw]
    clear sp hw c_ cw
    repeat refine AW.seq ?_
    refine AW.reg ?_
    iterate 2 refine AOL.s1 (h := ?_)
    refine AOL.nil ?_
    refine AW.kq [4] (h := ?_)
    repeat refine AW.seq ?_
    refine AW.ret ?_
    refine ⟨_, [], rfl, HOk.nil _, ?_⟩
    rfl
  have hw : ¬ (ax = bx ∧ (ay + bY) % 1152921505151057923 = 0) := by
    intro h
    have : (ax == bx && (ay + bY) % 1152921505151057923 == 0) = true := by simp [h.1, h.2]
    rw [this] at c_; cases c_
  rw [sp, if_neg hw]
  have cs := obolref03_Slope_c ha hb hw
  have ll : lt (lam (false, ax, ay) (false, bx, bY)) := by unfold lam; split <;> exact ltm _
  obtain ⟨ax1, ay1, -⟩ := ha.fin
  obtain ⟨bx1, by1, -⟩ := hb.fin
  generalize lam (false, ax, ay) (false, bx, bY) = l at *
  have lx := ref_x l ax bx
  have ly := line_y l ax ay ((l * l - ax - bx) % 1152921505151057923)
  clear sp hw c_ cw ha hb
  refine AW.skip ?_
  repeat refine AW.seq ?_
  refine AW.reg ?_
  iterate 2 refine AOL.s1 (h := ?_)
  refine AOL.callD rfl (cs) (by kernel_rfl) rfl rfl (h := ?_)
  iterate 1 refine AOL.s1 (h := ?_)
  refine AOL.nil ?_
  refine AW.kq [2, 3, 4, 6] (h := ?_)
  repeat refine AW.seq ?_
  refine AW.drw 7 [] (by kernel_rfl) (h := ?_)
  iterate 2 refine ADL.dm 1 (h := ?_)
  refine ADL.call rfl (obolref03_mul_c ll.w ll.w) (by kernel_rfl) rfl rfl (h := ?_)
  iterate 4 refine ADL.dm 1 (h := ?_)
  refine ADL.done hmix rfl rfl (hT := ?_)
  refine AOL.callD rfl (obolref01_Add_c ⟨by decide, by decide⟩ ax1.w bx1.w) (by kernel_rfl) rfl rfl (h := ?_)
  refine AOL.callD rfl (obolref03_less_c (ltm _).w (ltm _).w) (by kernel_rfl) rfl rfl (h := ?_)
  iterate 1 refine AOL.s1 (h := ?_)
  refine AOL.nil ?_
  refine AW.kq [2, 4, 6, 7] (h := ?_)
  repeat refine AW.seq ?_
  refine AW.drw 10 [] (by kernel_rfl) (h := ?_)
  iterate 5 refine ADL.dm 1 (h := ?_)
  refine ADL.call rfl (obolref03_less_c ax1.w (ltm _).w) (by kernel_rfl) rfl rfl (h := ?_)
  refine ADL.call rfl (obolref03_mul_c ll.w (ltm _).w) (by kernel_rfl) rfl rfl (h := ?_)
  iterate 2 refine ADL.dm 1 (h := ?_)
  refine ADL.call rfl (obolref03_less_c (ltm _).w ay1.w) (by kernel_rfl) rfl rfl (h := ?_)
  refine ADL.done hmix rfl rfl (hT := ?_)
  iterate 2 refine AOL.s1 (h := ?_)
  refine AOL.nil ?_
  refine AW.kq [4] (h := ?_)
  repeat refine AW.seq ?_
  refine AW.ret ?_
  refine ⟨_, [], rfl, HOk.nil _, ?_⟩
  simp only [lineP]; rfl
set_option maxHeartbeats 1000000 in
theorem obolref03_Times_c {a0 : Bool} {ax ay k : Int} (ha : Pt (a0, ax, ay)) (hk : w64 k) : Fn Try.prog 46 [pt (a0, ax, ay), u k] [] (fun r _ => r = pt (timesP (a0, ax, ay) k)) := by
  refine Fn.enter Try.func46 Try.ntmps46 rfl (h := ?_)
  have tf := tf
  repeat refine AW.seq ?_
  refine AW.reg ?_
  iterate 2 refine AOL.s1 (h := ?_)
  refine AOL.nil ?_
  refine AW.kq [1, 2, 4] (h := ?_)
  repeat refine AW.seq ?_
  refine AW.reg ?_
  iterate 3 refine AOL.s1 (h := ?_)
  refine AOL.nil ?_
  refine AW.kq [1, 2, 4, 5] (h := ?_)
  repeat refine AW.seq ?_
  refine AW.reg ?_
  iterate 1 refine AOL.s1 (h := ?_)
  refine AOL.nil ?_
  refine AW.kq [1, 2, 4, 5, 6] (h := ?_)
  repeat refine AW.seq ?_
  refine AW.block ?_
  repeat refine AW.seq ?_
  refine AW.loopK [1, 2, 4, 5, 6] (fun n s => ∃ (j : Nat) (o0 : Bool) (ox oy : Int), s = ⟨25, [(1, u k), (2, .ptr 1032 0), (4, .ptr 1064 0), (5, .ptr 1080 0), (6, i j)], [(1032, ⟨32, true, [bo a0, u ax, u ay]⟩), (1064, ⟨32, true, [bo false, u 0, u 0]⟩), (1080, ⟨32, true, [bo o0, u ox, u oy]⟩)]⟩ ∧ j + n = 64 ∧ Pt (o0, ox, oy) ∧ tms (a0, ax, ay) k n (o0, ox, oy) = timesP (a0, ax, ay) k) 64 ?_ ?_
  · exact ⟨0, true, 0, 0, rfl, rfl, Pt.none, rfl⟩
  rintro n s ⟨j, o0, ox, oy, rfl, hj, ho, ht⟩
  repeat refine AW.seq ?_
  refine AW.reg ?_
  iterate 2 refine AOL.s1 (h := ?_)
  refine AOL.nil ?_
  refine AW.kq [1, 2, 4, 5, 6, 9] (h := ?_)
  repeat refine AW.seq ?_
  refine AW.cond rfl (fun c_ => ?_) (fun c_ => ?_)
  · have j1 : j < 64 := by simp at c_; omega
    obtain ⟨n, rfl⟩ : ∃ m, n = m + 1 := ⟨n - 1, by omega⟩
    have hn : 63 - j = n := by omega
    have k1 : IntKind.i64.wrap (63 - (j : Int)) = (n : Int) := by rw [wrapI_o (by omega) (by omega)]; omega
    have k2 : IntKind.i64.wrap ((j : Int) + 1) = ((j + 1 : Nat) : Int) := by rw [wrapI_o (by omega) (by omega)]; omega
    have k3 : ¬ (n : Int) < 0 := by omega
    obtain ⟨sh1, sh2⟩ := shr_b (y := k) (k := n) hk (by omega)
    have sh3 := and_one sh2.1 sh2.2
    rw [tms_succ] at ht
    have c2 := obolref03_Sum_c ho ho
    have p2 := sumP_pt ho ho
    have e2 : stepT (a0, ax, ay) k n (o0, ox, oy) = if k / 2 ^ n % 2 = 1 then sumP (sumP (o0, ox, oy) (o0, ox, oy)) (a0, ax, ay) else sumP (o0, ox, oy) (o0, ox, oy) := rfl
    rw [e2] at ht
    clear e2
    generalize sumP (o0, ox, oy) (o0, ox, oy) = T at *
    obtain ⟨t0, tx, ty⟩ := T
    refine AW.skip ?_
    repeat refine AW.seq ?_
    refine AW.block ?_
    repeat refine AW.seq ?_
    refine AW.reg ?_
    iterate 2 refine AOL.s1 (h := ?_)
    refine AOL.callD rfl (c2) (by kernel_rfl) rfl rfl (h := ?_)
    iterate 1 refine AOL.s1 (h := ?_)
    refine AOL.nil ?_
    refine AW.kq [1, 2, 4, 5, 6] (h := ?_)
    repeat refine AW.seq ?_
    refine AW.reg ?_
    iterate 6 refine AOL.s1 (h := ?_)
    refine AOL.nil ?_
    refine AW.kq [1, 2, 4, 5, 6, 20] (h := ?_)
    repeat refine AW.seq ?_
    refine AW.cond rfl (fun f_ => ?_) (fun f_ => ?_)
    · have f1 : k / 2 ^ n % 2 = 1 := by simpa using f_
      rw [if_pos f1] at ht
      have c3 := obolref03_Sum_c p2 ha
      have p3 := sumP_pt p2 ha
      generalize sumP (t0, tx, ty) (a0, ax, ay) = U at *
      obtain ⟨u0, ux, uy⟩ := U
      clear f1 f_ sh1 sh2 sh3 c2
      repeat refine AW.seq ?_
      refine AW.reg ?_
      iterate 2 refine AOL.s1 (h := ?_)
      refine AOL.callD rfl (c3) (by kernel_rfl) rfl rfl (h := ?_)
      iterate 1 refine AOL.s1 (h := ?_)
      refine AOL.nil ?_
      repeat refine AW.seq ?_
      refine AW.reg ?_
      iterate 3 refine AOL.s1 (h := ?_)
      refine AOL.nil ?_
      exact ⟨n, by omega, j + 1, _, _, _, rfl, by omega, p3, ht⟩
    · have f1 : ¬ k / 2 ^ n % 2 = 1 := by simpa using f_
      rw [if_neg f1] at ht
      clear f1 f_ sh1 sh2 sh3 c2
      refine AW.skip ?_
      repeat refine AW.seq ?_
      refine AW.reg ?_
      iterate 3 refine AOL.s1 (h := ?_)
      refine AOL.nil ?_
      exact ⟨n, by omega, j + 1, _, _, _, rfl, by omega, p2, ht⟩
  have j1 : j = 64 := by simp at c_; omega
  have n0 : n = 0 := by omega
  subst n0
  have ht' : timesP (a0, ax, ay) k = (o0, ox, oy) := ht.symm
  rw [ht']
  clear ht ht'
  repeat refine AW.seq ?_
  refine AW.exit ?_
  repeat (first | refine Kseq.ex ?_ | refine Kloop.ex ?_ | refine Kblock.miss (by decide) ?_)
  refine Kblock.hit ?_
  refine AW.kq [4, 5] (h := ?_)
  repeat refine AW.seq ?_
  refine AW.reg ?_
  iterate 2 refine AOL.s1 (h := ?_)
  refine AOL.nil ?_
  refine AW.kq [4] (h := ?_)
  repeat refine AW.seq ?_
  refine AW.ret ?_
  refine ⟨_, [], rfl, HOk.nil _, ?_⟩
  rfl
theorem obolref03_In_c {b : Bool} {x y : Int} (hx : w64 x) (hy : w64 y) : Fn Try.prog 17 [pt (b, x, y)] [] (fun r _ => r = bo (inP b x y)) := by
  refine Fn.enter Try.func17 Try.ntmps17 rfl (h := ?_)
  have tf := tf
  repeat refine AW.seq ?_
  refine AW.reg ?_
  iterate 2 refine AOL.s1 (h := ?_)
  refine AOL.nil ?_
  refine AW.kq [1] (h := ?_)
  repeat refine AW.seq ?_
  cases hp : isPt b x y with
  | false =>
    have ci := obolref03_Is_c (b := b) hx hy
    rw [hp] at ci
    refine AW.reg ?_
    iterate 1 refine AOL.s1 (h := ?_)
    refine AOL.callD rfl (ci) (by kernel_rfl) rfl rfl (h := ?_)
    iterate 1 refine AOL.s1 (h := ?_)
    refine AOL.nil ?_
    refine AW.kq [1, 3] (h := ?_)
    repeat refine AW.seq ?_
    refine AW.reg ?_
    iterate 7 refine AOL.s1 (h := ?_)
    refine AOL.nil ?_
    refine AW.kq [2] (h := ?_)
    repeat refine AW.seq ?_
    refine AW.ret ?_
    refine ⟨_, [], rfl, HOk.nil _, ?_⟩
    simp only [one?, inP, hp]; rfl
  | true =>
    have ci := obolref03_Is_c (b := b) hx hy
    rw [hp] at ci
    have cm := obolref03_Times_c (k := 288230376287764481) hp (by decide)
    refine AW.reg ?_
    iterate 1 refine AOL.s1 (h := ?_)
    refine AOL.callD rfl (ci) (by kernel_rfl) rfl rfl (h := ?_)
    iterate 1 refine AOL.s1 (h := ?_)
    refine AOL.nil ?_
    refine AW.kq [1, 3] (h := ?_)
    repeat refine AW.seq ?_
    refine AW.reg ?_
    iterate 3 refine AOL.s1 (h := ?_)
    refine AOL.callD rfl (cm) (by kernel_rfl) rfl rfl (h := ?_)
    iterate 3 refine AOL.s1 (h := ?_)
    refine AOL.nil ?_
    refine AW.kq [2] (h := ?_)
    repeat refine AW.seq ?_
    refine AW.ret ?_
    refine ⟨_, [], rfl, HOk.nil _, ?_⟩
    simp only [one?, inP, hp]; rfl
end Go.Proofs.Ytdbpjegocmdplaa.E.M

