/- Multiples of points, and points of order R, by the program; sums and multiples by the document: contracts over E. -/
import Derived.Test.YtdbpjegocmdplaaCurC
import Derived.Test.YtdbpjegocmdplaaProg
import Derived.KernelRfl
set_option linter.unusedVariables false
set_option linter.unusedSimpArgs false
set_option maxRecDepth 10000
open Go Go.Proofs.Ytdbpjegocmdplaa.E Go.Proofs
namespace Go.Proofs.Ytdbpjegocmdplaa.E.M
def negP (t : Bool × Int × Int) : Bool × Int × Int := (t.1, t.2.1, (0 - t.2.2) % 1152921505151057923)

theorem negP_pt {t : Bool × Int × Int} (h : Pt t) : Pt (negP t) := by
  obtain ⟨b, x, y⟩ := t
  cases b with
  | true => obtain ⟨rfl, rfl⟩ := h.inf; exact Pt.none
  | false =>
    obtain ⟨hx, hy, hc⟩ := h.fin
    refine Pt.mk hx (ltm _) ?_
    rw [K_emod, K_sub, K_0, ← hc]; exact Obol.neg_sq _

theorem w64R : w64 288230376287764481 := by decide

def inP (b : Bool) (x y : Int) : Bool := isPt b x y && (timesP (b, x, y) 288230376287764481).1

theorem sureP_self {b : Bool} {x y : Int} (h : isPt b x y = true) : sureP b x y = (b, x, y) := by unfold sureP; rw [if_pos h]

theorem sumP_inf : sumP (true, 0, 0) (true, 0, 0) = (true, 0, 0) := rfl
theorem tms_inf (k : Int) : ∀ i, tms (true, 0, 0) k i (true, 0, 0) = (true, 0, 0) := by
  intro i
  induction i with
  | zero => rfl
  | succ i ih =>
    rw [tms_succ]
    have : stepT (true, 0, 0) k i (true, 0, 0) = (true, 0, 0) := by unfold stepT; split <;> rfl
    rw [this]; exact ih
theorem curve_Neg_c {b : Bool} {x y : Int} (hx : w64 x) (hy : w64 y) : Fn Try.prog 34 [pt (b, x, y)] [] (fun r _ => r = pt (negP (sureP b x y))) := by
  have cs := curve_sure_c (b := b) hx hy
  have hp := (sureP_pt b x y).wx.2
  generalize sureP b x y = a at *
  refine Fn.enter Try.func34 Try.ntmps34 rfl (h := ?_)
  have tf := tf
  repeat refine AW.seq ?_
  refine AW.reg ?_
  iterate 2 refine AOL.s1 (h := ?_)
  refine AOL.nil ?_
  refine AW.kq [1, 2] (h := ?_)
  repeat refine AW.seq ?_
  refine AW.reg ?_
  iterate 1 refine AOL.s1 (h := ?_)
  refine AOL.callD rfl (cs) (by kernel_rfl) rfl rfl (h := ?_)
  iterate 1 refine AOL.s1 (h := ?_)
  refine AOL.nil ?_
  refine AW.kq [1, 2] (h := ?_)
  repeat refine AW.seq ?_
  refine AW.reg ?_
  iterate 2 refine AOL.s1 (h := ?_)
  refine AOL.callD rfl (curve_sub_c (by decide) hp.w) (by kernel_rfl) rfl rfl (h := ?_)
  iterate 2 refine AOL.s1 (h := ?_)
  refine AOL.nil ?_
  refine AW.kq [1, 2] (h := ?_)
  repeat refine AW.seq ?_
  refine AW.reg ?_
  iterate 2 refine AOL.s1 (h := ?_)
  refine AOL.nil ?_
  refine AW.kq [2] (h := ?_)
  repeat refine AW.seq ?_
  refine AW.ret ?_
  refine ⟨_, [], rfl, HOk.nil _, ?_⟩
  rfl
theorem tms_last (a : Bool × Int × Int) (k : Int) (o : Bool × Int × Int) : tms a k 0 o = o := rfl
set_option maxHeartbeats 2000000 in
theorem curve_Mul_c {b : Bool} {x y k : Int} (hx : w64 x) (hy : w64 y) (hk : w64 k) : Fn Try.prog 33 [pt (b, x, y), u k] [] (fun r _ => r = pt (timesP (sureP b x y) k)) := by
  have cs := curve_sure_c (b := b) hx hy
  have hp := sureP_pt b x y
  generalize sureP b x y = a at *
  obtain ⟨a0, bx, bY⟩ := a
  refine Fn.enter Try.func33 Try.ntmps33 rfl (h := ?_)
  have tf := tf
  have tfs := tfs
  repeat refine AW.seq ?_
  refine AW.reg ?_
  iterate 2 refine AOL.s1 (h := ?_)
  refine AOL.nil ?_
  refine AW.kq [1, 2, 4] (h := ?_)
  repeat refine AW.seq ?_
  refine AW.reg ?_
  iterate 1 refine AOL.s1 (h := ?_)
  refine AOL.callD rfl (cs) (by kernel_rfl) rfl rfl (h := ?_)
  iterate 1 refine AOL.s1 (h := ?_)
  refine AOL.nil ?_
  refine AW.kq [1, 2, 4] (h := ?_)
  clear cs
  repeat refine AW.seq ?_
  refine AW.reg ?_
  iterate 2 refine AOL.s1 (h := ?_)
  refine AOL.nil ?_
  refine AW.kq [1, 2, 4, 13] (h := ?_)
  repeat refine AW.seq ?_
  cases a0 with
  | true =>
    obtain ⟨rfl, rfl⟩ := hp.inf
    refine AW.cond rfl (fun c_ => ?_) (fun c_ => ?_)
    · repeat refine AW.seq ?_
      refine AW.reg ?_
      iterate 2 refine AOL.s1 (h := ?_)
      refine AOL.nil ?_
      refine AW.kq [4] (h := ?_)
      repeat refine AW.seq ?_
      refine AW.ret ?_
      refine ⟨_, [], rfl, HOk.nil _, ?_⟩
      simp only [timesP, tms_inf]; rfl
    · cases c_
  | false =>
  refine AW.cond rfl (fun c_ => ?_) (fun c_ => ?_)
  · cases c_
  refine AW.skip ?_
  clear c_
  obtain ⟨bx1, by1, -⟩ := hp.fin
  repeat refine AW.seq ?_
  refine AW.reg ?_
  iterate 1 refine AOL.s1 (h := ?_)
  refine AOL.nil ?_
  refine AW.kq [1, 2, 4, 5] (h := ?_)
  repeat refine AW.seq ?_
  refine AW.reg ?_
  iterate 1 refine AOL.s1 (h := ?_)
  refine AOL.nil ?_
  refine AW.kq [1, 2, 4, 5, 6] (h := ?_)
  repeat refine AW.seq ?_
  refine AW.block ?_
  repeat refine AW.seq ?_
  refine AW.loopK [1, 2, 4, 5, 6] (fun n s => ∃ (X Y Z : Int) (o : Bool × Int × Int), s = ⟨55, [(1, u k), (2, .ptr 1032 0), (4, .ptr 1064 0), (5, .ptr 1080 0), (6, i ((n : Int) - 1))], [(1032, ⟨32, true, [bo false, u bx, u bY]⟩), (1064, ⟨32, true, [bo false, u 0, u 0]⟩), (1080, ⟨107, true, [u X, u Y, u Z]⟩)]⟩ ∧ n ≤ 64 ∧ Rep X Y Z o ∧ tms (false, bx, bY) k n o = timesP (false, bx, bY) k) 64 ?_ ?_
  · exact ⟨0, 0, 0, (true, 0, 0), rfl, Nat.le_refl _, ⟨⟨by decide, by decide⟩, ⟨by decide, by decide⟩, ⟨by decide, by decide⟩, Pt.none, Or.inl ⟨rfl, rfl⟩⟩, rfl⟩
  rintro n s ⟨X, Y, Z, o, rfl, hn, hr, ht⟩
  repeat refine AW.seq ?_
  cases n with
  | zero =>
    have c0 : decide (((0 : Nat) : Int) - 1 ≥ 0) = false := by decide
    refine AW.reg ?_
    iterate 2 refine AOL.s1 (h := ?_)
    refine AOL.nil ?_
    refine AW.kq [1, 2, 4, 5, 6, 16] (h := ?_)
    repeat refine AW.seq ?_
    refine AW.cond rfl (fun c_ => ?_) (fun c_ => ?_)
    · cases c_
    clear c0 c_
    rw [tms_last] at ht
    rw [← ht]
    clear ht
    obtain ⟨hX, hY, hZ, ho, his⟩ := hr
    repeat refine AW.seq ?_
    refine AW.exit ?_
    repeat (first | refine Kseq.ex ?_ | refine Kloop.ex ?_ | refine Kblock.miss (by decide) ?_)
    refine Kblock.hit ?_
    refine AW.kq [4, 5] (h := ?_)
    have ci := modular_Inv_c (m := 1152921505151057923) (a := Z) prmP hZ.w
    rw [hZ.self] at ci
    rcases his with ⟨z0, rfl⟩ | ⟨z0, X', Y', rfl, ex, ey⟩
    · rw [if_pos z0] at ci
      subst z0
      repeat refine AW.seq ?_
      refine AW.reg ?_
      iterate 2 refine AOL.s1 (h := ?_)
      refine AOL.callD rfl (ci) (by kernel_rfl) rfl rfl (h := ?_)
      iterate 5 refine AOL.s1 (h := ?_)
      refine AOL.nil ?_
      refine AW.kq [4, 5, 7, 8] (h := ?_)
      repeat refine AW.seq ?_
      refine AW.reg ?_
      iterate 2 refine AOL.s1 (h := ?_)
      refine AOL.nil ?_
      refine AW.kq [4, 5, 7, 39] (h := ?_)
      repeat refine AW.seq ?_
      refine AW.cond rfl (fun c_ => ?_) (fun c_ => ?_)
      · repeat refine AW.seq ?_
        refine AW.reg ?_
        refine AOL.callD rfl (curve_inf_c) (by kernel_rfl) rfl rfl (h := ?_)
        iterate 1 refine AOL.s1 (h := ?_)
        refine AOL.nil ?_
        refine AW.kq [4] (h := ?_)
        repeat refine AW.seq ?_
        refine AW.ret ?_
        refine ⟨_, [], rfl, HOk.nil _, ?_⟩
        rfl
      · cases c_
    · rw [if_neg z0] at ci
      obtain ⟨hi, il⟩ := K_inv hZ z0
      obtain ⟨X1, Y1, -⟩ := ho.fin
      generalize inv 1152921505151057923 Z = I at *
      have e1 : X * (I * I % 1152921505151057923) % 1152921505151057923 = X' := by
        refine K_inj (ltm _) X1 ?_
        simp only [K_emod, K_mul, ex]
        exact Obol.unscale _ _ _ hi
      have e2 : Y * (I * I % 1152921505151057923 * I % 1152921505151057923) % 1152921505151057923 = Y' := by
        refine K_inj (ltm _) Y1 ?_
        simp only [K_emod, K_mul, ey]
        exact Obol.unscale3 _ _ _ hi
      repeat refine AW.seq ?_
      refine AW.reg ?_
      iterate 2 refine AOL.s1 (h := ?_)
      refine AOL.callD rfl (ci) (by kernel_rfl) rfl rfl (h := ?_)
      iterate 5 refine AOL.s1 (h := ?_)
      refine AOL.nil ?_
      refine AW.kq [4, 5, 7, 8] (h := ?_)
      repeat refine AW.seq ?_
      refine AW.reg ?_
      iterate 2 refine AOL.s1 (h := ?_)
      refine AOL.nil ?_
      refine AW.kq [4, 5, 7, 39] (h := ?_)
      repeat refine AW.seq ?_
      refine AW.cond rfl (fun c_ => ?_) (fun c_ => ?_)
      · cases c_
      refine AW.skip ?_
      repeat refine AW.seq ?_
      refine AW.reg ?_
      iterate 2 refine AOL.s1 (h := ?_)
      refine AOL.callD rfl (curve_mul_c il.w il.w) (by kernel_rfl) rfl rfl (h := ?_)
      iterate 1 refine AOL.s1 (h := ?_)
      refine AOL.nil ?_
      refine AW.kq [4, 5, 7, 9] (h := ?_)
      have cX := curve_mul_c (a := X) (b := I * I % 1152921505151057923) hX.w (ltm _).w
      rw [e1] at cX
      have cY := curve_mul_c (a := Y) (b := I * I % 1152921505151057923 * I % 1152921505151057923) hY.w (ltm _).w
      rw [e2] at cY
      clear e1 e2 ex ey
      repeat refine AW.seq ?_
      refine AW.drw 9 [] (by kernel_rfl) (h := ?_)
      iterate 3 refine ADL.dm 1 (h := ?_)
      refine ADL.call rfl (cX) (by kernel_rfl) rfl rfl (h := ?_)
      iterate 4 refine ADL.dm 1 (h := ?_)
      refine ADL.call rfl (curve_mul_c (ltm _).w il.w) (by kernel_rfl) rfl rfl (h := ?_)
      refine ADL.done hmix rfl rfl (hT := ?_)
      refine AOL.callD rfl (cY) (by kernel_rfl) rfl rfl (h := ?_)
      iterate 2 refine AOL.s1 (h := ?_)
      refine AOL.nil ?_
      refine AW.kq [4] (h := ?_)
      repeat refine AW.seq ?_
      refine AW.ret ?_
      refine ⟨_, [], rfl, HOk.nil _, ?_⟩
      rfl
  | succ n =>
    have e0 : ((n + 1 : Nat) : Int) - 1 = n := by omega
    have c0 : decide ((n : Int) ≥ 0) = true := by simp
    have e1 : IntKind.i64.wrap ((n : Int) - 1) = (n : Int) - 1 := wrapI_o (by omega) (by omega)
    obtain ⟨sh1, sh2⟩ := shr_b (y := k) (k := n) hk (by omega)
    have sh3 := and_one sh2.1 sh2.2
    have n0 : ¬ (n : Int) < 0 := by omega
    rw [e0]
    refine AW.reg ?_
    iterate 2 refine AOL.s1 (h := ?_)
    refine AOL.nil ?_
    refine AW.kq [1, 2, 4, 5, 6, 16] (h := ?_)
    repeat refine AW.seq ?_
    refine AW.cond rfl (fun c_ => ?_) (fun c_ => ?_)
    · clear c0 c_ e0
      have hZ := hr.lz
      rw [tms_succ] at ht
      have dbl : (¬ Z > 0) → Rep X Y Z (sumP o o) := by
        intro hz
        have z0 : Z = 0 := by have := hZ.1; omega
        rcases hr.is with ⟨-, e⟩ | ⟨e, -⟩
        · rw [e, sumP_inf, ← e]; exact hr
        · exact absurd z0 e
      refine AW.skip ?_
      repeat refine AW.seq ?_
      refine AW.block ?_
      repeat refine AW.seq ?_
      refine AW.reg ?_
      iterate 3 refine AOL.s1 (h := ?_)
      refine AOL.nil ?_
      refine AW.kq [1, 2, 4, 5, 6, 21] (h := ?_)
      repeat refine AW.seq ?_
      refine AW.midK [1, 2, 4, 5, 6] (fun t => ∃ X Y Z, t = ⟨55, [(1, u k), (2, .ptr 1032 0), (4, .ptr 1064 0), (5, .ptr 1080 0), (6, i n)], [(1032, ⟨32, true, [bo false, u bx, u bY]⟩), (1064, ⟨32, true, [bo false, u 0, u 0]⟩), (1080, ⟨107, true, [u X, u Y, u Z]⟩)]⟩ ∧ Rep X Y Z (sumP o o)) ?_ ?_
      · refine AW.cond rfl (fun d_ => ?_) (fun d_ => ?_)
        · have d1 : Z > 0 := by simpa using d_
          have hrep := tw_rep hr (by omega)
          have ct := curve_twice_c hr.lx hr.ly hr.lz
          generalize tw X Y Z = T at *
          repeat refine AW.seq ?_
          refine AW.reg ?_
          iterate 1 refine AOL.s1 (h := ?_)
          refine AOL.callD rfl (ct) (by kernel_rfl) rfl rfl (h := ?_)
          iterate 1 refine AOL.s1 (h := ?_)
          refine AOL.nil ?_
          exact ⟨_, _, _, rfl, hrep⟩
        · have d1 : ¬ Z > 0 := by simpa using d_
          refine AW.skip ?_
          exact ⟨_, _, _, rfl, dbl d1⟩
      rintro t ⟨X, Y, Z, rfl, hr⟩
      clear dbl hZ
      repeat refine AW.seq ?_
      refine AW.reg ?_
      iterate 5 refine AOL.s1 (h := ?_)
      refine AOL.nil ?_
      refine AW.kq [1, 2, 4, 5, 6, 28] (h := ?_)
      repeat refine AW.seq ?_
      refine AW.cond rfl (fun f_ => ?_) (fun f_ => ?_)
      · have f1 : k / 2 ^ n % 2 = 1 := by simpa using f_
        have hrep := more_rep hr hp
        have cm := curve_more_c hr.lx hr.ly hr.lz bx1 by1
        generalize moreF X Y Z bx bY = M at *
        have ht' : tms (false, bx, bY) k n (sumP (sumP o o) (false, bx, bY)) = timesP (false, bx, bY) k := by
          rw [← ht]; unfold stepT; rw [if_pos f1]
        clear ht f1 f_ sh1 sh2 sh3
        repeat refine AW.seq ?_
        refine AW.reg ?_
        iterate 2 refine AOL.s1 (h := ?_)
        refine AOL.callD rfl (cm) (by kernel_rfl) rfl rfl (h := ?_)
        iterate 1 refine AOL.s1 (h := ?_)
        refine AOL.nil ?_
        repeat refine AW.seq ?_
        refine AW.reg ?_
        iterate 3 refine AOL.s1 (h := ?_)
        refine AOL.nil ?_
        exact ⟨n, by omega, _, _, _, _, rfl, by omega, hrep, ht'⟩
      · have f1 : ¬ k / 2 ^ n % 2 = 1 := by simpa using f_
        have ht' : tms (false, bx, bY) k n (sumP o o) = timesP (false, bx, bY) k := by
          rw [← ht]; unfold stepT; rw [if_neg f1]
        clear ht f1 f_ sh1 sh2 sh3
        refine AW.skip ?_
        repeat refine AW.seq ?_
        refine AW.reg ?_
        iterate 3 refine AOL.s1 (h := ?_)
        refine AOL.nil ?_
        exact ⟨n, by omega, _, _, _, _, rfl, by omega, hr, ht'⟩
    · cases c_
theorem curve_In_c {b : Bool} {x y : Int} (hx : w64 x) (hy : w64 y) : Fn Try.prog 38 [pt (b, x, y)] [] (fun r _ => r = bo (inP b x y)) := by
  have cm := curve_Mul_c (b := b) (k := 288230376287764481) hx hy (by decide)
  refine Fn.enter Try.func38 Try.ntmps38 rfl (h := ?_)
  have tf := tf
  repeat refine AW.seq ?_
  refine AW.reg ?_
  iterate 2 refine AOL.s1 (h := ?_)
  refine AOL.nil ?_
  refine AW.kq [1] (h := ?_)
  repeat refine AW.seq ?_
  cases hp : isPt b x y with
  | false =>
    have ci := curve_Is_c (b := b) hx hy
    rw [hp] at ci
    refine AW.reg ?_
    iterate 1 refine AOL.s1 (h := ?_)
    refine AOL.callD rfl (ci) (by kernel_rfl) rfl rfl (h := ?_)
    iterate 6 refine AOL.s1 (h := ?_)
    refine AOL.nil ?_
    refine AW.kq [2] (h := ?_)
    repeat refine AW.seq ?_
    refine AW.ret ?_
    refine ⟨_, [], rfl, HOk.nil _, ?_⟩
    simp only [one?, inP, hp]; rfl
  | true =>
    have ci := curve_Is_c (b := b) hx hy
    rw [hp] at ci
    rw [sureP_self hp] at cm
    refine AW.reg ?_
    iterate 1 refine AOL.s1 (h := ?_)
    refine AOL.callD rfl (ci) (by kernel_rfl) rfl rfl (h := ?_)
    iterate 2 refine AOL.s1 (h := ?_)
    refine AOL.callD rfl (cm) (by kernel_rfl) rfl rfl (h := ?_)
    iterate 3 refine AOL.s1 (h := ?_)
    refine AOL.nil ?_
    refine AW.kq [2] (h := ?_)
    repeat refine AW.seq ?_
    refine AW.ret ?_
    refine ⟨_, [], rfl, HOk.nil _, ?_⟩
    simp only [one?, inP, hp]; rfl
end Go.Proofs.Ytdbpjegocmdplaa.E.M

