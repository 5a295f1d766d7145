/- Multiples of points, by the program: contracts over E. -/
import Derived.Test.YtdbpjegocmdplaaCurB
import Derived.Test.YtdbpjegocmdplaaProg
import Derived.KernelRfl
set_option linter.unusedVariables false
set_option linter.unusedSimpArgs false
set_option maxRecDepth 10000
open Go Go.Proofs.Ytdbpjegocmdplaa.E Go.Proofs
namespace Go.Proofs.Ytdbpjegocmdplaa.E.M
/-- a scaled point stands for a point -/
structure Rep (x y z : Int) (o : Bool × Int × Int) : Prop where
  lx : lt x
  ly : lt y
  lz : lt z
  po : Pt o
  is : (z = 0 ∧ o = (true, 0, 0)) ∨ (z ≠ 0 ∧ ∃ X Y, o = (false, X, Y) ∧ K x = K X * (K z * K z) ∧ K y = K Y * (K z * K z * K z))

theorem K_ne {z : Int} (h : lt z) (h0 : z ≠ 0) : K z ≠ 0 := fun e => h0 ((K_zero_iff h).1 e)


abbrev sc (t : Int × Int × Int) : AV := .agg [u t.1, u t.2.1, u t.2.2]
def twX (m s : Int) : Int := (m * m % 1152921505151057923 - (s + s) % 1152921505151057923) % 1152921505151057923
def twY (m s x' y2 : Int) : Int := (m * ((s - x') % 1152921505151057923) % 1152921505151057923 - 8 * (y2 * y2 % 1152921505151057923) % 1152921505151057923) % 1152921505151057923
def twM (x z2 : Int) : Int := (3 * (x * x % 1152921505151057923) % 1152921505151057923 + z2 * z2 % 1152921505151057923) % 1152921505151057923
def tw (x y z : Int) : Int × Int × Int :=
  (twX (twM x (z * z % 1152921505151057923)) (4 * (x * (y * y % 1152921505151057923) % 1152921505151057923) % 1152921505151057923), twY (twM x (z * z % 1152921505151057923)) (4 * (x * (y * y % 1152921505151057923) % 1152921505151057923) % 1152921505151057923) (twX (twM x (z * z % 1152921505151057923)) (4 * (x * (y * y % 1152921505151057923) % 1152921505151057923) % 1152921505151057923)) (y * y % 1152921505151057923), 2 * (y * z % 1152921505151057923) % 1152921505151057923)
theorem tw_rep {x y z : Int} {o : Bool × Int × Int} (h : Rep x y z o) (hz : z ≠ 0) : Rep (tw x y z).1 (tw x y z).2.1 (tw x y z).2.2 (sumP o o) := by
  obtain ⟨hx, hy, hzl, ho, his⟩ := h
  rcases his with ⟨h0, -⟩ | ⟨-, X, Y, rfl, ex, ey⟩
  · exact absurd h0 hz
  simp only [tw, twX, twY, twM]
  refine ⟨ltm _, ltm _, ltm _, sumP_pt ho ho, ?_⟩
  have kz := K_ne hzl hz
  have ez : K (2 * (y * z % 1152921505151057923) % 1152921505151057923) = 2 * (K Y * (K z * K z * K z) * K z) := by
    simp only [K_emod, K_mul, K_2, ey]
  by_cases hw : X = X ∧ (Y + Y) % 1152921505151057923 = 0
  · left
    have y0 : K Y + K Y = 0 := by rw [← K_add, ← K_emod, hw.2, K_0]
    constructor
    · rw [← K_zero_iff (ltm _), ez]
      exact Obol.twice_zero _ _ y0
    · rw [sumP_fin, if_pos hw]
  · right
    obtain ⟨i, hi, hl⟩ : ∃ i, i * (K Y + K Y) = 1 ∧ K (lam (false, X, Y) (false, X, Y)) = (3 * (K X * K X) + 1) * i := by
      rcases lam_K ho ho hw with ⟨-, -, i, hi, hl⟩ | ⟨e, -⟩
      · exact ⟨i, hi, hl⟩
      · exact absurd rfl e
    obtain ⟨h1, h2⟩ := line_K (ax := X) (ay := Y) (bx := X) (bY := Y) (l := lam (false, X, Y) (false, X, Y))
    have es : sumP (false, X, Y) (false, X, Y) = lineP (lam (false, X, Y) (false, X, Y)) (false, X, Y) (false, X, Y) := by
      rw [sumP_fin, if_neg hw]
    constructor
    · rw [Ne, ← K_zero_iff (ltm _), ez]
      exact Obol.twice_nonzero Obol.prime_P _ _ i hi kz
    · refine ⟨_, _, es, ?_, ?_⟩
      · have h1' : K ((lam (false, X, Y) (false, X, Y) * lam (false, X, Y) (false, X, Y) - X - X) % 1152921505151057923) = _ := h1
        simp only
        rw [h1', ez]
        simp only [K_emod, K_sub, K_add, K_mul, K_3, K_4, ex, ey]
        exact Obol.twice_x _ _ _ _ i hi hl
      · have h2' : K ((lam (false, X, Y) (false, X, Y) * (X - (lam (false, X, Y) (false, X, Y) * lam (false, X, Y) (false, X, Y) - X - X) % 1152921505151057923) - Y) % 1152921505151057923) = _ := h2
        simp only
        rw [h2', ez]
        simp only [K_emod, K_sub, K_add, K_mul, K_3, K_4, K_8, ex, ey]
        exact Obol.twice_y _ _ _ _ i _ hi hl (Obol.twice_x _ _ _ _ i hi hl)


theorem tTup {n : Nat} : True := trivial
abbrev TFS : Prop := tSz Try.prog 107 = some 3 ∧
    tAgg Try.prog 107 = some true ∧
    tBytes Try.prog 107 = some 24 ∧
    tZero Try.prog 107 = some [(.int .u64 0), (.int .u64 0), (.int .u64 0)] ∧
    tSlice Try.prog 107 = none ∧
    tIface Try.prog 107 = some false ∧
    tCls Try.prog 107 = .other ∧
    tField Try.prog 107 0 = some (0, 25) ∧
    tField Try.prog 107 1 = some (1, 25) ∧
    tField Try.prog 107 2 = some (2, 25) ∧
    (∀ ps, aBuild Try.prog 107 ps = (aFill ([(0, 1), (1, 1), (2, 1)][·]?) [.val (.int .u64 0), .val (.int .u64 0), .val (.int .u64 0)] ps).map .agg)
theorem tfs : TFS :=
  ⟨rfl, rfl, rfl, rfl, rfl, rfl, rfl, rfl, rfl, rfl, fun _ => rfl⟩

set_option maxHeartbeats 2000000 in
theorem curve_twice_c {x y z : Int} (hx : lt x) (hy : lt y) (hz : lt z) : Fn Try.prog 65 [sc (x, y, z)] [] (fun r _ => r = sc (tw x y z)) := by
  refine Fn.enter Try.func65 Try.ntmps65 rfl (h := ?_)
  have tf := tf
  have tfs := tfs
  repeat refine AW.seq ?_
  refine AW.reg ?_
  iterate 2 refine AOL.s1 (h := ?_)
  refine AOL.nil ?_
  refine AW.kq [1, 2] (h := ?_)
  repeat refine AW.seq ?_
  refine AW.reg ?_
  iterate 4 refine AOL.s1 (h := ?_)
  refine AOL.callD rfl (curve_mul_c hy.w hy.w) (by kernel_rfl) rfl rfl (h := ?_)
  iterate 1 refine AOL.s1 (h := ?_)
  refine AOL.nil ?_
  refine AW.kq [1, 2, 3] (h := ?_)
  repeat refine AW.seq ?_
  refine AW.reg ?_
  iterate 3 refine AOL.s1 (h := ?_)
  refine AOL.callD rfl (curve_mul_c hx.w (ltm _).w) (by kernel_rfl) rfl rfl (h := ?_)
  refine AOL.callD rfl (curve_mul_c (by decide) (ltm _).w) (by kernel_rfl) rfl rfl (h := ?_)
  iterate 1 refine AOL.s1 (h := ?_)
  refine AOL.nil ?_
  refine AW.kq [1, 2, 3, 4] (h := ?_)
  repeat refine AW.seq ?_
  refine AW.reg ?_
  iterate 4 refine AOL.s1 (h := ?_)
  refine AOL.callD rfl (curve_mul_c hz.w hz.w) (by kernel_rfl) rfl rfl (h := ?_)
  iterate 1 refine AOL.s1 (h := ?_)
  refine AOL.nil ?_
  refine AW.kq [1, 2, 3, 4, 5] (h := ?_)
  repeat refine AW.seq ?_
  refine AW.reg ?_
  iterate 4 refine AOL.s1 (h := ?_)
  refine AOL.callD rfl (curve_mul_c hx.w hx.w) (by kernel_rfl) rfl rfl (h := ?_)
  refine AOL.callD rfl (curve_mul_c (by decide) (ltm _).w) (by kernel_rfl) rfl rfl (h := ?_)
  iterate 2 refine AOL.s1 (h := ?_)
  refine AOL.callD rfl (curve_mul_c (ltm _).w (ltm _).w) (by kernel_rfl) rfl rfl (h := ?_)
  refine AOL.callD rfl (modular_Add_c mdP (ltm _).w (ltm _).w) (by kernel_rfl) rfl rfl (h := ?_)
  iterate 1 refine AOL.s1 (h := ?_)
  refine AOL.nil ?_
  refine AW.kq [1, 2, 3, 4, 6] (h := ?_)
  have hm : lt (twM x (z * z % 1152921505151057923)) := ltm _
  have hs := ltm (4 * (x * (y * y % 1152921505151057923) % 1152921505151057923))
  have hy2 := ltm (y * y)
  have e0 : tw x y z = (twX (twM x (z * z % 1152921505151057923)) (4 * (x * (y * y % 1152921505151057923) % 1152921505151057923) % 1152921505151057923), twY (twM x (z * z % 1152921505151057923)) (4 * (x * (y * y % 1152921505151057923) % 1152921505151057923) % 1152921505151057923) (twX (twM x (z * z % 1152921505151057923)) (4 * (x * (y * y % 1152921505151057923) % 1152921505151057923) % 1152921505151057923)) (y * y % 1152921505151057923), 2 * (y * z % 1152921505151057923) % 1152921505151057923) := rfl
  rw [e0]
  clear e0
  rw [show (3 * (x * x % 1152921505151057923) % 1152921505151057923 + z * z % 1152921505151057923 * (z * z % 1152921505151057923) % 1152921505151057923) % 1152921505151057923 = twM x (z * z % 1152921505151057923) from rfl]
  generalize twM x (z * z % 1152921505151057923) = m at *
  generalize 4 * (x * (y * y % 1152921505151057923) % 1152921505151057923) % 1152921505151057923 = s at *
  generalize y * y % 1152921505151057923 = y2 at *
  repeat refine AW.seq ?_
  refine AW.reg ?_
  iterate 2 refine AOL.s1 (h := ?_)
  refine AOL.callD rfl (curve_mul_c hm.w hm.w) (by kernel_rfl) rfl rfl (h := ?_)
  iterate 2 refine AOL.s1 (h := ?_)
  refine AOL.callD rfl (modular_Add_c mdP hs.w hs.w) (by kernel_rfl) rfl rfl (h := ?_)
  refine AOL.callD rfl (curve_sub_c (ltm _).w (ltm _).w) (by kernel_rfl) rfl rfl (h := ?_)
  iterate 1 refine AOL.s1 (h := ?_)
  refine AOL.nil ?_
  refine AW.kq [1, 2, 3, 4, 6, 7] (h := ?_)
  rw [show (m * m % 1152921505151057923 - (s + s) % 1152921505151057923) % 1152921505151057923 = twX m s from rfl]
  have hX : lt (twX m s) := ltm _
  generalize twX m s = X at *
  repeat refine AW.seq ?_
  refine AW.drw 17 [] (by kernel_rfl) (h := ?_)
  iterate 4 refine ADL.dm 1 (h := ?_)
  refine ADL.call rfl (curve_sub_c hs.w hX.w) (by kernel_rfl) rfl rfl (h := ?_)
  refine ADL.call rfl (curve_mul_c hm.w (ltm _).w) (by kernel_rfl) rfl rfl (h := ?_)
  iterate 2 refine ADL.dm 1 (h := ?_)
  refine ADL.call rfl (curve_mul_c hy2.w hy2.w) (by kernel_rfl) rfl rfl (h := ?_)
  refine ADL.call rfl (curve_mul_c (by decide) (ltm _).w) (by kernel_rfl) rfl rfl (h := ?_)
  refine ADL.call rfl (curve_sub_c (ltm _).w (ltm _).w) (by kernel_rfl) rfl rfl (h := ?_)
  iterate 4 refine ADL.dm 1 (h := ?_)
  refine ADL.call rfl (curve_mul_c hy.w hz.w) (by kernel_rfl) rfl rfl (h := ?_)
  refine ADL.call rfl (curve_mul_c (by decide) (ltm _).w) (by kernel_rfl) rfl rfl (h := ?_)
  refine ADL.done hmix rfl rfl (hT := ?_)
  iterate 2 refine AOL.s1 (h := ?_)
  refine AOL.nil ?_
  refine AW.kq [2] (h := ?_)
  repeat refine AW.seq ?_
  refine AW.ret ?_
  refine ⟨_, [], rfl, HOk.nil _, ?_⟩
  rfl
def mrH (x z bx : Int) : Int := (bx * (z * z % 1152921505151057923) % 1152921505151057923 - x) % 1152921505151057923
def mrR (y z bY : Int) : Int := (bY * (z * z % 1152921505151057923 * z % 1152921505151057923) % 1152921505151057923 - y) % 1152921505151057923
def mrX (r h3 v : Int) : Int := ((r * r % 1152921505151057923 - h3) % 1152921505151057923 - (v + v) % 1152921505151057923) % 1152921505151057923
def mr (x y z h r : Int) : Int × Int × Int :=
  (mrX r (h * (h * h % 1152921505151057923) % 1152921505151057923) (x * (h * h % 1152921505151057923) % 1152921505151057923), (r * ((x * (h * h % 1152921505151057923) % 1152921505151057923 - mrX r (h * (h * h % 1152921505151057923) % 1152921505151057923) (x * (h * h % 1152921505151057923) % 1152921505151057923)) % 1152921505151057923) % 1152921505151057923 - y * (h * (h * h % 1152921505151057923) % 1152921505151057923) % 1152921505151057923) % 1152921505151057923, h * z % 1152921505151057923)
def moreF (x y z bx bY : Int) : Int × Int × Int :=
  if z = 0 then (bx, bY, 1) else if mrH x z bx = 0 ∧ mrR y z bY = 0 then tw x y z else mr x y z (mrH x z bx) (mrR y z bY)
theorem more_rep {x y z : Int} {o : Bool × Int × Int} (h : Rep x y z o) {bx bY : Int} (hb : Pt (false, bx, bY)) : Rep (moreF x y z bx bY).1 (moreF x y z bx bY).2.1 (moreF x y z bx bY).2.2 (sumP o (false, bx, bY)) := by
  have h0 := h
  obtain ⟨hx, hy, hzl, ho, his⟩ := h
  obtain ⟨bx1, by1, bc⟩ := hb.fin
  unfold moreF
  rcases his with ⟨z0, rfl⟩ | ⟨z0, X, Y, rfl, ex, ey⟩
  · rw [if_pos z0]
    refine ⟨bx1, by1, ⟨show (0:Int) ≤ 1 by decide, show (1:Int) < 1152921505151057923 by decide⟩, sumP_pt ho hb, ?_⟩
    right
    refine ⟨show (1:Int) ≠ 0 by decide, bx, bY, rfl, ?_, ?_⟩
    · rw [K_1]; exact Obol.one_two _
    · rw [K_1]; exact Obol.one_three _
  rw [if_neg z0]
  have kz := K_ne hzl z0
  obtain ⟨X1, Y1, Xc⟩ := ho.fin
  have eh : K (mrH x z bx) = K bx * (K z * K z) - K X * (K z * K z) := by
    simp only [mrH, mrR, K_emod, K_sub, K_mul, ex]
  have er : K (mrR y z bY) = K bY * (K z * K z * K z) - K Y * (K z * K z * K z) := by
    simp only [mrH, mrR, K_emod, K_sub, K_mul, ey]

  have hh1 : lt (mrH x z bx) := ltm _
  have hr1 : lt (mrR y z bY) := ltm _
  generalize mrH x z bx = hh at *
  generalize mrR y z bY = rr at *
  have hh0 : hh = 0 ↔ bx = X := by
    rw [← K_zero_iff hh1, eh]
    constructor
    · intro e; exact K_inj bx1 X1 (Obol.scale_two Obol.prime_P kz e)
    · rintro rfl; exact Obol.self_sub _
  have rr0 : rr = 0 ↔ bY = Y := by
    rw [← K_zero_iff hr1, er]
    constructor
    · intro e; exact K_inj by1 Y1 (Obol.scale_three Obol.prime_P kz e)
    · rintro rfl; exact Obol.self_sub _

  by_cases same : hh = 0 ∧ rr = 0
  · rw [if_pos same]
    obtain ⟨e1, e2⟩ := same
    rw [hh0.1 e1, rr0.1 e2]; exact tw_rep h0 z0
  · rw [if_neg same]
    simp only [mr, mrX]
    refine ⟨ltm _, ltm _, ltm _, sumP_pt ho hb, ?_⟩
    have ez : K (hh * z % 1152921505151057923) = K hh * K z := by simp only [K_emod, K_mul]
    by_cases e1 : hh = 0
    · left
      have r0 : rr ≠ 0 := fun e => same ⟨e1, e⟩
      have hX := hh0.1 e1
      subst hX
      constructor
      · rw [← K_zero_iff (ltm _), ez, e1, K_0]; exact Obol.zero_mul' _
      · rw [sumP_fin, if_pos]
        refine ⟨rfl, ?_⟩
        rcases Obol.y_cases Obol.prime_P Xc bc with h | h
        · exact absurd (rr0.2 (K_inj by1 Y1 h.symm)) r0
        · have : K (Y + bY) = K 0 := by rw [K_add, K_0]; exact h
          rw [K_iff.1 this]; rfl
    · right
      have kh := K_ne hh1 e1
      have hX : ¬ X = bx := fun e => e1 (hh0.2 e.symm)
      have hw : ¬ (X = bx ∧ (Y + bY) % 1152921505151057923 = 0) := fun e => hX e.1
      rcases lam_K ho hb hw with ⟨e, -⟩ | ⟨-, i, hi, hl⟩
      · exact absurd e hX
      obtain ⟨h1, h2⟩ := line_K (ax := X) (ay := Y) (bx := bx) (bY := bY) (l := lam (false, X, Y) (false, bx, bY))
      have es : sumP (false, X, Y) (false, bx, bY) = lineP (lam (false, X, Y) (false, bx, bY)) (false, X, Y) (false, bx, bY) := by
        rw [sumP_fin, if_neg hw]
      constructor
      · rw [Ne, ← K_zero_iff (ltm _), ez]
        exact Obol.fin_mul_ne_zero Obol.prime_P kh kz
      · refine ⟨_, _, es, ?_, ?_⟩
        · have h1' : K ((lam (false, X, Y) (false, bx, bY) * lam (false, X, Y) (false, bx, bY) - X - bx) % 1152921505151057923) = _ := h1
          simp only
          rw [h1', ez]
          simp only [K_emod, K_sub, K_add, K_mul, ex]
          exact Obol.more_x _ _ _ _ i _ _ hi hl _ _ _ eh er rfl
        · have h2' : K ((lam (false, X, Y) (false, bx, bY) * (X - (lam (false, X, Y) (false, bx, bY) * lam (false, X, Y) (false, bx, bY) - X - bx) % 1152921505151057923) - Y) % 1152921505151057923) = _ := h2
          simp only
          rw [h2', ez]
          simp only [K_emod, K_sub, K_add, K_mul, ex, ey]
          exact Obol.more_y _ _ _ _ i _ _ _ hi hl _ _ _ eh er rfl (Obol.more_x _ _ _ _ i _ _ hi hl _ _ _ eh er rfl)


set_option maxHeartbeats 2000000 in
theorem curve_more_c {x y z bx bY : Int} (hx : lt x) (hy : lt y) (hz : lt z) (bx1 : lt bx) (by1 : lt bY) : Fn Try.prog 66 [sc (x, y, z), pt (false, bx, bY)] [] (fun r _ => r = sc (moreF x y z bx bY)) := by
  refine Fn.enter Try.func66 Try.ntmps66 rfl (h := ?_)
  have tf := tf
  have tfs := tfs
  repeat refine AW.seq ?_
  refine AW.reg ?_
  iterate 3 refine AOL.s1 (h := ?_)
  refine AOL.nil ?_
  refine AW.kq [2, 3, 4] (h := ?_)
  repeat refine AW.seq ?_
  refine AW.reg ?_
  iterate 3 refine AOL.s1 (h := ?_)
  refine AOL.nil ?_
  refine AW.kq [2, 3, 4, 14] (h := ?_)
  repeat refine AW.seq ?_
  refine AW.cond rfl (fun c_ => ?_) (fun c_ => ?_)
  · have z0 : z = 0 := by simpa using c_
    have e0 : moreF x y z bx bY = (bx, bY, 1) := by unfold moreF; rw [if_pos z0]
    rw [e0]
    clear e0 z0 c_
    repeat refine AW.seq ?_
    refine AW.reg ?_
    iterate 6 refine AOL.s1 (h := ?_)
    refine AOL.nil ?_
    refine AW.kq [4] (h := ?_)
    repeat refine AW.seq ?_
    refine AW.ret ?_
    refine ⟨_, [], rfl, HOk.nil _, ?_⟩
    rfl
  have z0 : ¬ z = 0 := by simpa using c_
  have e0 : moreF x y z bx bY = if mrH x z bx = 0 ∧ mrR y z bY = 0 then tw x y z else mr x y z (mrH x z bx) (mrR y z bY) := by unfold moreF; rw [if_neg z0]
  rw [e0]
  clear e0 z0 c_
  refine AW.skip ?_
  repeat refine AW.seq ?_
  refine AW.reg ?_
  iterate 4 refine AOL.s1 (h := ?_)
  refine AOL.callD rfl (curve_mul_c hz.w hz.w) (by kernel_rfl) rfl rfl (h := ?_)
  iterate 1 refine AOL.s1 (h := ?_)
  refine AOL.nil ?_
  refine AW.kq [2, 3, 4, 5] (h := ?_)
  repeat refine AW.seq ?_
  refine AW.drw 6 [] (by kernel_rfl) (h := ?_)
  iterate 3 refine ADL.dm 1 (h := ?_)
  refine ADL.call rfl (curve_mul_c bx1.w (ltm _).w) (by kernel_rfl) rfl rfl (h := ?_)
  iterate 2 refine ADL.dm 1 (h := ?_)
  refine ADL.done hmix rfl rfl (hT := ?_)
  refine AOL.callD rfl (curve_sub_c (ltm _).w hx.w) (by kernel_rfl) rfl rfl (h := ?_)
  iterate 1 refine AOL.s1 (h := ?_)
  refine AOL.nil ?_
  refine AW.kq [2, 3, 4, 5, 6] (h := ?_)
  repeat refine AW.seq ?_
  refine AW.drw 9 [] (by kernel_rfl) (h := ?_)
  iterate 5 refine ADL.dm 1 (h := ?_)
  refine ADL.call rfl (curve_mul_c (ltm _).w hz.w) (by kernel_rfl) rfl rfl (h := ?_)
  refine ADL.call rfl (curve_mul_c by1.w (ltm _).w) (by kernel_rfl) rfl rfl (h := ?_)
  iterate 2 refine ADL.dm 1 (h := ?_)
  refine ADL.done hmix rfl rfl (hT := ?_)
  refine AOL.callD rfl (curve_sub_c (ltm _).w hy.w) (by kernel_rfl) rfl rfl (h := ?_)
  iterate 1 refine AOL.s1 (h := ?_)
  refine AOL.nil ?_
  refine AW.kq [2, 4, 6, 7] (h := ?_)
  rw [show (bx * (z * z % 1152921505151057923) % 1152921505151057923 - x) % 1152921505151057923 = mrH x z bx from rfl, show (bY * (z * z % 1152921505151057923 * z % 1152921505151057923) % 1152921505151057923 - y) % 1152921505151057923 = mrR y z bY from rfl]
  have hh : lt (mrH x z bx) := ltm _
  have hr : lt (mrR y z bY) := ltm _
  generalize mrH x z bx = h at *
  generalize mrR y z bY = r at *
  repeat refine AW.seq ?_
  refine AW.reg ?_
  iterate 3 refine AOL.s1 (h := ?_)
  refine AOL.kq [2, 4, 6, 7, 44] (h := ?_)
  refine AOL.and 44 47 (os' := ?_) (x := ?_) (h1 := ?_) (h0 := ?_) (h := ?_)
  rotate_left 2
  iterate 2
    · intro hb_ K' hK; (iterate 3 refine AOL.s1 (h := ?_)); refine AOL.kq [2, 4, 6, 7, 47] (h := ?_); exact hK
  refine AOL.nil ?_
  refine AW.kq [2, 4, 6, 7, 47] (h := ?_)
  repeat refine AW.seq ?_
  refine AW.cond rfl (fun c_ => ?_) (fun c_ => ?_)
  · have c1 : h = 0 ∧ r = 0 := by simpa using c_
    rw [if_pos c1]
    clear c1 c_
    repeat refine AW.seq ?_
    refine AW.reg ?_
    iterate 1 refine AOL.s1 (h := ?_)
    refine AOL.callD rfl (curve_twice_c hx hy hz) (by kernel_rfl) rfl rfl (h := ?_)
    iterate 1 refine AOL.s1 (h := ?_)
    refine AOL.nil ?_
    refine AW.kq [4] (h := ?_)
    repeat refine AW.seq ?_
    refine AW.ret ?_
    refine ⟨_, [], rfl, HOk.nil _, ?_⟩
    rfl
  have c1 : ¬ (h = 0 ∧ r = 0) := by
    rintro ⟨rfl, rfl⟩; cases c_
  rw [if_neg c1]
  clear c1 c_
  refine AW.skip ?_
  repeat refine AW.seq ?_
  refine AW.reg ?_
  iterate 2 refine AOL.s1 (h := ?_)
  refine AOL.callD rfl (curve_mul_c hh.w hh.w) (by kernel_rfl) rfl rfl (h := ?_)
  iterate 1 refine AOL.s1 (h := ?_)
  refine AOL.nil ?_
  refine AW.kq [2, 4, 6, 7, 8] (h := ?_)
  repeat refine AW.seq ?_
  refine AW.drw 6 [] (by kernel_rfl) (h := ?_)
  iterate 2 refine ADL.dm 1 (h := ?_)
  refine ADL.call rfl (curve_mul_c hh.w (ltm _).w) (by kernel_rfl) rfl rfl (h := ?_)
  iterate 3 refine ADL.dm 1 (h := ?_)
  refine ADL.done hmix rfl rfl (hT := ?_)
  refine AOL.callD rfl (curve_mul_c hx.w (ltm _).w) (by kernel_rfl) rfl rfl (h := ?_)
  iterate 2 refine AOL.s1 (h := ?_)
  refine AOL.nil ?_
  refine AW.kq [2, 4, 6, 7, 9, 10] (h := ?_)
  have e1 : mr x y z h r = (mrX r (h * (h * h % 1152921505151057923) % 1152921505151057923) (x * (h * h % 1152921505151057923) % 1152921505151057923), (r * ((x * (h * h % 1152921505151057923) % 1152921505151057923 - mrX r (h * (h * h % 1152921505151057923) % 1152921505151057923) (x * (h * h % 1152921505151057923) % 1152921505151057923)) % 1152921505151057923) % 1152921505151057923 - y * (h * (h * h % 1152921505151057923) % 1152921505151057923) % 1152921505151057923) % 1152921505151057923, h * z % 1152921505151057923) := rfl
  rw [e1]
  clear e1
  have h3 := ltm (h * (h * h % 1152921505151057923))
  have hv := ltm (x * (h * h % 1152921505151057923))
  generalize h * (h * h % 1152921505151057923) % 1152921505151057923 = H3 at *
  generalize x * (h * h % 1152921505151057923) % 1152921505151057923 = V at *
  repeat refine AW.seq ?_
  refine AW.reg ?_
  iterate 2 refine AOL.s1 (h := ?_)
  refine AOL.callD rfl (curve_mul_c hr.w hr.w) (by kernel_rfl) rfl rfl (h := ?_)
  iterate 1 refine AOL.s1 (h := ?_)
  refine AOL.callD rfl (curve_sub_c (ltm _).w h3.w) (by kernel_rfl) rfl rfl (h := ?_)
  iterate 2 refine AOL.s1 (h := ?_)
  refine AOL.callD rfl (modular_Add_c mdP hv.w hv.w) (by kernel_rfl) rfl rfl (h := ?_)
  refine AOL.callD rfl (curve_sub_c (ltm _).w (ltm _).w) (by kernel_rfl) rfl rfl (h := ?_)
  iterate 1 refine AOL.s1 (h := ?_)
  refine AOL.nil ?_
  refine AW.kq [2, 4, 6, 7, 9, 10, 11] (h := ?_)
  rw [show ((r * r % 1152921505151057923 - H3) % 1152921505151057923 - (V + V) % 1152921505151057923) % 1152921505151057923 = mrX r H3 V from rfl]
  have hX : lt (mrX r H3 V) := ltm _
  generalize mrX r H3 V = X at *
  repeat refine AW.seq ?_
  refine AW.drw 15 [] (by kernel_rfl) (h := ?_)
  iterate 4 refine ADL.dm 1 (h := ?_)
  refine ADL.call rfl (curve_sub_c hv.w hX.w) (by kernel_rfl) rfl rfl (h := ?_)
  refine ADL.call rfl (curve_mul_c hr.w (ltm _).w) (by kernel_rfl) rfl rfl (h := ?_)
  iterate 3 refine ADL.dm 1 (h := ?_)
  refine ADL.call rfl (curve_mul_c hy.w h3.w) (by kernel_rfl) rfl rfl (h := ?_)
  refine ADL.call rfl (curve_sub_c (ltm _).w (ltm _).w) (by kernel_rfl) rfl rfl (h := ?_)
  iterate 3 refine ADL.dm 1 (h := ?_)
  refine ADL.call rfl (curve_mul_c hh.w hz.w) (by kernel_rfl) rfl rfl (h := ?_)
  refine ADL.done hmix rfl rfl (hT := ?_)
  iterate 2 refine AOL.s1 (h := ?_)
  refine AOL.nil ?_
  refine AW.kq [4] (h := ?_)
  repeat refine AW.seq ?_
  refine AW.ret ?_
  refine ⟨_, [], rfl, HOk.nil _, ?_⟩
  rfl
end Go.Proofs.Ytdbpjegocmdplaa.E.M

