/- Texts joined: ZTCurC, ZTCurD, ZTCurE, ZTPairA, ZTPairB, ZTPairC, ZTOpnP, ZTPairD, ZTCurW, ZTCurX. -/
import Derived.Test.YtdbpjegocmdplaaZU4
import Derived.Test.YtdbpjegocmdplaaProg
import Derived.KernelRfl
section
/- Multiples of points, by the program: contracts over E. -/
set_option linter.unusedVariables false
set_option linter.unusedSimpArgs false
set_option maxRecDepth 10000
open Go Go.Proofs.Ytdbpjegocmdplaa.E Go.Proofs
namespace Go.Proofs.Ytdbpjegocmdplaa.E.M
/-- a scaled point stands for a point -/
structure Rep (x y z : Int) (o : Bool × Int × Int) : Prop where
  lx : lt x
  ly : lt y
  lz : lt z
  po : Pt o
  is : (z = 0 ∧ o = (true, 0, 0)) ∨ (z ≠ 0 ∧ ∃ X Y, o = (false, X, Y) ∧ K x = K X * (K z * K z) ∧ K y = K Y * (K z * K z * K z))

theorem K_ne {z : Int} (h : lt z) (h0 : z ≠ 0) : K z ≠ 0 := fun e => h0 ((K_zero_iff h).1 e)


abbrev sc (t : Int × Int × Int) : AV := .agg [u t.1, u t.2.1, u t.2.2]
def twX (m s : Int) : Int := (m * m % 1152921505151057923 - (s + s) % 1152921505151057923) % 1152921505151057923
def twY (m s x' y2 : Int) : Int := (m * ((s - x') % 1152921505151057923) % 1152921505151057923 - 8 * (y2 * y2 % 1152921505151057923) % 1152921505151057923) % 1152921505151057923
def twM (x z2 : Int) : Int := (3 * (x * x % 1152921505151057923) % 1152921505151057923 + z2 * z2 % 1152921505151057923) % 1152921505151057923
def tw (x y z : Int) : Int × Int × Int :=
  (twX (twM x (z * z % 1152921505151057923)) (4 * (x * (y * y % 1152921505151057923) % 1152921505151057923) % 1152921505151057923), twY (twM x (z * z % 1152921505151057923)) (4 * (x * (y * y % 1152921505151057923) % 1152921505151057923) % 1152921505151057923) (twX (twM x (z * z % 1152921505151057923)) (4 * (x * (y * y % 1152921505151057923) % 1152921505151057923) % 1152921505151057923)) (y * y % 1152921505151057923), 2 * (y * z % 1152921505151057923) % 1152921505151057923)
theorem tw_rep {x y z : Int} {o : Bool × Int × Int} (h : Rep x y z o) (hz : z ≠ 0) : Rep (tw x y z).1 (tw x y z).2.1 (tw x y z).2.2 (sumP o o) := by
  obtain ⟨hx, hy, hzl, ho, his⟩ := h
  rcases his with ⟨h0, -⟩ | ⟨-, X, Y, rfl, ex, ey⟩
  · exact absurd h0 hz
  simp only [tw, twX, twY, twM]
  refine ⟨ltm _, ltm _, ltm _, sumP_pt ho ho, ?_⟩
  have kz := K_ne hzl hz
  have ez : K (2 * (y * z % 1152921505151057923) % 1152921505151057923) = 2 * (K Y * (K z * K z * K z) * K z) := by
    simp only [K_emod, K_mul, K_2, ey]
  by_cases hw : X = X ∧ (Y + Y) % 1152921505151057923 = 0
  · left
    have y0 : K Y + K Y = 0 := by rw [← K_add, ← K_emod, hw.2, K_0]
    constructor
    · rw [← K_zero_iff (ltm _), ez]
      exact Obol.twice_zero _ _ y0
    · rw [sumP_fin, if_pos hw]
  · right
    obtain ⟨i, hi, hl⟩ : ∃ i, i * (K Y + K Y) = 1 ∧ K (lam (false, X, Y) (false, X, Y)) = (3 * (K X * K X) + 1) * i := by
      rcases lam_K ho ho hw with ⟨-, -, i, hi, hl⟩ | ⟨e, -⟩
      · exact ⟨i, hi, hl⟩
      · exact absurd rfl e
    obtain ⟨h1, h2⟩ := line_K (ax := X) (ay := Y) (bx := X) (bY := Y) (l := lam (false, X, Y) (false, X, Y))
    have es : sumP (false, X, Y) (false, X, Y) = lineP (lam (false, X, Y) (false, X, Y)) (false, X, Y) (false, X, Y) := by
      rw [sumP_fin, if_neg hw]
    constructor
    · rw [Ne, ← K_zero_iff (ltm _), ez]
      exact Obol.twice_nonzero Obol.prime_P _ _ i hi kz
    · refine ⟨_, _, es, ?_, ?_⟩
      · have h1' : K ((lam (false, X, Y) (false, X, Y) * lam (false, X, Y) (false, X, Y) - X - X) % 1152921505151057923) = _ := h1
        simp only
        rw [h1', ez]
        simp only [K_emod, K_sub, K_add, K_mul, K_3, K_4, ex, ey]
        exact Obol.twice_x _ _ _ _ i hi hl
      · have h2' : K ((lam (false, X, Y) (false, X, Y) * (X - (lam (false, X, Y) (false, X, Y) * lam (false, X, Y) (false, X, Y) - X - X) % 1152921505151057923) - Y) % 1152921505151057923) = _ := h2
        simp only
        rw [h2', ez]
        simp only [K_emod, K_sub, K_add, K_mul, K_3, K_4, K_8, ex, ey]
        exact Obol.twice_y _ _ _ _ i _ hi hl (Obol.twice_x _ _ _ _ i hi hl)


abbrev TFS : Prop := tSz Try.prog 107 = some 3 ∧
    tAgg Try.prog 107 = some true ∧
    tBytes Try.prog 107 = some 24 ∧
    tZero Try.prog 107 = some [(.int .u64 0), (.int .u64 0), (.int .u64 0)] ∧
    tSlice Try.prog 107 = none ∧
    tIface Try.prog 107 = some false ∧
    tCls Try.prog 107 = .other ∧
    tField Try.prog 107 0 = some (0, 25) ∧
    tField Try.prog 107 1 = some (1, 25) ∧
    tField Try.prog 107 2 = some (2, 25) ∧
    (∀ ps, aBuild Try.prog 107 ps = (aFill ([(0, 1), (1, 1), (2, 1)][·]?) [.val (.int .u64 0), .val (.int .u64 0), .val (.int .u64 0)] ps).map .agg)
theorem tfs : TFS :=
  ⟨rfl, rfl, rfl, rfl, rfl, rfl, rfl, rfl, rfl, rfl, fun _ => rfl⟩

set_option maxHeartbeats 2000000 in
theorem curve_twice_c {x y z : Int} (hx : lt x) (hy : lt y) (hz : lt z) : Fn Try.prog 65 [sc (x, y, z)] [] (fun r _ => r = sc (tw x y z)) := by
  refine Fn.enter Try.func65 Try.ntmps65 rfl (h := ?_)
  have tf := tf
  have tfs := tfs
  repeat refine AW.seq ?_
  refine AW.reg ?_
  iterate 2 refine AOL.s1 (h := ?_)
  refine AOL.nil ?_
  refine AW.kq [1, 2] (h := ?_)
  repeat refine AW.seq ?_
  refine AW.reg ?_
  iterate 4 refine AOL.s1 (h := ?_)
  refine AOL.callD rfl (curve_mul_c hy.w hy.w) (by kernel_rfl) rfl rfl (h := ?_)
  iterate 1 refine AOL.s1 (h := ?_)
  refine AOL.nil ?_
  refine AW.kq [1, 2, 3] (h := ?_)
  repeat refine AW.seq ?_
  refine AW.reg ?_
  iterate 3 refine AOL.s1 (h := ?_)
  refine AOL.callD rfl (curve_mul_c hx.w (ltm _).w) (by kernel_rfl) rfl rfl (h := ?_)
  refine AOL.callD rfl (curve_mul_c (by decide) (ltm _).w) (by kernel_rfl) rfl rfl (h := ?_)
  iterate 1 refine AOL.s1 (h := ?_)
  refine AOL.nil ?_
  refine AW.kq [1, 2, 3, 4] (h := ?_)
  repeat refine AW.seq ?_
  refine AW.reg ?_
  iterate 4 refine AOL.s1 (h := ?_)
  refine AOL.callD rfl (curve_mul_c hz.w hz.w) (by kernel_rfl) rfl rfl (h := ?_)
  iterate 1 refine AOL.s1 (h := ?_)
  refine AOL.nil ?_
  refine AW.kq [1, 2, 3, 4, 5] (h := ?_)
  repeat refine AW.seq ?_
  refine AW.reg ?_
  iterate 4 refine AOL.s1 (h := ?_)
  refine AOL.callD rfl (curve_mul_c hx.w hx.w) (by kernel_rfl) rfl rfl (h := ?_)
  refine AOL.callD rfl (curve_mul_c (by decide) (ltm _).w) (by kernel_rfl) rfl rfl (h := ?_)
  iterate 2 refine AOL.s1 (h := ?_)
  refine AOL.callD rfl (curve_mul_c (ltm _).w (ltm _).w) (by kernel_rfl) rfl rfl (h := ?_)
  refine AOL.callD rfl (modular_Add_c mdP (ltm _).w (ltm _).w) (by kernel_rfl) rfl rfl (h := ?_)
  iterate 1 refine AOL.s1 (h := ?_)
  refine AOL.nil ?_
  refine AW.kq [1, 2, 3, 4, 6] (h := ?_)
  have hm : lt (twM x (z * z % 1152921505151057923)) := ltm _
  have hs := ltm (4 * (x * (y * y % 1152921505151057923) % 1152921505151057923))
  have hy2 := ltm (y * y)
  have e0 : tw x y z = (twX (twM x (z * z % 1152921505151057923)) (4 * (x * (y * y % 1152921505151057923) % 1152921505151057923) % 1152921505151057923), twY (twM x (z * z % 1152921505151057923)) (4 * (x * (y * y % 1152921505151057923) % 1152921505151057923) % 1152921505151057923) (twX (twM x (z * z % 1152921505151057923)) (4 * (x * (y * y % 1152921505151057923) % 1152921505151057923) % 1152921505151057923)) (y * y % 1152921505151057923), 2 * (y * z % 1152921505151057923) % 1152921505151057923) := rfl
  rw [e0]
  clear e0
  rw [show (3 * (x * x % 1152921505151057923) % 1152921505151057923 + z * z % 1152921505151057923 * (z * z % 1152921505151057923) % 1152921505151057923) % 1152921505151057923 = twM x (z * z % 1152921505151057923) from rfl]
  generalize twM x (z * z % 1152921505151057923) = m at *
  generalize 4 * (x * (y * y % 1152921505151057923) % 1152921505151057923) % 1152921505151057923 = s at *
  generalize y * y % 1152921505151057923 = y2 at *
  repeat refine AW.seq ?_
  refine AW.reg ?_
  iterate 2 refine AOL.s1 (h := ?_)
  refine AOL.callD rfl (curve_mul_c hm.w hm.w) (by kernel_rfl) rfl rfl (h := ?_)
  iterate 2 refine AOL.s1 (h := ?_)
  refine AOL.callD rfl (modular_Add_c mdP hs.w hs.w) (by kernel_rfl) rfl rfl (h := ?_)
  refine AOL.callD rfl (curve_sub_c (ltm _).w (ltm _).w) (by kernel_rfl) rfl rfl (h := ?_)
  iterate 1 refine AOL.s1 (h := ?_)
  refine AOL.nil ?_
  refine AW.kq [1, 2, 3, 4, 6, 7] (h := ?_)
  rw [show (m * m % 1152921505151057923 - (s + s) % 1152921505151057923) % 1152921505151057923 = twX m s from rfl]
  have hX : lt (twX m s) := ltm _
  generalize twX m s = X at *
  repeat refine AW.seq ?_
  refine AW.drw 17 [] (by kernel_rfl) (h := ?_)
  iterate 4 refine ADL.dm 1 (h := ?_)
  refine ADL.call rfl (curve_sub_c hs.w hX.w) (by kernel_rfl) rfl rfl (h := ?_)
  refine ADL.call rfl (curve_mul_c hm.w (ltm _).w) (by kernel_rfl) rfl rfl (h := ?_)
  iterate 2 refine ADL.dm 1 (h := ?_)
  refine ADL.call rfl (curve_mul_c hy2.w hy2.w) (by kernel_rfl) rfl rfl (h := ?_)
  refine ADL.call rfl (curve_mul_c (by decide) (ltm _).w) (by kernel_rfl) rfl rfl (h := ?_)
  refine ADL.call rfl (curve_sub_c (ltm _).w (ltm _).w) (by kernel_rfl) rfl rfl (h := ?_)
  iterate 4 refine ADL.dm 1 (h := ?_)
  refine ADL.call rfl (curve_mul_c hy.w hz.w) (by kernel_rfl) rfl rfl (h := ?_)
  refine ADL.call rfl (curve_mul_c (by decide) (ltm _).w) (by kernel_rfl) rfl rfl (h := ?_)
  refine ADL.done hmix rfl rfl (hT := ?_)
  iterate 2 refine AOL.s1 (h := ?_)
  refine AOL.nil ?_
  refine AW.kq [2] (h := ?_)
  repeat refine AW.seq ?_
  refine AW.ret ?_
  refine ⟨_, [], rfl, HOk.nil _, ?_⟩
  rfl
def mrH (x z bx : Int) : Int := (bx * (z * z % 1152921505151057923) % 1152921505151057923 - x) % 1152921505151057923
def mrR (y z bY : Int) : Int := (bY * (z * z % 1152921505151057923 * z % 1152921505151057923) % 1152921505151057923 - y) % 1152921505151057923
def mrX (r h3 v : Int) : Int := ((r * r % 1152921505151057923 - h3) % 1152921505151057923 - (v + v) % 1152921505151057923) % 1152921505151057923
def mr (x y z h r : Int) : Int × Int × Int :=
  (mrX r (h * (h * h % 1152921505151057923) % 1152921505151057923) (x * (h * h % 1152921505151057923) % 1152921505151057923), (r * ((x * (h * h % 1152921505151057923) % 1152921505151057923 - mrX r (h * (h * h % 1152921505151057923) % 1152921505151057923) (x * (h * h % 1152921505151057923) % 1152921505151057923)) % 1152921505151057923) % 1152921505151057923 - y * (h * (h * h % 1152921505151057923) % 1152921505151057923) % 1152921505151057923) % 1152921505151057923, h * z % 1152921505151057923)
def moreF (x y z bx bY : Int) : Int × Int × Int :=
  if z = 0 then (bx, bY, 1) else if mrH x z bx = 0 ∧ mrR y z bY = 0 then tw x y z else mr x y z (mrH x z bx) (mrR y z bY)
theorem more_rep {x y z : Int} {o : Bool × Int × Int} (h : Rep x y z o) {bx bY : Int} (hb : Pt (false, bx, bY)) : Rep (moreF x y z bx bY).1 (moreF x y z bx bY).2.1 (moreF x y z bx bY).2.2 (sumP o (false, bx, bY)) := by
  have h0 := h
  obtain ⟨hx, hy, hzl, ho, his⟩ := h
  obtain ⟨bx1, by1, bc⟩ := hb.fin
  unfold moreF
  rcases his with ⟨z0, rfl⟩ | ⟨z0, X, Y, rfl, ex, ey⟩
  · rw [if_pos z0]
    refine ⟨bx1, by1, ⟨show (0:Int) ≤ 1 by decide, show (1:Int) < 1152921505151057923 by decide⟩, sumP_pt ho hb, ?_⟩
    right
    refine ⟨show (1:Int) ≠ 0 by decide, bx, bY, rfl, ?_, ?_⟩
    · rw [K_1]; exact Obol.one_two _
    · rw [K_1]; exact Obol.one_three _
  rw [if_neg z0]
  have kz := K_ne hzl z0
  obtain ⟨X1, Y1, Xc⟩ := ho.fin
  have eh : K (mrH x z bx) = K bx * (K z * K z) - K X * (K z * K z) := by
    simp only [mrH, mrR, K_emod, K_sub, K_mul, ex]
  have er : K (mrR y z bY) = K bY * (K z * K z * K z) - K Y * (K z * K z * K z) := by
    simp only [mrH, mrR, K_emod, K_sub, K_mul, ey]

  have hh1 : lt (mrH x z bx) := ltm _
  have hr1 : lt (mrR y z bY) := ltm _
  generalize mrH x z bx = hh at *
  generalize mrR y z bY = rr at *
  have hh0 : hh = 0 ↔ bx = X := by
    rw [← K_zero_iff hh1, eh]
    constructor
    · intro e; exact K_inj bx1 X1 (Obol.scale_two Obol.prime_P kz e)
    · rintro rfl; exact Obol.self_sub _
  have rr0 : rr = 0 ↔ bY = Y := by
    rw [← K_zero_iff hr1, er]
    constructor
    · intro e; exact K_inj by1 Y1 (Obol.scale_three Obol.prime_P kz e)
    · rintro rfl; exact Obol.self_sub _

  by_cases same : hh = 0 ∧ rr = 0
  · rw [if_pos same]
    obtain ⟨e1, e2⟩ := same
    rw [hh0.1 e1, rr0.1 e2]; exact tw_rep h0 z0
  · rw [if_neg same]
    simp only [mr, mrX]
    refine ⟨ltm _, ltm _, ltm _, sumP_pt ho hb, ?_⟩
    have ez : K (hh * z % 1152921505151057923) = K hh * K z := by simp only [K_emod, K_mul]
    by_cases e1 : hh = 0
    · left
      have r0 : rr ≠ 0 := fun e => same ⟨e1, e⟩
      have hX := hh0.1 e1
      subst hX
      constructor
      · rw [← K_zero_iff (ltm _), ez, e1, K_0]; exact Obol.zero_mul' _
      · rw [sumP_fin, if_pos]
        refine ⟨rfl, ?_⟩
        rcases Obol.y_cases Obol.prime_P Xc bc with h | h
        · exact absurd (rr0.2 (K_inj by1 Y1 h.symm)) r0
        · have : K (Y + bY) = K 0 := by rw [K_add, K_0]; exact h
          rw [K_iff.1 this]; rfl
    · right
      have kh := K_ne hh1 e1
      have hX : ¬ X = bx := fun e => e1 (hh0.2 e.symm)
      have hw : ¬ (X = bx ∧ (Y + bY) % 1152921505151057923 = 0) := fun e => hX e.1
      rcases lam_K ho hb hw with ⟨e, -⟩ | ⟨-, i, hi, hl⟩
      · exact absurd e hX
      obtain ⟨h1, h2⟩ := line_K (ax := X) (ay := Y) (bx := bx) (bY := bY) (l := lam (false, X, Y) (false, bx, bY))
      have es : sumP (false, X, Y) (false, bx, bY) = lineP (lam (false, X, Y) (false, bx, bY)) (false, X, Y) (false, bx, bY) := by
        rw [sumP_fin, if_neg hw]
      constructor
      · rw [Ne, ← K_zero_iff (ltm _), ez]
        exact Obol.fin_mul_ne_zero Obol.prime_P kh kz
      · refine ⟨_, _, es, ?_, ?_⟩
        · have h1' : K ((lam (false, X, Y) (false, bx, bY) * lam (false, X, Y) (false, bx, bY) - X - bx) % 1152921505151057923) = _ := h1
          simp only
          rw [h1', ez]
          simp only [K_emod, K_sub, K_add, K_mul, ex]
          exact Obol.more_x _ _ _ _ i _ _ hi hl _ _ _ eh er rfl
        · have h2' : K ((lam (false, X, Y) (false, bx, bY) * (X - (lam (false, X, Y) (false, bx, bY) * lam (false, X, Y) (false, bx, bY) - X - bx) % 1152921505151057923) - Y) % 1152921505151057923) = _ := h2
          simp only
          rw [h2', ez]
          simp only [K_emod, K_sub, K_add, K_mul, ex, ey]
          exact Obol.more_y _ _ _ _ i _ _ _ hi hl _ _ _ eh er rfl (Obol.more_x _ _ _ _ i _ _ hi hl _ _ _ eh er rfl)


set_option maxHeartbeats 2000000 in
theorem curve_more_c {x y z bx bY : Int} (hx : lt x) (hy : lt y) (hz : lt z) (bx1 : lt bx) (by1 : lt bY) : Fn Try.prog 66 [sc (x, y, z), pt (false, bx, bY)] [] (fun r _ => r = sc (moreF x y z bx bY)) := by
  refine Fn.enter Try.func66 Try.ntmps66 rfl (h := ?_)
  have tf := tf
  have tfs := tfs
  repeat refine AW.seq ?_
  refine AW.reg ?_
  iterate 3 refine AOL.s1 (h := ?_)
  refine AOL.nil ?_
  refine AW.kq [2, 3, 4] (h := ?_)
  repeat refine AW.seq ?_
  refine AW.reg ?_
  iterate 3 refine AOL.s1 (h := ?_)
  refine AOL.nil ?_
  refine AW.kq [2, 3, 4, 14] (h := ?_)
  repeat refine AW.seq ?_
  refine AW.cond rfl (fun c_ => ?_) (fun c_ => ?_)
  · have z0 : z = 0 := by simpa using c_
    have e0 : moreF x y z bx bY = (bx, bY, 1) := by unfold moreF; rw [if_pos z0]
    rw [e0]
    clear e0 z0 c_
    repeat refine AW.seq ?_
    refine AW.reg ?_
    iterate 6 refine AOL.s1 (h := ?_)
    refine AOL.nil ?_
    refine AW.kq [4] (h := ?_)
    repeat refine AW.seq ?_
    refine AW.ret ?_
    refine ⟨_, [], rfl, HOk.nil _, ?_⟩
    rfl
  have z0 : ¬ z = 0 := by simpa using c_
  have e0 : moreF x y z bx bY = if mrH x z bx = 0 ∧ mrR y z bY = 0 then tw x y z else mr x y z (mrH x z bx) (mrR y z bY) := by unfold moreF; rw [if_neg z0]
  rw [e0]
  clear e0 z0 c_
  refine AW.skip ?_
  repeat refine AW.seq ?_
  refine AW.reg ?_
  iterate 4 refine AOL.s1 (h := ?_)
  refine AOL.callD rfl (curve_mul_c hz.w hz.w) (by kernel_rfl) rfl rfl (h := ?_)
  iterate 1 refine AOL.s1 (h := ?_)
  refine AOL.nil ?_
  refine AW.kq [2, 3, 4, 5] (h := ?_)
  repeat refine AW.seq ?_
  refine AW.drw 6 [] (by kernel_rfl) (h := ?_)
  iterate 3 refine ADL.dm 1 (h := ?_)
  refine ADL.call rfl (curve_mul_c bx1.w (ltm _).w) (by kernel_rfl) rfl rfl (h := ?_)
  iterate 2 refine ADL.dm 1 (h := ?_)
  refine ADL.done hmix rfl rfl (hT := ?_)
  refine AOL.callD rfl (curve_sub_c (ltm _).w hx.w) (by kernel_rfl) rfl rfl (h := ?_)
  iterate 1 refine AOL.s1 (h := ?_)
  refine AOL.nil ?_
  refine AW.kq [2, 3, 4, 5, 6] (h := ?_)
  repeat refine AW.seq ?_
  refine AW.drw 9 [] (by kernel_rfl) (h := ?_)
  iterate 5 refine ADL.dm 1 (h := ?_)
  refine ADL.call rfl (curve_mul_c (ltm _).w hz.w) (by kernel_rfl) rfl rfl (h := ?_)
  refine ADL.call rfl (curve_mul_c by1.w (ltm _).w) (by kernel_rfl) rfl rfl (h := ?_)
  iterate 2 refine ADL.dm 1 (h := ?_)
  refine ADL.done hmix rfl rfl (hT := ?_)
  refine AOL.callD rfl (curve_sub_c (ltm _).w hy.w) (by kernel_rfl) rfl rfl (h := ?_)
  iterate 1 refine AOL.s1 (h := ?_)
  refine AOL.nil ?_
  refine AW.kq [2, 4, 6, 7] (h := ?_)
  rw [show (bx * (z * z % 1152921505151057923) % 1152921505151057923 - x) % 1152921505151057923 = mrH x z bx from rfl, show (bY * (z * z % 1152921505151057923 * z % 1152921505151057923) % 1152921505151057923 - y) % 1152921505151057923 = mrR y z bY from rfl]
  have hh : lt (mrH x z bx) := ltm _
  have hr : lt (mrR y z bY) := ltm _
  generalize mrH x z bx = h at *
  generalize mrR y z bY = r at *
  repeat refine AW.seq ?_
  refine AW.reg ?_
  iterate 3 refine AOL.s1 (h := ?_)
  refine AOL.kq [2, 4, 6, 7, 44] (h := ?_)
  refine AOL.and 44 47 (os' := ?_) (x := ?_) (h1 := ?_) (h0 := ?_) (h := ?_)
  rotate_left 2
  iterate 2
    · intro hb_ K' hK; (iterate 3 refine AOL.s1 (h := ?_)); refine AOL.kq [2, 4, 6, 7, 47] (h := ?_); exact hK
  refine AOL.nil ?_
  refine AW.kq [2, 4, 6, 7, 47] (h := ?_)
  repeat refine AW.seq ?_
  refine AW.cond rfl (fun c_ => ?_) (fun c_ => ?_)
  · have c1 : h = 0 ∧ r = 0 := by simpa using c_
    rw [if_pos c1]
    clear c1 c_
    repeat refine AW.seq ?_
    refine AW.reg ?_
    iterate 1 refine AOL.s1 (h := ?_)
    refine AOL.callD rfl (curve_twice_c hx hy hz) (by kernel_rfl) rfl rfl (h := ?_)
    iterate 1 refine AOL.s1 (h := ?_)
    refine AOL.nil ?_
    refine AW.kq [4] (h := ?_)
    repeat refine AW.seq ?_
    refine AW.ret ?_
    refine ⟨_, [], rfl, HOk.nil _, ?_⟩
    rfl
  have c1 : ¬ (h = 0 ∧ r = 0) := by
    rintro ⟨rfl, rfl⟩; cases c_
  rw [if_neg c1]
  clear c1 c_
  refine AW.skip ?_
  repeat refine AW.seq ?_
  refine AW.reg ?_
  iterate 2 refine AOL.s1 (h := ?_)
  refine AOL.callD rfl (curve_mul_c hh.w hh.w) (by kernel_rfl) rfl rfl (h := ?_)
  iterate 1 refine AOL.s1 (h := ?_)
  refine AOL.nil ?_
  refine AW.kq [2, 4, 6, 7, 8] (h := ?_)
  repeat refine AW.seq ?_
  refine AW.drw 6 [] (by kernel_rfl) (h := ?_)
  iterate 2 refine ADL.dm 1 (h := ?_)
  refine ADL.call rfl (curve_mul_c hh.w (ltm _).w) (by kernel_rfl) rfl rfl (h := ?_)
  iterate 3 refine ADL.dm 1 (h := ?_)
  refine ADL.done hmix rfl rfl (hT := ?_)
  refine AOL.callD rfl (curve_mul_c hx.w (ltm _).w) (by kernel_rfl) rfl rfl (h := ?_)
  iterate 2 refine AOL.s1 (h := ?_)
  refine AOL.nil ?_
  refine AW.kq [2, 4, 6, 7, 9, 10] (h := ?_)
  have e1 : mr x y z h r = (mrX r (h * (h * h % 1152921505151057923) % 1152921505151057923) (x * (h * h % 1152921505151057923) % 1152921505151057923), (r * ((x * (h * h % 1152921505151057923) % 1152921505151057923 - mrX r (h * (h * h % 1152921505151057923) % 1152921505151057923) (x * (h * h % 1152921505151057923) % 1152921505151057923)) % 1152921505151057923) % 1152921505151057923 - y * (h * (h * h % 1152921505151057923) % 1152921505151057923) % 1152921505151057923) % 1152921505151057923, h * z % 1152921505151057923) := rfl
  rw [e1]
  clear e1
  have h3 := ltm (h * (h * h % 1152921505151057923))
  have hv := ltm (x * (h * h % 1152921505151057923))
  generalize h * (h * h % 1152921505151057923) % 1152921505151057923 = H3 at *
  generalize x * (h * h % 1152921505151057923) % 1152921505151057923 = V at *
  repeat refine AW.seq ?_
  refine AW.reg ?_
  iterate 2 refine AOL.s1 (h := ?_)
  refine AOL.callD rfl (curve_mul_c hr.w hr.w) (by kernel_rfl) rfl rfl (h := ?_)
  iterate 1 refine AOL.s1 (h := ?_)
  refine AOL.callD rfl (curve_sub_c (ltm _).w h3.w) (by kernel_rfl) rfl rfl (h := ?_)
  iterate 2 refine AOL.s1 (h := ?_)
  refine AOL.callD rfl (modular_Add_c mdP hv.w hv.w) (by kernel_rfl) rfl rfl (h := ?_)
  refine AOL.callD rfl (curve_sub_c (ltm _).w (ltm _).w) (by kernel_rfl) rfl rfl (h := ?_)
  iterate 1 refine AOL.s1 (h := ?_)
  refine AOL.nil ?_
  refine AW.kq [2, 4, 6, 7, 9, 10, 11] (h := ?_)
  rw [show ((r * r % 1152921505151057923 - H3) % 1152921505151057923 - (V + V) % 1152921505151057923) % 1152921505151057923 = mrX r H3 V from rfl]
  have hX : lt (mrX r H3 V) := ltm _
  generalize mrX r H3 V = X at *
  repeat refine AW.seq ?_
  refine AW.drw 15 [] (by kernel_rfl) (h := ?_)
  iterate 4 refine ADL.dm 1 (h := ?_)
  refine ADL.call rfl (curve_sub_c hv.w hX.w) (by kernel_rfl) rfl rfl (h := ?_)
  refine ADL.call rfl (curve_mul_c hr.w (ltm _).w) (by kernel_rfl) rfl rfl (h := ?_)
  iterate 3 refine ADL.dm 1 (h := ?_)
  refine ADL.call rfl (curve_mul_c hy.w h3.w) (by kernel_rfl) rfl rfl (h := ?_)
  refine ADL.call rfl (curve_sub_c (ltm _).w (ltm _).w) (by kernel_rfl) rfl rfl (h := ?_)
  iterate 3 refine ADL.dm 1 (h := ?_)
  refine ADL.call rfl (curve_mul_c hh.w hz.w) (by kernel_rfl) rfl rfl (h := ?_)
  refine ADL.done hmix rfl rfl (hT := ?_)
  iterate 2 refine AOL.s1 (h := ?_)
  refine AOL.nil ?_
  refine AW.kq [4] (h := ?_)
  repeat refine AW.seq ?_
  refine AW.ret ?_
  refine ⟨_, [], rfl, HOk.nil _, ?_⟩
  rfl
end Go.Proofs.Ytdbpjegocmdplaa.E.M
end
section
/- Multiples of points, and points of order R, by the program; sums and multiples by the document: contracts over E. -/
set_option linter.unusedVariables false
set_option linter.unusedSimpArgs false
set_option maxRecDepth 10000
open Go Go.Proofs.Ytdbpjegocmdplaa.E Go.Proofs
namespace Go.Proofs.Ytdbpjegocmdplaa.E.M
def negP (t : Bool × Int × Int) : Bool × Int × Int := (t.1, t.2.1, (0 - t.2.2) % 1152921505151057923)

theorem negP_pt {t : Bool × Int × Int} (h : Pt t) : Pt (negP t) := by
  obtain ⟨b, x, y⟩ := t
  cases b with
  | true => obtain ⟨rfl, rfl⟩ := h.inf; exact Pt.none
  | false =>
    obtain ⟨hx, hy, hc⟩ := h.fin
    refine Pt.mk hx (ltm _) ?_
    rw [K_emod, K_sub, K_0, ← hc]; exact Obol.neg_sq _

def inP (b : Bool) (x y : Int) : Bool := isPt b x y && (timesP (b, x, y) 288230376287764481).1

theorem sureP_self {b : Bool} {x y : Int} (h : isPt b x y = true) : sureP b x y = (b, x, y) := by unfold sureP; rw [if_pos h]

theorem sumP_inf : sumP (true, 0, 0) (true, 0, 0) = (true, 0, 0) := rfl
theorem tms_inf (k : Int) : ∀ i, tms (true, 0, 0) k i (true, 0, 0) = (true, 0, 0) := by
  intro i
  induction i with
  | zero => rfl
  | succ i ih =>
    rw [tms_succ]
    have : stepT (true, 0, 0) k i (true, 0, 0) = (true, 0, 0) := by unfold stepT; split <;> rfl
    rw [this]; exact ih
theorem curve_Neg_c {b : Bool} {x y : Int} (hx : w64 x) (hy : w64 y) : Fn Try.prog 34 [pt (b, x, y)] [] (fun r _ => r = pt (negP (sureP b x y))) := by
  have cs := curve_sure_c (b := b) hx hy
  have hp := (sureP_pt b x y).wx.2
  generalize sureP b x y = a at *
  refine Fn.enter Try.func34 Try.ntmps34 rfl (h := ?_)
  have tf := tf
  repeat refine AW.seq ?_
  refine AW.reg ?_
  iterate 2 refine AOL.s1 (h := ?_)
  refine AOL.nil ?_
  refine AW.kq [1, 2] (h := ?_)
  repeat refine AW.seq ?_
  refine AW.reg ?_
  iterate 1 refine AOL.s1 (h := ?_)
  refine AOL.callD rfl (cs) (by kernel_rfl) rfl rfl (h := ?_)
  iterate 1 refine AOL.s1 (h := ?_)
  refine AOL.nil ?_
  refine AW.kq [1, 2] (h := ?_)
  repeat refine AW.seq ?_
  refine AW.reg ?_
  iterate 2 refine AOL.s1 (h := ?_)
  refine AOL.callD rfl (curve_sub_c (by decide) hp.w) (by kernel_rfl) rfl rfl (h := ?_)
  iterate 2 refine AOL.s1 (h := ?_)
  refine AOL.nil ?_
  refine AW.kq [1, 2] (h := ?_)
  repeat refine AW.seq ?_
  refine AW.reg ?_
  iterate 2 refine AOL.s1 (h := ?_)
  refine AOL.nil ?_
  refine AW.kq [2] (h := ?_)
  repeat refine AW.seq ?_
  refine AW.ret ?_
  refine ⟨_, [], rfl, HOk.nil _, ?_⟩
  rfl
theorem tms_last (a : Bool × Int × Int) (k : Int) (o : Bool × Int × Int) : tms a k 0 o = o := rfl
set_option maxHeartbeats 2000000 in
theorem curve_Mul_c {b : Bool} {x y k : Int} (hx : w64 x) (hy : w64 y) (hk : w64 k) : Fn Try.prog 33 [pt (b, x, y), u k] [] (fun r _ => r = pt (timesP (sureP b x y) k)) := by
  have cs := curve_sure_c (b := b) hx hy
  have hp := sureP_pt b x y
  generalize sureP b x y = a at *
  obtain ⟨a0, bx, bY⟩ := a
  refine Fn.enter Try.func33 Try.ntmps33 rfl (h := ?_)
  have tf := tf
  have tfs := tfs
  repeat refine AW.seq ?_
  refine AW.reg ?_
  iterate 2 refine AOL.s1 (h := ?_)
  refine AOL.nil ?_
  refine AW.kq [1, 2, 4] (h := ?_)
  repeat refine AW.seq ?_
  refine AW.reg ?_
  iterate 1 refine AOL.s1 (h := ?_)
  refine AOL.callD rfl (cs) (by kernel_rfl) rfl rfl (h := ?_)
  iterate 1 refine AOL.s1 (h := ?_)
  refine AOL.nil ?_
  refine AW.kq [1, 2, 4] (h := ?_)
  clear cs
  repeat refine AW.seq ?_
  refine AW.reg ?_
  iterate 2 refine AOL.s1 (h := ?_)
  refine AOL.nil ?_
  refine AW.kq [1, 2, 4, 13] (h := ?_)
  repeat refine AW.seq ?_
  cases a0 with
  | true =>
    obtain ⟨rfl, rfl⟩ := hp.inf
    refine AW.cond rfl (fun c_ => ?_) (fun c_ => ?_)
    · repeat refine AW.seq ?_
      refine AW.reg ?_
      iterate 2 refine AOL.s1 (h := ?_)
      refine AOL.nil ?_
      refine AW.kq [4] (h := ?_)
      repeat refine AW.seq ?_
      refine AW.ret ?_
      refine ⟨_, [], rfl, HOk.nil _, ?_⟩
      simp only [timesP, tms_inf]; rfl
    · cases c_
  | false =>
  refine AW.cond rfl (fun c_ => ?_) (fun c_ => ?_)
  · cases c_
  refine AW.skip ?_
  clear c_
  obtain ⟨bx1, by1, -⟩ := hp.fin
  repeat refine AW.seq ?_
  refine AW.reg ?_
  iterate 1 refine AOL.s1 (h := ?_)
  refine AOL.nil ?_
  refine AW.kq [1, 2, 4, 5] (h := ?_)
  repeat refine AW.seq ?_
  refine AW.reg ?_
  iterate 1 refine AOL.s1 (h := ?_)
  refine AOL.nil ?_
  refine AW.kq [1, 2, 4, 5, 6] (h := ?_)
  repeat refine AW.seq ?_
  refine AW.block ?_
  repeat refine AW.seq ?_
  refine AW.loopK [1, 2, 4, 5, 6] (fun n s => ∃ (X Y Z : Int) (o : Bool × Int × Int), s = ⟨55, [(1, u k), (2, .ptr 1032 0), (4, .ptr 1064 0), (5, .ptr 1080 0), (6, i ((n : Int) - 1))], [(1032, ⟨32, true, [bo false, u bx, u bY]⟩), (1064, ⟨32, true, [bo false, u 0, u 0]⟩), (1080, ⟨107, true, [u X, u Y, u Z]⟩)]⟩ ∧ n ≤ 64 ∧ Rep X Y Z o ∧ tms (false, bx, bY) k n o = timesP (false, bx, bY) k) 64 ?_ ?_
  · exact ⟨0, 0, 0, (true, 0, 0), rfl, Nat.le_refl _, ⟨⟨by decide, by decide⟩, ⟨by decide, by decide⟩, ⟨by decide, by decide⟩, Pt.none, Or.inl ⟨rfl, rfl⟩⟩, rfl⟩
  rintro n s ⟨X, Y, Z, o, rfl, hn, hr, ht⟩
  repeat refine AW.seq ?_
  cases n with
  | zero =>
    have c0 : decide (((0 : Nat) : Int) - 1 ≥ 0) = false := by decide
    refine AW.reg ?_
    iterate 2 refine AOL.s1 (h := ?_)
    refine AOL.nil ?_
    refine AW.kq [1, 2, 4, 5, 6, 16] (h := ?_)
    repeat refine AW.seq ?_
    refine AW.cond rfl (fun c_ => ?_) (fun c_ => ?_)
    · cases c_
    clear c0 c_
    rw [tms_last] at ht
    rw [← ht]
    clear ht
    obtain ⟨hX, hY, hZ, ho, his⟩ := hr
    repeat refine AW.seq ?_
    refine AW.exit ?_
    repeat (first | refine Kseq.ex ?_ | refine Kloop.ex ?_ | refine Kblock.miss (by decide) ?_)
    refine Kblock.hit ?_
    refine AW.kq [4, 5] (h := ?_)
    have ci := modular_Inv_c (m := 1152921505151057923) (a := Z) prmP hZ.w
    rw [hZ.self] at ci
    rcases his with ⟨z0, rfl⟩ | ⟨z0, X', Y', rfl, ex, ey⟩
    · rw [if_pos z0] at ci
      subst z0
      repeat refine AW.seq ?_
      refine AW.reg ?_
      iterate 2 refine AOL.s1 (h := ?_)
      refine AOL.callD rfl (ci) (by kernel_rfl) rfl rfl (h := ?_)
      iterate 5 refine AOL.s1 (h := ?_)
      refine AOL.nil ?_
      refine AW.kq [4, 5, 7, 8] (h := ?_)
      repeat refine AW.seq ?_
      refine AW.reg ?_
      iterate 2 refine AOL.s1 (h := ?_)
      refine AOL.nil ?_
      refine AW.kq [4, 5, 7, 39] (h := ?_)
      repeat refine AW.seq ?_
      refine AW.cond rfl (fun c_ => ?_) (fun c_ => ?_)
      · repeat refine AW.seq ?_
        refine AW.reg ?_
        refine AOL.callD rfl (curve_inf_c) (by kernel_rfl) rfl rfl (h := ?_)
        iterate 1 refine AOL.s1 (h := ?_)
        refine AOL.nil ?_
        refine AW.kq [4] (h := ?_)
        repeat refine AW.seq ?_
        refine AW.ret ?_
        refine ⟨_, [], rfl, HOk.nil _, ?_⟩
        rfl
      · cases c_
    · rw [if_neg z0] at ci
      obtain ⟨hi, il⟩ := K_inv hZ z0
      obtain ⟨X1, Y1, -⟩ := ho.fin
      generalize inv 1152921505151057923 Z = I at *
      have e1 : X * (I * I % 1152921505151057923) % 1152921505151057923 = X' := by
        refine K_inj (ltm _) X1 ?_
        simp only [K_emod, K_mul, ex]
        exact Obol.unscale _ _ _ hi
      have e2 : Y * (I * I % 1152921505151057923 * I % 1152921505151057923) % 1152921505151057923 = Y' := by
        refine K_inj (ltm _) Y1 ?_
        simp only [K_emod, K_mul, ey]
        exact Obol.unscale3 _ _ _ hi
      repeat refine AW.seq ?_
      refine AW.reg ?_
      iterate 2 refine AOL.s1 (h := ?_)
      refine AOL.callD rfl (ci) (by kernel_rfl) rfl rfl (h := ?_)
      iterate 5 refine AOL.s1 (h := ?_)
      refine AOL.nil ?_
      refine AW.kq [4, 5, 7, 8] (h := ?_)
      repeat refine AW.seq ?_
      refine AW.reg ?_
      iterate 2 refine AOL.s1 (h := ?_)
      refine AOL.nil ?_
      refine AW.kq [4, 5, 7, 39] (h := ?_)
      repeat refine AW.seq ?_
      refine AW.cond rfl (fun c_ => ?_) (fun c_ => ?_)
      · cases c_
      refine AW.skip ?_
      repeat refine AW.seq ?_
      refine AW.reg ?_
      iterate 2 refine AOL.s1 (h := ?_)
      refine AOL.callD rfl (curve_mul_c il.w il.w) (by kernel_rfl) rfl rfl (h := ?_)
      iterate 1 refine AOL.s1 (h := ?_)
      refine AOL.nil ?_
      refine AW.kq [4, 5, 7, 9] (h := ?_)
      have cX := curve_mul_c (a := X) (b := I * I % 1152921505151057923) hX.w (ltm _).w
      rw [e1] at cX
      have cY := curve_mul_c (a := Y) (b := I * I % 1152921505151057923 * I % 1152921505151057923) hY.w (ltm _).w
      rw [e2] at cY
      clear e1 e2 ex ey
      repeat refine AW.seq ?_
      refine AW.drw 9 [] (by kernel_rfl) (h := ?_)
      iterate 3 refine ADL.dm 1 (h := ?_)
      refine ADL.call rfl (cX) (by kernel_rfl) rfl rfl (h := ?_)
      iterate 4 refine ADL.dm 1 (h := ?_)
      refine ADL.call rfl (curve_mul_c (ltm _).w il.w) (by kernel_rfl) rfl rfl (h := ?_)
      refine ADL.done hmix rfl rfl (hT := ?_)
      refine AOL.callD rfl (cY) (by kernel_rfl) rfl rfl (h := ?_)
      iterate 2 refine AOL.s1 (h := ?_)
      refine AOL.nil ?_
      refine AW.kq [4] (h := ?_)
      repeat refine AW.seq ?_
      refine AW.ret ?_
      refine ⟨_, [], rfl, HOk.nil _, ?_⟩
      rfl
  | succ n =>
    have e0 : ((n + 1 : Nat) : Int) - 1 = n := by omega
    have c0 : decide ((n : Int) ≥ 0) = true := by simp
    have e1 : IntKind.i64.wrap ((n : Int) - 1) = (n : Int) - 1 := wrapI_o (by omega) (by omega)
    obtain ⟨sh1, sh2⟩ := shr_b (y := k) (k := n) hk (by omega)
    have sh3 := and_one sh2.1 sh2.2
    have n0 : ¬ (n : Int) < 0 := by omega
    rw [e0]
    refine AW.reg ?_
    iterate 2 refine AOL.s1 (h := ?_)
    refine AOL.nil ?_
    refine AW.kq [1, 2, 4, 5, 6, 16] (h := ?_)
    repeat refine AW.seq ?_
    refine AW.cond rfl (fun c_ => ?_) (fun c_ => ?_)
    · clear c0 c_ e0
      have hZ := hr.lz
      rw [tms_succ] at ht
      have dbl : (¬ Z > 0) → Rep X Y Z (sumP o o) := by
        intro hz
        have z0 : Z = 0 := by have := hZ.1; omega
        rcases hr.is with ⟨-, e⟩ | ⟨e, -⟩
        · rw [e, sumP_inf, ← e]; exact hr
        · exact absurd z0 e
      refine AW.skip ?_
      repeat refine AW.seq ?_
      refine AW.block ?_
      repeat refine AW.seq ?_
      refine AW.reg ?_
      iterate 3 refine AOL.s1 (h := ?_)
      refine AOL.nil ?_
      refine AW.kq [1, 2, 4, 5, 6, 21] (h := ?_)
      repeat refine AW.seq ?_
      refine AW.midK [1, 2, 4, 5, 6] (fun t => ∃ X Y Z, t = ⟨55, [(1, u k), (2, .ptr 1032 0), (4, .ptr 1064 0), (5, .ptr 1080 0), (6, i n)], [(1032, ⟨32, true, [bo false, u bx, u bY]⟩), (1064, ⟨32, true, [bo false, u 0, u 0]⟩), (1080, ⟨107, true, [u X, u Y, u Z]⟩)]⟩ ∧ Rep X Y Z (sumP o o)) ?_ ?_
      · refine AW.cond rfl (fun d_ => ?_) (fun d_ => ?_)
        · have d1 : Z > 0 := by simpa using d_
          have hrep := tw_rep hr (by omega)
          have ct := curve_twice_c hr.lx hr.ly hr.lz
          generalize tw X Y Z = T at *
          repeat refine AW.seq ?_
          refine AW.reg ?_
          iterate 1 refine AOL.s1 (h := ?_)
          refine AOL.callD rfl (ct) (by kernel_rfl) rfl rfl (h := ?_)
          iterate 1 refine AOL.s1 (h := ?_)
          refine AOL.nil ?_
          exact ⟨_, _, _, rfl, hrep⟩
        · have d1 : ¬ Z > 0 := by simpa using d_
          refine AW.skip ?_
          exact ⟨_, _, _, rfl, dbl d1⟩
      rintro t ⟨X, Y, Z, rfl, hr⟩
      clear dbl hZ
      repeat refine AW.seq ?_
      refine AW.reg ?_
      iterate 5 refine AOL.s1 (h := ?_)
      refine AOL.nil ?_
      refine AW.kq [1, 2, 4, 5, 6, 28] (h := ?_)
      repeat refine AW.seq ?_
      refine AW.cond rfl (fun f_ => ?_) (fun f_ => ?_)
      · have f1 : k / 2 ^ n % 2 = 1 := by simpa using f_
        have hrep := more_rep hr hp
        have cm := curve_more_c hr.lx hr.ly hr.lz bx1 by1
        generalize moreF X Y Z bx bY = M at *
        have ht' : tms (false, bx, bY) k n (sumP (sumP o o) (false, bx, bY)) = timesP (false, bx, bY) k := by
          rw [← ht]; unfold stepT; rw [if_pos f1]
        clear ht f1 f_ sh1 sh2 sh3
        repeat refine AW.seq ?_
        refine AW.reg ?_
        iterate 2 refine AOL.s1 (h := ?_)
        refine AOL.callD rfl (cm) (by kernel_rfl) rfl rfl (h := ?_)
        iterate 1 refine AOL.s1 (h := ?_)
        refine AOL.nil ?_
        repeat refine AW.seq ?_
        refine AW.reg ?_
        iterate 3 refine AOL.s1 (h := ?_)
        refine AOL.nil ?_
        exact ⟨n, by omega, _, _, _, _, rfl, by omega, hrep, ht'⟩
      · have f1 : ¬ k / 2 ^ n % 2 = 1 := by simpa using f_
        have ht' : tms (false, bx, bY) k n (sumP o o) = timesP (false, bx, bY) k := by
          rw [← ht]; unfold stepT; rw [if_neg f1]
        clear ht f1 f_ sh1 sh2 sh3
        refine AW.skip ?_
        repeat refine AW.seq ?_
        refine AW.reg ?_
        iterate 3 refine AOL.s1 (h := ?_)
        refine AOL.nil ?_
        exact ⟨n, by omega, _, _, _, _, rfl, by omega, hr, ht'⟩
    · cases c_
theorem curve_In_c {b : Bool} {x y : Int} (hx : w64 x) (hy : w64 y) : Fn Try.prog 38 [pt (b, x, y)] [] (fun r _ => r = bo (inP b x y)) := by
  have cm := curve_Mul_c (b := b) (k := 288230376287764481) hx hy (by decide)
  refine Fn.enter Try.func38 Try.ntmps38 rfl (h := ?_)
  have tf := tf
  repeat refine AW.seq ?_
  refine AW.reg ?_
  iterate 2 refine AOL.s1 (h := ?_)
  refine AOL.nil ?_
  refine AW.kq [1] (h := ?_)
  repeat refine AW.seq ?_
  cases hp : isPt b x y with
  | false =>
    have ci := curve_Is_c (b := b) hx hy
    rw [hp] at ci
    refine AW.reg ?_
    iterate 1 refine AOL.s1 (h := ?_)
    refine AOL.callD rfl (ci) (by kernel_rfl) rfl rfl (h := ?_)
    iterate 6 refine AOL.s1 (h := ?_)
    refine AOL.nil ?_
    refine AW.kq [2] (h := ?_)
    repeat refine AW.seq ?_
    refine AW.ret ?_
    refine ⟨_, [], rfl, HOk.nil _, ?_⟩
    simp only [one?, inP, hp]; rfl
  | true =>
    have ci := curve_Is_c (b := b) hx hy
    rw [hp] at ci
    rw [sureP_self hp] at cm
    refine AW.reg ?_
    iterate 1 refine AOL.s1 (h := ?_)
    refine AOL.callD rfl (ci) (by kernel_rfl) rfl rfl (h := ?_)
    iterate 2 refine AOL.s1 (h := ?_)
    refine AOL.callD rfl (cm) (by kernel_rfl) rfl rfl (h := ?_)
    iterate 3 refine AOL.s1 (h := ?_)
    refine AOL.nil ?_
    refine AW.kq [2] (h := ?_)
    repeat refine AW.seq ?_
    refine AW.ret ?_
    refine ⟨_, [], rfl, HOk.nil _, ?_⟩
    simp only [one?, inP, hp]; rfl
end Go.Proofs.Ytdbpjegocmdplaa.E.M
end
section
/- Points, sums and multiples by the document: contracts over E. -/
set_option linter.unusedVariables false
set_option linter.unusedSimpArgs false
set_option maxRecDepth 10000
open Go Go.Proofs.Ytdbpjegocmdplaa.E Go.Proofs
namespace Go.Proofs.Ytdbpjegocmdplaa.E.M
def wallP (a b : Bool × Int × Int) : Bool := a.1 || (b.1 || (a.2.1 == b.2.1 && (a.2.2 + b.2.2) % 1152921505151057923 == 0))
end Go.Proofs.Ytdbpjegocmdplaa.E.M
end
section
/- The field of P^2 elements: contracts over E. -/
set_option linter.unusedVariables false
set_option linter.unusedSimpArgs false
set_option maxRecDepth 10000
open Go Go.Proofs.Ytdbpjegocmdplaa.E Go.Proofs
namespace Go.Proofs.Ytdbpjegocmdplaa.E.M
abbrev TFE : Prop := tSz Try.prog 80 = some 2 ∧
    tAgg Try.prog 80 = some true ∧
    tBytes Try.prog 80 = some 16 ∧
    tZero Try.prog 80 = some [(.int .u64 0), (.int .u64 0)] ∧
    tSlice Try.prog 80 = none ∧
    tArray Try.prog 80 = some (2, 25) ∧
    Try.prog.underlying 80 = some (.array 2 25) ∧
    tIface Try.prog 80 = some false ∧
    tCls Try.prog 80 = .other ∧
    (∀ ps, aBuild Try.prog 80 ps = (aFill (fun i => some (i * 1, 1)) [.val (.int .u64 0), .val (.int .u64 0)] ps).map .agg) ∧
    tSz Try.prog 33 = some 1 ∧
    tAgg Try.prog 33 = some false ∧
    tBytes Try.prog 33 = some 24 ∧
    tZero Try.prog 33 = some [(.slice none 0 0)] ∧
    tSlice Try.prog 33 = some 32 ∧
    Try.prog.underlying 33 = some (.slice 32) ∧
    tIface Try.prog 33 = some false ∧
    tCls Try.prog 33 = .slice
theorem tfe : TFE :=
  ⟨rfl, rfl, rfl, rfl, rfl, rfl, rfl, rfl, rfl, fun _ => rfl, rfl, rfl, rfl, rfl, rfl, rfl, rfl, rfl⟩

abbrev ee (a : Int × Int) : AV := .agg [u a.1, u a.2]
theorem eqE : eqT Try.prog 80 = some [.int, .int] := eqT_of (by kernel_rfl) (by kernel_rfl) (by kernel_rfl)
theorem eqPt : eqT Try.prog 32 = some [.bool, .int, .int] := eqT_of (by kernel_rfl) (by kernel_rfl) (by kernel_rfl)
def mulE (a b : Int × Int) : Int × Int := ((a.1 * b.1 - a.2 * b.2) % 1152921505151057923, (a.1 * b.2 + a.2 * b.1) % 1152921505151057923)
def conjE (a : Int × Int) : Int × Int := (a.1 % 1152921505151057923, (0 - a.2) % 1152921505151057923)
def normE (a : Int × Int) : Int := ipow 1152921505151057923 ((a.1 * a.1 % 1152921505151057923 + a.2 * a.2 % 1152921505151057923) % 1152921505151057923) 1152921505151057921
def invE (a : Int × Int) : Int × Int := ((conjE a).1 * normE a % 1152921505151057923, (conjE a).2 * normE a % 1152921505151057923)
abbrev wE (a : Int × Int) : Prop := w64 a.1 ∧ w64 a.2
theorem ltE {a : Int × Int} (h : lt a.1 ∧ lt a.2) : wE a := ⟨h.1.w, h.2.w⟩
theorem mulE_lt (a b : Int × Int) : lt (mulE a b).1 ∧ lt (mulE a b).2 := ⟨ltm _, ltm _⟩
theorem conjE_lt (a : Int × Int) : lt (conjE a).1 ∧ lt (conjE a).2 := ⟨ltm _, ltm _⟩
theorem invE_lt (a : Int × Int) : lt (invE a).1 ∧ lt (invE a).2 := ⟨ltm _, ltm _⟩
theorem mul_1 (a b c d : Int) : (a * b % 1152921505151057923 - c * d % 1152921505151057923) % 1152921505151057923 = (a * b - c * d) % 1152921505151057923 := by rw [← Int.sub_emod]
theorem kara {n : Nat} [NeZero n] (a b c d : Fin n) : (a + b) * (c + d) - (a * c + b * d) = a * d + b * c := by grind
theorem mul_2 (a0 a1 b0 b1 : Int) : ((a0 + a1) % 1152921505151057923 * ((b0 + b1) % 1152921505151057923) % 1152921505151057923 - (a0 * b0 % 1152921505151057923 + a1 * b1 % 1152921505151057923) % 1152921505151057923) % 1152921505151057923 = (a0 * b1 + a1 * b0) % 1152921505151057923 := by
  refine emodP ?_; simp only [K_sub, K_mul, K_add, K_emod]; exact kara _ _ _ _
set_option maxHeartbeats 1000000 in
theorem ext_Mul_c {a0 a1 b0 b1 : Int} (h0 : w64 a0) (h1 : w64 a1) (h2 : w64 b0) (h3 : w64 b1) : Fn Try.prog 74 [ee (a0, a1), ee (b0, b1)] [] (fun r _ => r = ee (mulE (a0, a1) (b0, b1))) := by
  have i0 : (0:Int) < 2 := by decide
  have i1 : (1:Int) < 2 := by decide
  have i2 : (0:Int) ≤ 1 := by decide
  have i3 : (0:Int) ≤ 0 := by decide
  have i4 : Int.toNat 1 = 1 := rfl
  refine Fn.enter Try.func74 Try.ntmps74 rfl (h := ?_)
  have tf := tf
  have tfe := tfe
  repeat refine AW.seq ?_
  refine AW.reg ?_
  iterate 3 refine AOL.s1 (h := ?_)
  refine AOL.nil ?_
  refine AW.kq [2, 3, 4] (h := ?_)
  repeat refine AW.seq ?_
  refine AW.drw 9 [] (by kernel_rfl) (h := ?_)
  iterate 4 refine ADL.dm 1 (h := ?_)
  refine ADL.call rfl (modular_Mul_c mdP h0 h2) (by kernel_rfl) rfl rfl (h := ?_)
  iterate 4 refine ADL.dm 1 (h := ?_)
  refine ADL.done hmix rfl rfl (hT := ?_)
  refine AOL.callD rfl (modular_Mul_c mdP h1 h3) (by kernel_rfl) rfl rfl (h := ?_)
  iterate 2 refine AOL.s1 (h := ?_)
  refine AOL.nil ?_
  refine AW.kq [2, 3, 4, 5, 6] (h := ?_)
  repeat refine AW.seq ?_
  refine AW.drw 9 [] (by kernel_rfl) (h := ?_)
  iterate 4 refine ADL.dm 1 (h := ?_)
  refine ADL.call rfl (modular_Add_c mdP h0 h1) (by kernel_rfl) rfl rfl (h := ?_)
  iterate 4 refine ADL.dm 1 (h := ?_)
  refine ADL.done hmix rfl rfl (hT := ?_)
  refine AOL.callD rfl (modular_Add_c mdP h2 h3) (by kernel_rfl) rfl rfl (h := ?_)
  refine AOL.callD rfl (modular_Mul_c mdP (ltm _).w (ltm _).w) (by kernel_rfl) rfl rfl (h := ?_)
  iterate 1 refine AOL.s1 (h := ?_)
  refine AOL.nil ?_
  refine AW.kq [4, 5, 6, 7] (h := ?_)
  have e1 := mul_1 a0 b0 a1 b1
  have e2 := mul_2 a0 a1 b0 b1
  repeat refine AW.seq ?_
  refine AW.reg ?_
  iterate 2 refine AOL.s1 (h := ?_)
  refine AOL.callD rfl (modular_Sub_c mdP (ltm _).w (ltm _).w) (by kernel_rfl) rfl rfl (h := ?_)
  iterate 3 refine AOL.s1 (h := ?_)
  refine AOL.callD rfl (modular_Add_c mdP (ltm _).w (ltm _).w) (by kernel_rfl) rfl rfl (h := ?_)
  refine AOL.callD rfl (modular_Sub_c mdP (ltm _).w (ltm _).w) (by kernel_rfl) rfl rfl (h := ?_)
  iterate 2 refine AOL.s1 (h := ?_)
  refine AOL.nil ?_
  refine AW.kq [4] (h := ?_)
  repeat refine AW.seq ?_
  refine AW.ret ?_
  refine ⟨_, [], rfl, HOk.nil _, ?_⟩
  rfl
theorem ext_Conj_c {a0 a1 : Int} (h0 : w64 a0) (h1 : w64 a1) : Fn Try.prog 87 [ee (a0, a1)] [] (fun r _ => r = ee (conjE (a0, a1))) := by
  have i0 : (0:Int) < 2 := by decide
  have i1 : (1:Int) < 2 := by decide
  have i2 : (0:Int) ≤ 1 := by decide
  have i3 : (0:Int) ≤ 0 := by decide
  have i4 : Int.toNat 1 = 1 := rfl
  have h5 := tmod_nn (m := 1152921505151057923) h0.1
  refine Fn.enter Try.func87 Try.ntmps87 rfl (h := ?_)
  have tf := tf
  have tfe := tfe
  repeat refine AW.seq ?_
  refine AW.reg ?_
  iterate 2 refine AOL.s1 (h := ?_)
  refine AOL.nil ?_
  refine AW.kq [1, 2] (h := ?_)
  repeat refine AW.seq ?_
  refine AW.drw 6 [] (by kernel_rfl) (h := ?_)
  iterate 5 refine ADL.dm 1 (h := ?_)
  refine ADL.call rfl (modular_Sub_c mdP (by decide) h1) (by kernel_rfl) rfl rfl (h := ?_)
  refine ADL.done hmix rfl rfl (hT := ?_)
  iterate 2 refine AOL.s1 (h := ?_)
  refine AOL.nil ?_
  refine AW.kq [2] (h := ?_)
  repeat refine AW.seq ?_
  refine AW.ret ?_
  refine ⟨_, [], rfl, HOk.nil _, ?_⟩
  rfl
set_option maxHeartbeats 1000000 in
theorem ext_Inv_c {a0 a1 : Int} (h0 : w64 a0) (h1 : w64 a1) : Fn Try.prog 88 [ee (a0, a1)] [] (fun r _ => r = ee (invE (a0, a1))) := by
  have i0 : (0:Int) < 2 := by decide
  have i1 : (1:Int) < 2 := by decide
  have i2 : (0:Int) ≤ 1 := by decide
  have i3 : (0:Int) ≤ 0 := by decide
  have i4 : Int.toNat 1 = 1 := rfl
  have cc := ext_Conj_c h0 h1
  have lc := conjE_lt (a0, a1)
  have en : invE (a0, a1) = ((conjE (a0, a1)).1 * normE (a0, a1) % 1152921505151057923, (conjE (a0, a1)).2 * normE (a0, a1) % 1152921505151057923) := rfl
  have cn := modular_Pow_c (m := 1152921505151057923) (a := (a0 * a0 % 1152921505151057923 + a1 * a1 % 1152921505151057923) % 1152921505151057923) (e := 1152921505151057921) mdP (ltm _).w (by decide)
  rw [show ipow 1152921505151057923 ((a0 * a0 % 1152921505151057923 + a1 * a1 % 1152921505151057923) % 1152921505151057923) 1152921505151057921 = normE (a0, a1) from rfl] at cn
  have ln : lt (normE (a0, a1)) := by
    unfold normE
    rw [ipow_eq (by decide) (ltm _).1 (by decide)]; exact ltm _
  rw [en]
  clear en
  generalize conjE (a0, a1) = c at *
  generalize normE (a0, a1) = n at *
  refine Fn.enter Try.func88 Try.ntmps88 rfl (h := ?_)
  have tf := tf
  have tfe := tfe
  repeat refine AW.seq ?_
  refine AW.reg ?_
  iterate 2 refine AOL.s1 (h := ?_)
  refine AOL.nil ?_
  refine AW.kq [1, 2] (h := ?_)
  repeat refine AW.seq ?_
  refine AW.drw 9 [] (by kernel_rfl) (h := ?_)
  iterate 4 refine ADL.dm 1 (h := ?_)
  refine ADL.call rfl (modular_Mul_c mdP h0 h0) (by kernel_rfl) rfl rfl (h := ?_)
  iterate 4 refine ADL.dm 1 (h := ?_)
  refine ADL.done hmix rfl rfl (hT := ?_)
  refine AOL.callD rfl (modular_Mul_c mdP h1 h1) (by kernel_rfl) rfl rfl (h := ?_)
  refine AOL.callD rfl (modular_Add_c mdP (ltm _).w (ltm _).w) (by kernel_rfl) rfl rfl (h := ?_)
  iterate 1 refine AOL.s1 (h := ?_)
  refine AOL.nil ?_
  refine AW.kq [1, 2, 3] (h := ?_)
  repeat refine AW.seq ?_
  refine AW.reg ?_
  iterate 1 refine AOL.s1 (h := ?_)
  refine AOL.callD rfl (cn) (by kernel_rfl) rfl rfl (h := ?_)
  iterate 1 refine AOL.s1 (h := ?_)
  refine AOL.nil ?_
  refine AW.kq [1, 2, 3] (h := ?_)
  repeat refine AW.seq ?_
  refine AW.reg ?_
  iterate 1 refine AOL.s1 (h := ?_)
  refine AOL.callD rfl (cc) (by kernel_rfl) rfl rfl (h := ?_)
  iterate 2 refine AOL.s1 (h := ?_)
  refine AOL.nil ?_
  refine AW.kq [2, 3, 4] (h := ?_)
  repeat refine AW.seq ?_
  refine AW.drw 7 [] (by kernel_rfl) (h := ?_)
  iterate 3 refine ADL.dm 1 (h := ?_)
  refine ADL.call rfl (modular_Mul_c mdP lc.1.w ln.w) (by kernel_rfl) rfl rfl (h := ?_)
  iterate 3 refine ADL.dm 1 (h := ?_)
  refine ADL.done hmix rfl rfl (hT := ?_)
  refine AOL.callD rfl (modular_Mul_c mdP lc.2.w ln.w) (by kernel_rfl) rfl rfl (h := ?_)
  iterate 2 refine AOL.s1 (h := ?_)
  refine AOL.nil ?_
  refine AW.kq [2] (h := ?_)
  repeat refine AW.seq ?_
  refine AW.ret ?_
  refine ⟨_, [], rfl, HOk.nil _, ?_⟩
  rfl
def stepE (a : Int × Int) (e : Int) (i : Nat) (o : Int × Int) : Int × Int := if e / 2 ^ i % 2 = 1 then mulE (mulE o o) a else mulE o o
def pw (a : Int × Int) (e : Int) : Nat → Int × Int → Int × Int
  | 0, o => o
  | i + 1, o => pw a e i (stepE a e i o)
/-- a power, from the highest bit on -/
def powE (a : Int × Int) (e : Int) : Int × Int := pw a e 64 (1, 0)
theorem one_lt : lt ((1, 0) : Int × Int).1 ∧ lt ((1, 0) : Int × Int).2 := ⟨⟨by decide, by decide⟩, ⟨by decide, by decide⟩⟩
end Go.Proofs.Ytdbpjegocmdplaa.E.M
end
section
/- Lines, turns, pairings and their products, by the program: contracts over E. -/
set_option linter.unusedVariables false
set_option linter.unusedSimpArgs false
set_option maxRecDepth 10000
open Go Go.Proofs.Ytdbpjegocmdplaa.E Go.Proofs
namespace Go.Proofs.Ytdbpjegocmdplaa.E.M
abbrev TFL : Prop := tSz Try.prog 33 = some 1 ∧
    tAgg Try.prog 33 = some false ∧
    tBytes Try.prog 33 = some 24 ∧
    tZero Try.prog 33 = some [(.slice none 0 0)] ∧
    tSlice Try.prog 33 = some 32 ∧
    Try.prog.underlying 33 = some (.slice 32) ∧
    tIface Try.prog 33 = some false ∧
    tCls Try.prog 33 = .slice
theorem tfl : TFL :=
  ⟨rfl, rfl, rfl, rfl, rfl, rfl, rfl, rfl⟩

/-- powers from the lowest bit on -/
def plo : Nat → Int × Int → Int → Int × Int → Int × Int
  | 0, _, _, o => o
  | n + 1, a, e, o => if e > 0 then plo n (mulE a a) (e / 2) (if e % 2 = 1 then mulE o a else o) else o
theorem plo_zero : ∀ (n : Nat) (a o : Int × Int), plo n a 0 o = o
  | 0, _, _ => rfl
  | n + 1, _, _ => by rw [plo, if_neg (by decide)]
set_option maxHeartbeats 1000000 in
theorem ext_Pow_c {a0 a1 e : Int} (h0 : w64 a0) (h1 : w64 a1) (he : w64 e) : Fn Try.prog 86 [ee (a0, a1), u e] [] (fun r _ => r = ee (plo 64 (a0, a1) e (1, 0))) := by
  refine Fn.enter Try.func86 Try.ntmps86 rfl (h := ?_)
  have tf := tf
  have tfe := tfe
  repeat refine AW.seq ?_
  refine AW.reg ?_
  iterate 2 refine AOL.s1 (h := ?_)
  refine AOL.nil ?_
  refine AW.kq [1, 2, 4] (h := ?_)
  repeat refine AW.seq ?_
  refine AW.reg ?_
  iterate 3 refine AOL.s1 (h := ?_)
  refine AOL.nil ?_
  refine AW.kq [1, 2, 4, 5] (h := ?_)
  repeat refine AW.seq ?_
  refine AW.block ?_
  repeat refine AW.seq ?_
  refine AW.loopK [1, 2, 4, 5] (fun n s => ∃ (x y z w f : Int), s = ⟨21, [(1, u f), (2, .ptr 1032 0), (4, .ptr 1064 0), (5, .ptr 1080 0)], [(1032, ⟨80, true, [u x, u y]⟩), (1064, ⟨80, true, [u 0, u 0]⟩), (1080, ⟨80, true, [u z, u w]⟩)]⟩ ∧ n ≤ 64 ∧ (0 ≤ f ∧ f < 2 ^ n) ∧ wE (x, y) ∧ (lt z ∧ lt w) ∧ plo n (x, y) f (z, w) = plo 64 (a0, a1) e (1, 0)) 64 ?_ ?_
  · exact ⟨a0, a1, 1, 0, e, rfl, Nat.le_refl _, he, ⟨h0, h1⟩, one_lt, rfl⟩
  rintro n s ⟨x, y, z, w, f, rfl, hn, hf, hx, hz, ht⟩
  have hf64 : w64 f := by
    have h := Int.ofNat_le.2 (Nat.pow_le_pow_right (n := 2) (by decide) hn)
    rw [Int.natCast_pow, Int.natCast_pow] at h
    exact ⟨hf.1, Int.lt_of_lt_of_le hf.2 h⟩
  have hf2 : id (0 ≤ f ∧ f < 2 ^ n) := hf
  clear hf
  repeat refine AW.seq ?_
  refine AW.reg ?_
  iterate 2 refine AOL.s1 (h := ?_)
  refine AOL.nil ?_
  refine AW.kq [1, 2, 4, 5, 8] (h := ?_)
  repeat refine AW.seq ?_
  refine AW.cond rfl (fun c_ => ?_) (fun c_ => ?_)
  · have f0 : f > 0 := by simpa using c_
    cases n with
    | zero => exfalso; have := (show _ ∧ _ from hf2).2; simp at this; omega
    | succ n =>
    have bita := and_one hf64.1 hf64.2
    have s1 : f.fdiv (2 ^ min (Int.toNat 1) IntKind.u64.bits) = f / 2 := by rw [show Int.toNat 1 = 1 from rfl, (shr_b (k := 1) hf64 (by decide)).1, Int.pow_one]
    have hf' : 0 ≤ f / 2 ∧ f / 2 < 2 ^ n := by
      have h2 := (show _ ∧ _ from hf2).2
      rw [Int.pow_succ] at h2
      generalize (2:Int) ^ n = N at *
      omega
    have hf'' : id (0 ≤ f / 2 ∧ f / 2 < 2 ^ n) := hf'
    rw [plo, if_pos f0] at ht
    have cO := ext_Mul_c hz.1.w hz.2.w hx.1 hx.2
    have pO := mulE_lt (z, w) (x, y)
    have cA := ext_Mul_c hx.1 hx.2 hx.1 hx.2
    have pA := mulE_lt (x, y) (x, y)
    generalize mulE (z, w) (x, y) = O at *
    generalize mulE (x, y) (x, y) = A at *
    clear hf2 hf' c_
    refine AW.skip ?_
    repeat refine AW.seq ?_
    refine AW.block ?_
    repeat refine AW.seq ?_
    refine AW.reg ?_
    iterate 3 refine AOL.s1 (h := ?_)
    refine AOL.nil ?_
    refine AW.kq [1, 2, 4, 5, 13] (h := ?_)
    repeat refine AW.seq ?_
    refine AW.midK [1, 2, 4, 5] (fun t => ∃ z w, t = ⟨21, [(1, u f), (2, .ptr 1032 0), (4, .ptr 1064 0), (5, .ptr 1080 0)], [(1032, ⟨80, true, [u x, u y]⟩), (1064, ⟨80, true, [u 0, u 0]⟩), (1080, ⟨80, true, [u z, u w]⟩)]⟩ ∧ (lt z ∧ lt w) ∧ plo n A (f / 2) (z, w) = plo 64 (a0, a1) e (1, 0)) ?_ ?_
    · refine AW.cond rfl (fun d_ => ?_) (fun d_ => ?_)
      · have d1 : f % 2 = 1 := by simpa using d_
        rw [if_pos d1] at ht
        clear d1 d_ bita
        repeat refine AW.seq ?_
        refine AW.reg ?_
        iterate 2 refine AOL.s1 (h := ?_)
        refine AOL.callD rfl (cO) (by kernel_rfl) rfl rfl (h := ?_)
        iterate 1 refine AOL.s1 (h := ?_)
        refine AOL.nil ?_
        exact ⟨_, _, rfl, pO, ht⟩
      · have d1 : ¬ f % 2 = 1 := by simpa using d_
        rw [if_neg d1] at ht
        refine AW.skip ?_
        exact ⟨_, _, rfl, hz, ht⟩
    rintro t ⟨z', w', rfl, hz', ht'⟩
    clear ht
    repeat refine AW.seq ?_
    refine AW.reg ?_
    iterate 2 refine AOL.s1 (h := ?_)
    refine AOL.callD rfl (cA) (by kernel_rfl) rfl rfl (h := ?_)
    iterate 1 refine AOL.s1 (h := ?_)
    refine AOL.nil ?_
    repeat refine AW.seq ?_
    refine AW.reg ?_
    iterate 3 refine AOL.s1 (h := ?_)
    refine AOL.nil ?_
    exact ⟨n, by omega, _, _, _, _, _, rfl, by omega, hf'', ltE pA, hz', ht'⟩
  have f0 : f = 0 := by simp at c_; omega
  subst f0
  rw [plo_zero] at ht
  rw [← ht]
  clear ht hf2
  repeat refine AW.seq ?_
  refine AW.exit ?_
  repeat (first | refine Kseq.ex ?_ | refine Kloop.ex ?_ | refine Kblock.miss (by decide) ?_)
  refine Kblock.hit ?_
  refine AW.kq [4, 5] (h := ?_)
  repeat refine AW.seq ?_
  refine AW.reg ?_
  iterate 2 refine AOL.s1 (h := ?_)
  refine AOL.nil ?_
  refine AW.kq [4] (h := ?_)
  repeat refine AW.seq ?_
  refine AW.ret ?_
  refine ⟨_, [], rfl, HOk.nil _, ?_⟩
  rfl
abbrev P3 := Bool × Int × Int
def upE (a b : P3) : Int := if a = b then (3 * (a.2.1 * a.2.1 % 1152921505151057923) % 1152921505151057923 + 1) % 1152921505151057923 else (b.2.2 - a.2.2) % 1152921505151057923
def downE (a b : P3) : Int := if a = b then (a.2.2 + a.2.2) % 1152921505151057923 else (b.2.1 - a.2.1) % 1152921505151057923
def lineE (a b q : P3) : Int × Int :=
  if downE a b = 0 then (1, 0) else ((upE a b * inv 1152921505151057923 (downE a b) % 1152921505151057923 * ((q.2.1 + a.2.1) % 1152921505151057923) % 1152921505151057923 - a.2.2) % 1152921505151057923, q.2.2)
abbrev wP (a : P3) : Prop := lt a.2.1 ∧ lt a.2.2
theorem upE_lt (a b : P3) : lt (upE a b) := by unfold upE; split <;> exact ltm _
theorem downE_lt (a b : P3) : lt (downE a b) := by unfold downE; split <;> exact ltm _
theorem lineE_lt (a b q : P3) (hq : lt q.2.2) : lt (lineE a b q).1 ∧ lt (lineE a b q).2 := by
  unfold lineE; split
  · exact one_lt
  · exact ⟨ltm _, hq⟩
theorem p3_eq {a0 b0 : Bool} {ax ay bx bY : Int} : ((a0 == b0) && ((ax == bx) && (ay == bY))) = decide ((a0, ax, ay) = (b0, bx, bY)) := by
  rw [Bool.eq_iff_iff]; simp
set_option maxHeartbeats 2000000 in
theorem pair_line_c {a0 b0 q0 : Bool} {ax ay bx bY qx qy : Int} (hax : lt ax) (hay : lt ay) (hbx : lt bx) (hby : lt bY) (hqx : lt qx) (hqy : lt qy) : Fn Try.prog 94 [pt (a0, ax, ay), pt (b0, bx, bY), pt (q0, qx, qy)] [] (fun r _ => r = ee (lineE (a0, ax, ay) (b0, bx, bY) (q0, qx, qy))) := by
  have hp := @p3_eq a0 b0 ax ay bx bY
  have eqPt := eqPt
  have hD := downE_lt (a0, ax, ay) (b0, bx, bY)
  have hU := upE_lt (a0, ax, ay) (b0, bx, bY)
  have eL : lineE (a0, ax, ay) (b0, bx, bY) (q0, qx, qy) = if downE (a0, ax, ay) (b0, bx, bY) = 0 then (1, 0) else ((upE (a0, ax, ay) (b0, bx, bY) * inv 1152921505151057923 (downE (a0, ax, ay) (b0, bx, bY)) % 1152921505151057923 * ((qx + ax) % 1152921505151057923) % 1152921505151057923 - ay) % 1152921505151057923, qy) := rfl
  have eU : upE (a0, ax, ay) (b0, bx, bY) = if (a0, ax, ay) = (b0, bx, bY) then (3 * (ax * ax % 1152921505151057923) % 1152921505151057923 + 1) % 1152921505151057923 else (bY - ay) % 1152921505151057923 := rfl
  have eD : downE (a0, ax, ay) (b0, bx, bY) = if (a0, ax, ay) = (b0, bx, bY) then (ay + ay) % 1152921505151057923 else (bx - ax) % 1152921505151057923 := rfl
  rw [eL]
  clear eL
  generalize upE (a0, ax, ay) (b0, bx, bY) = U at *
  generalize downE (a0, ax, ay) (b0, bx, bY) = D at *
  replace eU : id (U = _) := eU
  replace eD : id (D = _) := eD
  refine Fn.enter Try.func94 Try.ntmps94 rfl (h := ?_)
  have tf := tf
  have tfe := tfe
  repeat refine AW.seq ?_
  refine AW.reg ?_
  iterate 4 refine AOL.s1 (h := ?_)
  refine AOL.nil ?_
  refine AW.kq [3, 4, 5, 6] (h := ?_)
  repeat refine AW.seq ?_
  refine AW.drw 9 [] (by kernel_rfl) (h := ?_)
  iterate 4 refine ADL.dm 1 (h := ?_)
  refine ADL.call rfl (modular_Sub_c mdP hby.w hay.w) (by kernel_rfl) rfl rfl (h := ?_)
  iterate 4 refine ADL.dm 1 (h := ?_)
  refine ADL.done hmix rfl rfl (hT := ?_)
  refine AOL.callD rfl (modular_Sub_c mdP hbx.w hax.w) (by kernel_rfl) rfl rfl (h := ?_)
  iterate 2 refine AOL.s1 (h := ?_)
  refine AOL.nil ?_
  refine AW.kq [3, 4, 5, 6, 7, 8] (h := ?_)
  repeat refine AW.seq ?_
  refine AW.reg ?_
  iterate 3 refine AOL.s1 (h := ?_)
  refine AOL.nil ?_
  refine AW.kq [3, 5, 6, 7, 8, 25] (h := ?_)
  repeat refine AW.seq ?_
  refine AW.midK [3, 5, 6, 7, 8] (fun t => t = ⟨63, [(3, .ptr 1048 0), (5, .ptr 1080 0), (6, .ptr 1096 0), (7, u U), (8, u D)], [(1048, ⟨32, true, [bo a0, u ax, u ay]⟩), (1064, ⟨32, true, [bo b0, u bx, u bY]⟩), (1080, ⟨32, true, [bo q0, u qx, u qy]⟩), (1096, ⟨80, true, [u 0, u 0]⟩)]⟩) ?_ ?_
  · refine AW.cond rfl (fun c_ => ?_) (fun c_ => ?_)
    · have c1 : (a0, ax, ay) = (b0, bx, bY) := by simpa using c_
      replace eU : U = _ := eU
      replace eD : D = _ := eD
      rw [if_pos c1] at eU eD
      clear c1 c_ hp
      have cS := modular_Add_c (a := ay) (b := ay) mdP hay.w hay.w
      rw [← eD] at cS
      have cU := modular_Add_c (a := 3 * (ax * ax % 1152921505151057923) % 1152921505151057923) (b := 1) mdP (ltm _).w (by decide)
      rw [← eU] at cU
      clear eU eD
      repeat refine AW.seq ?_
      refine AW.drw 11 [] (by kernel_rfl) (h := ?_)
      iterate 4 refine ADL.dm 1 (h := ?_)
      refine ADL.call rfl (modular_Mul_c mdP hax.w hax.w) (by kernel_rfl) rfl rfl (h := ?_)
      refine ADL.call rfl (modular_Mul_c mdP (by decide) (ltm _).w) (by kernel_rfl) rfl rfl (h := ?_)
      refine ADL.call rfl (cU) (by kernel_rfl) rfl rfl (h := ?_)
      iterate 4 refine ADL.dm 1 (h := ?_)
      refine ADL.done hmix rfl rfl (hT := ?_)
      refine AOL.callD rfl (cS) (by kernel_rfl) rfl rfl (h := ?_)
      iterate 2 refine AOL.s1 (h := ?_)
      refine AOL.nil ?_
      exact (rfl : (_ : St) = _)
    · have c1 : ¬ (a0, ax, ay) = (b0, bx, bY) := by
        intro h; rw [decide_eq_true h] at c_; cases c_
      replace eU : U = _ := eU
      replace eD : D = _ := eD
      rw [if_neg c1] at eU eD
      refine AW.skip ?_
      rw [eU, eD]; exact (rfl : (_ : St) = _)
  rintro t rfl
  clear hp eU eD
  have ci := modular_Inv_c (m := 1152921505151057923) (a := D) prmP hD.w
  rw [hD.self] at ci
  by_cases d0 : D = 0
  · rw [if_pos d0] at ci ⊢
    clear d0
    repeat refine AW.seq ?_
    refine AW.reg ?_
    iterate 1 refine AOL.s1 (h := ?_)
    refine AOL.callD rfl (ci) (by kernel_rfl) rfl rfl (h := ?_)
    iterate 5 refine AOL.s1 (h := ?_)
    refine AOL.nil ?_
    refine AW.kq [3, 5, 6, 7, 9, 10] (h := ?_)
    repeat refine AW.seq ?_
    refine AW.reg ?_
    iterate 2 refine AOL.s1 (h := ?_)
    refine AOL.nil ?_
    refine AW.kq [3, 5, 6, 7, 9, 44] (h := ?_)
    repeat refine AW.seq ?_
    refine AW.cond rfl (fun c_ => ?_) (fun c_ => ?_)
    · repeat refine AW.seq ?_
      refine AW.reg ?_
      iterate 2 refine AOL.s1 (h := ?_)
      refine AOL.nil ?_
      refine AW.kq [6] (h := ?_)
      repeat refine AW.seq ?_
      refine AW.ret ?_
      refine ⟨_, [], rfl, HOk.nil _, ?_⟩
      rfl
    · cases c_
  rw [if_neg d0] at ci ⊢
  have hi := (K_inv hD d0).2
  clear d0
  generalize inv 1152921505151057923 D = I at *
  repeat refine AW.seq ?_
  refine AW.reg ?_
  iterate 1 refine AOL.s1 (h := ?_)
  refine AOL.callD rfl (ci) (by kernel_rfl) rfl rfl (h := ?_)
  iterate 5 refine AOL.s1 (h := ?_)
  refine AOL.nil ?_
  refine AW.kq [3, 5, 6, 7, 9, 10] (h := ?_)
  repeat refine AW.seq ?_
  refine AW.reg ?_
  iterate 2 refine AOL.s1 (h := ?_)
  refine AOL.nil ?_
  refine AW.kq [3, 5, 6, 7, 9, 44] (h := ?_)
  repeat refine AW.seq ?_
  refine AW.cond rfl (fun c_ => ?_) (fun c_ => ?_)
  · cases c_
  refine AW.skip ?_
  repeat refine AW.seq ?_
  refine AW.reg ?_
  iterate 2 refine AOL.s1 (h := ?_)
  refine AOL.callD rfl (modular_Mul_c mdP hU.w hi.w) (by kernel_rfl) rfl rfl (h := ?_)
  iterate 1 refine AOL.s1 (h := ?_)
  refine AOL.nil ?_
  refine AW.kq [3, 5, 6, 11] (h := ?_)
  repeat refine AW.seq ?_
  refine AW.reg ?_
  iterate 5 refine AOL.s1 (h := ?_)
  refine AOL.callD rfl (modular_Add_c mdP hqx.w hax.w) (by kernel_rfl) rfl rfl (h := ?_)
  refine AOL.callD rfl (modular_Mul_c mdP (ltm _).w (ltm _).w) (by kernel_rfl) rfl rfl (h := ?_)
  iterate 1 refine AOL.s1 (h := ?_)
  refine AOL.nil ?_
  refine AW.kq [3, 5, 6, 12] (h := ?_)
  repeat refine AW.seq ?_
  refine AW.drw 6 [] (by kernel_rfl) (h := ?_)
  iterate 3 refine ADL.dm 1 (h := ?_)
  refine ADL.call rfl (modular_Sub_c mdP (ltm _).w hay.w) (by kernel_rfl) rfl rfl (h := ?_)
  iterate 2 refine ADL.dm 1 (h := ?_)
  refine ADL.done hmix rfl rfl (hT := ?_)
  iterate 2 refine AOL.s1 (h := ?_)
  refine AOL.nil ?_
  refine AW.kq [6] (h := ?_)
  repeat refine AW.seq ?_
  refine AW.ret ?_
  refine ⟨_, [], rfl, HOk.nil _, ?_⟩
  rfl
theorem math_bits_Len64_c {a : Int} (ha : w64 a) : Fn Try.prog 93 [u a] [] (fun r _ => r = i (Lib.bitLen a.toNat : Int)) := by
  refine Fn.ofCalls (args := [.int .u64 a]) (v := .int .i64 (Lib.bitLen a.toNat : Int)) ?_ rfl ?_
  · intro ρ F w vs h
    simp only [VRs, VR] at h
    obtain ⟨_, _, rfl, rfl, rfl⟩ := h; rfl
  · exact fun w => (Try.bits_Len64 a w ha.1 (by omega)).mono fun e w' h => by
      obtain ⟨rfl, rfl⟩ := h
      exact ⟨rfl, .refl _ _⟩
theorem sureP_of {t : P3} (h : Pt t) : sureP t.1 t.2.1 t.2.2 = t := sureP_self h
/-- one round of a turn -/
def roundE (a q : P3) (i : Nat) (s : (Int × Int) × P3) : (Int × Int) × P3 :=
  if (288230376287764481 : Int) / 2 ^ i % 2 = 1 then (mulE (mulE (mulE s.1 s.1) (lineE s.2 s.2 q)) (lineE (sumP s.2 s.2) a q), sumP (sumP s.2 s.2) a)
  else (mulE (mulE s.1 s.1) (lineE s.2 s.2 q), sumP s.2 s.2)
def trn (a q : P3) : Nat → (Int × Int) × P3 → (Int × Int) × P3
  | 0, s => s
  | i + 1, s => trn a q i (roundE a q i s)
def turnE (a q : P3) : Int × Int := (trn a q 58 ((1, 0), a)).1
set_option maxHeartbeats 2000000 in
theorem pair_turn_c {a0 q0 : Bool} {ax ay qx qy : Int} (ha : Pt (a0, ax, ay)) (hq : Pt (q0, qx, qy)) : Fn Try.prog 85 [pt (a0, ax, ay), pt (q0, qx, qy)] [] (fun r _ => r = ee (turnE (a0, ax, ay) (q0, qx, qy))) := by
  have hqw := hq.wx
  have haw := ha.wx
  have cl := math_bits_Len64_c (a := 288230376287764481) ⟨by decide, by decide⟩
  rw [show (Lib.bitLen (288230376287764481 : Int).toNat : Int) = 59 by decide] at cl
  refine Fn.enter Try.func85 Try.ntmps85 rfl (h := ?_)
  have tf := tf
  have tfe := tfe
  repeat refine AW.seq ?_
  refine AW.reg ?_
  iterate 3 refine AOL.s1 (h := ?_)
  refine AOL.nil ?_
  refine AW.kq [2, 3, 4] (h := ?_)
  repeat refine AW.seq ?_
  refine AW.anyO (st1 := ⟨41, [(2, .ptr 1032 0), (3, .ptr 1048 0), (4, .ptr 1064 0), (5, .ptr 1080 0), (6, .ptr 1096 0), (8, .agg [u 1, u 0]), (9, .agg [bo a0, u ax, u ay])], [(1032, ⟨32, true, [bo a0, u ax, u ay]⟩), (1048, ⟨32, true, [bo q0, u qx, u qy]⟩), (1064, ⟨80, true, [u 0, u 0]⟩), (1080, ⟨80, true, [u 1, u 0]⟩), (1096, ⟨32, true, [bo a0, u ax, u ay]⟩)]⟩) hmix ?_ ?_
  · refine AAny.step [0, 1, 2, 3] (by kernel_rfl) rfl ?_
    refine AAll.cons rfl (h1 := ?_) (h2 := ?_)
    refine AAny.step [1, 2, 3] (by kernel_rfl) rfl ?_
    refine AAll.cons rfl (h1 := ?_) (h2 := ?_)
    refine AAny.step [2, 3] (by kernel_rfl) rfl ?_
    refine AAll.cons rfl (h1 := ?_) (h2 := ?_)
    refine AAny.step [3] (by kernel_rfl) rfl ?_
    refine AAll.cons rfl (h1 := ?_) (h2 := ?_)
    refine AAny.step [4] (by kernel_rfl) rfl ?_
    refine AAll.cons rfl (h1 := ?_) (h2 := ?_)
    refine AAny.step [5] (by kernel_rfl) rfl ?_
    refine AAll.cons rfl (h1 := ?_) (h2 := ?_)
    exact AAny.done (by kernel_rfl) rfl
    exact AAll.nil
    exact AAll.nil
    exact AAll.nil
    refine AAll.cons rfl (h1 := ?_) (h2 := ?_)
    refine AAny.step [2] (by kernel_rfl) rfl ?_
    refine AAll.cons rfl (h1 := ?_) (h2 := ?_)
    refine AAny.step [4] (by kernel_rfl) rfl ?_
    refine AAll.cons rfl (h1 := ?_) (h2 := ?_)
    refine AAny.step [5] (by kernel_rfl) rfl ?_
    refine AAll.cons rfl (h1 := ?_) (h2 := ?_)
    exact AAny.done (by kernel_rfl) rfl
    exact AAll.nil
    exact AAll.nil
    exact AAll.nil
    exact AAll.nil
    refine AAll.cons rfl (h1 := ?_) (h2 := ?_)
    refine AAny.step [1, 3] (by kernel_rfl) rfl ?_
    refine AAll.cons rfl (h1 := ?_) (h2 := ?_)
    refine AAny.step [3] (by kernel_rfl) rfl ?_
    refine AAll.cons rfl (h1 := ?_) (h2 := ?_)
    refine AAny.step [4] (by kernel_rfl) rfl ?_
    refine AAll.cons rfl (h1 := ?_) (h2 := ?_)
    refine AAny.step [5] (by kernel_rfl) rfl ?_
    refine AAll.cons rfl (h1 := ?_) (h2 := ?_)
    exact AAny.done (by kernel_rfl) rfl
    exact AAll.nil
    exact AAll.nil
    exact AAll.nil
    refine AAll.cons rfl (h1 := ?_) (h2 := ?_)
    refine AAny.step [1, 4] (by kernel_rfl) rfl ?_
    refine AAll.cons rfl (h1 := ?_) (h2 := ?_)
    refine AAny.step [4] (by kernel_rfl) rfl ?_
    refine AAll.cons rfl (h1 := ?_) (h2 := ?_)
    refine AAny.step [5] (by kernel_rfl) rfl ?_
    refine AAll.cons rfl (h1 := ?_) (h2 := ?_)
    exact AAny.done (by kernel_rfl) rfl
    exact AAll.nil
    exact AAll.nil
    refine AAll.cons rfl (h1 := ?_) (h2 := ?_)
    refine AAny.step [1] (by kernel_rfl) rfl ?_
    refine AAll.cons rfl (h1 := ?_) (h2 := ?_)
    refine AAny.step [5] (by kernel_rfl) rfl ?_
    refine AAll.cons rfl (h1 := ?_) (h2 := ?_)
    exact AAny.done (by kernel_rfl) rfl
    exact AAll.nil
    exact AAll.nil
    exact AAll.nil
    exact AAll.nil
    refine AAll.cons rfl (h1 := ?_) (h2 := ?_)
    refine AAny.step [1, 2] (by kernel_rfl) rfl ?_
    refine AAll.cons rfl (h1 := ?_) (h2 := ?_)
    refine AAny.step [2] (by kernel_rfl) rfl ?_
    refine AAll.cons rfl (h1 := ?_) (h2 := ?_)
    refine AAny.step [4] (by kernel_rfl) rfl ?_
    refine AAll.cons rfl (h1 := ?_) (h2 := ?_)
    refine AAny.step [5] (by kernel_rfl) rfl ?_
    refine AAll.cons rfl (h1 := ?_) (h2 := ?_)
    exact AAny.done (by kernel_rfl) rfl
    exact AAll.nil
    exact AAll.nil
    exact AAll.nil
    refine AAll.cons rfl (h1 := ?_) (h2 := ?_)
    refine AAny.step [1, 4] (by kernel_rfl) rfl ?_
    refine AAll.cons rfl (h1 := ?_) (h2 := ?_)
    refine AAny.step [4] (by kernel_rfl) rfl ?_
    refine AAll.cons rfl (h1 := ?_) (h2 := ?_)
    refine AAny.step [5] (by kernel_rfl) rfl ?_
    refine AAll.cons rfl (h1 := ?_) (h2 := ?_)
    exact AAny.done (by kernel_rfl) rfl
    exact AAll.nil
    exact AAll.nil
    refine AAll.cons rfl (h1 := ?_) (h2 := ?_)
    refine AAny.step [1] (by kernel_rfl) rfl ?_
    refine AAll.cons rfl (h1 := ?_) (h2 := ?_)
    refine AAny.step [5] (by kernel_rfl) rfl ?_
    refine AAll.cons rfl (h1 := ?_) (h2 := ?_)
    exact AAny.done (by kernel_rfl) rfl
    exact AAll.nil
    exact AAll.nil
    exact AAll.nil
    exact AAll.nil
    exact AAll.nil
    refine AAll.cons rfl (h1 := ?_) (h2 := ?_)
    refine AAny.step [0, 2, 3] (by kernel_rfl) rfl ?_
    refine AAll.cons rfl (h1 := ?_) (h2 := ?_)
    refine AAny.step [2, 3] (by kernel_rfl) rfl ?_
    refine AAll.cons rfl (h1 := ?_) (h2 := ?_)
    refine AAny.step [3] (by kernel_rfl) rfl ?_
    refine AAll.cons rfl (h1 := ?_) (h2 := ?_)
    refine AAny.step [4] (by kernel_rfl) rfl ?_
    refine AAll.cons rfl (h1 := ?_) (h2 := ?_)
    refine AAny.step [5] (by kernel_rfl) rfl ?_
    refine AAll.cons rfl (h1 := ?_) (h2 := ?_)
    exact AAny.done (by kernel_rfl) rfl
    exact AAll.nil
    exact AAll.nil
    exact AAll.nil
    refine AAll.cons rfl (h1 := ?_) (h2 := ?_)
    refine AAny.step [2] (by kernel_rfl) rfl ?_
    refine AAll.cons rfl (h1 := ?_) (h2 := ?_)
    refine AAny.step [4] (by kernel_rfl) rfl ?_
    refine AAll.cons rfl (h1 := ?_) (h2 := ?_)
    refine AAny.step [5] (by kernel_rfl) rfl ?_
    refine AAll.cons rfl (h1 := ?_) (h2 := ?_)
    exact AAny.done (by kernel_rfl) rfl
    exact AAll.nil
    exact AAll.nil
    exact AAll.nil
    exact AAll.nil
    refine AAll.cons rfl (h1 := ?_) (h2 := ?_)
    refine AAny.step [0, 3] (by kernel_rfl) rfl ?_
    refine AAll.cons rfl (h1 := ?_) (h2 := ?_)
    refine AAny.step [3] (by kernel_rfl) rfl ?_
    refine AAll.cons rfl (h1 := ?_) (h2 := ?_)
    refine AAny.step [4] (by kernel_rfl) rfl ?_
    refine AAll.cons rfl (h1 := ?_) (h2 := ?_)
    refine AAny.step [5] (by kernel_rfl) rfl ?_
    refine AAll.cons rfl (h1 := ?_) (h2 := ?_)
    exact AAny.done (by kernel_rfl) rfl
    exact AAll.nil
    exact AAll.nil
    exact AAll.nil
    refine AAll.cons rfl (h1 := ?_) (h2 := ?_)
    refine AAny.step [0] (by kernel_rfl) rfl ?_
    refine AAll.cons rfl (h1 := ?_) (h2 := ?_)
    refine AAny.step [4] (by kernel_rfl) rfl ?_
    refine AAll.cons rfl (h1 := ?_) (h2 := ?_)
    refine AAny.step [5] (by kernel_rfl) rfl ?_
    refine AAll.cons rfl (h1 := ?_) (h2 := ?_)
    exact AAny.done (by kernel_rfl) rfl
    exact AAll.nil
    exact AAll.nil
    exact AAll.nil
    exact AAll.nil
    refine AAll.cons rfl (h1 := ?_) (h2 := ?_)
    refine AAny.step [0, 2] (by kernel_rfl) rfl ?_
    refine AAll.cons rfl (h1 := ?_) (h2 := ?_)
    refine AAny.step [2] (by kernel_rfl) rfl ?_
    refine AAll.cons rfl (h1 := ?_) (h2 := ?_)
    refine AAny.step [4] (by kernel_rfl) rfl ?_
    refine AAll.cons rfl (h1 := ?_) (h2 := ?_)
    refine AAny.step [5] (by kernel_rfl) rfl ?_
    refine AAll.cons rfl (h1 := ?_) (h2 := ?_)
    exact AAny.done (by kernel_rfl) rfl
    exact AAll.nil
    exact AAll.nil
    exact AAll.nil
    refine AAll.cons rfl (h1 := ?_) (h2 := ?_)
    refine AAny.step [0] (by kernel_rfl) rfl ?_
    refine AAll.cons rfl (h1 := ?_) (h2 := ?_)
    refine AAny.step [4] (by kernel_rfl) rfl ?_
    refine AAll.cons rfl (h1 := ?_) (h2 := ?_)
    refine AAny.step [5] (by kernel_rfl) rfl ?_
    refine AAll.cons rfl (h1 := ?_) (h2 := ?_)
    exact AAny.done (by kernel_rfl) rfl
    exact AAll.nil
    exact AAll.nil
    exact AAll.nil
    exact AAll.nil
    exact AAll.nil
    refine AAll.cons rfl (h1 := ?_) (h2 := ?_)
    refine AAny.step [0, 1, 3] (by kernel_rfl) rfl ?_
    refine AAll.cons rfl (h1 := ?_) (h2 := ?_)
    refine AAny.step [1, 3] (by kernel_rfl) rfl ?_
    refine AAll.cons rfl (h1 := ?_) (h2 := ?_)
    refine AAny.step [3] (by kernel_rfl) rfl ?_
    refine AAll.cons rfl (h1 := ?_) (h2 := ?_)
    refine AAny.step [4] (by kernel_rfl) rfl ?_
    refine AAll.cons rfl (h1 := ?_) (h2 := ?_)
    refine AAny.step [5] (by kernel_rfl) rfl ?_
    refine AAll.cons rfl (h1 := ?_) (h2 := ?_)
    exact AAny.done (by kernel_rfl) rfl
    exact AAll.nil
    exact AAll.nil
    exact AAll.nil
    refine AAll.cons rfl (h1 := ?_) (h2 := ?_)
    refine AAny.step [1, 4] (by kernel_rfl) rfl ?_
    refine AAll.cons rfl (h1 := ?_) (h2 := ?_)
    refine AAny.step [4] (by kernel_rfl) rfl ?_
    refine AAll.cons rfl (h1 := ?_) (h2 := ?_)
    refine AAny.step [5] (by kernel_rfl) rfl ?_
    refine AAll.cons rfl (h1 := ?_) (h2 := ?_)
    exact AAny.done (by kernel_rfl) rfl
    exact AAll.nil
    exact AAll.nil
    refine AAll.cons rfl (h1 := ?_) (h2 := ?_)
    refine AAny.step [1] (by kernel_rfl) rfl ?_
    refine AAll.cons rfl (h1 := ?_) (h2 := ?_)
    refine AAny.step [5] (by kernel_rfl) rfl ?_
    refine AAll.cons rfl (h1 := ?_) (h2 := ?_)
    exact AAny.done (by kernel_rfl) rfl
    exact AAll.nil
    exact AAll.nil
    exact AAll.nil
    exact AAll.nil
    refine AAll.cons rfl (h1 := ?_) (h2 := ?_)
    refine AAny.step [0, 3] (by kernel_rfl) rfl ?_
    refine AAll.cons rfl (h1 := ?_) (h2 := ?_)
    refine AAny.step [3] (by kernel_rfl) rfl ?_
    refine AAll.cons rfl (h1 := ?_) (h2 := ?_)
    refine AAny.step [4] (by kernel_rfl) rfl ?_
    refine AAll.cons rfl (h1 := ?_) (h2 := ?_)
    refine AAny.step [5] (by kernel_rfl) rfl ?_
    refine AAll.cons rfl (h1 := ?_) (h2 := ?_)
    exact AAny.done (by kernel_rfl) rfl
    exact AAll.nil
    exact AAll.nil
    exact AAll.nil
    refine AAll.cons rfl (h1 := ?_) (h2 := ?_)
    refine AAny.step [0] (by kernel_rfl) rfl ?_
    refine AAll.cons rfl (h1 := ?_) (h2 := ?_)
    refine AAny.step [4] (by kernel_rfl) rfl ?_
    refine AAll.cons rfl (h1 := ?_) (h2 := ?_)
    refine AAny.step [5] (by kernel_rfl) rfl ?_
    refine AAll.cons rfl (h1 := ?_) (h2 := ?_)
    exact AAny.done (by kernel_rfl) rfl
    exact AAll.nil
    exact AAll.nil
    exact AAll.nil
    exact AAll.nil
    refine AAll.cons rfl (h1 := ?_) (h2 := ?_)
    refine AAny.step [0, 1] (by kernel_rfl) rfl ?_
    refine AAll.cons rfl (h1 := ?_) (h2 := ?_)
    refine AAny.step [1, 4] (by kernel_rfl) rfl ?_
    refine AAll.cons rfl (h1 := ?_) (h2 := ?_)
    refine AAny.step [4] (by kernel_rfl) rfl ?_
    refine AAll.cons rfl (h1 := ?_) (h2 := ?_)
    refine AAny.step [5] (by kernel_rfl) rfl ?_
    refine AAll.cons rfl (h1 := ?_) (h2 := ?_)
    exact AAny.done (by kernel_rfl) rfl
    exact AAll.nil
    exact AAll.nil
    refine AAll.cons rfl (h1 := ?_) (h2 := ?_)
    refine AAny.step [1] (by kernel_rfl) rfl ?_
    refine AAll.cons rfl (h1 := ?_) (h2 := ?_)
    refine AAny.step [5] (by kernel_rfl) rfl ?_
    refine AAll.cons rfl (h1 := ?_) (h2 := ?_)
    exact AAny.done (by kernel_rfl) rfl
    exact AAll.nil
    exact AAll.nil
    exact AAll.nil
    refine AAll.cons rfl (h1 := ?_) (h2 := ?_)
    refine AAny.step [0] (by kernel_rfl) rfl ?_
    refine AAll.cons rfl (h1 := ?_) (h2 := ?_)
    refine AAny.step [4] (by kernel_rfl) rfl ?_
    refine AAll.cons rfl (h1 := ?_) (h2 := ?_)
    refine AAny.step [5] (by kernel_rfl) rfl ?_
    refine AAll.cons rfl (h1 := ?_) (h2 := ?_)
    exact AAny.done (by kernel_rfl) rfl
    exact AAll.nil
    exact AAll.nil
    exact AAll.nil
    exact AAll.nil
    exact AAll.nil
    refine AAll.cons rfl (h1 := ?_) (h2 := ?_)
    refine AAny.step [0, 1, 2] (by kernel_rfl) rfl ?_
    refine AAll.cons rfl (h1 := ?_) (h2 := ?_)
    refine AAny.step [1, 2] (by kernel_rfl) rfl ?_
    refine AAll.cons rfl (h1 := ?_) (h2 := ?_)
    refine AAny.step [2] (by kernel_rfl) rfl ?_
    refine AAll.cons rfl (h1 := ?_) (h2 := ?_)
    refine AAny.step [4] (by kernel_rfl) rfl ?_
    refine AAll.cons rfl (h1 := ?_) (h2 := ?_)
    refine AAny.step [5] (by kernel_rfl) rfl ?_
    refine AAll.cons rfl (h1 := ?_) (h2 := ?_)
    exact AAny.done (by kernel_rfl) rfl
    exact AAll.nil
    exact AAll.nil
    exact AAll.nil
    refine AAll.cons rfl (h1 := ?_) (h2 := ?_)
    refine AAny.step [1, 4] (by kernel_rfl) rfl ?_
    refine AAll.cons rfl (h1 := ?_) (h2 := ?_)
    refine AAny.step [4] (by kernel_rfl) rfl ?_
    refine AAll.cons rfl (h1 := ?_) (h2 := ?_)
    refine AAny.step [5] (by kernel_rfl) rfl ?_
    refine AAll.cons rfl (h1 := ?_) (h2 := ?_)
    exact AAny.done (by kernel_rfl) rfl
    exact AAll.nil
    exact AAll.nil
    refine AAll.cons rfl (h1 := ?_) (h2 := ?_)
    refine AAny.step [1] (by kernel_rfl) rfl ?_
    refine AAll.cons rfl (h1 := ?_) (h2 := ?_)
    refine AAny.step [5] (by kernel_rfl) rfl ?_
    refine AAll.cons rfl (h1 := ?_) (h2 := ?_)
    exact AAny.done (by kernel_rfl) rfl
    exact AAll.nil
    exact AAll.nil
    exact AAll.nil
    exact AAll.nil
    refine AAll.cons rfl (h1 := ?_) (h2 := ?_)
    refine AAny.step [0, 2] (by kernel_rfl) rfl ?_
    refine AAll.cons rfl (h1 := ?_) (h2 := ?_)
    refine AAny.step [2] (by kernel_rfl) rfl ?_
    refine AAll.cons rfl (h1 := ?_) (h2 := ?_)
    refine AAny.step [4] (by kernel_rfl) rfl ?_
    refine AAll.cons rfl (h1 := ?_) (h2 := ?_)
    refine AAny.step [5] (by kernel_rfl) rfl ?_
    refine AAll.cons rfl (h1 := ?_) (h2 := ?_)
    exact AAny.done (by kernel_rfl) rfl
    exact AAll.nil
    exact AAll.nil
    exact AAll.nil
    refine AAll.cons rfl (h1 := ?_) (h2 := ?_)
    refine AAny.step [0] (by kernel_rfl) rfl ?_
    refine AAll.cons rfl (h1 := ?_) (h2 := ?_)
    refine AAny.step [4] (by kernel_rfl) rfl ?_
    refine AAll.cons rfl (h1 := ?_) (h2 := ?_)
    refine AAny.step [5] (by kernel_rfl) rfl ?_
    refine AAll.cons rfl (h1 := ?_) (h2 := ?_)
    exact AAny.done (by kernel_rfl) rfl
    exact AAll.nil
    exact AAll.nil
    exact AAll.nil
    exact AAll.nil
    refine AAll.cons rfl (h1 := ?_) (h2 := ?_)
    refine AAny.step [0, 1] (by kernel_rfl) rfl ?_
    refine AAll.cons rfl (h1 := ?_) (h2 := ?_)
    refine AAny.step [1, 4] (by kernel_rfl) rfl ?_
    refine AAll.cons rfl (h1 := ?_) (h2 := ?_)
    refine AAny.step [4] (by kernel_rfl) rfl ?_
    refine AAll.cons rfl (h1 := ?_) (h2 := ?_)
    refine AAny.step [5] (by kernel_rfl) rfl ?_
    refine AAll.cons rfl (h1 := ?_) (h2 := ?_)
    exact AAny.done (by kernel_rfl) rfl
    exact AAll.nil
    exact AAll.nil
    refine AAll.cons rfl (h1 := ?_) (h2 := ?_)
    refine AAny.step [1] (by kernel_rfl) rfl ?_
    refine AAll.cons rfl (h1 := ?_) (h2 := ?_)
    refine AAny.step [5] (by kernel_rfl) rfl ?_
    refine AAll.cons rfl (h1 := ?_) (h2 := ?_)
    exact AAny.done (by kernel_rfl) rfl
    exact AAll.nil
    exact AAll.nil
    exact AAll.nil
    refine AAll.cons rfl (h1 := ?_) (h2 := ?_)
    refine AAny.step [0] (by kernel_rfl) rfl ?_
    refine AAll.cons rfl (h1 := ?_) (h2 := ?_)
    refine AAny.step [4] (by kernel_rfl) rfl ?_
    refine AAll.cons rfl (h1 := ?_) (h2 := ?_)
    refine AAny.step [5] (by kernel_rfl) rfl ?_
    refine AAll.cons rfl (h1 := ?_) (h2 := ?_)
    exact AAny.done (by kernel_rfl) rfl
    exact AAll.nil
    exact AAll.nil
    exact AAll.nil
    exact AAll.nil
    exact AAll.nil
    exact AAll.nil
  refine AW.kq [2, 3, 4, 5, 6] (h := ?_)
  repeat refine AW.seq ?_
  have w57 : IntKind.i64.wrap (59 - 2) = 57 := by decide
  refine AW.reg ?_
  refine AOL.callD rfl (cl) (by kernel_rfl) rfl rfl (h := ?_)
  iterate 2 refine AOL.s1 (h := ?_)
  refine AOL.nil ?_
  refine AW.kq [2, 3, 4, 5, 6, 7] (h := ?_)
  repeat refine AW.seq ?_
  refine AW.block ?_
  repeat refine AW.seq ?_
  refine AW.loopK [2, 3, 4, 5, 6, 7] (fun n s => ∃ (f0 f1 : Int) (t0 : Bool) (tx ty : Int), s = ⟨41, [(2, .ptr 1032 0), (3, .ptr 1048 0), (4, .ptr 1064 0), (5, .ptr 1080 0), (6, .ptr 1096 0), (7, i ((n : Int) - 1))], [(1032, ⟨32, true, [bo a0, u ax, u ay]⟩), (1048, ⟨32, true, [bo q0, u qx, u qy]⟩), (1064, ⟨80, true, [u 0, u 0]⟩), (1080, ⟨80, true, [u f0, u f1]⟩), (1096, ⟨32, true, [bo t0, u tx, u ty]⟩)]⟩ ∧ n ≤ 58 ∧ (lt f0 ∧ lt f1) ∧ Pt (t0, tx, ty) ∧ (trn (a0, ax, ay) (q0, qx, qy) n ((f0, f1), (t0, tx, ty))).1 = turnE (a0, ax, ay) (q0, qx, qy)) 58 ?_ ?_
  · exact ⟨1, 0, a0, ax, ay, rfl, Nat.le_refl _, one_lt, ha, rfl⟩
  rintro n s ⟨f0, f1, t0, tx, ty, rfl, hn, hf, ht, he⟩
  repeat refine AW.seq ?_
  cases n with
  | zero =>
    have c0 : decide (((0 : Nat) : Int) - 1 ≥ 0) = false := by decide
    have he : turnE (a0, ax, ay) (q0, qx, qy) = (f0, f1) := he.symm
    rw [he]
    refine AW.reg ?_
    iterate 2 refine AOL.s1 (h := ?_)
    refine AOL.nil ?_
    refine AW.kq [2, 3, 4, 5, 6, 7, 13] (h := ?_)
    repeat refine AW.seq ?_
    refine AW.cond rfl (fun c_ => ?_) (fun c_ => ?_)
    · cases c_
    clear c0 c_ he
    repeat refine AW.seq ?_
    refine AW.exit ?_
    repeat (first | refine Kseq.ex ?_ | refine Kloop.ex ?_ | refine Kblock.miss (by decide) ?_)
    refine Kblock.hit ?_
    refine AW.kq [4, 5] (h := ?_)
    repeat refine AW.seq ?_
    refine AW.reg ?_
    iterate 2 refine AOL.s1 (h := ?_)
    refine AOL.nil ?_
    refine AW.kq [4] (h := ?_)
    repeat refine AW.seq ?_
    refine AW.ret ?_
    refine ⟨_, [], rfl, HOk.nil _, ?_⟩
    rfl
  | succ n =>
    have e0 : ((n + 1 : Nat) : Int) - 1 = n := by omega
    have c0 : decide ((n : Int) ≥ 0) = true := by simp
    have e1 : IntKind.i64.wrap ((n : Int) - 1) = (n : Int) - 1 := wrapI_o (by omega) (by omega)
    obtain ⟨sh1, sh2⟩ := shr_b (y := 288230376287764481) (k := n) ⟨by decide, by decide⟩ (by omega)
    have sh3 := and_one sh2.1 sh2.2
    have n0 : ¬ (n : Int) < 0 := by omega
    have he : (trn (a0, ax, ay) (q0, qx, qy) n (if (288230376287764481 : Int) / 2 ^ n % 2 = 1 then (mulE (mulE (mulE (f0, f1) (f0, f1)) (lineE (t0, tx, ty) (t0, tx, ty) (q0, qx, qy))) (lineE (sumP (t0, tx, ty) (t0, tx, ty)) (a0, ax, ay) (q0, qx, qy)), sumP (sumP (t0, tx, ty) (t0, tx, ty)) (a0, ax, ay)) else (mulE (mulE (f0, f1) (f0, f1)) (lineE (t0, tx, ty) (t0, tx, ty) (q0, qx, qy)), sumP (t0, tx, ty) (t0, tx, ty)))).1 = turnE (a0, ax, ay) (q0, qx, qy) := he
    have hbit : ∃ bit : Int, (288230376287764481 : Int) / 2 ^ n % 2 = bit := ⟨_, rfl⟩
    obtain ⟨bit, hbit⟩ := hbit
    rw [hbit] at he sh3
    clear hbit
    have htw := ht.wx
    have cff := ext_Mul_c hf.1.w hf.2.w hf.1.w hf.2.w
    have cl1 := pair_line_c (a0 := t0) (b0 := t0) (q0 := q0) htw.1 htw.2 htw.1 htw.2 hqw.1 hqw.2
    have pl1 := lineE_lt (t0, tx, ty) (t0, tx, ty) (q0, qx, qy) hqw.2
    have pff := mulE_lt (f0, f1) (f0, f1)
    have ctt := curve_Add_c (a0 := t0) (b0 := t0) htw.1.w htw.2.w htw.1.w htw.2.w
    rw [sureP_self ht] at ctt
    have ptt := sumP_pt ht ht
    generalize lineE (t0, tx, ty) (t0, tx, ty) (q0, qx, qy) = L at *
    generalize mulE (f0, f1) (f0, f1) = F at *
    generalize sumP (t0, tx, ty) (t0, tx, ty) = T at *
    obtain ⟨T0, T1, T2⟩ := T
    obtain ⟨L0, L1⟩ := L
    obtain ⟨F0, F1⟩ := F
    have cfl := ext_Mul_c pff.1.w pff.2.w pl1.1.w pl1.2.w
    have pfl := mulE_lt (F0, F1) (L0, L1)
    generalize mulE (F0, F1) (L0, L1) = G at *
    obtain ⟨G0, G1⟩ := G
    rw [e0]
    refine AW.reg ?_
    iterate 2 refine AOL.s1 (h := ?_)
    refine AOL.nil ?_
    refine AW.kq [2, 3, 4, 5, 6, 7, 13] (h := ?_)
    repeat refine AW.seq ?_
    refine AW.cond rfl (fun c_ => ?_) (fun c_ => ?_)
    · clear c0 c_ e0
      refine AW.skip ?_
      repeat refine AW.seq ?_
      refine AW.block ?_
      repeat refine AW.seq ?_
      refine AW.drw 6 [] (by kernel_rfl) (h := ?_)
      iterate 2 refine ADL.dm 1 (h := ?_)
      refine ADL.call rfl (cff) (by kernel_rfl) rfl rfl (h := ?_)
      iterate 3 refine ADL.dm 1 (h := ?_)
      refine ADL.done hmix rfl rfl (hT := ?_)
      refine AOL.callD rfl (cl1) (by kernel_rfl) rfl rfl (h := ?_)
      refine AOL.callD rfl (cfl) (by kernel_rfl) rfl rfl (h := ?_)
      iterate 1 refine AOL.s1 (h := ?_)
      refine AOL.nil ?_
      refine AW.kq [2, 3, 4, 5, 6, 7] (h := ?_)
      repeat refine AW.seq ?_
      refine AW.reg ?_
      iterate 2 refine AOL.s1 (h := ?_)
      refine AOL.callD rfl (ctt) (by kernel_rfl) rfl rfl (h := ?_)
      iterate 1 refine AOL.s1 (h := ?_)
      refine AOL.nil ?_
      refine AW.kq [2, 3, 4, 5, 6, 7] (h := ?_)
      clear cff cl1 cfl ctt
      repeat refine AW.seq ?_
      refine AW.reg ?_
      iterate 4 refine AOL.s1 (h := ?_)
      refine AOL.nil ?_
      refine AW.kq [2, 3, 4, 5, 6, 7, 30] (h := ?_)
      repeat refine AW.seq ?_
      refine AW.cond rfl (fun g_ => ?_) (fun g_ => ?_)
      · have g1 : bit = 1 := by simpa using g_
        rw [if_pos g1] at he
        have pw_ := ptt.wx
        have cl2 := pair_line_c (a0 := T0) (b0 := a0) (q0 := q0) pw_.1 pw_.2 haw.1 haw.2 hqw.1 hqw.2
        have pl2 := lineE_lt (T0, T1, T2) (a0, ax, ay) (q0, qx, qy) hqw.2
        have cta := curve_Add_c (a0 := T0) (b0 := a0) pw_.1.w pw_.2.w haw.1.w haw.2.w
        rw [sureP_self ptt, sureP_self ha] at cta
        have pta := sumP_pt ptt ha
        generalize lineE (T0, T1, T2) (a0, ax, ay) (q0, qx, qy) = M at *
        generalize sumP (T0, T1, T2) (a0, ax, ay) = V at *
        obtain ⟨M0, M1⟩ := M
        obtain ⟨V0, V1, V2⟩ := V
        have cgm := ext_Mul_c pfl.1.w pfl.2.w pl2.1.w pl2.2.w
        have pgm := mulE_lt (G0, G1) (M0, M1)
        generalize mulE (G0, G1) (M0, M1) = H at *
        obtain ⟨H0, H1⟩ := H
        clear g1 g_ sh1 sh2 sh3
        repeat refine AW.seq ?_
        refine AW.drw 5 [] (by kernel_rfl) (h := ?_)
        iterate 4 refine ADL.dm 1 (h := ?_)
        refine ADL.call rfl (cl2) (by kernel_rfl) rfl rfl (h := ?_)
        refine ADL.done hmix rfl rfl (hT := ?_)
        refine AOL.callD rfl (cgm) (by kernel_rfl) rfl rfl (h := ?_)
        iterate 1 refine AOL.s1 (h := ?_)
        refine AOL.nil ?_
        refine AW.kq [2, 3, 4, 5, 6, 7] (h := ?_)
        repeat refine AW.seq ?_
        refine AW.reg ?_
        iterate 2 refine AOL.s1 (h := ?_)
        refine AOL.callD rfl (cta) (by kernel_rfl) rfl rfl (h := ?_)
        iterate 1 refine AOL.s1 (h := ?_)
        refine AOL.nil ?_
        repeat refine AW.seq ?_
        refine AW.reg ?_
        iterate 3 refine AOL.s1 (h := ?_)
        refine AOL.nil ?_
        exact ⟨n, by omega, _, _, _, _, _, rfl, by omega, pgm, pta, he⟩
      · have g1 : ¬ bit = 1 := by simpa using g_
        rw [if_neg g1] at he
        clear g1 g_ sh1 sh2 sh3
        refine AW.skip ?_
        repeat refine AW.seq ?_
        refine AW.reg ?_
        iterate 3 refine AOL.s1 (h := ?_)
        refine AOL.nil ?_
        exact ⟨n, by omega, _, _, _, _, _, rfl, by omega, pfl, ptt, he⟩
    · cases c_
def pairE (a q : P3) : Int × Int :=
  if inP a.1 a.2.1 a.2.2 = true ∧ inP q.1 q.2.1 q.2.2 = true then
    (if a.1 = true ∨ q.1 = true then (1, 0) else plo 64 (mulE (conjE (turnE a q)) (invE (turnE a q))) 4 (1, 0))
  else (0, 0)
theorem inP_pt {b : Bool} {x y : Int} (h : inP b x y = true) : Pt (b, x, y) := by
  unfold inP at h; simp at h; exact h.1
theorem turn_lt (a q : P3) : ∀ (n : Nat) (s : (Int × Int) × P3), (lt s.1.1 ∧ lt s.1.2) → lt (trn a q n s).1.1 ∧ lt (trn a q n s).1.2
  | 0, s, h => h
  | n + 1, s, h => turn_lt a q n _ (by unfold roundE; split <;> exact mulE_lt _ _)
theorem turnE_lt (a q : P3) : lt (turnE a q).1 ∧ lt (turnE a q).2 := turn_lt a q 58 _ one_lt
set_option maxHeartbeats 2000000 in
theorem pair_Pair_c {a0 q0 : Bool} {ax ay qx qy : Int} (hax : w64 ax) (hay : w64 ay) (hqx : w64 qx) (hqy : w64 qy) : Fn Try.prog 73 [pt (a0, ax, ay), pt (q0, qx, qy)] [] (fun r _ => r = ee (pairE (a0, ax, ay) (q0, qx, qy))) := by
  have ca := curve_In_c (b := a0) hax hay
  have cq := curve_In_c (b := q0) hqx hqy
  have eP : pairE (a0, ax, ay) (q0, qx, qy) = if inP a0 ax ay = true ∧ inP q0 qx qy = true then
    (if a0 = true ∨ q0 = true then (1, 0) else plo 64 (mulE (conjE (turnE (a0, ax, ay) (q0, qx, qy))) (invE (turnE (a0, ax, ay) (q0, qx, qy)))) 4 (1, 0))
  else (0, 0) := rfl
  rw [eP]
  clear eP
  have pa := @inP_pt a0 ax ay
  have pq := @inP_pt q0 qx qy
  generalize inP a0 ax ay = A at *
  generalize inP q0 qx qy = Q at *
  refine Fn.enter Try.func73 Try.ntmps73 rfl (h := ?_)
  have tf := tf
  have tfe := tfe
  repeat refine AW.seq ?_
  refine AW.reg ?_
  iterate 3 refine AOL.s1 (h := ?_)
  refine AOL.nil ?_
  refine AW.kq [2, 3, 4] (h := ?_)
  repeat refine AW.seq ?_
  refine AW.block ?_
  repeat refine AW.seq ?_
  refine AW.reg ?_
  iterate 1 refine AOL.s1 (h := ?_)
  refine AOL.callD rfl (ca) (by kernel_rfl) rfl rfl (h := ?_)
  iterate 2 refine AOL.s1 (h := ?_)
  refine AOL.kq [2, 3, 4, 10] (h := ?_)
  refine AOL.or 10 14 (os' := ?_) (x := ?_) (h1 := ?_) (h0 := ?_) (h := ?_)
  rotate_left 2
  iterate 2
    · intro hb_ K' hK; (first | (iterate 4 refine AOL.s1 (h := ?_)) | ((iterate 1 refine AOL.s1 (h := ?_)); refine AOL.callD rfl (cq) (by kernel_rfl) rfl rfl (h := ?_); (iterate 2 refine AOL.s1 (h := ?_)))); refine AOL.kq [2, 3, 4, 14] (h := ?_); exact hK
  iterate 1 refine AOL.s1 (h := ?_)
  refine AOL.nil ?_
  refine AW.kq [2, 3, 4, 6] (h := ?_)
  clear ca cq
  repeat refine AW.seq ?_
  refine AW.cond rfl (fun c_ => ?_) (fun c_ => ?_)
  · have c1 : ¬ (A = true ∧ Q = true) := by rintro ⟨rfl, rfl⟩; cases c_
    rw [if_neg c1]
    clear c1 c_ pa pq
    repeat refine AW.seq ?_
    refine AW.reg ?_
    iterate 2 refine AOL.s1 (h := ?_)
    refine AOL.nil ?_
    refine AW.kq [4] (h := ?_)
    repeat refine AW.seq ?_
    refine AW.ret ?_
    refine ⟨_, [], rfl, HOk.nil _, ?_⟩
    rfl
  have c1 : A = true ∧ Q = true := by simpa using c_
  rw [if_pos c1]
  have pa := pa c1.1
  have pq := pq c1.2
  clear c1 c_
  repeat refine AW.seq ?_
  cases a0 with
  | true =>
    refine AW.reg ?_
    iterate 7 refine AOL.s1 (h := ?_)
    refine AOL.nil ?_
    refine AW.kq [2, 3, 4, 16] (h := ?_)
    repeat refine AW.seq ?_
    refine AW.cond rfl (fun c_ => ?_) (fun c_ => ?_)
    · repeat refine AW.seq ?_
      refine AW.reg ?_
      iterate 2 refine AOL.s1 (h := ?_)
      refine AOL.nil ?_
      refine AW.kq [4] (h := ?_)
      repeat refine AW.seq ?_
      refine AW.ret ?_
      refine ⟨_, [], rfl, HOk.nil _, ?_⟩
      simp; rfl
    · cases c_
  | false =>
  refine AW.reg ?_
  iterate 7 refine AOL.s1 (h := ?_)
  refine AOL.nil ?_
  refine AW.kq [2, 3, 4, 16] (h := ?_)
  repeat refine AW.seq ?_
  cases q0 with
  | true =>
    refine AW.cond rfl (fun c_ => ?_) (fun c_ => ?_)
    · repeat refine AW.seq ?_
      refine AW.reg ?_
      iterate 2 refine AOL.s1 (h := ?_)
      refine AOL.nil ?_
      refine AW.kq [4] (h := ?_)
      repeat refine AW.seq ?_
      refine AW.ret ?_
      refine ⟨_, [], rfl, HOk.nil _, ?_⟩
      simp; rfl
    · cases c_
  | false =>
  refine AW.cond rfl (fun c_ => ?_) (fun c_ => ?_)
  · cases c_
  rw [if_neg (by simp)]
  clear c_
  have ct := pair_turn_c pa pq
  have lt_ := turnE_lt (false, ax, ay) (false, qx, qy)
  generalize turnE (false, ax, ay) (false, qx, qy) = F at *
  obtain ⟨F0, F1⟩ := F
  have cc := ext_Conj_c lt_.1.w lt_.2.w
  have ci := ext_Inv_c lt_.1.w lt_.2.w
  have lc := conjE_lt (F0, F1)
  have li := invE_lt (F0, F1)
  generalize conjE (F0, F1) = C_ at *
  generalize invE (F0, F1) = I_ at *
  obtain ⟨C0, C1⟩ := C_
  obtain ⟨I0, I1⟩ := I_
  have cm := ext_Mul_c lc.1.w lc.2.w li.1.w li.2.w
  have lm := mulE_lt (C0, C1) (I0, I1)
  generalize mulE (C0, C1) (I0, I1) = M at *
  obtain ⟨M0, M1⟩ := M
  have cp := ext_Pow_c (e := 4) lm.1.w lm.2.w (by decide)
  refine AW.skip ?_
  repeat refine AW.seq ?_
  refine AW.reg ?_
  iterate 2 refine AOL.s1 (h := ?_)
  refine AOL.callD rfl (ct) (by kernel_rfl) rfl rfl (h := ?_)
  iterate 2 refine AOL.s1 (h := ?_)
  refine AOL.nil ?_
  refine AW.kq [4, 5] (h := ?_)
  repeat refine AW.seq ?_
  refine AW.drw 3 [] (by kernel_rfl) (h := ?_)
  iterate 1 refine ADL.dm 1 (h := ?_)
  refine ADL.call rfl (cc) (by kernel_rfl) rfl rfl (h := ?_)
  iterate 1 refine ADL.dm 1 (h := ?_)
  refine ADL.done hmix rfl rfl (hT := ?_)
  refine AOL.callD rfl (ci) (by kernel_rfl) rfl rfl (h := ?_)
  refine AOL.callD rfl (cm) (by kernel_rfl) rfl rfl (h := ?_)
  refine AOL.callD rfl (cp) (by kernel_rfl) rfl rfl (h := ?_)
  iterate 1 refine AOL.s1 (h := ?_)
  refine AOL.nil ?_
  refine AW.kq [4] (h := ?_)
  repeat refine AW.seq ?_
  refine AW.ret ?_
  refine ⟨_, [], rfl, HOk.nil _, ?_⟩
  rfl
end Go.Proofs.Ytdbpjegocmdplaa.E.M
end
section
/- Products of pairings by the program, and the document's examples: contracts over E. -/
set_option linter.unusedVariables false
set_option linter.unusedSimpArgs false
set_option maxRecDepth 10000
open Go Go.Proofs.Ytdbpjegocmdplaa.E Go.Proofs
namespace Go.Proofs.Ytdbpjegocmdplaa.E.M
abbrev GG : P3 := (false, 247390119040843104, 830327839767444578)
theorem gg_pt : Pt GG := show isPt false 247390119040843104 830327839767444578 = true by decide +kernel
theorem gg_ok : ((pairE (true, 0, 0) GG == (1, 0)) && ((pairE GG GG != (1, 0)) && ((pairE GG GG != (0, 0)) && (powE (pairE GG GG) 288230376287764481 == (1, 0))))) = true := by decide +kernel
theorem plo_lt : ∀ (n : Nat) (a : Int × Int) (e : Int) (o : Int × Int), lt o.1 ∧ lt o.2 → lt (plo n a e o).1 ∧ lt (plo n a e o).2
  | 0, _, _, o, h => h
  | n + 1, a, e, o, h => by
    rw [plo]; split
    · refine plo_lt n _ _ _ ?_
      split
      · exact mulE_lt _ _
      · exact h
    · exact h
theorem pairE_lt (a q : P3) : lt (pairE a q).1 ∧ lt (pairE a q).2 := by
  unfold pairE; split
  · split
    · exact one_lt
    · exact plo_lt _ _ _ _ one_lt
  · exact ⟨⟨by decide, by decide⟩, ⟨by decide, by decide⟩⟩
theorem bits_at (e : Int) (n : Nat) : e / 2 ^ n = 2 * (e / 2 ^ (n + 1)) + e / 2 ^ n % 2 := by
  rw [Int.pow_succ, ← Int.ediv_ediv_of_nonneg (Int.le_of_lt (Int.pow_pos (by decide)))]
  generalize e / 2 ^ n = z
  omega
end Go.Proofs.Ytdbpjegocmdplaa.E.M
end
section
/- What is handed in: numbers and points. -/
set_option linter.unusedVariables false
set_option linter.unusedSimpArgs false
set_option maxRecDepth 10000
open Go Go.Proofs.Ytdbpjegocmdplaa.E Go.Proofs
namespace Go.Proofs.Ytdbpjegocmdplaa.E.M
/-- a point's cells -/
abbrev ptc (t : P3) : List AV := [bo t.1, u t.2.1, u t.2.2]
theorem ptc_len (t : P3) : (ptc t).length = 3 := rfl
end Go.Proofs.Ytdbpjegocmdplaa.E.M
end
section
/- Products of pairings by the program, and PairStays: contracts over E. -/
set_option linter.unusedVariables false
set_option linter.unusedSimpArgs false
set_option maxRecDepth 10000
open Go Go.Proofs.Ytdbpjegocmdplaa.E Go.Proofs
namespace Go.Proofs.Ytdbpjegocmdplaa.E.M
def prodF : List P3 → List P3 → Int × Int → Option (Int × Int)
  | a :: al, q :: qs, o => if pairE a q = (0, 0) then none else prodF al qs (mulE o (pairE a q))
  | _, _, o => some o
def prodV (a q : List P3) : (Int × Int) × Bool := if a.length = q.length then (match prodF a q (1, 0) with | some o => (o, true) | none => ((0, 0), false)) else ((0, 0), false)
abbrev er_ (b : Bool) (n : Int) : AV := match b with | true => nil_ | false => er n
abbrev wL (L : List P3) : Prop := ∀ g ∈ L, w64 g.2.1 ∧ w64 g.2.2
theorem dcons {α : Type} {L : List α} {k : Nat} {a : α} {r : List α} (e : L.drop k = a :: r) : k < L.length ∧ L.drop (k + 1) = r ∧ L[k]? = some a := by
  have h : k < L.length := by
    rcases Nat.lt_or_ge k L.length with h | h
    · exact h
    · rw [List.drop_eq_nil_of_le h] at e; cases e
  refine ⟨h, by rw [← List.drop_drop, e]; rfl, ?_⟩
  have := congrArg (·[0]?) e
  simpa using this
theorem dnil {α : Type} {L : List α} {k : Nat} (e : L.drop k = []) (h : k ≤ L.length) : k = L.length := by
  have := List.drop_eq_nil_iff.1 e; omega
theorem inc_ {k : Nat} {n : Nat} (h : k < n) (hn : n < 1000000000) : IntKind.i64.wrap ((k:Int) + 1) = ((k + 1 : Nat) : Int) := by
  rw [wrapI_o (by omega) (by omega)]; rfl
set_option maxHeartbeats 2000000 in
theorem pair_Product_c {a q : List P3} (ha : wL a) (hq : wL q) (la : a.length < 1000000000) (lq : q.length < 1000000000) : Fn Try.prog 39 [slF ptc a, slF ptc q] [] (fun r _ => r = .tup [ee (prodV a q).1, er_ (prodV a q).2 1]) := by
  have eqE := eqE
  have tc : tIface Try.prog 52 = some false := rfl
  refine Fn.enter Try.func39 Try.ntmps39 rfl (h := ?_)
  have tf := tf
  have tfe := tfe
  have tfl := tfl
  repeat refine AW.seq ?_
  refine AW.reg ?_
  iterate 2 refine AOL.s1 (h := ?_)
  refine AOL.nil ?_
  refine AW.kq [0, 1, 4] (h := ?_)
  repeat refine AW.seq ?_
  refine AW.reg ?_
  iterate 5 refine AOL.s1 (h := ?_)
  refine AOL.nil ?_
  refine AW.kq [0, 1, 4, 13] (h := ?_)
  repeat refine AW.seq ?_
  refine AW.cond rfl (fun c_ => ?_) (fun c_ => ?_)
  · have c1 : ¬ a.length = q.length := by
      intro h; rw [h] at c_; simp at c_
    have pv : prodV a q = ((0, 0), false) := by unfold prodV; rw [if_neg c1]
    rw [pv]
    clear pv c1 c_
    repeat refine AW.seq ?_
    refine AW.reg ?_
    iterate 4 refine AOL.s1 (h := ?_)
    refine AOL.nil ?_
    refine AW.kq [4, 5] (h := ?_)
    repeat refine AW.seq ?_
    refine AW.ret ?_
    refine ⟨_, [], rfl, HOk.nil _, ?_⟩
    rfl
  have c1 : a.length = q.length := by
    have t : (a.length : Int) = q.length := by simpa using c_
    omega
  have pv : prodV a q = match prodF a q (1, 0) with | some o => (o, true) | none => ((0, 0), false) := by unfold prodV; rw [if_pos c1]
  rw [pv]
  clear pv c_
  replace c1 : id (a.length = q.length) := c1
  refine AW.skip ?_
  repeat refine AW.seq ?_
  refine AW.reg ?_
  iterate 3 refine AOL.s1 (h := ?_)
  refine AOL.nil ?_
  refine AW.kq [0, 1, 4, 6] (h := ?_)
  repeat refine AW.seq ?_
  refine AW.reg ?_
  iterate 3 refine AOL.s1 (h := ?_)
  refine AOL.nil ?_
  refine AW.kq [0, 1, 4, 6, 18, 19] (h := ?_)
  repeat refine AW.seq ?_
  refine AW.block ?_
  repeat refine AW.seq ?_
  refine AW.loopK [0, 1, 4, 6, 18, 19] (fun n s => ∃ (k : Nat) (ra rq : List P3) (o0 o1 : Int), s = ⟨41, [(0, slF ptc a), (1, slF ptc q), (4, .ptr 1064 0), (6, .ptr 1096 0), (18, i a.length), (19, i k)], [(1064, ⟨80, true, [u 0, u 0]⟩), (1096, ⟨80, true, [u o0, u o1]⟩)]⟩ ∧ a.drop k = ra ∧ q.drop k = rq ∧ k ≤ a.length ∧ n = ra.length ∧ (lt o0 ∧ lt o1) ∧ prodF ra rq (o0, o1) = prodF a q (1, 0)) a.length ?_ ?_
  · exact ⟨0, a, q, 1, 0, rfl, rfl, rfl, Nat.zero_le _, rfl, one_lt, rfl⟩
  rintro n s ⟨k, ra, rq, o0, o1, rfl, hra, hrq, hk, rfl, ho, hp⟩
  repeat refine AW.seq ?_
  refine AW.reg ?_
  iterate 1 refine AOL.s1 (h := ?_)
  refine AOL.nil ?_
  refine AW.kq [0, 1, 4, 6, 18, 19, 20] (h := ?_)
  repeat refine AW.seq ?_
  refine AW.cond rfl (fun c_ => ?_) (fun c_ => ?_)
  · cases ra with
    | nil => have := dnil hra hk; simp at c_; omega
    | cons x ra =>
    obtain ⟨hlt, hra', hx⟩ := dcons hra
    cases rq with
    | nil => have := dnil hrq (by have : a.length = q.length := c1; omega); have : a.length = q.length := c1; omega
    | cons y rq =>
    obtain ⟨hlt2, hrq', hy⟩ := dcons hrq
    have hd : (fm ptc a).drop (k * 3) = bo x.1 :: u x.2.1 :: u x.2.2 :: fm ptc ra := fm_drop ptc_len hra
    have hd2 : (fm ptc q).drop (k * 3) = bo y.1 :: u y.2.1 :: u y.2.2 :: fm ptc rq := fm_drop ptc_len hrq
    have k0 : (0:Int) ≤ k := by omega
    have k1 : (k:Int) < a.length := by omega
    have k2 : (k:Int) < q.length := by have : a.length = q.length := c1; omega
    have hw := inc_ hlt la
    have wx := ha x (List.mem_of_getElem? hx)
    have wy := hq y (List.mem_of_getElem? hy)
    have cp := pair_Pair_c (a0 := x.1) (q0 := y.1) wx.1 wx.2 wy.1 wy.2
    have lp := pairE_lt x y
    have go : (if pairE x y = (0, 0) then none else prodF ra rq (mulE (o0, o1) (pairE x y))) = prodF a q (1, 0) := hp
    rw [show ((x.1, x.2.1, x.2.2) : P3) = x from rfl, show ((y.1, y.2.1, y.2.2) : P3) = y from rfl] at cp
    generalize pairE x y = e at *
    obtain ⟨e0, e1⟩ := e
    clear hra hrq hp hx hy wx wy
    refine AW.skip ?_
    repeat refine AW.seq ?_
    refine AW.block ?_
    repeat refine AW.seq ?_
    refine AW.reg ?_
    iterate 2 refine AOL.s1 (h := ?_)
    refine AOL.nil ?_
    refine AW.kq [0, 1, 4, 6, 7, 18, 19] (h := ?_)
    repeat refine AW.seq ?_
    refine AW.drw 10 [1128] (by kernel_rfl) (h := ?_)
    iterate 8 refine ADL.dm 1 (h := ?_)
    refine ADL.call rfl (cp) (by kernel_rfl) rfl rfl (h := ?_)
    iterate 1 refine ADL.dm 1 (h := ?_)
    refine ADL.done hmix rfl rfl (hT := ?_)
    iterate 1 refine AOL.s1 (h := ?_)
    refine AOL.nil ?_
    refine AW.kq [0, 1, 4, 6, 8, 18, 19] (h := ?_)
    clear cp hd hd2
    repeat refine AW.seq ?_
    refine AW.reg ?_
    iterate 3 refine AOL.s1 (h := ?_)
    refine AOL.nil ?_
    refine AW.kq [0, 1, 4, 6, 8, 18, 19, 33] (h := ?_)
    repeat refine AW.seq ?_
    refine AW.cond rfl (fun d_ => ?_) (fun d_ => ?_)
    · have d1 : ((e0, e1) : Int × Int) = (0, 0) := by
        have : e0 = 0 ∧ e1 = 0 := by simpa using d_
        rw [this.1, this.2]
      rw [if_pos d1] at go
      rw [← go]
      clear go d1 d_
      repeat refine AW.seq ?_
      refine AW.reg ?_
      iterate 4 refine AOL.s1 (h := ?_)
      refine AOL.nil ?_
      refine AW.kq [4, 5] (h := ?_)
      repeat refine AW.seq ?_
      refine AW.ret ?_
      refine ⟨_, [], rfl, HOk.nil _, ?_⟩
      rfl
    have d1 : ¬ ((e0, e1) : Int × Int) = (0, 0) := by
      intro h
      simp only [Prod.mk.injEq] at h
      rw [h.1, h.2] at d_; cases d_
    rw [if_neg d1] at go
    have cm := ext_Mul_c ho.1.w ho.2.w lp.1.w lp.2.w
    have lm := mulE_lt (o0, o1) (e0, e1)
    generalize mulE (o0, o1) (e0, e1) = M at *
    obtain ⟨m0, m1⟩ := M
    clear d1 d_
    refine AW.skip ?_
    repeat refine AW.seq ?_
    refine AW.reg ?_
    iterate 2 refine AOL.s1 (h := ?_)
    refine AOL.callD rfl (cm) (by kernel_rfl) rfl rfl (h := ?_)
    iterate 1 refine AOL.s1 (h := ?_)
    refine AOL.nil ?_
    repeat refine AW.seq ?_
    refine AW.let 1128 (h := ?_)
    refine AW.reg ?_
    iterate 2 refine AOL.s1 (h := ?_)
    refine AOL.nil ?_
    exact ⟨ra.length, by simp, _, _, _, _, _, rfl, hra', hrq', hlt, rfl, lm, go⟩
  have hre : ra = [] := by
    cases ra with
    | nil => rfl
    | cons t r => have := (dcons hra).1; simp at c_; omega
  subst hre
  have go : prodF a q (1, 0) = some (o0, o1) := hp.symm
  rw [go]
  clear hp go hra hrq
  repeat refine AW.seq ?_
  refine AW.exit ?_
  repeat (first | refine Kseq.ex ?_ | refine Kloop.ex ?_ | refine Kblock.miss (by decide) ?_)
  refine Kblock.hit ?_
  refine AW.kq [4, 6] (h := ?_)
  repeat refine AW.seq ?_
  refine AW.reg ?_
  iterate 3 refine AOL.s1 (h := ?_)
  refine AOL.nil ?_
  refine AW.kq [4, 5] (h := ?_)
  repeat refine AW.seq ?_
  refine AW.ret ?_
  refine ⟨_, [], rfl, HOk.nil _, ?_⟩
  rfl
end Go.Proofs.Ytdbpjegocmdplaa.E.M
end
section
/- Bytes of numbers and points, written and read: contracts over E. -/
set_option linter.unusedVariables false
set_option linter.unusedSimpArgs false
set_option maxRecDepth 10000
open Go Go.Proofs.Ytdbpjegocmdplaa.E Go.Proofs
namespace Go.Proofs.Ytdbpjegocmdplaa.E.M
abbrev TFB : Prop := tSz Try.prog 48 = some 1 ∧
    tAgg Try.prog 48 = some false ∧
    tBytes Try.prog 48 = some 24 ∧
    tZero Try.prog 48 = some [(.slice none 0 0)] ∧
    tSlice Try.prog 48 = some 5 ∧
    Try.prog.underlying 48 = some (.slice 5) ∧
    tIface Try.prog 48 = some false ∧
    tCls Try.prog 48 = .slice ∧
    tSz Try.prog 5 = some 1 ∧
    tAgg Try.prog 5 = some false ∧
    tBytes Try.prog 5 = some 1 ∧
    tZero Try.prog 5 = some [(.int .u8 0)] ∧
    tSlice Try.prog 5 = none ∧
    tInt Try.prog 5 = some .u8 ∧
    Try.prog.underlying 5 = some (.int .u8) ∧
    tIface Try.prog 5 = some false ∧
    tCls Try.prog 5 = .other ∧
    tSz Try.prog 9 = some 1 ∧
    tAgg Try.prog 9 = some false ∧
    tBytes Try.prog 9 = some 16 ∧
    tZero Try.prog 9 = some [(.string ByteArray.empty)] ∧
    tSlice Try.prog 9 = none ∧
    Try.prog.underlying 9 = some .string ∧
    tIface Try.prog 9 = some false ∧
    tCls Try.prog 9 = .string ∧
    tSz Try.prog 28 = some 1 ∧
    tAgg Try.prog 28 = some false ∧
    tBytes Try.prog 28 = some 24 ∧
    tZero Try.prog 28 = some [(.slice none 0 0)] ∧
    tSlice Try.prog 28 = some 25 ∧
    Try.prog.underlying 28 = some (.slice 25) ∧
    tIface Try.prog 28 = some false ∧
    tCls Try.prog 28 = .slice ∧
    tSz Try.prog 79 = some 2 ∧
    tAgg Try.prog 79 = some true ∧
    tBytes Try.prog 79 = some 16 ∧
    tZero Try.prog 79 = some [(.int .u64 0), (.int .u64 0)] ∧
    tSlice Try.prog 79 = none ∧
    tArray Try.prog 79 = some (2, 25) ∧
    Try.prog.underlying 79 = some (.array 2 25) ∧
    tIface Try.prog 79 = some false ∧
    tCls Try.prog 79 = .other ∧
    (∀ ps, aBuild Try.prog 79 ps = (aFill (fun i => some (i * 1, 1)) [.val (.int .u64 0), .val (.int .u64 0)] ps).map .agg)
theorem tfb : TFB :=
  ⟨rfl, rfl, rfl, rfl, rfl, rfl, rfl, rfl, rfl, rfl, rfl, rfl, rfl, rfl, rfl, rfl, rfl, rfl, rfl, rfl, rfl, rfl, rfl, rfl, rfl, rfl, rfl, rfl, rfl, rfl, rfl, rfl, rfl, rfl, rfl, rfl, rfl, rfl, rfl, rfl, rfl, rfl, fun _ => rfl⟩

def be (x : Int) : List Int := [x / 72057594037927936 % 256, x / 281474976710656 % 256, x / 1099511627776 % 256, x / 4294967296 % 256, x / 16777216 % 256, x / 65536 % 256, x / 256 % 256, x % 256]
theorem be_len (x : Int) : (be x).length = 8 := rfl
theorem by8_len (L : List Int) : (by8 L).length = L.length := by unfold by8; rw [List.length_map]
theorem by8_app (L M : List Int) : by8 L ++ by8 M = by8 (L ++ M) := by unfold by8; rw [List.map_append]
theorem by8_drop (L : List Int) (k : Nat) : (by8 L).drop k = by8 (L.drop k) := by unfold by8; rw [List.map_drop]
theorem by8_take (L : List Int) (k : Nat) : (by8 L).take k = by8 (L.take k) := by unfold by8; rw [List.map_take]
theorem be_at (x : Int) (m : Nat) (h : m < 8) : (be x).drop m = x / 256 ^ (7 - m) % 256 :: (be x).drop (m + 1) := by
  have : m = 0 ∨ m = 1 ∨ m = 2 ∨ m = 3 ∨ m = 4 ∨ m = 5 ∨ m = 6 ∨ m = 7 := by omega
  rcases this with rfl | rfl | rfl | rfl | rfl | rfl | rfl | rfl
  · rfl
  · rfl
  · rfl
  · rfl
  · rfl
  · rfl
  · rfl
  · show [x % 256] = [x / 1 % 256]; rw [Int.ediv_one]
def b8 (z : Int) : Prop := 0 ≤ z ∧ z < 256
def num (L : List Int) : Int := (L.take 8).foldl (fun a b => a * 256 + b) 0
abbrev sl8 (L : List Int) : AV := .sl L.length (by8 L)
theorem drop_at {L r : List Int} {k : Nat} {b : Int} (e : L.drop k = b :: r) : k < L.length ∧ L.drop (k + 1) = r ∧ b ∈ L ∧ (by8 L).drop k = .val (.int .u8 b) :: by8 r := by
  have h : k < L.length := by
    rcases Nat.lt_or_ge k L.length with h | h
    · exact h
    · rw [List.drop_eq_nil_of_le h] at e; cases e
  refine ⟨h, by rw [← List.drop_drop, e]; rfl, ?_, by rw [by8_drop, e]; rfl⟩
  have : b ∈ L.drop k := by rw [e]; exact List.mem_cons_self
  exact List.mem_of_mem_drop this
theorem pow256 {k : Nat} (h : k ≤ 8) : (256 : Int) ^ k ≤ 18446744073709551616 := by
  have : (256 : Int) ^ k ≤ 256 ^ 8 := by
    have := Nat.pow_le_pow_right (n := 256) (by decide) h
    exact_mod_cast this
  exact this
def bytesP (b : Bool) (x y : Int) : List Int := if b = true then [0] else 1 :: (be x ++ be y)
def writeV (b : Bool) (x y : Int) : AV := if isPt b x y = true then .tup [sl8 (bytesP b x y), nil_] else .tup [.val (.slice none 0 0), er 1]
theorem by8_snoc (L : List Int) (v : Int) : by8 L ++ [.val (.int .u8 v)] = by8 (L ++ [v]) := by8_app L [v]
theorem be_take (x : Int) (j : Nat) (h : j < 8) : (be x).take (j + 1) = (be x).take j ++ [x / 256 ^ (7 - j) % 256] := by
  have e := be_at x j h
  have : (be x)[j]? = some (x / 256 ^ (7 - j) % 256) := by
    have := congrArg (·[0]?) e
    simpa using this
  rw [List.take_add_one, this]; rfl
/-- what stands after k of the two numbers -/
def wr2 (x y : Int) (k : Nat) : List Int := 1 :: ((be x ++ be y).take (8 * k))
set_option maxHeartbeats 4000000 in
theorem curve_Write_c {b : Bool} {x y : Int} (hx : w64 x) (hy : w64 y) : Fn Try.prog 40 [pt (b, x, y)] [] (fun r _ => r = writeV b x y) := by
  have ci := curve_Is_c (b := b) hx hy
  have tc : tIface Try.prog 52 = some false := rfl
  unfold writeV
  generalize isPt b x y = p at *
  refine Fn.enter Try.func40 Try.ntmps40 rfl (h := ?_)
  have tf := tf
  have tfb := tfb
  repeat refine AW.seq ?_
  refine AW.reg ?_
  iterate 3 refine AOL.s1 (h := ?_)
  refine AOL.nil ?_
  refine AW.kq [1, 2, 3] (h := ?_)
  repeat refine AW.seq ?_
  refine AW.block ?_
  repeat refine AW.seq ?_
  refine AW.reg ?_
  iterate 1 refine AOL.s1 (h := ?_)
  refine AOL.callD rfl (ci) (by kernel_rfl) rfl rfl (h := ?_)
  iterate 2 refine AOL.s1 (h := ?_)
  refine AOL.nil ?_
  refine AW.kq [1, 2, 3, 8] (h := ?_)
  clear ci
  repeat refine AW.seq ?_
  cases p with
  | false =>
    refine AW.cond rfl (fun c_ => ?_) (fun c_ => ?_)
    · repeat refine AW.seq ?_
      refine AW.reg ?_
      iterate 3 refine AOL.s1 (h := ?_)
      refine AOL.nil ?_
      refine AW.kq [2, 3] (h := ?_)
      repeat refine AW.seq ?_
      refine AW.ret ?_
      refine ⟨_, [], rfl, HOk.nil _, ?_⟩
      rfl
    cases c_
  | true =>
    refine AW.cond rfl (fun c_ => ?_) (fun c_ => ?_)
    · cases c_
    repeat refine AW.seq ?_
    refine AW.reg ?_
    iterate 3 refine AOL.s1 (h := ?_)
    refine AOL.nil ?_
    refine AW.kq [1, 2, 3, 13] (h := ?_)
    repeat refine AW.seq ?_
    rw [if_pos rfl]
    cases b with
    | true =>
      refine AW.cond rfl (fun d_ => ?_) (fun d_ => ?_)
      · repeat refine AW.seq ?_
        refine AW.reg ?_
        iterate 3 refine AOL.s1 (h := ?_)
        refine AOL.nil ?_
        refine AW.kq [2, 3] (h := ?_)
        refine AW.fz 1256 rfl (fun h => by cases h) (h := ?_)
        repeat refine AW.seq ?_
        refine AW.ret ?_
        refine ⟨_, [], rfl, HOk.nil _, ?_⟩
        rfl
      cases d_
    | false =>
      refine AW.cond rfl (fun d_ => ?_) (fun d_ => ?_)
      · cases d_
      refine AW.skip ?_
      repeat refine AW.seq ?_
      refine AW.reg ?_
      iterate 2 refine AOL.s1 (h := ?_)
      refine AOL.nil ?_
      refine AW.kq [1, 2, 3, 4] (h := ?_)
      repeat refine AW.seq ?_
      refine AW.reg ?_
      iterate 7 refine AOL.s1 (h := ?_)
      refine AOL.nil ?_
      refine AW.kq [2, 3, 4, 22, 23, 24] (h := ?_)
      repeat refine AW.seq ?_
      refine AW.block ?_
      repeat refine AW.seq ?_
      refine AW.let 1016 (h := ?_)
      refine AW.loopK [2, 3, 4, 22, 23, 24] (fun n s => ∃ k : Nat, s = ⟨41, [(2, .val (.slice none 0 0)), (3, nil_), (4, .ref 1272 0 (wr2 x y k).length 1), (22, .ref 1352 0 2 1), (23, i 2), (24, i k)], [(1272, ⟨5, false, by8 (wr2 x y k)⟩), (1352, ⟨25, false, [u x, u y]⟩)]⟩ ∧ k ≤ 2 ∧ n = 2 - k) 2 ?_ ?_
      · exact ⟨0, rfl, by decide, rfl⟩
      rintro n s ⟨k, rfl, hk, rfl⟩
      repeat refine AW.seq ?_
      refine AW.reg ?_
      iterate 1 refine AOL.s1 (h := ?_)
      refine AOL.nil ?_
      refine AW.kq [2, 3, 4, 22, 23, 24, 25] (h := ?_)
      repeat refine AW.seq ?_
      refine AW.cond rfl (fun e_ => ?_) (fun e_ => ?_)
      · have hk2 : k < 2 := by
          have : (k:Int) < 2 := by simpa using e_
          omega
        obtain ⟨v, r, hv, hd, hG⟩ : ∃ (v : Int) (r : List AV), w64 v ∧ List.drop k [u x, u y] = u v :: r ∧ wr2 x y (k + 1) = wr2 x y k ++ be v := by
          have : k = 0 ∨ k = 1 := by omega
          rcases this with rfl | rfl
          · exact ⟨x, [u y], hx, rfl, rfl⟩
          · exact ⟨y, [], hy, rfl, rfl⟩
        have k0 : (0:Int) ≤ k := by omega
        have k1 : (k:Int) < ((2 : Nat) : Int) := by omega
        have hlG : (wr2 x y k).length = 1 + 8 * k := by
          have : k = 0 ∨ k = 1 := by omega
          rcases this with rfl | rfl <;> rfl
        replace hG : id (wr2 x y (k + 1) = wr2 x y k ++ be v) := hG
        replace hlG : id ((wr2 x y k).length = 1 + 8 * k) := hlG
        generalize wr2 x y k = G at *
        clear e_
        refine AW.skip ?_
        repeat refine AW.seq ?_
        refine AW.block ?_
        repeat refine AW.seq ?_
        refine AW.reg ?_
        iterate 3 refine AOL.s1 (h := ?_)
        refine AOL.nil ?_
        refine AW.kq [2, 3, 4, 6, 22, 23, 24] (h := ?_)
        repeat refine AW.seq ?_
        refine AW.reg ?_
        iterate 1 refine AOL.s1 (h := ?_)
        refine AOL.nil ?_
        refine AW.kq [2, 3, 4, 6, 7, 22, 23, 24] (h := ?_)
        clear hd k0 k1
        repeat refine AW.seq ?_
        refine AW.block ?_
        repeat refine AW.seq ?_
        refine AW.loopK [2, 3, 4, 6, 7, 22, 23, 24] (fun n s => ∃ j : Nat, s = ⟨41, [(2, .val (.slice none 0 0)), (3, nil_), (4, .ref 1272 0 (G ++ (be v).take j).length 1), (6, u v), (7, i (56 - 8 * (j : Int))), (22, .ref 1352 0 2 1), (23, i 2), (24, i k)], [(1272, ⟨5, false, by8 (G ++ (be v).take j)⟩), (1352, ⟨25, false, [u x, u y]⟩)]⟩ ∧ j ≤ 8 ∧ n = 8 - j) 8 ?_ ?_
        · exact ⟨0, by rw [List.take_zero, List.append_nil]; rfl, by decide, rfl⟩
        rintro n s ⟨j, rfl, hj, rfl⟩
        repeat refine AW.seq ?_
        refine AW.reg ?_
        iterate 2 refine AOL.s1 (h := ?_)
        refine AOL.nil ?_
        refine AW.kq [2, 3, 4, 6, 7, 22, 23, 24, 29] (h := ?_)
        repeat refine AW.seq ?_
        refine AW.cond rfl (fun g_ => ?_) (fun g_ => ?_)
        · have hj8 : j < 8 := by
            have : (56:Int) - 8 * j ≥ 0 := by simpa using g_
            omega
          have hA := be_take v j hj8
          obtain ⟨sh, hsh⟩ : ∃ sh : Nat, sh = 56 - 8 * j := ⟨_, rfl⟩
          have e0 : (56:Int) - 8 * j = (sh : Int) := by omega
          obtain ⟨f1, f2⟩ := shr_b (y := v) (k := sh) hv (by omega)
          have f3 : IntKind.u8.wrap (v / 2 ^ sh) = v / 256 ^ (7 - j) % 256 := by
            have : (2:Int) ^ sh = 256 ^ (7 - j) := by
              rw [hsh, show (256:Int) = 2 ^ 8 from rfl, ← Int.pow_mul]; congr 1; omega
            rw [this]; rfl
          have s0 : ¬ (sh : Int) < 0 := by omega
          have e1 : IntKind.i64.wrap ((sh : Int) - 8) = 56 - 8 * ((j + 1 : Nat) : Int) := by rw [wrapI_o (by omega) (by omega)]; omega
          have hlA : (G ++ (be v).take j).length < 100 := by
            have : G.length = 1 + 8 * k := hlG
            rw [List.length_append, List.length_take, be_len]; omega
          have hA' : G ++ (be v).take (j + 1) = (G ++ (be v).take j) ++ [v / 256 ^ (7 - j) % 256] := by rw [hA, List.append_assoc]
          rw [e0]
          generalize v / 256 ^ (7 - j) % 256 = c at *
          clear hA
          generalize hB : G ++ (be v).take j = A at *
          replace hB := id hB
          have a1 : (by8 A).length = A.length := by8_len A
          have a2 : A.length + 1 ≤ 140737488355328 := by omega
          have a3 : A.length + 1 ≤ 4611686018427387904 := by omega
          have a4 : A.length ≤ 140737488355327 := by omega
          have a5 : A.length ≤ 4611686018427387903 := by omega
          have hA2 : id (G ++ (be v).take (j + 1) = A ++ [c]) := hA'
          clear hA' g_ hsh e0 f2 hB
          refine AW.skip ?_
          repeat refine AW.seq ?_
          refine AW.block ?_
          repeat refine AW.seq ?_
          refine AW.reg ?_
          iterate 8 refine AOL.s1 (h := ?_)
          refine AOL.nil ?_
          refine AW.kq [2, 3, 4, 6, 7, 22, 23, 24] (h := ?_)
          refine AW.let 1592 (h := ?_)
          repeat refine AW.seq ?_
          refine AW.reg ?_
          iterate 3 refine AOL.s1 (h := ?_)
          refine AOL.nil ?_
          have hA' : G ++ (be v).take (j + 1) = A ++ [c] := hA2
          exact ⟨8 - (j + 1), by omega, j + 1, by rw [hA', List.length_append, ← by8_snoc]; rfl, by omega, rfl⟩
        have hj8 : j = 8 := by
          have : ¬ (56:Int) - 8 * j ≥ 0 := by simpa using g_
          omega
        subst hj8
        have hG' : wr2 x y (k + 1) = G ++ List.take 8 (be v) := hG
        have e1 : IntKind.i64.wrap ((k : Int) + 1) = ((k + 1 : Nat) : Int) := by rw [wrapI_o (by omega) (by omega)]; rfl
        rw [← hG']
        clear g_ hG hG' hlG
        repeat refine AW.seq ?_
        refine AW.exit ?_
        repeat (first | refine Kseq.ex ?_ | refine Kloop.ex ?_ | refine Kblock.miss (by decide) ?_)
        refine Kblock.hit ?_
        refine AW.kq [2, 3, 4, 22, 23, 24] (h := ?_)
        repeat refine AW.seq ?_
        refine AW.reg ?_
        iterate 2 refine AOL.s1 (h := ?_)
        refine AOL.nil ?_
        exact ⟨2 - (k + 1), by omega, k + 1, rfl, by omega, rfl⟩
      have hk2 : k = 2 := by
        have : ¬ (k:Int) < 2 := by simpa using e_
        omega
      subst hk2
      clear e_
      repeat refine AW.seq ?_
      refine AW.exit ?_
      repeat (first | refine Kseq.ex ?_ | refine Kloop.ex ?_ | refine Kblock.miss (by decide) ?_)
      refine Kblock.hit ?_
      refine AW.kq [4] (h := ?_)
      repeat refine AW.seq ?_
      refine AW.reg ?_
      iterate 3 refine AOL.s1 (h := ?_)
      refine AOL.nil ?_
      refine AW.kq [2, 3] (h := ?_)
      refine AW.fz 1272 rfl (fun h => by cases h) (h := ?_)
      repeat refine AW.seq ?_
      refine AW.ret ?_
      refine ⟨_, [], rfl, HOk.nil _, ?_⟩
      rfl
end Go.Proofs.Ytdbpjegocmdplaa.E.M
end
section
/- Points read from bytes: contracts over E. -/
set_option linter.unusedVariables false
set_option linter.unusedSimpArgs false
set_option maxRecDepth 10000
open Go Go.Proofs.Ytdbpjegocmdplaa.E Go.Proofs
namespace Go.Proofs.Ytdbpjegocmdplaa.E.M
def readP (L : List Int) : (Bool × Int × Int) × Bool :=
  if L = [0] then ((true, 0, 0), true) else
  if L.length = 17 ∧ L.head? = some 1 then (if isPt false (num (L.drop 1)) (num (L.drop 9)) = true then ((false, num (L.drop 1), num (L.drop 9)), true) else ((false, 0, 0), false)) else ((false, 0, 0), false)
theorem num_w {L : List Int} (hb : ∀ b ∈ L, b8 b) : w64 (num L) := by
  have h : ∀ (k : Nat) (M : List Int) (z : Int), (∀ b ∈ M, b8 b) → (0 ≤ z ∧ z < 256 ^ k) → M.length + k ≤ 8 → 0 ≤ M.foldl (fun a b => a * 256 + b) z ∧ M.foldl (fun a b => a * 256 + b) z < 18446744073709551616 := by
    intro k M
    induction M generalizing k with
    | nil => intro z _ hz hk; exact ⟨hz.1, Int.lt_of_lt_of_le hz.2 (pow256 (by simp at hk; omega))⟩
    | cons b M ih =>
      intro z hM hz hk
      have bb := hM b List.mem_cons_self
      have p : (256:Int) ^ (k + 1) = 256 ^ k * 256 := Int.pow_succ _ _
      refine ih (k + 1) _ (fun c hc => hM c (List.mem_cons_of_mem _ hc)) ⟨?_, ?_⟩ (by simp at hk; omega)
      · show 0 ≤ z * 256 + b; have := bb.1; have := hz.1; omega
      · show z * 256 + b < _; have := bb.2; have := hz.2; omega
  refine h 0 (L.take 8) 0 (fun b hb' => hb b (List.mem_of_mem_take hb')) (by decide) ?_
  rw [List.length_take]; omega
theorem sl_at {L : List Int} {k n : Nat} (h : L.length = n) (hk : k ≤ n) : ∀ H, aSlice Try.prog 48 H (.sl n (by8 L)) (some (i k)) none none = some (.sl (n - k) (by8 (L.drop k))) := by
  intro H
  have hs : tSlice Try.prog 48 = some 5 := rfl
  have hz : tSz Try.prog 5 = some 1 := rfl
  have c1 : (0:Int) ≤ (k : Int) := by omega
  have c2 : (k : Int) ≤ n := by omega
  have e : (by8 L).drop k = by8 (L.drop k) := by8_drop L k
  have l : (by8 (L.drop k)).length = n - k := by rw [by8_len, List.length_drop, h]
  simp only [aSlice, hs, hz, bnd, intOf?, c1, c2, and_self, Int.le_refl, if_true, Int.toNat_natCast, Nat.mul_one, e, List.take_of_length_le (Nat.le_of_eq l)]
def fl (M : List Int) : Int := M.foldl (fun a b => a * 256 + b) 0
theorem fl_snoc (M : List Int) (b : Int) : fl (M ++ (some b).toList) = fl M * 256 + b := by
  show (M ++ [b]).foldl _ 0 = _
  rw [List.foldl_append]; rfl
theorem fl_w (M : List Int) : ∀ (k : Nat) (z : Int), (∀ b ∈ M, b8 b) → 0 ≤ z ∧ z < 256 ^ k → 0 ≤ M.foldl (fun a b => a * 256 + b) z ∧ M.foldl (fun a b => a * 256 + b) z < 256 ^ (k + M.length) := by
  induction M with
  | nil => intro k z _ hz; exact hz
  | cons b M ih =>
    intro k z hM hz
    have bb := hM b List.mem_cons_self
    have p : (256:Int) ^ (k + 1) = 256 ^ k * 256 := Int.pow_succ _ _
    have := ih (k + 1) (z * 256 + b) (fun c hc => hM c (List.mem_cons_of_mem _ hc)) ⟨by have := bb.1; have := hz.1; omega, by have := bb.2; have := hz.2; omega⟩
    rw [show k + 1 + M.length = k + (M.length + 1) by omega] at this
    exact this
theorem fl_bound {M : List Int} {m : Nat} (h : ∀ b ∈ M, b8 b) (hm : M.length ≤ m) (hm7 : m = 7) : 0 ≤ fl M ∧ fl M < 72057594037927936 := by
  have := fl_w M 0 0 h (by decide)
  refine ⟨this.1, Int.lt_of_lt_of_le this.2 ?_⟩
  rw [Nat.zero_add]
  have : (256 : Int) ^ M.length ≤ 256 ^ 7 := by
    have := Nat.pow_le_pow_right (n := 256) (by decide) (show M.length ≤ 7 by omega)
    exact_mod_cast this
  exact this
def readC (L : List Int) : AV :=
  if L = [0] then .tup [pt (true, 0, 0), nil_] else
  if L.length = 17 ∧ L.head? = some 1 then (if isPt false (num (L.drop 1)) (num (L.drop 9)) = true then .tup [pt (false, num (L.drop 1), num (L.drop 9)), nil_] else .tup [pt (false, 0, 0), er 3]) else .tup [pt (false, 0, 0), er 3]
set_option maxHeartbeats 4000000 in
theorem curve_Read_c {L : List Int} (hb : ∀ b ∈ L, b8 b) (hl : L.length ≤ 9223372036854775807) : Fn Try.prog 44 [sl8 L] [] (fun r _ => r = readC L) := by
  have tc : tIface Try.prog 52 = some false := rfl
  cases L with
  | nil =>
    have bn : by8 [] = [] := rfl
    refine Fn.enter Try.func44 Try.ntmps44 rfl (h := ?_)
    have tf := tf
    have tfb := tfb
    repeat refine AW.seq ?_
    refine AW.reg ?_
    iterate 2 refine AOL.s1 (h := ?_)
    refine AOL.nil ?_
    refine AW.kq [0, 2] (h := ?_)
    repeat refine AW.seq ?_
    refine AW.reg ?_
    iterate 9 refine AOL.s1 (h := ?_)
    refine AOL.nil ?_
    refine AW.kq [0, 2, 16] (h := ?_)
    repeat refine AW.seq ?_
    refine AW.cond rfl (fun c_ => ?_) (fun c_ => ?_)
    · cases c_
    refine AW.skip ?_
    repeat refine AW.seq ?_
    refine AW.reg ?_
    iterate 9 refine AOL.s1 (h := ?_)
    refine AOL.nil ?_
    refine AW.kq [0, 2, 26] (h := ?_)
    repeat refine AW.seq ?_
    refine AW.cond rfl (fun d_ => ?_) (fun d_ => ?_)
    · repeat refine AW.seq ?_
      refine AW.reg ?_
      iterate 4 refine AOL.s1 (h := ?_)
      refine AOL.nil ?_
      refine AW.kq [2, 3] (h := ?_)
      repeat refine AW.seq ?_
      refine AW.ret ?_
      refine ⟨_, [], rfl, HOk.nil _, ?_⟩
      rfl
    cases d_
  | cons a r =>
    have bc : by8 (a :: r) = .val (.int .u8 a) :: by8 r := rfl
    have n0 : (0:Int) ≤ 0 := by decide
    have n1 : (0:Int) < ((r.length + 1 : Nat) : Int) := by omega
    refine Fn.enter Try.func44 Try.ntmps44 rfl (h := ?_)
    have tf := tf
    have tfb := tfb
    repeat refine AW.seq ?_
    refine AW.reg ?_
    iterate 2 refine AOL.s1 (h := ?_)
    refine AOL.nil ?_
    refine AW.kq [0, 2] (h := ?_)
    repeat refine AW.seq ?_
    refine AW.reg ?_
    iterate 4 refine AOL.s1 (h := ?_)
    refine AOL.kq [0, 2, 11] (h := ?_)
    refine AOL.and 11 16 (os' := ?_) (x := ?_) (h1 := ?_) (h0 := ?_) (h := ?_)
    rotate_left 2
    iterate 2
      · intro hb_ K' hK; (iterate 5 refine AOL.s1 (h := ?_)); refine AOL.kq [0, 2, 16] (h := ?_); exact hK
    refine AOL.nil ?_
    refine AW.kq [0, 2, 16] (h := ?_)
    repeat refine AW.seq ?_
    refine AW.cond rfl (fun c_ => ?_) (fun c_ => ?_)
    · have e : a :: r = [0] := by
        have : (r.length : Int) + 1 = 1 ∧ a = 0 := by simpa using c_
        have h0 : r = [] := List.eq_nil_of_length_eq_zero (by omega)
        rw [h0, this.2]
      have hr : readC (a :: r) = .tup [pt (true, 0, 0), nil_] := by unfold readC; rw [if_pos e]
      rw [hr]
      repeat refine AW.seq ?_
      refine AW.reg ?_
      refine AOL.callD rfl (curve_inf_c) (by kernel_rfl) rfl rfl (h := ?_)
      iterate 2 refine AOL.s1 (h := ?_)
      refine AOL.nil ?_
      refine AW.kq [2, 3] (h := ?_)
      repeat refine AW.seq ?_
      refine AW.ret ?_
      refine ⟨_, [], rfl, HOk.nil _, ?_⟩
      rfl
    have e : ¬ a :: r = [0] := by
      intro h
      injection h with h1 h2
      subst h1 h2
      cases c_
    clear c_
    refine AW.skip ?_
    repeat refine AW.seq ?_
    refine AW.reg ?_
    iterate 4 refine AOL.s1 (h := ?_)
    refine AOL.kq [0, 2, 21] (h := ?_)
    refine AOL.or 21 26 (os' := ?_) (x := ?_) (h1 := ?_) (h0 := ?_) (h := ?_)
    rotate_left 2
    iterate 2
      · intro hb_ K' hK; (iterate 5 refine AOL.s1 (h := ?_)); refine AOL.kq [0, 2, 26] (h := ?_); exact hK
    refine AOL.nil ?_
    refine AW.kq [0, 2, 26] (h := ?_)
    repeat refine AW.seq ?_
    refine AW.cond rfl (fun d_ => ?_) (fun d_ => ?_)
    · have e2 : ¬ ((a :: r).length = 17 ∧ (a :: r).head? = some 1) := by
        rintro ⟨h1, h2⟩
        have h1 : r.length + 1 = 17 := h1
        have h2 : a = 1 := Option.some.inj h2
        rw [h1, h2] at d_
        cases d_
      have hr : readC (a :: r) = .tup [pt (false, 0, 0), er 3] := by unfold readC; rw [if_neg e, if_neg e2]
      rw [hr]
      repeat refine AW.seq ?_
      refine AW.reg ?_
      iterate 4 refine AOL.s1 (h := ?_)
      refine AOL.nil ?_
      refine AW.kq [2, 3] (h := ?_)
      repeat refine AW.seq ?_
      refine AW.ret ?_
      refine ⟨_, [], rfl, HOk.nil _, ?_⟩
      rfl
    have e2 : r.length + 1 = 17 ∧ a = 1 := by
      have : (r.length : Int) + 1 = 17 ∧ a = 1 := by simpa using d_
      omega
    rw [← bc, e2.1]
    have hr : readC (a :: r) = (if isPt false (num ((a :: r).drop 1)) (num ((a :: r).drop 9)) = true then .tup [pt (false, num ((a :: r).drop 1), num ((a :: r).drop 9)), nil_] else .tup [pt (false, 0, 0), er 3]) := by
      unfold readC; rw [if_neg e, if_pos ⟨e2.1, by rw [e2.2]; rfl⟩]
    rw [hr]
    have hL : (a :: r).length = 17 := e2.1
    clear bc n1 hr e e2 d_ n0
    generalize a :: r = L at *
    have g1 : (L.drop 1).length = 16 := by rw [List.length_drop, hL]
    have s1 : ∀ H, aSlice Try.prog 48 H (.sl 17 (by8 L)) (some (i 1)) none none = some (.sl 16 (by8 (L.drop 1))) := fun H => sl_at hL (by decide : 1 ≤ 17) H
    have b1 : ∀ b ∈ L.drop 1, b8 b := fun b h => hb b (List.mem_of_mem_drop h)
    have b9 : ∀ b ∈ L.drop 9, b8 b := fun b h => hb b (List.mem_of_mem_drop h)
    have w1 := num_w b1
    have w9 := num_w b9
    have h19 : L.drop 9 = (L.drop 1).drop 8 := by rw [List.drop_drop]
    rw [h19] at w9 ⊢
    have hbD := b1
    replace g1 := id g1
    clear hL hb b1 b9 h19
    generalize L.drop 1 = D at *
    have i00 : (0:Int) ≤ 0 := by decide
    have i02 : (0:Int) < ((2 : Nat) : Int) := by decide
    have i10 : (0:Int) ≤ 1 := by decide
    have i12 : (1:Int) < ((2 : Nat) : Int) := by decide
    have t1 : Int.toNat 1 = 1 := rfl
    refine AW.skip ?_
    repeat refine AW.seq ?_
    refine AW.reg ?_
    iterate 1 refine AOL.s1 (h := ?_)
    refine AOL.nil ?_
    refine AW.kq [0, 2, 4] (h := ?_)
    repeat refine AW.seq ?_
    refine AW.reg ?_
    iterate 4 refine AOL.s1 (h := ?_)
    refine AOL.nil ?_
    refine AW.kq [2, 4, 30, 31, 32] (h := ?_)
    clear s1
    repeat refine AW.seq ?_
    refine AW.block ?_
    repeat refine AW.seq ?_
    refine AW.loopK [2, 4, 30, 31, 32] (fun n s => ∃ (k : Nat) (A B : Int), s = ⟨60, [(2, .ptr 1032 0), (4, .ptr 1064 0), (30, .sl 16 (by8 D)), (31, i 16), (32, i k)], [(1032, ⟨32, true, [bo false, u 0, u 0]⟩), (1064, ⟨79, true, [u A, u B]⟩)]⟩ ∧ k ≤ 16 ∧ n = 16 - k ∧ id (A = fl (D.take (min k 8))) ∧ id (B = fl ((D.drop 8).take (k - 8)))) 16 ?_ ?_
    · exact ⟨0, 0, 0, rfl, by decide, rfl, rfl, rfl⟩
    rintro n s ⟨k, A, B, rfl, hk, rfl, hA, hB⟩
    repeat refine AW.seq ?_
    refine AW.reg ?_
    iterate 1 refine AOL.s1 (h := ?_)
    refine AOL.nil ?_
    refine AW.kq [2, 4, 30, 31, 32, 33] (h := ?_)
    repeat refine AW.seq ?_
    refine AW.cond rfl (fun c_ => ?_) (fun c_ => ?_)
    · have hk16 : k < 16 := by
        have : (k:Int) < 16 := by simpa using c_
        omega
      have gl : D.length = 16 := g1
      obtain ⟨b, r, e⟩ : ∃ b r, D.drop k = b :: r := by
        cases h : D.drop k with
        | nil => have := List.drop_eq_nil_iff.1 h; omega
        | cons b r => exact ⟨b, r, rfl⟩
      have hat : D[k]? = some b := by
        have := congrArg (·[0]?) e
        simpa using this
      obtain ⟨q1, q2, q3, hd⟩ := drop_at e
      have bb : 0 ≤ b ∧ b < 256 := hbD b q3
      have k0 : (0:Int) ≤ k := by omega
      have k1 : (k:Int) < ((16 : Nat) : Int) := by omega
      have w2 : IntKind.u64.wrap b = b := wrapU_o bb.1 (by have := bb.2; omega)
      have e1 : IntKind.i64.wrap ((k : Int) + 1) = ((k + 1 : Nat) : Int) := by rw [wrapI_o (by omega) (by omega)]; rfl
      clear e q1 q2 q3
      by_cases h8 : k < 8
      · skip
        have q1 : IntKind.i64.wrap ((k : Int).tdiv 8) = 0 := by rw [Int.tdiv_eq_ediv_of_nonneg k0, wrapI_o (by omega) (by omega)]; omega
        have bd : 0 ≤ A ∧ A < 72057594037927936 := by
          have hX : A = fl (D.take (min k 8)) := hA
          have := fl_bound (M := D.take (min k 8)) (m := 7) (fun c hc => hbD c (List.mem_of_mem_take hc)) (by rw [List.length_take]; omega) (by decide)
          rw [← hX] at this
          exact this
        have s8 : IntKind.u64.wrap (A * 2 ^ min (Int.toNat 8) IntKind.u64.bits) = A * 256 := by
          show IntKind.u64.wrap (A * 256) = _
          exact wrapU_o (by have := bd.1; omega) (by have := bd.2; omega)
        have o8 := or_join (T := 256) (a := A) (b := b) 8 (by decide) rfl bd.1 (by have := bd.2; have := bb.2; omega) bb.1 bb.2
        have hA2 : id (A * 256 + b = fl (D.take (min (k + 1) 8))) := by
          have hA : A = fl (D.take (min k 8)) := hA
          rw [show min (k + 1) 8 = k + 1 by omega, List.take_add_one, hat, fl_snoc, hA, show min k 8 = k by omega]; rfl
        have hB2 : id (B = fl ((D.drop 8).take (k + 1 - 8))) := by
          have hB : B = fl ((D.drop 8).take (k - 8)) := hB
          rw [show k + 1 - 8 = 0 by omega, hB, show k - 8 = 0 by omega]; rfl
        clear hA hB bd hat c_
        refine AW.skip ?_
        repeat refine AW.seq ?_
        refine AW.block ?_
        repeat refine AW.seq ?_
        refine AW.reg ?_
        iterate 5 refine AOL.s1 (h := ?_)
        refine AOL.nil ?_
        refine AW.kq [2, 4, 5, 6, 30, 31, 32] (h := ?_)
        repeat refine AW.seq ?_
        refine AW.reg ?_
        iterate 12 refine AOL.s1 (h := ?_)
        refine AOL.nil ?_
        refine AW.kq [2, 4, 30, 31, 32] (h := ?_)
        repeat refine AW.seq ?_
        refine AW.reg ?_
        iterate 2 refine AOL.s1 (h := ?_)
        refine AOL.nil ?_
        exact ⟨16 - (k + 1), by omega, k + 1, _, _, rfl, by omega, rfl, hA2, hB2⟩
      · skip
        have q1 : IntKind.i64.wrap ((k : Int).tdiv 8) = 1 := by rw [Int.tdiv_eq_ediv_of_nonneg k0, wrapI_o (by omega) (by omega)]; omega
        have bd : 0 ≤ B ∧ B < 72057594037927936 := by
          have hX : B = fl ((D.drop 8).take (k - 8)) := hB
          have := fl_bound (M := (D.drop 8).take (k - 8)) (m := 7) (fun c hc => hbD c (List.mem_of_mem_drop (List.mem_of_mem_take hc))) (by rw [List.length_take, List.length_drop]; omega) (by decide)
          rw [← hX] at this
          exact this
        have s8 : IntKind.u64.wrap (B * 2 ^ min (Int.toNat 8) IntKind.u64.bits) = B * 256 := by
          show IntKind.u64.wrap (B * 256) = _
          exact wrapU_o (by have := bd.1; omega) (by have := bd.2; omega)
        have o8 := or_join (T := 256) (a := B) (b := b) 8 (by decide) rfl bd.1 (by have := bd.2; have := bb.2; omega) bb.1 bb.2
        have hA2 : id (A = fl (D.take (min (k + 1) 8))) := by
          have hA : A = fl (D.take (min k 8)) := hA
          rw [show min (k + 1) 8 = 8 by omega, hA, show min k 8 = 8 by omega]; rfl
        have hB2 : id (B * 256 + b = fl ((D.drop 8).take (k + 1 - 8))) := by
          have hB : B = fl ((D.drop 8).take (k - 8)) := hB
          rw [show k + 1 - 8 = k - 8 + 1 by omega, List.take_add_one, List.getElem?_drop, show 8 + (k - 8) = k by omega, hat, fl_snoc, hB]; rfl
        clear hA hB bd hat c_
        refine AW.skip ?_
        repeat refine AW.seq ?_
        refine AW.block ?_
        repeat refine AW.seq ?_
        refine AW.reg ?_
        iterate 5 refine AOL.s1 (h := ?_)
        refine AOL.nil ?_
        refine AW.kq [2, 4, 5, 6, 30, 31, 32] (h := ?_)
        repeat refine AW.seq ?_
        refine AW.reg ?_
        iterate 12 refine AOL.s1 (h := ?_)
        refine AOL.nil ?_
        refine AW.kq [2, 4, 30, 31, 32] (h := ?_)
        repeat refine AW.seq ?_
        refine AW.reg ?_
        iterate 2 refine AOL.s1 (h := ?_)
        refine AOL.nil ?_
        exact ⟨16 - (k + 1), by omega, k + 1, _, _, rfl, by omega, rfl, hA2, hB2⟩
    have hk16 : k = 16 := by
      have : ¬ (k:Int) < 16 := by simpa using c_
      omega
    subst hk16
    have gl : D.length = 16 := g1
    have hA : A = num D := hA
    have hB : B = num (D.drop 8) := hB
    rw [← hA] at w1 ⊢
    rw [← hB] at w9 ⊢
    clear hA hB c_ g1 gl hbD hk
    have ci := curve_Is_c (b := false) w1 w9
    generalize isPt false A B = p at *
    repeat refine AW.seq ?_
    refine AW.exit ?_
    repeat (first | refine Kseq.ex ?_ | refine Kloop.ex ?_ | refine Kblock.miss (by decide) ?_)
    refine Kblock.hit ?_
    refine AW.kq [2, 4] (h := ?_)
    repeat refine AW.seq ?_
    refine AW.reg ?_
    iterate 7 refine AOL.s1 (h := ?_)
    refine AOL.nil ?_
    refine AW.kq [2, 7] (h := ?_)
    repeat refine AW.seq ?_
    refine AW.reg ?_
    iterate 1 refine AOL.s1 (h := ?_)
    refine AOL.callD rfl (ci) (by kernel_rfl) rfl rfl (h := ?_)
    iterate 1 refine AOL.s1 (h := ?_)
    refine AOL.nil ?_
    refine AW.kq [2, 7, 56] (h := ?_)
    repeat refine AW.seq ?_
    cases p with
    | false =>
      refine AW.cond rfl (fun c_ => ?_) (fun c_ => ?_)
      · repeat refine AW.seq ?_
        refine AW.reg ?_
        iterate 4 refine AOL.s1 (h := ?_)
        refine AOL.nil ?_
        refine AW.kq [2, 3] (h := ?_)
        repeat refine AW.seq ?_
        refine AW.ret ?_
        refine ⟨_, [], rfl, HOk.nil _, ?_⟩
        rfl
      cases c_
    | true =>
      refine AW.cond rfl (fun c_ => ?_) (fun c_ => ?_)
      · cases c_
      refine AW.skip ?_
      repeat refine AW.seq ?_
      refine AW.reg ?_
      iterate 3 refine AOL.s1 (h := ?_)
      refine AOL.nil ?_
      refine AW.kq [2, 3] (h := ?_)
      repeat refine AW.seq ?_
      refine AW.ret ?_
      refine ⟨_, [], rfl, HOk.nil _, ?_⟩
      rfl
end Go.Proofs.Ytdbpjegocmdplaa.E.M
end
