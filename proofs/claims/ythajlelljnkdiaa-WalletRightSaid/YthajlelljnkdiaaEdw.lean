/- obolref07: the Edwards curve, by definition; obolref10: hashes of numbers: contracts over E. -/
import Derived.Test.YthajlelljnkdiaaRef1
import Derived.Test.YthajlelljnkdiaaProg
import Derived.KernelRfl
set_option linter.unusedVariables false
set_option linter.unusedSimpArgs false
set_option maxRecDepth 10000
open Go Go.Proofs.Ythajlelljnkdiaa.E Go.Proofs
namespace Go.Proofs.Ythajlelljnkdiaa.E.M
abbrev TFe : Prop := tSz Try.prog 25 = some 2 ∧
    tAgg Try.prog 25 = some true ∧
    tBytes Try.prog 25 = some 16 ∧
    tZero Try.prog 25 = some [(.int .u64 0), (.int .u64 0)] ∧
    tSlice Try.prog 25 = none ∧
    tIface Try.prog 25 = some false ∧
    tCls Try.prog 25 = .other ∧
    tField Try.prog 25 0 = some (0, 23) ∧
    tField Try.prog 25 1 = some (1, 23) ∧
    (∀ ps, aBuild Try.prog 25 ps = (aFill ([(0, 1), (1, 1)][·]?) [.val (.int .u64 0), .val (.int .u64 0)] ps).map .agg) ∧
    tSz Try.prog 23 = some 1 ∧
    tAgg Try.prog 23 = some false ∧
    tBytes Try.prog 23 = some 8 ∧
    tZero Try.prog 23 = some [(.int .u64 0)] ∧
    tSlice Try.prog 23 = none ∧
    tInt Try.prog 23 = some .u64 ∧
    Try.prog.underlying 23 = some (.int .u64) ∧
    tIface Try.prog 23 = some false ∧
    tCls Try.prog 23 = .other ∧
    tSz Try.prog 3 = some 1 ∧
    tAgg Try.prog 3 = some false ∧
    tBytes Try.prog 3 = some 8 ∧
    tZero Try.prog 3 = some [(.int .i64 0)] ∧
    tSlice Try.prog 3 = none ∧
    tInt Try.prog 3 = some .i64 ∧
    Try.prog.underlying 3 = some (.int .i64) ∧
    tIface Try.prog 3 = some false ∧
    tCls Try.prog 3 = .other ∧
    tSz Try.prog 4 = some 1 ∧
    tAgg Try.prog 4 = some false ∧
    tBytes Try.prog 4 = some 1 ∧
    tZero Try.prog 4 = some [(.bool false)] ∧
    tSlice Try.prog 4 = none ∧
    tIface Try.prog 4 = some false ∧
    tCls Try.prog 4 = .bool
theorem tfe : TFe :=
  ⟨rfl, rfl, rfl, rfl, rfl, rfl, rfl, rfl, rfl, fun _ => rfl, rfl, rfl, rfl, rfl, rfl, rfl, rfl, rfl, rfl, rfl, rfl, rfl, rfl, rfl, rfl, rfl, rfl, rfl, rfl, rfl, rfl, rfl, rfl, rfl, rfl⟩

theorem ipow_wm {m a e : Int} (hm : 0 < m ∧ m < 18446744073709551616) (ha : 0 ≤ a) (he : w64 e) : w64 (ipow m a e) := by
  rw [ipow_eq (by omega) ha he]
  have h1 := Int.emod_nonneg (a ^ e.toNat) (show m ≠ 0 by omega)
  have h2 := Int.emod_lt_of_pos (a ^ e.toNat) (show 0 < m by omega)
  omega
/-- a number below R -/
def lR (a : Int) : Prop := 0 ≤ a ∧ a < 288230376287764481
theorem lR.w {a : Int} (h : lR a) : w64 a := ⟨h.1, by have := h.2; omega⟩
theorem lR_m (a : Int) : lR (a % 288230376287764481) := ⟨Int.emod_nonneg _ (by decide), Int.emod_lt_of_pos _ (by decide)⟩
def rMul (a b : Int) : Int := a * b % 288230376287764481
def rAdd (a b : Int) : Int := (a + b) % 288230376287764481
def rSub (a b : Int) : Int := (a + (288230376287764481 - b % 288230376287764481)) % 288230376287764481
def rOver (a b : Int) : Int := rMul a (ipow 288230376287764481 b 288230376287764479)
theorem rMul_l (a b : Int) : lR (rMul a b) := lR_m _
theorem rAdd_l (a b : Int) : lR (rAdd a b) := lR_m _
theorem rSub_l (a b : Int) : lR (rSub a b) := lR_m _
theorem rOver_l (a b : Int) : lR (rOver a b) := lR_m _
theorem w_1 : w64 1 := by decide
theorem w_439 : w64 439 := by decide
theorem w_7 : w64 7 := by decide
theorem mR_ : (0:Int) < 288230376287764481 ∧ (288230376287764481:Int) < 18446744073709551616 := by decide
abbrev ed (p : Int × Int) : AV := .agg [u p.1, u p.2]
abbrev wE (p : Int × Int) : Prop := w64 p.1 ∧ w64 p.2
def isEd (p : Int × Int) : Bool :=
  if p.1 ≥ 288230376287764481 ∨ p.2 ≥ 288230376287764481 then false else
    decide (rMul p.2 p.2 = rAdd (rMul p.1 p.1) (rAdd 1 (rMul 439 (rMul (rMul p.1 p.1) (rMul p.2 p.2)))))
def sumKd (a b : Int × Int) : Int := rMul 439 (rMul (rMul a.1 b.1) (rMul a.2 b.2))
def sumEd (a b : Int × Int) : Int × Int :=
  (rOver (rAdd (rMul a.1 b.2) (rMul a.2 b.1)) (rAdd 1 (sumKd a b)), rOver (rAdd (rMul a.2 b.2) (rMul a.1 b.1)) (rSub 1 (sumKd a b)))
theorem sumEd_w (a b : Int × Int) : wE (sumEd a b) := ⟨(rOver_l _ _).w, (rOver_l _ _).w⟩
def dblEd (o : Int × Int) : Int × Int := if o.1 ≠ 0 ∨ o.2 ≠ 1 then sumEd o o else o
theorem dblEd_w {o : Int × Int} (h : wE o) : wE (dblEd o) := by
  unfold dblEd; split
  · exact sumEd_w _ _
  · exact h
def stepEd (a : Int × Int) (k : Int) (n : Nat) (o : Int × Int) : Int × Int := if k / 2 ^ n % 2 = 1 then sumEd (dblEd o) a else dblEd o
def tmEd (a : Int × Int) (k : Int) : Nat → Int × Int → Int × Int
  | 0, o => o
  | n + 1, o => tmEd a k n (stepEd a k n o)
theorem tmEd_succ (a : Int × Int) (k : Int) (n : Nat) (o : Int × Int) : tmEd a k (n + 1) o = tmEd a k n (stepEd a k n o) := rfl
def timesEd (a : Int × Int) (k : Int) : Int × Int := tmEd a k 64 (0, 1)
def inEd (p : Int × Int) : Bool := isEd p && decide (timesEd p 72057593894066549 = (0, 1))
set_option maxHeartbeats 1000000 in
theorem obolref07_Mul_c {a b : Int} (ha : w64 a) (hb : w64 b) : Fn Try.prog 38 [u a, u b] [] (fun r h_ => r = u (rMul a b)) := by
  refine Fn.enter Try.func38 Try.ntmps38 rfl (h := ?_)
  have tf := tfe
  have ot_ : (false || true) = true := rfl
  repeat refine AW.seq ?_
  refine AW.reg ?_
  iterate 1 refine AOL.s1 (h := ?_)
  refine AOL.nil ?_
  refine AW.kq [0, 1] (h := ?_)
  repeat refine AW.seq ?_
  refine AW.reg ?_
  iterate 2 refine AOL.s1 (h := ?_)
  refine AOL.callD rfl (obolref01_Mul_c mR_ ha hb) (by kernel_rfl) rfl rfl (h := ?_)
  iterate 1 refine AOL.s1 (h := ?_)
  refine AOL.nil ?_
  refine AW.kq [4] (h := ?_)
  repeat refine AW.seq ?_
  refine AW.ret ?_
  refine ⟨_, [], rfl, HOk.nil _, ?_⟩
  rfl
set_option maxHeartbeats 1000000 in
theorem obolref07_Plus_c {a b : Int} (ha : w64 a) (hb : w64 b) : Fn Try.prog 23 [u a, u b] [] (fun r h_ => r = u (rAdd a b)) := by
  refine Fn.enter Try.func23 Try.ntmps23 rfl (h := ?_)
  have tf := tfe
  have ot_ : (false || true) = true := rfl
  repeat refine AW.seq ?_
  refine AW.reg ?_
  iterate 1 refine AOL.s1 (h := ?_)
  refine AOL.nil ?_
  refine AW.kq [0, 1] (h := ?_)
  repeat refine AW.seq ?_
  refine AW.reg ?_
  iterate 2 refine AOL.s1 (h := ?_)
  refine AOL.callD rfl (obolref01_Add_c mR_ ha hb) (by kernel_rfl) rfl rfl (h := ?_)
  iterate 1 refine AOL.s1 (h := ?_)
  refine AOL.nil ?_
  refine AW.kq [4] (h := ?_)
  repeat refine AW.seq ?_
  refine AW.ret ?_
  refine ⟨_, [], rfl, HOk.nil _, ?_⟩
  rfl
set_option maxHeartbeats 1000000 in
theorem obolref07_Less_c {a b : Int} (ha : w64 a) (hb : w64 b) : Fn Try.prog 48 [u a, u b] [] (fun r h_ => r = u (rSub a b)) := by
  refine Fn.enter Try.func48 Try.ntmps48 rfl (h := ?_)
  have tf := tfe
  have ot_ : (false || true) = true := rfl
  have h5 := tmod_nn (m := 288230376287764481) hb.1
  have h6 := (lR_m b)
  have h7 : w64 (288230376287764481 - b % 288230376287764481) := by obtain ⟨h1, h2⟩ := h6; constructor <;> omega
  have h8 := wrapU_o h7.1 (by have := h7.2; omega)
  repeat refine AW.seq ?_
  refine AW.reg ?_
  iterate 1 refine AOL.s1 (h := ?_)
  refine AOL.nil ?_
  refine AW.kq [0, 1] (h := ?_)
  repeat refine AW.seq ?_
  refine AW.reg ?_
  iterate 3 refine AOL.s1 (h := ?_)
  refine AOL.nil ?_
  refine AW.kq [0, 5] (h := ?_)
  repeat refine AW.seq ?_
  refine AW.reg ?_
  iterate 3 refine AOL.s1 (h := ?_)
  refine AOL.callD rfl (obolref07_Plus_c ha h7) (by kernel_rfl) rfl rfl (h := ?_)
  iterate 1 refine AOL.s1 (h := ?_)
  refine AOL.nil ?_
  refine AW.kq [4] (h := ?_)
  repeat refine AW.seq ?_
  refine AW.ret ?_
  refine ⟨_, [], rfl, HOk.nil _, ?_⟩
  rfl
set_option maxHeartbeats 1000000 in
theorem obolref07_Over_c {a b : Int} (ha : w64 a) (hb : w64 b) : Fn Try.prog 47 [u a, u b] [] (fun r h_ => r = u (rOver a b)) := by
  refine Fn.enter Try.func47 Try.ntmps47 rfl (h := ?_)
  have tf := tfe
  have ot_ : (false || true) = true := rfl
  repeat refine AW.seq ?_
  refine AW.reg ?_
  iterate 1 refine AOL.s1 (h := ?_)
  refine AOL.nil ?_
  refine AW.kq [0, 1] (h := ?_)
  repeat refine AW.seq ?_
  refine AW.reg ?_
  iterate 2 refine AOL.s1 (h := ?_)
  refine AOL.callD rfl (obolref01_Pow_c mR_ hb (by decide)) (by kernel_rfl) rfl rfl (h := ?_)
  refine AOL.callD rfl (obolref07_Mul_c ha (ipow_wm mR_ hb.1 (by decide))) (by kernel_rfl) rfl rfl (h := ?_)
  iterate 1 refine AOL.s1 (h := ?_)
  refine AOL.nil ?_
  refine AW.kq [4] (h := ?_)
  repeat refine AW.seq ?_
  refine AW.ret ?_
  refine ⟨_, [], rfl, HOk.nil _, ?_⟩
  rfl
set_option maxHeartbeats 1000000 in
theorem obolref07_Is_c {p : Int × Int} (hp : wE p) : Fn Try.prog 31 [ed p] [] (fun r h_ => r = bo (isEd p)) := by
  refine Fn.enter Try.func31 Try.ntmps31 rfl (h := ?_)
  have tf := tfe
  have ot_ : (false || true) = true := rfl
  obtain ⟨x, y⟩ := p
  obtain ⟨hx, hy⟩ := hp
  unfold isEd
  simp only at hx hy ⊢
  have wx := (rMul_l x x).w
  have wy := (rMul_l y y).w
  repeat refine AW.seq ?_
  refine AW.reg ?_
  iterate 2 refine AOL.s1 (h := ?_)
  refine AOL.nil ?_
  refine AW.kq [1] (h := ?_)
  repeat refine AW.seq ?_
  refine AW.reg ?_
  iterate 4 refine AOL.s1 (h := ?_)
  refine AOL.kq [1, 8] (h := ?_)
  refine AOL.or 8 12 (os' := ?_) (x := ?_) (h1 := ?_) (h0 := ?_) (h := ?_)
  rotate_left 2
  iterate 2
    · intro hb_ K' hK; (iterate 4 refine AOL.s1 (h := ?_)); refine AOL.kq [1, 12] (h := ?_); exact hK
  refine AOL.nil ?_
  refine AW.kq [1, 12] (h := ?_)
  repeat refine AW.seq ?_
  refine AW.cond rfl (fun b_ => ?_) (fun b_ => ?_)
  · rw [if_pos (by simpa using b_)]
    repeat refine AW.seq ?_
    refine AW.reg ?_
    iterate 1 refine AOL.s1 (h := ?_)
    refine AOL.nil ?_
    refine AW.kq [2] (h := ?_)
    repeat refine AW.seq ?_
    refine AW.ret ?_
    refine ⟨_, [], rfl, HOk.nil _, ?_⟩
    rfl
  rw [if_neg (by simpa using b_)]
  refine AW.skip ?_
  repeat refine AW.seq ?_
  refine AW.reg ?_
  iterate 4 refine AOL.s1 (h := ?_)
  refine AOL.callD rfl (obolref07_Mul_c hx hx) (by kernel_rfl) rfl rfl (h := ?_)
  iterate 1 refine AOL.s1 (h := ?_)
  refine AOL.nil ?_
  refine AW.kq [1, 3] (h := ?_)
  repeat refine AW.seq ?_
  refine AW.reg ?_
  iterate 4 refine AOL.s1 (h := ?_)
  refine AOL.callD rfl (obolref07_Mul_c hy hy) (by kernel_rfl) rfl rfl (h := ?_)
  iterate 1 refine AOL.s1 (h := ?_)
  refine AOL.nil ?_
  refine AW.kq [3, 4] (h := ?_)
  repeat refine AW.seq ?_
  refine AW.reg ?_
  iterate 4 refine AOL.s1 (h := ?_)
  refine AOL.callD rfl (obolref07_Mul_c wx wy) (by kernel_rfl) rfl rfl (h := ?_)
  refine AOL.callD rfl (obolref07_Mul_c w_439 (rMul_l _ _).w) (by kernel_rfl) rfl rfl (h := ?_)
  refine AOL.callD rfl (obolref07_Plus_c w_1 (rMul_l _ _).w) (by kernel_rfl) rfl rfl (h := ?_)
  refine AOL.callD rfl (obolref07_Plus_c wx (rAdd_l _ _).w) (by kernel_rfl) rfl rfl (h := ?_)
  iterate 2 refine AOL.s1 (h := ?_)
  refine AOL.nil ?_
  refine AW.kq [2] (h := ?_)
  repeat refine AW.seq ?_
  refine AW.ret ?_
  refine ⟨_, [], rfl, HOk.nil _, ?_⟩
  rfl
set_option maxHeartbeats 1000000 in
theorem obolref07_Sum_c {a b : Int × Int} (ha : wE a) (hb : wE b) : Fn Try.prog 39 [ed a, ed b] [] (fun r h_ => r = ed (sumEd a b)) := by
  refine Fn.enter Try.func39 Try.ntmps39 rfl (h := ?_)
  have tf := tfe
  have ot_ : (false || true) = true := rfl
  obtain ⟨ax, ay⟩ := a
  obtain ⟨bx, by_⟩ := b
  obtain ⟨h1, h2⟩ := ha
  obtain ⟨h3, h4⟩ := hb
  simp only at h1 h2 h3 h4
  have wk : w64 (sumKd (ax, ay) (bx, by_)) := (rMul_l _ _).w
  have ek : rMul 439 (rMul (rMul ax bx) (rMul ay by_)) = sumKd (ax, ay) (bx, by_) := rfl
  repeat refine AW.seq ?_
  refine AW.reg ?_
  iterate 3 refine AOL.s1 (h := ?_)
  refine AOL.nil ?_
  refine AW.kq [2, 3, 4] (h := ?_)
  repeat refine AW.seq ?_
  refine AW.drw 9 [] (by kernel_rfl) (h := ?_)
  iterate 4 refine ADL.dm 1 (h := ?_)
  refine ADL.call rfl (obolref07_Mul_c h1 h3) (by kernel_rfl) rfl rfl (h := ?_)
  iterate 4 refine ADL.dm 1 (h := ?_)
  refine ADL.done hmix rfl rfl (hT := ?_)
  refine AOL.callD rfl (obolref07_Mul_c h2 h4) (by kernel_rfl) rfl rfl (h := ?_)
  refine AOL.callD rfl (obolref07_Mul_c (rMul_l _ _).w (rMul_l _ _).w) (by kernel_rfl) rfl rfl (h := ?_)
  refine AOL.callD rfl (obolref07_Mul_c w_439 (rMul_l _ _).w) (by kernel_rfl) rfl rfl (h := ?_)
  iterate 1 refine AOL.s1 (h := ?_)
  refine AOL.nil ?_
  refine AW.kq [2, 3, 4, 5] (h := ?_)
  repeat refine AW.seq ?_
  refine AW.drw 9 [] (by kernel_rfl) (h := ?_)
  iterate 4 refine ADL.dm 1 (h := ?_)
  refine ADL.call rfl (obolref07_Mul_c h1 h4) (by kernel_rfl) rfl rfl (h := ?_)
  iterate 4 refine ADL.dm 1 (h := ?_)
  refine ADL.done hmix rfl rfl (hT := ?_)
  refine AOL.callD rfl (obolref07_Mul_c h2 h3) (by kernel_rfl) rfl rfl (h := ?_)
  refine AOL.callD rfl (obolref07_Plus_c (rMul_l _ _).w (rMul_l _ _).w) (by kernel_rfl) rfl rfl (h := ?_)
  iterate 1 refine AOL.s1 (h := ?_)
  refine AOL.nil ?_
  refine AW.kq [2, 3, 4, 5, 6] (h := ?_)
  repeat refine AW.seq ?_
  refine AW.drw 9 [] (by kernel_rfl) (h := ?_)
  iterate 4 refine ADL.dm 1 (h := ?_)
  refine ADL.call rfl (obolref07_Mul_c h2 h4) (by kernel_rfl) rfl rfl (h := ?_)
  iterate 4 refine ADL.dm 1 (h := ?_)
  refine ADL.done hmix rfl rfl (hT := ?_)
  refine AOL.callD rfl (obolref07_Mul_c h1 h3) (by kernel_rfl) rfl rfl (h := ?_)
  refine AOL.callD rfl (obolref07_Plus_c (rMul_l _ _).w (rMul_l _ _).w) (by kernel_rfl) rfl rfl (h := ?_)
  iterate 1 refine AOL.s1 (h := ?_)
  refine AOL.nil ?_
  refine AW.kq [4, 5, 6, 7] (h := ?_)
  repeat refine AW.seq ?_
  refine AW.reg ?_
  iterate 2 refine AOL.s1 (h := ?_)
  refine AOL.callD rfl (obolref07_Plus_c w_1 (rMul_l _ _).w) (by kernel_rfl) rfl rfl (h := ?_)
  refine AOL.callD rfl (obolref07_Over_c (rAdd_l _ _).w (rAdd_l _ _).w) (by kernel_rfl) rfl rfl (h := ?_)
  iterate 2 refine AOL.s1 (h := ?_)
  refine AOL.callD rfl (obolref07_Less_c w_1 (rMul_l _ _).w) (by kernel_rfl) rfl rfl (h := ?_)
  refine AOL.callD rfl (obolref07_Over_c (rAdd_l _ _).w (rSub_l _ _).w) (by kernel_rfl) rfl rfl (h := ?_)
  iterate 2 refine AOL.s1 (h := ?_)
  refine AOL.nil ?_
  refine AW.kq [4] (h := ?_)
  repeat refine AW.seq ?_
  refine AW.ret ?_
  refine ⟨_, [], rfl, HOk.nil _, ?_⟩
  rfl
set_option maxHeartbeats 1000000 in
theorem obolref07_Times_c {a : Int × Int} {k : Int} (ha : wE a) (hk : w64 k) : Fn Try.prog 32 [ed a, u k] [] (fun r h_ => r = ed (timesEd a k)) := by
  refine Fn.enter Try.func32 Try.ntmps32 rfl (h := ?_)
  have tf := tfe
  have ot_ : (false || true) = true := rfl
  obtain ⟨ax, ay⟩ := a
  repeat refine AW.seq ?_
  refine AW.reg ?_
  iterate 2 refine AOL.s1 (h := ?_)
  refine AOL.nil ?_
  refine AW.kq [1, 2, 4] (h := ?_)
  repeat refine AW.seq ?_
  refine AW.reg ?_
  iterate 3 refine AOL.s1 (h := ?_)
  refine AOL.nil ?_
  refine AW.kq [1, 2, 4, 5] (h := ?_)
  repeat refine AW.seq ?_
  refine AW.reg ?_
  iterate 1 refine AOL.s1 (h := ?_)
  refine AOL.nil ?_
  refine AW.kq [1, 2, 4, 5, 6] (h := ?_)
  repeat refine AW.seq ?_
  refine AW.block ?_
  repeat refine AW.seq ?_
  refine AW.loopK [1, 2, 4, 5, 6] (fun n s => ∃ (j : Nat) (ox oy : Int), s = ⟨33, [(1, u k), (2, .ptr 1032 0), (4, .ptr 1064 0), (5, .ptr 1080 0), (6, i j)], [(1032, ⟨25, true, [u ax, u ay]⟩), (1064, ⟨25, true, [u 0, u 0]⟩), (1080, ⟨25, true, [u ox, u oy]⟩)]⟩ ∧ j + n = 64 ∧ wE (ox, oy) ∧ tmEd (ax, ay) k n (ox, oy) = timesEd (ax, ay) k) (64) ?_ ?_
  · exact ⟨0, 0, 1, rfl, rfl, ⟨by decide, by decide⟩, rfl⟩
  rintro n s ⟨j, ox, oy, rfl, hj, ho, ht⟩
  repeat refine AW.seq ?_
  refine AW.reg ?_
  iterate 2 refine AOL.s1 (h := ?_)
  refine AOL.nil ?_
  refine AW.kq [1, 2, 4, 5, 6, 9] (h := ?_)
  repeat refine AW.seq ?_
  refine AW.cond rfl (fun c_ => ?_) (fun c_ => ?_)
  · have j1 : j < 64 := by simp at c_; omega
    obtain ⟨n, rfl⟩ : ∃ m, n = m + 1 := ⟨n - 1, by omega⟩
    have hn : 63 - j = n := by omega
    have k1 : IntKind.i64.wrap (63 - (j : Int)) = (n : Int) := by rw [wrapI_o (by omega) (by omega)]; omega
    have k2 : IntKind.i64.wrap ((j : Int) + 1) = ((j + 1 : Nat) : Int) := by rw [wrapI_o (by omega) (by omega)]; omega
    have k3 : ¬ (n : Int) < 0 := by omega
    obtain ⟨sh1, sh2⟩ := shr_b (y := k) (k := n) hk (by omega)
    have sh3 := and_one sh2.1 sh2.2
    rw [tmEd_succ] at ht
    have hd := dblEd_w ho
    have hs := sumEd_w (ox, oy) (ox, oy)
    refine AW.skip ?_
    repeat refine AW.seq ?_
    refine AW.block ?_
    repeat refine AW.seq ?_
    refine AW.reg ?_
    iterate 4 refine AOL.s1 (h := ?_)
    refine AOL.kq [1, 2, 4, 5, 6, 15] (h := ?_)
    refine AOL.or 15 19 (os' := ?_) (x := ?_) (h1 := ?_) (h0 := ?_) (h := ?_)
    rotate_left 2
    iterate 2
      · intro hb_ K' hK; (iterate 4 refine AOL.s1 (h := ?_)); refine AOL.kq [1, 2, 4, 5, 6, 19] (h := ?_); exact hK
    refine AOL.nil ?_
    refine AW.kq [1, 2, 4, 5, 6, 19] (h := ?_)
    repeat refine AW.seq ?_
    refine AW.midK [1, 2, 4, 5, 6] (fun t => ∃ (px py : Int), t = ⟨33, [(1, u k), (2, .ptr 1032 0), (4, .ptr 1064 0), (5, .ptr 1080 0), (6, i j)], [(1032, ⟨25, true, [u ax, u ay]⟩), (1064, ⟨25, true, [u 0, u 0]⟩), (1080, ⟨25, true, [u px, u py]⟩)]⟩ ∧ dblEd (ox, oy) = (px, py)) ?_ ?_
    · refine AW.cond rfl (fun d_ => ?_) (fun d_ => ?_)
      · have e1 : dblEd (ox, oy) = sumEd (ox, oy) (ox, oy) := if_pos (by simpa using d_)
        repeat refine AW.seq ?_
        refine AW.reg ?_
        iterate 2 refine AOL.s1 (h := ?_)
        refine AOL.callD rfl (obolref07_Sum_c ho ho) (by kernel_rfl) rfl rfl (h := ?_)
        iterate 1 refine AOL.s1 (h := ?_)
        refine AOL.nil ?_
        exact ⟨_, _, rfl, e1⟩
      · have e1 : dblEd (ox, oy) = (ox, oy) := if_neg (by simpa using d_)
        refine AW.skip ?_
        exact ⟨_, _, rfl, e1⟩
    rintro t ⟨px, py, rfl, hq⟩
    rw [hq] at hd
    have ss := sumEd_w (px, py) (ax, ay)
    have e2 : stepEd (ax, ay) k n (ox, oy) = if k / 2 ^ n % 2 = 1 then sumEd (px, py) (ax, ay) else (px, py) := by unfold stepEd; rw [hq]
    rw [e2] at ht
    clear e2 hq
    repeat refine AW.seq ?_
    refine AW.reg ?_
    iterate 6 refine AOL.s1 (h := ?_)
    refine AOL.nil ?_
    refine AW.kq [1, 2, 4, 5, 6, 28] (h := ?_)
    repeat refine AW.seq ?_
    refine AW.cond rfl (fun f_ => ?_) (fun f_ => ?_)
    · rw [if_pos (by simpa using f_)] at ht
      clear f_ sh1 sh2 sh3
      repeat refine AW.seq ?_
      refine AW.reg ?_
      iterate 2 refine AOL.s1 (h := ?_)
      refine AOL.callD rfl (obolref07_Sum_c hd ha) (by kernel_rfl) rfl rfl (h := ?_)
      iterate 1 refine AOL.s1 (h := ?_)
      refine AOL.nil ?_
      repeat refine AW.seq ?_
      refine AW.reg ?_
      iterate 3 refine AOL.s1 (h := ?_)
      refine AOL.nil ?_
      exact ⟨n, by omega, j + 1, _, _, rfl, by omega, ss, ht⟩
    · rw [if_neg (by simpa using f_)] at ht
      clear f_ sh1 sh2 sh3
      refine AW.skip ?_
      repeat refine AW.seq ?_
      refine AW.reg ?_
      iterate 3 refine AOL.s1 (h := ?_)
      refine AOL.nil ?_
      exact ⟨n, by omega, j + 1, _, _, rfl, by omega, hd, ht⟩
  · have j1 : j = 64 := by simp at c_; omega
    have n0 : n = 0 := by omega
    subst n0
    have ht' : timesEd (ax, ay) k = (ox, oy) := ht.symm
    rw [ht']
    clear ht ht'
    repeat refine AW.seq ?_
    refine AW.exit ?_
    repeat (first | refine Kseq.ex ?_ | refine Kloop.ex ?_ | refine Kblock.miss (by decide) ?_)
    refine Kblock.hit ?_
    refine AW.kq [4, 5] (h := ?_)
    repeat refine AW.seq ?_
    refine AW.reg ?_
    iterate 2 refine AOL.s1 (h := ?_)
    refine AOL.nil ?_
    refine AW.kq [4] (h := ?_)
    repeat refine AW.seq ?_
    refine AW.ret ?_
    refine ⟨_, [], rfl, HOk.nil _, ?_⟩
    rfl
end Go.Proofs.Ythajlelljnkdiaa.E.M

