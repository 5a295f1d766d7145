/- The field of P^2 elements: contracts over E. -/
import Derived.Test.YtibmidoepeghpaaCurE
import Derived.Test.YtibmidoepeghpaaProg
import Derived.KernelRfl
set_option linter.unusedVariables false
set_option linter.unusedSimpArgs false
set_option maxRecDepth 10000
open Go Go.Proofs.Ytibmidoepeghpaa.E Go.Proofs
namespace Go.Proofs.Ytibmidoepeghpaa.E.M
abbrev TFE : Prop := tSz Try.prog 48 = some 2 ∧
    tAgg Try.prog 48 = some true ∧
    tBytes Try.prog 48 = some 16 ∧
    tZero Try.prog 48 = some [(.int .u64 0), (.int .u64 0)] ∧
    tSlice Try.prog 48 = none ∧
    tArray Try.prog 48 = some (2, 22) ∧
    Try.prog.underlying 48 = some (.array 2 22) ∧
    tIface Try.prog 48 = some false ∧
    tCls Try.prog 48 = .other ∧
    (∀ ps, aBuild Try.prog 48 ps = (aFill (fun i => some (i * 1, 1)) [.val (.int .u64 0), .val (.int .u64 0)] ps).map .agg) ∧
    tSz Try.prog 56 = some 1 ∧
    tAgg Try.prog 56 = some false ∧
    tBytes Try.prog 56 = some 24 ∧
    tZero Try.prog 56 = some [(.slice none 0 0)] ∧
    tSlice Try.prog 56 = some 24 ∧
    Try.prog.underlying 56 = some (.slice 24) ∧
    tIface Try.prog 56 = some false ∧
    tCls Try.prog 56 = .slice
theorem tfe : TFE :=
  ⟨rfl, rfl, rfl, rfl, rfl, rfl, rfl, rfl, rfl, fun _ => rfl, rfl, rfl, rfl, rfl, rfl, rfl, rfl, rfl⟩

abbrev ee (a : Int × Int) : AV := .agg [u a.1, u a.2]
theorem eqE : eqT Try.prog 48 = some [.int, .int] := eqT_of (by kernel_rfl) (by kernel_rfl) (by kernel_rfl)
theorem eqPt : eqT Try.prog 24 = some [.bool, .int, .int] := eqT_of (by kernel_rfl) (by kernel_rfl) (by kernel_rfl)
def mulE (a b : Int × Int) : Int × Int := ((a.1 * b.1 - a.2 * b.2) % 1152921505151057923, (a.1 * b.2 + a.2 * b.1) % 1152921505151057923)
def conjE (a : Int × Int) : Int × Int := (a.1 % 1152921505151057923, (0 - a.2) % 1152921505151057923)
def normE (a : Int × Int) : Int := ipow 1152921505151057923 ((a.1 * a.1 % 1152921505151057923 + a.2 * a.2 % 1152921505151057923) % 1152921505151057923) 1152921505151057921
def invE (a : Int × Int) : Int × Int := ((conjE a).1 * normE a % 1152921505151057923, (conjE a).2 * normE a % 1152921505151057923)
abbrev wE (a : Int × Int) : Prop := w64 a.1 ∧ w64 a.2
theorem ltE {a : Int × Int} (h : lt a.1 ∧ lt a.2) : wE a := ⟨h.1.w, h.2.w⟩
theorem mulE_lt (a b : Int × Int) : lt (mulE a b).1 ∧ lt (mulE a b).2 := ⟨ltm _, ltm _⟩
theorem conjE_lt (a : Int × Int) : lt (conjE a).1 ∧ lt (conjE a).2 := ⟨ltm _, ltm _⟩
theorem invE_lt (a : Int × Int) : lt (invE a).1 ∧ lt (invE a).2 := ⟨ltm _, ltm _⟩
theorem mul_1 (a b c d : Int) : (a * b % 1152921505151057923 - c * d % 1152921505151057923) % 1152921505151057923 = (a * b - c * d) % 1152921505151057923 := by rw [← Int.sub_emod]
theorem kara {n : Nat} [NeZero n] (a b c d : Fin n) : (a + b) * (c + d) - (a * c + b * d) = a * d + b * c := by grind
theorem mul_2 (a0 a1 b0 b1 : Int) : ((a0 + a1) % 1152921505151057923 * ((b0 + b1) % 1152921505151057923) % 1152921505151057923 - (a0 * b0 % 1152921505151057923 + a1 * b1 % 1152921505151057923) % 1152921505151057923) % 1152921505151057923 = (a0 * b1 + a1 * b0) % 1152921505151057923 := by
  refine emodP ?_; simp only [K_sub, K_mul, K_add, K_emod]; exact kara _ _ _ _
theorem mul_3 (a b c d : Int) : (a * b % 1152921505151057923 + c * d % 1152921505151057923) % 1152921505151057923 = (a * b + c * d) % 1152921505151057923 := by rw [← Int.add_emod]
theorem mul_4 (a b c d : Int) : (a * b % 1152921505151057923 + -(c * d % 1152921505151057923) % 1152921505151057923) % 1152921505151057923 = (a * b - c * d) % 1152921505151057923 := by rw [less_eq, mul_1]
theorem idx0 : (0:Int) ≤ 0 := by decide
set_option maxHeartbeats 1000000 in
theorem ext_Mul_c {a0 a1 b0 b1 : Int} (h0 : w64 a0) (h1 : w64 a1) (h2 : w64 b0) (h3 : w64 b1) : Fn Try.prog 57 [ee (a0, a1), ee (b0, b1)] [] (fun r _ => r = ee (mulE (a0, a1) (b0, b1))) := by
  have i0 : (0:Int) < 2 := by decide
  have i1 : (1:Int) < 2 := by decide
  have i2 : (0:Int) ≤ 1 := by decide
  have i3 : (0:Int) ≤ 0 := by decide
  have i4 : Int.toNat 1 = 1 := rfl
  refine Fn.enter Try.func57 Try.ntmps57 rfl (h := ?_)
  have tf := tf
  have tfe := tfe
  repeat refine AW.seq ?_
  refine AW.reg ?_
  iterate 3 refine AOL.s1 (h := ?_)
  refine AOL.nil ?_
  refine AW.kq [2, 3, 4] (h := ?_)
  repeat refine AW.seq ?_
  refine AW.drw 9 [] (by kernel_rfl) (h := ?_)
  iterate 4 refine ADL.dm 1 (h := ?_)
  refine ADL.call rfl (modular_Mul_c mdP h0 h2) (by kernel_rfl) rfl rfl (h := ?_)
  iterate 4 refine ADL.dm 1 (h := ?_)
  refine ADL.done hmix rfl rfl (hT := ?_)
  refine AOL.callD rfl (modular_Mul_c mdP h1 h3) (by kernel_rfl) rfl rfl (h := ?_)
  iterate 2 refine AOL.s1 (h := ?_)
  refine AOL.nil ?_
  refine AW.kq [2, 3, 4, 5, 6] (h := ?_)
  repeat refine AW.seq ?_
  refine AW.drw 9 [] (by kernel_rfl) (h := ?_)
  iterate 4 refine ADL.dm 1 (h := ?_)
  refine ADL.call rfl (modular_Add_c mdP h0 h1) (by kernel_rfl) rfl rfl (h := ?_)
  iterate 4 refine ADL.dm 1 (h := ?_)
  refine ADL.done hmix rfl rfl (hT := ?_)
  refine AOL.callD rfl (modular_Add_c mdP h2 h3) (by kernel_rfl) rfl rfl (h := ?_)
  refine AOL.callD rfl (modular_Mul_c mdP (ltm _).w (ltm _).w) (by kernel_rfl) rfl rfl (h := ?_)
  iterate 1 refine AOL.s1 (h := ?_)
  refine AOL.nil ?_
  refine AW.kq [4, 5, 6, 7] (h := ?_)
  have e1 := mul_1 a0 b0 a1 b1
  have e2 := mul_2 a0 a1 b0 b1
  repeat refine AW.seq ?_
  refine AW.reg ?_
  iterate 2 refine AOL.s1 (h := ?_)
  refine AOL.callD rfl (modular_Sub_c mdP (ltm _).w (ltm _).w) (by kernel_rfl) rfl rfl (h := ?_)
  iterate 3 refine AOL.s1 (h := ?_)
  refine AOL.callD rfl (modular_Add_c mdP (ltm _).w (ltm _).w) (by kernel_rfl) rfl rfl (h := ?_)
  refine AOL.callD rfl (modular_Sub_c mdP (ltm _).w (ltm _).w) (by kernel_rfl) rfl rfl (h := ?_)
  iterate 2 refine AOL.s1 (h := ?_)
  refine AOL.nil ?_
  refine AW.kq [4] (h := ?_)
  repeat refine AW.seq ?_
  refine AW.ret ?_
  refine ⟨_, [], rfl, HOk.nil _, ?_⟩
  rfl
theorem ext_Conj_c {a0 a1 : Int} (h0 : w64 a0) (h1 : w64 a1) : Fn Try.prog 58 [ee (a0, a1)] [] (fun r _ => r = ee (conjE (a0, a1))) := by
  have i0 : (0:Int) < 2 := by decide
  have i1 : (1:Int) < 2 := by decide
  have i2 : (0:Int) ≤ 1 := by decide
  have i3 : (0:Int) ≤ 0 := by decide
  have i4 : Int.toNat 1 = 1 := rfl
  have h5 := tmod_nn (m := 1152921505151057923) h0.1
  refine Fn.enter Try.func58 Try.ntmps58 rfl (h := ?_)
  have tf := tf
  have tfe := tfe
  repeat refine AW.seq ?_
  refine AW.reg ?_
  iterate 2 refine AOL.s1 (h := ?_)
  refine AOL.nil ?_
  refine AW.kq [1, 2] (h := ?_)
  repeat refine AW.seq ?_
  refine AW.drw 6 [] (by kernel_rfl) (h := ?_)
  iterate 5 refine ADL.dm 1 (h := ?_)
  refine ADL.call rfl (modular_Sub_c mdP (by decide) h1) (by kernel_rfl) rfl rfl (h := ?_)
  refine ADL.done hmix rfl rfl (hT := ?_)
  iterate 2 refine AOL.s1 (h := ?_)
  refine AOL.nil ?_
  refine AW.kq [2] (h := ?_)
  repeat refine AW.seq ?_
  refine AW.ret ?_
  refine ⟨_, [], rfl, HOk.nil _, ?_⟩
  rfl
set_option maxHeartbeats 1000000 in
theorem ext_Inv_c {a0 a1 : Int} (h0 : w64 a0) (h1 : w64 a1) : Fn Try.prog 59 [ee (a0, a1)] [] (fun r _ => r = ee (invE (a0, a1))) := by
  have i0 : (0:Int) < 2 := by decide
  have i1 : (1:Int) < 2 := by decide
  have i2 : (0:Int) ≤ 1 := by decide
  have i3 : (0:Int) ≤ 0 := by decide
  have i4 : Int.toNat 1 = 1 := rfl
  have cc := ext_Conj_c h0 h1
  have lc := conjE_lt (a0, a1)
  have en : invE (a0, a1) = ((conjE (a0, a1)).1 * normE (a0, a1) % 1152921505151057923, (conjE (a0, a1)).2 * normE (a0, a1) % 1152921505151057923) := rfl
  have cn := modular_Pow_c (m := 1152921505151057923) (a := (a0 * a0 % 1152921505151057923 + a1 * a1 % 1152921505151057923) % 1152921505151057923) (e := 1152921505151057921) mdP (ltm _).w (by decide)
  rw [show ipow 1152921505151057923 ((a0 * a0 % 1152921505151057923 + a1 * a1 % 1152921505151057923) % 1152921505151057923) 1152921505151057921 = normE (a0, a1) from rfl] at cn
  have ln : lt (normE (a0, a1)) := by
    unfold normE
    rw [ipow_eq (by decide) (ltm _).1 (by decide)]; exact ltm _
  rw [en]
  clear en
  generalize conjE (a0, a1) = c at *
  generalize normE (a0, a1) = n at *
  refine Fn.enter Try.func59 Try.ntmps59 rfl (h := ?_)
  have tf := tf
  have tfe := tfe
  repeat refine AW.seq ?_
  refine AW.reg ?_
  iterate 2 refine AOL.s1 (h := ?_)
  refine AOL.nil ?_
  refine AW.kq [1, 2] (h := ?_)
  repeat refine AW.seq ?_
  refine AW.drw 9 [] (by kernel_rfl) (h := ?_)
  iterate 4 refine ADL.dm 1 (h := ?_)
  refine ADL.call rfl (modular_Mul_c mdP h0 h0) (by kernel_rfl) rfl rfl (h := ?_)
  iterate 4 refine ADL.dm 1 (h := ?_)
  refine ADL.done hmix rfl rfl (hT := ?_)
  refine AOL.callD rfl (modular_Mul_c mdP h1 h1) (by kernel_rfl) rfl rfl (h := ?_)
  refine AOL.callD rfl (modular_Add_c mdP (ltm _).w (ltm _).w) (by kernel_rfl) rfl rfl (h := ?_)
  iterate 1 refine AOL.s1 (h := ?_)
  refine AOL.nil ?_
  refine AW.kq [1, 2, 3] (h := ?_)
  repeat refine AW.seq ?_
  refine AW.reg ?_
  iterate 1 refine AOL.s1 (h := ?_)
  refine AOL.callD rfl (cn) (by kernel_rfl) rfl rfl (h := ?_)
  iterate 1 refine AOL.s1 (h := ?_)
  refine AOL.nil ?_
  refine AW.kq [1, 2, 3] (h := ?_)
  repeat refine AW.seq ?_
  refine AW.reg ?_
  iterate 1 refine AOL.s1 (h := ?_)
  refine AOL.callD rfl (cc) (by kernel_rfl) rfl rfl (h := ?_)
  iterate 2 refine AOL.s1 (h := ?_)
  refine AOL.nil ?_
  refine AW.kq [2, 3, 4] (h := ?_)
  repeat refine AW.seq ?_
  refine AW.drw 7 [] (by kernel_rfl) (h := ?_)
  iterate 3 refine ADL.dm 1 (h := ?_)
  refine ADL.call rfl (modular_Mul_c mdP lc.1.w ln.w) (by kernel_rfl) rfl rfl (h := ?_)
  iterate 3 refine ADL.dm 1 (h := ?_)
  refine ADL.done hmix rfl rfl (hT := ?_)
  refine AOL.callD rfl (modular_Mul_c mdP lc.2.w ln.w) (by kernel_rfl) rfl rfl (h := ?_)
  iterate 2 refine AOL.s1 (h := ?_)
  refine AOL.nil ?_
  refine AW.kq [2] (h := ?_)
  repeat refine AW.seq ?_
  refine AW.ret ?_
  refine ⟨_, [], rfl, HOk.nil _, ?_⟩
  rfl
set_option maxHeartbeats 1000000 in
theorem obolref02_Mul_c {a0 a1 b0 b1 : Int} (h0 : w64 a0) (h1 : w64 a1) (h2 : w64 b0) (h3 : w64 b1) : Fn Try.prog 35 [ee (a0, a1), ee (b0, b1)] [] (fun r _ => r = ee (mulE (a0, a1) (b0, b1))) := by
  have i0 : (0:Int) < 2 := by decide
  have i1 : (1:Int) < 2 := by decide
  have i2 : (0:Int) ≤ 1 := by decide
  have i3 : (0:Int) ≤ 0 := by decide
  have i4 : Int.toNat 1 = 1 := rfl
  have mp : (0:Int) < 1152921505151057923 ∧ (1152921505151057923:Int) < 18446744073709551616 := ⟨by decide, by decide⟩
  have e1 := mul_4 a0 b0 a1 b1
  have e2 := mul_3 a0 b1 a1 b0
  refine Fn.enter Try.func35 Try.ntmps35 rfl (h := ?_)
  have tf := tf
  have tfe := tfe
  repeat refine AW.seq ?_
  refine AW.reg ?_
  iterate 3 refine AOL.s1 (h := ?_)
  refine AOL.nil ?_
  refine AW.kq [2, 3, 4] (h := ?_)
  repeat refine AW.seq ?_
  refine AW.reg ?_
  iterate 4 refine AOL.s1 (h := ?_)
  refine AOL.callD rfl (obolref01_Mul_c mp h0 h2) (by kernel_rfl) rfl rfl (h := ?_)
  iterate 1 refine AOL.s1 (h := ?_)
  refine AOL.nil ?_
  refine AW.kq [2, 3, 4, 5] (h := ?_)
  repeat refine AW.seq ?_
  refine AW.reg ?_
  iterate 4 refine AOL.s1 (h := ?_)
  refine AOL.callD rfl (obolref01_Mul_c mp h1 h3) (by kernel_rfl) rfl rfl (h := ?_)
  iterate 1 refine AOL.s1 (h := ?_)
  refine AOL.nil ?_
  refine AW.kq [2, 3, 4, 5, 6] (h := ?_)
  repeat refine AW.seq ?_
  refine AW.reg ?_
  iterate 4 refine AOL.s1 (h := ?_)
  refine AOL.callD rfl (obolref01_Mul_c mp h0 h3) (by kernel_rfl) rfl rfl (h := ?_)
  iterate 1 refine AOL.s1 (h := ?_)
  refine AOL.nil ?_
  refine AW.kq [2, 3, 4, 5, 6, 7] (h := ?_)
  repeat refine AW.seq ?_
  refine AW.reg ?_
  iterate 4 refine AOL.s1 (h := ?_)
  refine AOL.callD rfl (obolref01_Mul_c mp h1 h2) (by kernel_rfl) rfl rfl (h := ?_)
  iterate 1 refine AOL.s1 (h := ?_)
  refine AOL.nil ?_
  refine AW.kq [4, 5, 6, 7, 8] (h := ?_)
  repeat refine AW.seq ?_
  refine AW.reg ?_
  iterate 2 refine AOL.s1 (h := ?_)
  refine AOL.callD rfl (obolref02_Neg_c (ltm _).w) (by kernel_rfl) rfl rfl (h := ?_)
  refine AOL.callD rfl (obolref01_Add_c mp (ltm _).w (ltm _).w) (by kernel_rfl) rfl rfl (h := ?_)
  iterate 2 refine AOL.s1 (h := ?_)
  refine AOL.callD rfl (obolref01_Add_c mp (ltm _).w (ltm _).w) (by kernel_rfl) rfl rfl (h := ?_)
  iterate 2 refine AOL.s1 (h := ?_)
  refine AOL.nil ?_
  refine AW.kq [4] (h := ?_)
  repeat refine AW.seq ?_
  refine AW.ret ?_
  refine ⟨_, [], rfl, HOk.nil _, ?_⟩
  rfl
def stepE (a : Int × Int) (e : Int) (i : Nat) (o : Int × Int) : Int × Int := if e / 2 ^ i % 2 = 1 then mulE (mulE o o) a else mulE o o
def pw (a : Int × Int) (e : Int) : Nat → Int × Int → Int × Int
  | 0, o => o
  | i + 1, o => pw a e i (stepE a e i o)
/-- a power, from the highest bit on -/
def powE (a : Int × Int) (e : Int) : Int × Int := pw a e 64 (1, 0)
theorem stepE_lt (a : Int × Int) (e : Int) (i : Nat) (o : Int × Int) : lt (stepE a e i o).1 ∧ lt (stepE a e i o).2 := by unfold stepE; split <;> exact mulE_lt _ _
theorem pw_lt (a : Int × Int) (e : Int) : ∀ (i : Nat) (o : Int × Int), lt o.1 ∧ lt o.2 → lt (pw a e i o).1 ∧ lt (pw a e i o).2
  | 0, o, h => h
  | i + 1, o, _ => pw_lt a e i _ (stepE_lt a e i o)
theorem one_lt : lt ((1, 0) : Int × Int).1 ∧ lt ((1, 0) : Int × Int).2 := ⟨⟨by decide, by decide⟩, ⟨by decide, by decide⟩⟩
theorem powE_lt (a : Int × Int) (e : Int) : lt (powE a e).1 ∧ lt (powE a e).2 := pw_lt a e 64 _ one_lt
set_option maxHeartbeats 1000000 in
theorem obolref02_Pow_c {a0 a1 e : Int} (h0 : w64 a0) (h1 : w64 a1) (he : w64 e) : Fn Try.prog 34 [ee (a0, a1), u e] [] (fun r _ => r = ee (powE (a0, a1) e)) := by
  refine Fn.enter Try.func34 Try.ntmps34 rfl (h := ?_)
  have tf := tf
  have tfe := tfe
  repeat refine AW.seq ?_
  refine AW.reg ?_
  iterate 2 refine AOL.s1 (h := ?_)
  refine AOL.nil ?_
  refine AW.kq [1, 2, 4] (h := ?_)
  repeat refine AW.seq ?_
  refine AW.reg ?_
  iterate 3 refine AOL.s1 (h := ?_)
  refine AOL.nil ?_
  refine AW.kq [1, 2, 4, 5] (h := ?_)
  repeat refine AW.seq ?_
  refine AW.reg ?_
  iterate 1 refine AOL.s1 (h := ?_)
  refine AOL.nil ?_
  refine AW.kq [1, 2, 4, 5, 6] (h := ?_)
  repeat refine AW.seq ?_
  refine AW.block ?_
  repeat refine AW.seq ?_
  refine AW.loopK [1, 2, 4, 5, 6] (fun n s => ∃ (j : Nat) (o0 o1 : Int), s = ⟨25, [(1, u e), (2, .ptr 1032 0), (4, .ptr 1064 0), (5, .ptr 1080 0), (6, i j)], [(1032, ⟨48, true, [u a0, u a1]⟩), (1064, ⟨48, true, [u 0, u 0]⟩), (1080, ⟨48, true, [u o0, u o1]⟩)]⟩ ∧ j + n = 64 ∧ (lt o0 ∧ lt o1) ∧ pw (a0, a1) e n (o0, o1) = powE (a0, a1) e) 64 ?_ ?_
  · exact ⟨0, 1, 0, rfl, rfl, one_lt, rfl⟩
  rintro n s ⟨j, o0, o1, rfl, hj, ho, ht⟩
  repeat refine AW.seq ?_
  refine AW.reg ?_
  iterate 2 refine AOL.s1 (h := ?_)
  refine AOL.nil ?_
  refine AW.kq [1, 2, 4, 5, 6, 9] (h := ?_)
  repeat refine AW.seq ?_
  refine AW.cond rfl (fun c_ => ?_) (fun c_ => ?_)
  · have j1 : j < 64 := by simp at c_; omega
    obtain ⟨n, rfl⟩ : ∃ m, n = m + 1 := ⟨n - 1, by omega⟩
    have k1 : IntKind.i64.wrap (63 - (j : Int)) = (n : Int) := by rw [wrapI_o (by omega) (by omega)]; omega
    have k2 : IntKind.i64.wrap ((j : Int) + 1) = ((j + 1 : Nat) : Int) := by rw [wrapI_o (by omega) (by omega)]; omega
    have k3 : ¬ (n : Int) < 0 := by omega
    obtain ⟨sh1, sh2⟩ := shr_b (y := e) (k := n) he (by omega)
    have sh3 := and_one sh2.1 sh2.2
    have c2 := obolref02_Mul_c ho.1.w ho.2.w ho.1.w ho.2.w
    have p2 := mulE_lt (o0, o1) (o0, o1)
    have ht : pw (a0, a1) e n (if e / 2 ^ n % 2 = 1 then mulE (mulE (o0, o1) (o0, o1)) (a0, a1) else mulE (o0, o1) (o0, o1)) = powE (a0, a1) e := ht
    generalize mulE (o0, o1) (o0, o1) = T at *
    obtain ⟨t0, t1⟩ := T
    refine AW.skip ?_
    repeat refine AW.seq ?_
    refine AW.block ?_
    repeat refine AW.seq ?_
    refine AW.reg ?_
    iterate 2 refine AOL.s1 (h := ?_)
    refine AOL.callD rfl (c2) (by kernel_rfl) rfl rfl (h := ?_)
    iterate 1 refine AOL.s1 (h := ?_)
    refine AOL.nil ?_
    refine AW.kq [1, 2, 4, 5, 6] (h := ?_)
    repeat refine AW.seq ?_
    refine AW.reg ?_
    iterate 6 refine AOL.s1 (h := ?_)
    refine AOL.nil ?_
    refine AW.kq [1, 2, 4, 5, 6, 20] (h := ?_)
    repeat refine AW.seq ?_
    refine AW.cond rfl (fun f_ => ?_) (fun f_ => ?_)
    · have f1 : e / 2 ^ n % 2 = 1 := by simpa using f_
      rw [if_pos f1] at ht
      have c3 := obolref02_Mul_c p2.1.w p2.2.w h0 h1
      have p3 := mulE_lt (t0, t1) (a0, a1)
      generalize mulE (t0, t1) (a0, a1) = U at *
      obtain ⟨u0, u1⟩ := U
      clear f1 f_ sh1 sh2 sh3 c2
      repeat refine AW.seq ?_
      refine AW.reg ?_
      iterate 2 refine AOL.s1 (h := ?_)
      refine AOL.callD rfl (c3) (by kernel_rfl) rfl rfl (h := ?_)
      iterate 1 refine AOL.s1 (h := ?_)
      refine AOL.nil ?_
      repeat refine AW.seq ?_
      refine AW.reg ?_
      iterate 3 refine AOL.s1 (h := ?_)
      refine AOL.nil ?_
      exact ⟨n, by omega, j + 1, _, _, rfl, by omega, p3, ht⟩
    · have f1 : ¬ e / 2 ^ n % 2 = 1 := by simpa using f_
      rw [if_neg f1] at ht
      clear f1 f_ sh1 sh2 sh3 c2
      refine AW.skip ?_
      repeat refine AW.seq ?_
      refine AW.reg ?_
      iterate 3 refine AOL.s1 (h := ?_)
      refine AOL.nil ?_
      exact ⟨n, by omega, j + 1, _, _, rfl, by omega, p2, ht⟩
  have j1 : j = 64 := by simp at c_; omega
  have n0 : n = 0 := by omega
  subst n0
  have ht' : powE (a0, a1) e = (o0, o1) := ht.symm
  rw [ht']
  clear ht ht'
  repeat refine AW.seq ?_
  refine AW.exit ?_
  repeat (first | refine Kseq.ex ?_ | refine Kloop.ex ?_ | refine Kblock.miss (by decide) ?_)
  refine Kblock.hit ?_
  refine AW.kq [4, 5] (h := ?_)
  repeat refine AW.seq ?_
  refine AW.reg ?_
  iterate 2 refine AOL.s1 (h := ?_)
  refine AOL.nil ?_
  refine AW.kq [4] (h := ?_)
  repeat refine AW.seq ?_
  refine AW.ret ?_
  refine ⟨_, [], rfl, HOk.nil _, ?_⟩
  rfl
end Go.Proofs.Ytibmidoepeghpaa.E.M

