/- The field of P^2 elements: contracts over E. -/
import Derived.Test.YtdbpjegocmdplaaCurE
import Derived.Test.YtdbpjegocmdplaaProg
import Derived.KernelRfl
set_option linter.unusedVariables false
set_option linter.unusedSimpArgs false
set_option maxRecDepth 10000
open Go Go.Proofs.Ytdbpjegocmdplaa.E Go.Proofs
namespace Go.Proofs.Ytdbpjegocmdplaa.E.M
abbrev TFE : Prop := tSz Try.prog 80 = some 2 ∧
    tAgg Try.prog 80 = some true ∧
    tBytes Try.prog 80 = some 16 ∧
    tZero Try.prog 80 = some [(.int .u64 0), (.int .u64 0)] ∧
    tSlice Try.prog 80 = none ∧
    tArray Try.prog 80 = some (2, 25) ∧
    Try.prog.underlying 80 = some (.array 2 25) ∧
    tIface Try.prog 80 = some false ∧
    tCls Try.prog 80 = .other ∧
    (∀ ps, aBuild Try.prog 80 ps = (aFill (fun i => some (i * 1, 1)) [.val (.int .u64 0), .val (.int .u64 0)] ps).map .agg) ∧
    tSz Try.prog 33 = some 1 ∧
    tAgg Try.prog 33 = some false ∧
    tBytes Try.prog 33 = some 24 ∧
    tZero Try.prog 33 = some [(.slice none 0 0)] ∧
    tSlice Try.prog 33 = some 32 ∧
    Try.prog.underlying 33 = some (.slice 32) ∧
    tIface Try.prog 33 = some false ∧
    tCls Try.prog 33 = .slice
theorem tfe : TFE :=
  ⟨rfl, rfl, rfl, rfl, rfl, rfl, rfl, rfl, rfl, fun _ => rfl, rfl, rfl, rfl, rfl, rfl, rfl, rfl, rfl⟩

abbrev ee (a : Int × Int) : AV := .agg [u a.1, u a.2]
theorem eqE : eqT Try.prog 80 = some [.int, .int] := eqT_of (by kernel_rfl) (by kernel_rfl) (by kernel_rfl)
theorem eqPt : eqT Try.prog 32 = some [.bool, .int, .int] := eqT_of (by kernel_rfl) (by kernel_rfl) (by kernel_rfl)
def mulE (a b : Int × Int) : Int × Int := ((a.1 * b.1 - a.2 * b.2) % 1152921505151057923, (a.1 * b.2 + a.2 * b.1) % 1152921505151057923)
def conjE (a : Int × Int) : Int × Int := (a.1 % 1152921505151057923, (0 - a.2) % 1152921505151057923)
def normE (a : Int × Int) : Int := ipow 1152921505151057923 ((a.1 * a.1 % 1152921505151057923 + a.2 * a.2 % 1152921505151057923) % 1152921505151057923) 1152921505151057921
def invE (a : Int × Int) : Int × Int := ((conjE a).1 * normE a % 1152921505151057923, (conjE a).2 * normE a % 1152921505151057923)
abbrev wE (a : Int × Int) : Prop := w64 a.1 ∧ w64 a.2
theorem ltE {a : Int × Int} (h : lt a.1 ∧ lt a.2) : wE a := ⟨h.1.w, h.2.w⟩
theorem mulE_lt (a b : Int × Int) : lt (mulE a b).1 ∧ lt (mulE a b).2 := ⟨ltm _, ltm _⟩
theorem conjE_lt (a : Int × Int) : lt (conjE a).1 ∧ lt (conjE a).2 := ⟨ltm _, ltm _⟩
theorem invE_lt (a : Int × Int) : lt (invE a).1 ∧ lt (invE a).2 := ⟨ltm _, ltm _⟩
theorem mul_1 (a b c d : Int) : (a * b % 1152921505151057923 - c * d % 1152921505151057923) % 1152921505151057923 = (a * b - c * d) % 1152921505151057923 := by rw [← Int.sub_emod]
theorem kara {n : Nat} [NeZero n] (a b c d : Fin n) : (a + b) * (c + d) - (a * c + b * d) = a * d + b * c := by grind
theorem mul_2 (a0 a1 b0 b1 : Int) : ((a0 + a1) % 1152921505151057923 * ((b0 + b1) % 1152921505151057923) % 1152921505151057923 - (a0 * b0 % 1152921505151057923 + a1 * b1 % 1152921505151057923) % 1152921505151057923) % 1152921505151057923 = (a0 * b1 + a1 * b0) % 1152921505151057923 := by
  refine emodP ?_; simp only [K_sub, K_mul, K_add, K_emod]; exact kara _ _ _ _
theorem mul_3 (a b c d : Int) : (a * b % 1152921505151057923 + c * d % 1152921505151057923) % 1152921505151057923 = (a * b + c * d) % 1152921505151057923 := by rw [← Int.add_emod]
theorem mul_4 (a b c d : Int) : (a * b % 1152921505151057923 + -(c * d % 1152921505151057923) % 1152921505151057923) % 1152921505151057923 = (a * b - c * d) % 1152921505151057923 := by rw [less_eq, mul_1]
theorem idx0 : (0:Int) ≤ 0 := by decide
set_option maxHeartbeats 1000000 in
theorem ext_Mul_c {a0 a1 b0 b1 : Int} (h0 : w64 a0) (h1 : w64 a1) (h2 : w64 b0) (h3 : w64 b1) : Fn Try.prog 74 [ee (a0, a1), ee (b0, b1)] [] (fun r _ => r = ee (mulE (a0, a1) (b0, b1))) := by
  have i0 : (0:Int) < 2 := by decide
  have i1 : (1:Int) < 2 := by decide
  have i2 : (0:Int) ≤ 1 := by decide
  have i3 : (0:Int) ≤ 0 := by decide
  have i4 : Int.toNat 1 = 1 := rfl
  refine Fn.enter Try.func74 Try.ntmps74 rfl (h := ?_)
  have tf := tf
  have tfe := tfe
  repeat refine AW.seq ?_
  refine AW.reg ?_
  iterate 3 refine AOL.s1 (h := ?_)
  refine AOL.nil ?_
  refine AW.kq [2, 3, 4] (h := ?_)
  repeat refine AW.seq ?_
  refine AW.drw 9 [] (by kernel_rfl) (h := ?_)
  iterate 4 refine ADL.dm 1 (h := ?_)
  refine ADL.call rfl (modular_Mul_c mdP h0 h2) (by kernel_rfl) rfl rfl (h := ?_)
  iterate 4 refine ADL.dm 1 (h := ?_)
  refine ADL.done hmix rfl rfl (hT := ?_)
  refine AOL.callD rfl (modular_Mul_c mdP h1 h3) (by kernel_rfl) rfl rfl (h := ?_)
  iterate 2 refine AOL.s1 (h := ?_)
  refine AOL.nil ?_
  refine AW.kq [2, 3, 4, 5, 6] (h := ?_)
  repeat refine AW.seq ?_
  refine AW.drw 9 [] (by kernel_rfl) (h := ?_)
  iterate 4 refine ADL.dm 1 (h := ?_)
  refine ADL.call rfl (modular_Add_c mdP h0 h1) (by kernel_rfl) rfl rfl (h := ?_)
  iterate 4 refine ADL.dm 1 (h := ?_)
  refine ADL.done hmix rfl rfl (hT := ?_)
  refine AOL.callD rfl (modular_Add_c mdP h2 h3) (by kernel_rfl) rfl rfl (h := ?_)
  refine AOL.callD rfl (modular_Mul_c mdP (ltm _).w (ltm _).w) (by kernel_rfl) rfl rfl (h := ?_)
  iterate 1 refine AOL.s1 (h := ?_)
  refine AOL.nil ?_
  refine AW.kq [4, 5, 6, 7] (h := ?_)
  have e1 := mul_1 a0 b0 a1 b1
  have e2 := mul_2 a0 a1 b0 b1
  repeat refine AW.seq ?_
  refine AW.reg ?_
  iterate 2 refine AOL.s1 (h := ?_)
  refine AOL.callD rfl (modular_Sub_c mdP (ltm _).w (ltm _).w) (by kernel_rfl) rfl rfl (h := ?_)
  iterate 3 refine AOL.s1 (h := ?_)
  refine AOL.callD rfl (modular_Add_c mdP (ltm _).w (ltm _).w) (by kernel_rfl) rfl rfl (h := ?_)
  refine AOL.callD rfl (modular_Sub_c mdP (ltm _).w (ltm _).w) (by kernel_rfl) rfl rfl (h := ?_)
  iterate 2 refine AOL.s1 (h := ?_)
  refine AOL.nil ?_
  refine AW.kq [4] (h := ?_)
  repeat refine AW.seq ?_
  refine AW.ret ?_
  refine ⟨_, [], rfl, HOk.nil _, ?_⟩
  rfl
theorem ext_Conj_c {a0 a1 : Int} (h0 : w64 a0) (h1 : w64 a1) : Fn Try.prog 87 [ee (a0, a1)] [] (fun r _ => r = ee (conjE (a0, a1))) := by
  have i0 : (0:Int) < 2 := by decide
  have i1 : (1:Int) < 2 := by decide
  have i2 : (0:Int) ≤ 1 := by decide
  have i3 : (0:Int) ≤ 0 := by decide
  have i4 : Int.toNat 1 = 1 := rfl
  have h5 := tmod_nn (m := 1152921505151057923) h0.1
  refine Fn.enter Try.func87 Try.ntmps87 rfl (h := ?_)
  have tf := tf
  have tfe := tfe
  repeat refine AW.seq ?_
  refine AW.reg ?_
  iterate 2 refine AOL.s1 (h := ?_)
  refine AOL.nil ?_
  refine AW.kq [1, 2] (h := ?_)
  repeat refine AW.seq ?_
  refine AW.drw 6 [] (by kernel_rfl) (h := ?_)
  iterate 5 refine ADL.dm 1 (h := ?_)
  refine ADL.call rfl (modular_Sub_c mdP (by decide) h1) (by kernel_rfl) rfl rfl (h := ?_)
  refine ADL.done hmix rfl rfl (hT := ?_)
  iterate 2 refine AOL.s1 (h := ?_)
  refine AOL.nil ?_
  refine AW.kq [2] (h := ?_)
  repeat refine AW.seq ?_
  refine AW.ret ?_
  refine ⟨_, [], rfl, HOk.nil _, ?_⟩
  rfl
set_option maxHeartbeats 1000000 in
theorem ext_Inv_c {a0 a1 : Int} (h0 : w64 a0) (h1 : w64 a1) : Fn Try.prog 88 [ee (a0, a1)] [] (fun r _ => r = ee (invE (a0, a1))) := by
  have i0 : (0:Int) < 2 := by decide
  have i1 : (1:Int) < 2 := by decide
  have i2 : (0:Int) ≤ 1 := by decide
  have i3 : (0:Int) ≤ 0 := by decide
  have i4 : Int.toNat 1 = 1 := rfl
  have cc := ext_Conj_c h0 h1
  have lc := conjE_lt (a0, a1)
  have en : invE (a0, a1) = ((conjE (a0, a1)).1 * normE (a0, a1) % 1152921505151057923, (conjE (a0, a1)).2 * normE (a0, a1) % 1152921505151057923) := rfl
  have cn := modular_Pow_c (m := 1152921505151057923) (a := (a0 * a0 % 1152921505151057923 + a1 * a1 % 1152921505151057923) % 1152921505151057923) (e := 1152921505151057921) mdP (ltm _).w (by decide)
  rw [show ipow 1152921505151057923 ((a0 * a0 % 1152921505151057923 + a1 * a1 % 1152921505151057923) % 1152921505151057923) 1152921505151057921 = normE (a0, a1) from rfl] at cn
  have ln : lt (normE (a0, a1)) := by
    unfold normE
    rw [ipow_eq (by decide) (ltm _).1 (by decide)]; exact ltm _
  rw [en]
  clear en
  generalize conjE (a0, a1) = c at *
  generalize normE (a0, a1) = n at *
  refine Fn.enter Try.func88 Try.ntmps88 rfl (h := ?_)
  have tf := tf
  have tfe := tfe
  repeat refine AW.seq ?_
  refine AW.reg ?_
  iterate 2 refine AOL.s1 (h := ?_)
  refine AOL.nil ?_
  refine AW.kq [1, 2] (h := ?_)
  repeat refine AW.seq ?_
  refine AW.drw 9 [] (by kernel_rfl) (h := ?_)
  iterate 4 refine ADL.dm 1 (h := ?_)
  refine ADL.call rfl (modular_Mul_c mdP h0 h0) (by kernel_rfl) rfl rfl (h := ?_)
  iterate 4 refine ADL.dm 1 (h := ?_)
  refine ADL.done hmix rfl rfl (hT := ?_)
  refine AOL.callD rfl (modular_Mul_c mdP h1 h1) (by kernel_rfl) rfl rfl (h := ?_)
  refine AOL.callD rfl (modular_Add_c mdP (ltm _).w (ltm _).w) (by kernel_rfl) rfl rfl (h := ?_)
  iterate 1 refine AOL.s1 (h := ?_)
  refine AOL.nil ?_
  refine AW.kq [1, 2, 3] (h := ?_)
  repeat refine AW.seq ?_
  refine AW.reg ?_
  iterate 1 refine AOL.s1 (h := ?_)
  refine AOL.callD rfl (cn) (by kernel_rfl) rfl rfl (h := ?_)
  iterate 1 refine AOL.s1 (h := ?_)
  refine AOL.nil ?_
  refine AW.kq [1, 2, 3] (h := ?_)
  repeat refine AW.seq ?_
  refine AW.reg ?_
  iterate 1 refine AOL.s1 (h := ?_)
  refine AOL.callD rfl (cc) (by kernel_rfl) rfl rfl (h := ?_)
  iterate 2 refine AOL.s1 (h := ?_)
  refine AOL.nil ?_
  refine AW.kq [2, 3, 4] (h := ?_)
  repeat refine AW.seq ?_
  refine AW.drw 7 [] (by kernel_rfl) (h := ?_)
  iterate 3 refine ADL.dm 1 (h := ?_)
  refine ADL.call rfl (modular_Mul_c mdP lc.1.w ln.w) (by kernel_rfl) rfl rfl (h := ?_)
  iterate 3 refine ADL.dm 1 (h := ?_)
  refine ADL.done hmix rfl rfl (hT := ?_)
  refine AOL.callD rfl (modular_Mul_c mdP lc.2.w ln.w) (by kernel_rfl) rfl rfl (h := ?_)
  iterate 2 refine AOL.s1 (h := ?_)
  refine AOL.nil ?_
  refine AW.kq [2] (h := ?_)
  repeat refine AW.seq ?_
  refine AW.ret ?_
  refine ⟨_, [], rfl, HOk.nil _, ?_⟩
  rfl
def stepE (a : Int × Int) (e : Int) (i : Nat) (o : Int × Int) : Int × Int := if e / 2 ^ i % 2 = 1 then mulE (mulE o o) a else mulE o o
def pw (a : Int × Int) (e : Int) : Nat → Int × Int → Int × Int
  | 0, o => o
  | i + 1, o => pw a e i (stepE a e i o)
/-- a power, from the highest bit on -/
def powE (a : Int × Int) (e : Int) : Int × Int := pw a e 64 (1, 0)
theorem stepE_lt (a : Int × Int) (e : Int) (i : Nat) (o : Int × Int) : lt (stepE a e i o).1 ∧ lt (stepE a e i o).2 := by unfold stepE; split <;> exact mulE_lt _ _
theorem pw_lt (a : Int × Int) (e : Int) : ∀ (i : Nat) (o : Int × Int), lt o.1 ∧ lt o.2 → lt (pw a e i o).1 ∧ lt (pw a e i o).2
  | 0, o, h => h
  | i + 1, o, _ => pw_lt a e i _ (stepE_lt a e i o)
theorem one_lt : lt ((1, 0) : Int × Int).1 ∧ lt ((1, 0) : Int × Int).2 := ⟨⟨by decide, by decide⟩, ⟨by decide, by decide⟩⟩
theorem powE_lt (a : Int × Int) (e : Int) : lt (powE a e).1 ∧ lt (powE a e).2 := pw_lt a e 64 _ one_lt
end Go.Proofs.Ytdbpjegocmdplaa.E.M

