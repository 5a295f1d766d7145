/- modular: sums, differences, and whether a number is a modulus, over E. -/
import Derived.Test.YtjeafkodcmbabaaDoorEE
import Derived.Test.YtjeafkodcmbabaaDoorProg
import Derived.KernelRfl
set_option linter.unusedVariables false
set_option linter.unusedSimpArgs false
set_option maxRecDepth 10000
open Go Go.Proofs.YtjeafkodcmbabaaDoor.E Go.Proofs
namespace Go.Proofs.YtjeafkodcmbabaaDoor.E.M
abbrev u (n : Int) : AV := .val (.int .u64 n)
abbrev i (n : Int) : AV := .val (.int .i64 n)
abbrev bo (n : Bool) : AV := .val (.bool n)
theorem hmix : Tryd.prog.follows .mixedOrders = true := by kernel_rfl
abbrev w64 (a : Int) : Prop := 0 ≤ a ∧ a < 18446744073709551616
abbrev md (m : Int) : Prop := 2 ≤ m ∧ m ≤ 4611686018427387904
theorem w64_mod {m : Int} (hm : md m) (a : Int) : w64 (a % m) := by
  have h1 := Int.emod_nonneg a (show m ≠ 0 by omega)
  have h2 := Int.emod_lt_of_pos a (show 0 < m by omega)
  omega
theorem lt_mod {m : Int} (hm : md m) (a : Int) : 0 ≤ a % m ∧ a % m < m := ⟨Int.emod_nonneg a (by omega), Int.emod_lt_of_pos a (by omega)⟩
theorem tmod_nn {a m : Int} (h : 0 ≤ a) : Int.tmod a m = a % m := Int.tmod_eq_emod_of_nonneg h
theorem modular_no_c {m : Int} (hm : md m) : Fn Tryd.prog 32 [u m] [] (fun r _ => r = bo false) := by
  have h1 : ¬ m < 2 := by omega
  have h2 : ¬ m > 4611686018427387904 := by omega
  refine Fn.enter Tryd.func32 Tryd.ntmps32 rfl (h := ?_)
  repeat refine AW.seq ?_
  refine AW.reg ?_
  iterate 1 refine AOL.s1 (h := ?_)
  refine AOL.nil ?_
  refine AW.kq [0] (h := ?_)
  repeat refine AW.seq ?_
  refine AW.reg ?_
  iterate 7 refine AOL.s1 (h := ?_)
  refine AOL.nil ?_
  refine AW.kq [2] (h := ?_)
  repeat refine AW.seq ?_
  refine AW.ret ?_
  refine ⟨_, [], rfl, HOk.nil _, ?_⟩
  simp only [one?, decide_eq_false h2]
theorem modular_Add_c {m a b : Int} (hm : md m) (ha : w64 a) (hb : w64 b) : Fn Tryd.prog 23 [u m, u a, u b] [] (fun r _ => r = u ((a + b) % m)) := by
  have h0 : ¬ m = 0 := by omega
  refine Fn.enter Tryd.func23 Tryd.ntmps23 rfl (h := ?_)
  repeat refine AW.seq ?_
  refine AW.reg ?_
  iterate 1 refine AOL.s1 (h := ?_)
  refine AOL.nil ?_
  refine AW.kq [0, 1, 2] (h := ?_)
  repeat refine AW.seq ?_
  refine AW.reg ?_
  iterate 1 refine AOL.s1 (h := ?_)
  refine AOL.callD rfl (modular_no_c hm) (by kernel_rfl) rfl rfl (h := ?_)
  refine AOL.nil ?_
  refine AW.kq [0, 1, 2, 8] (h := ?_)
  repeat refine AW.seq ?_
  refine AW.cond rfl (fun c_ => ?_) (fun c_ => ?_)
  · cases c_
  refine AW.skip ?_
  repeat refine AW.seq ?_
  refine AW.drw 9 [] (by kernel_rfl) (h := ?_)
  refine ADL.dm 9 (h := ?_)
  refine ADL.done hmix rfl rfl (hT := ?_)
  iterate 1 refine AOL.s1 (h := ?_)
  refine AOL.nil ?_
  refine AW.kq [6] (h := ?_)
  repeat refine AW.seq ?_
  refine AW.ret ?_
  refine ⟨_, [], rfl, HOk.nil _, ?_⟩
  have h3 := lt_mod hm a
  have h4 := lt_mod hm b
  simp only [one?]
  rw [tmod_nn ha.1, tmod_nn hb.1, wrapU_o (by omega) (by omega), tmod_nn (by omega), ← Int.add_emod]
theorem obolref01_Add_c {m a b : Int} (hm : 0 < m ∧ m < 18446744073709551616) (ha : w64 a) (hb : w64 b) : Fn Tryd.prog 40 [u m, u a, u b] [] (fun r _ => r = u ((a + b) % m)) := by
  have h0 : ¬ m = 0 := by omega
  have h3 : 0 ≤ a % m ∧ a % m < m := ⟨Int.emod_nonneg a (by omega), Int.emod_lt_of_pos a (by omega)⟩
  have h4 : 0 ≤ b % m ∧ b % m < m := ⟨Int.emod_nonneg b (by omega), Int.emod_lt_of_pos b (by omega)⟩
  have h5 := tmod_nn (m := m) ha.1
  have h6 := tmod_nn (m := m) hb.1
  refine Fn.enter Tryd.func40 Tryd.ntmps40 rfl (h := ?_)
  repeat refine AW.seq ?_
  refine AW.reg ?_
  iterate 1 refine AOL.s1 (h := ?_)
  refine AOL.nil ?_
  refine AW.kq [0, 1, 2] (h := ?_)
  repeat refine AW.seq ?_
  refine AW.reg ?_
  iterate 4 refine AOL.s1 (h := ?_)
  refine AOL.nil ?_
  refine AW.kq [0, 2, 7] (h := ?_)
  repeat refine AW.seq ?_
  refine AW.reg ?_
  iterate 4 refine AOL.s1 (h := ?_)
  refine AOL.nil ?_
  refine AW.kq [0, 7, 8] (h := ?_)
  repeat refine AW.seq ?_
  refine AW.reg ?_
  iterate 5 refine AOL.o1 (h := ?_)
  refine AOL.nil ?_
  refine AW.kq [0, 7, 8, 19] (h := ?_)
  repeat refine AW.seq ?_
  have key : (if a % m ≥ m - b % m then a % m - (m - b % m) else a % m + b % m) = (a + b) % m := by
    rw [Int.add_emod a b m]
    split
    · rw [show a % m + b % m = (a % m - (m - b % m)) + m by omega, Int.add_emod_right, Int.emod_eq_of_lt (a := a % m - (m - b % m)) (by omega) (by omega)]
    · rw [Int.emod_eq_of_lt (a := a % m + b % m) (by omega) (by omega)]
  refine AW.cond rfl (fun c_ => ?_) (fun c_ => ?_)
  · have c1 : a % m ≥ m - b % m := by simpa using c_
    repeat refine AW.seq ?_
    refine AW.reg ?_
    iterate 6 refine AOL.o1 (h := ?_)
    refine AOL.nil ?_
    refine AW.kq [6] (h := ?_)
    repeat refine AW.seq ?_
    refine AW.ret ?_
    refine ⟨_, [], rfl, HOk.nil _, ?_⟩
    rw [if_pos c1] at key
    simp only [one?, key]
  have c1 : ¬ a % m ≥ m - b % m := by simpa using c_
  refine AW.skip ?_
  repeat refine AW.seq ?_
  refine AW.reg ?_
  iterate 4 refine AOL.o1 (h := ?_)
  refine AOL.nil ?_
  refine AW.kq [6] (h := ?_)
  repeat refine AW.seq ?_
  refine AW.ret ?_
  refine ⟨_, [], rfl, HOk.nil _, ?_⟩
  rw [if_neg c1] at key
  simp only [one?, key]
end Go.Proofs.YtjeafkodcmbabaaDoor.E.M

