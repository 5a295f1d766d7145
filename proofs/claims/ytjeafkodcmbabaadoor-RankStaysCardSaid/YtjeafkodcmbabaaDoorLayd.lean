/- From the condition on errors.errorType to its cell, and a world that meets it (after the kit's worked example on errors.As). -/
import Derived.Test.YtjeafkodcmbabaaDoorRows
import Derived.RowKit
import Derived.RowKitTokens
import Derived.LaidLaws
import Derived.LaidHandle
import Derived.Stop.Joined
import Derived.ChangeSame
import Derived.ChangeVars
import Derived.JoinedOf
namespace Go.Proofs.YtjeafkodcmbabaaDoor
open Go.RowKit
theorem layd_et : Tryd.prog.globalNamed "errors.errorType" = some 0 := by kernel_rfl
theorem layd_rt : (Tryd.prog.cutTypes.find? (·.1 == "internal/reflectlite.rtype")).map (·.2) = some 94 := by kernel_rfl
theorem layd_one : ((List.range Tryd.prog.types.size).filter fun t => Tryd.prog.rowNamed t [101, 114, 114, 111, 114]) = [32] := by kernel_rfl
abbrev laydL : List (String × DataW Unit) := [("errors.errorType", Rows.laid_errors_errorType)]
theorem layd_cell {W : World} (h : laidMetH Tryd.prog laydL W) : W.cell? ⟨0, 0, none⟩ = some (.iface 94 (.agg #[.pointer (some ⟨3, 32, none⟩)])) := by
  have h' : laidMet Tryd.prog [] W ∧ handlesMet Tryd.prog laydL W := h
  obtain ⟨name, u, ty, e1, e2, e3, e4, e5⟩ := h'.2 _ (List.mem_singleton.2 rfl)
  have en : name = [101, 114, 114, 111, 114] := (Option.some.inj e1).symm
  subst en
  obtain rfl := Option.some.inj (layd_rt.symm.trans e2)
  have hm : ty ∈ (List.range Tryd.prog.types.size).filter fun t => Tryd.prog.rowNamed t [101, 114, 114, 111, 114] := List.mem_filter.2 ⟨List.mem_range.2 e3, e4⟩
  rw [layd_one] at hm
  obtain rfl := List.mem_singleton.1 hm
  have hh : typeHandle Tryd.prog 32 = .pointer (some ⟨3, 32, none⟩) := by kernel_rfl
  rw [hh] at e5
  simpa using World.var?_cell layd_et e5 0
/-- A world that meets the condition. -/
noncomputable def laydWorld (os : Os) : World :=
  let w0 := World.holding Tryd.prog os ⟨#[], #[], []⟩
  { w0 with heap := w0.heap.modify 0 fun
      | .cells _ t frozen => .cells #[.iface 94 (.agg #[.pointer (some ⟨3, 32, none⟩)])] t frozen
      | o => o }
theorem laydWorld_met (os : Os) (args : Array Value) : laidMetH Tryd.prog laydL ((laydWorld os).forCall (fun _ _ => 0) ⟨#[], args, []⟩).memory :=
  laidMetH_of_parts (laidMet_nil _ _) (by kernel_rfl)
end Go.Proofs.YtjeafkodcmbabaaDoor
