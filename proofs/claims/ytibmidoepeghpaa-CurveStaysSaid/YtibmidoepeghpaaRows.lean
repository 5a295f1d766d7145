/-
  No cell of these rows narrows 'for every input' (looked for: loops, veiled, ifaces, maps, wideKeys, modest, calm, conditions, laid).
  DERIVED. THE GIVEN ROWS OF THIS SEAT. 11 by the template 'for every input the law returns true; each argument reads behind the call as it read before'; 0 by the template 'total and deterministic' (their statements: YtibmidoepeghpaaTotals.lean).
  GIVEN WITH THE SEED: the statements are not yours to turn. If you find one false, say at which input.
  Laid BY PROGRAM, IN A SANDBOX (cutbox-rows.mjs): the forced cells as the released guide's own fill.sh prints them over the translation ed1c6a720a3f562f… (all of the seat's roots in one cut). By AI agents, Wed Nov 11 2026. No macro, syntax, notation, axiom, sorry.
-/
import Derived.Test.YtibmidoepeghpaaChecked
import GoSem.Claim
import GoSem.ClaimJoined
import GoSem.ClaimMapViews
import Derived.JoinedTies
import Derived.KernelRfl
namespace Go.Proofs.Ytibmidoepeghpaa
/- THE CELL 'sum', in the pinned program and in every row, IS THE sha256 OF THE DUMP (.gsa) THAT YtibmidoepeghpaaProg.lean LOADS. Nothing in Lean hashes anything: it is a label: what it is worth is what the hold of that sum in a sandbox is worth. -/
noncomputable def Try.pinned : Pinned := { name := "ytibmidoepeghpaa", sum := "ed1c6a720a3f562f7d592e8c2a7c524dfcf1e78d70b8bf2e327a45495f110f8d", checked := Try.checked }
namespace Rows
def none {H : Type} : Left H := { results := [], args := [] }

/-- 'obollaw03.CurveAdds': WHATEVER THE INPUT: true; the input reads as it did. -/
def curveAddsSpec : ChangeSpec := { name := "curveAdds", fn := fun _ => fun
  | [d1, d2] => { results := [.lit (.bool true)], args := [d1, d2] }
  | _ => none }
def curveAddsRow : OpenClaim := { program := "ytibmidoepeghpaa", sum := "ed1c6a720a3f562f7d592e8c2a7c524dfcf1e78d70b8bf2e327a45495f110f8d", func := "obol/obollaw03.CurveAdds", spec := "curveAdds", named := ["math/bits.divideError", "math/bits.overflowError"], apart := false }
def CurveAddsSaid : Prop := curveAddsRow.holds Try.pinned (OpenSpec.ofChange curveAddsSpec)

/-- ITS FALSE NEIGHBOUR: 'it returns false'. Refute it at one input. -/
def curveAddsWrong : ChangeSpec := { name := "curveAdds", fn := fun _ => fun
  | [d1, d2] => { results := [.lit (.bool false)], args := [d1, d2] }
  | _ => none }
def CurveAddsWrongFalsely : Prop := curveAddsRow.holds Try.pinned (OpenSpec.ofChange curveAddsWrong)

/-- 'obollaw03.CurveMuls': WHATEVER THE INPUT: true; the input reads as it did. -/
def curveMulsSpec : ChangeSpec := { name := "curveMuls", fn := fun _ => fun
  | [d1, d2] => { results := [.lit (.bool true)], args := [d1, d2] }
  | _ => none }
def curveMulsRow : OpenClaim := { program := "ytibmidoepeghpaa", sum := "ed1c6a720a3f562f7d592e8c2a7c524dfcf1e78d70b8bf2e327a45495f110f8d", func := "obol/obollaw03.CurveMuls", spec := "curveMuls", named := ["math/bits.divideError", "math/bits.overflowError"], apart := false }
def CurveMulsSaid : Prop := curveMulsRow.holds Try.pinned (OpenSpec.ofChange curveMulsSpec)

/-- ITS FALSE NEIGHBOUR: 'it returns false'. Refute it at one input. -/
def curveMulsWrong : ChangeSpec := { name := "curveMuls", fn := fun _ => fun
  | [d1, d2] => { results := [.lit (.bool false)], args := [d1, d2] }
  | _ => none }
def CurveMulsWrongFalsely : Prop := curveMulsRow.holds Try.pinned (OpenSpec.ofChange curveMulsWrong)

/-- 'obollaw03.CurveGroup': WHATEVER THE INPUT: true; the input reads as it did. -/
def curveGroupSpec : ChangeSpec := { name := "curveGroup", fn := fun _ => fun
  | [d1, d2, d3, d4, d5] => { results := [.lit (.bool true)], args := [d1, d2, d3, d4, d5] }
  | _ => none }
def curveGroupRow : OpenClaim := { program := "ytibmidoepeghpaa", sum := "ed1c6a720a3f562f7d592e8c2a7c524dfcf1e78d70b8bf2e327a45495f110f8d", func := "obol/obollaw03.CurveGroup", spec := "curveGroup", named := ["math/bits.divideError", "math/bits.overflowError"], apart := false }
def CurveGroupSaid : Prop := curveGroupRow.holds Try.pinned (OpenSpec.ofChange curveGroupSpec)

/-- ITS FALSE NEIGHBOUR: 'it returns false'. Refute it at one input. -/
def curveGroupWrong : ChangeSpec := { name := "curveGroup", fn := fun _ => fun
  | [d1, d2, d3, d4, d5] => { results := [.lit (.bool false)], args := [d1, d2, d3, d4, d5] }
  | _ => none }
def CurveGroupWrongFalsely : Prop := curveGroupRow.holds Try.pinned (OpenSpec.ofChange curveGroupWrong)

/-- 'obollaw03.CurveIs': WHATEVER THE INPUT: true; the input reads as it did. -/
def curveIsSpec : ChangeSpec := { name := "curveIs", fn := fun _ => fun
  | [d] => { results := [.lit (.bool true)], args := [d] }
  | _ => none }
def curveIsRow : OpenClaim := { program := "ytibmidoepeghpaa", sum := "ed1c6a720a3f562f7d592e8c2a7c524dfcf1e78d70b8bf2e327a45495f110f8d", func := "obol/obollaw03.CurveIs", spec := "curveIs", named := ["math/bits.divideError", "math/bits.overflowError"], apart := false }
def CurveIsSaid : Prop := curveIsRow.holds Try.pinned (OpenSpec.ofChange curveIsSpec)

/-- ITS FALSE NEIGHBOUR: 'it returns false'. Refute it at one input. -/
def curveIsWrong : ChangeSpec := { name := "curveIs", fn := fun _ => fun
  | [d] => { results := [.lit (.bool false)], args := [d] }
  | _ => none }
def CurveIsWrongFalsely : Prop := curveIsRow.holds Try.pinned (OpenSpec.ofChange curveIsWrong)

/-- 'obollaw03.CurveWrites': WHATEVER THE INPUT: true; the input reads as it did. -/
def curveWritesSpec : ChangeSpec := { name := "curveWrites", fn := fun _ => fun
  | [d] => { results := [.lit (.bool true)], args := [d] }
  | _ => none }
def curveWritesRow : OpenClaim := { program := "ytibmidoepeghpaa", sum := "ed1c6a720a3f562f7d592e8c2a7c524dfcf1e78d70b8bf2e327a45495f110f8d", func := "obol/obollaw03.CurveWrites", spec := "curveWrites", named := ["math/bits.divideError", "math/bits.overflowError"], apart := false }
def CurveWritesSaid : Prop := curveWritesRow.holds Try.pinned (OpenSpec.ofChange curveWritesSpec)

/-- ITS FALSE NEIGHBOUR: 'it returns false'. Refute it at one input. -/
def curveWritesWrong : ChangeSpec := { name := "curveWrites", fn := fun _ => fun
  | [d] => { results := [.lit (.bool false)], args := [d] }
  | _ => none }
def CurveWritesWrongFalsely : Prop := curveWritesRow.holds Try.pinned (OpenSpec.ofChange curveWritesWrong)

/-- 'obollaw03.CurveReads': WHATEVER THE INPUT: true; the input reads as it did. -/
def curveReadsSpec : ChangeSpec := { name := "curveReads", fn := fun _ => fun
  | [d] => { results := [.lit (.bool true)], args := [d] }
  | _ => none }
def curveReadsRow : OpenClaim := { program := "ytibmidoepeghpaa", sum := "ed1c6a720a3f562f7d592e8c2a7c524dfcf1e78d70b8bf2e327a45495f110f8d", func := "obol/obollaw03.CurveReads", spec := "curveReads", named := ["math/bits.divideError", "math/bits.overflowError"], apart := false }
def CurveReadsSaid : Prop := curveReadsRow.holds Try.pinned (OpenSpec.ofChange curveReadsSpec)

/-- ITS FALSE NEIGHBOUR: 'it returns false'. Refute it at one input. -/
def curveReadsWrong : ChangeSpec := { name := "curveReads", fn := fun _ => fun
  | [d] => { results := [.lit (.bool false)], args := [d] }
  | _ => none }
def CurveReadsWrongFalsely : Prop := curveReadsRow.holds Try.pinned (OpenSpec.ofChange curveReadsWrong)

/-- 'obollaw03.CurveStays': WHATEVER THE INPUT: true; the input reads as it did. -/
def curveStaysSpec : ChangeSpec := { name := "curveStays", fn := fun _ => fun
  | [d1, d2] => { results := [.lit (.bool true)], args := [d1, d2] }
  | _ => none }
def curveStaysRow : OpenClaim := { program := "ytibmidoepeghpaa", sum := "ed1c6a720a3f562f7d592e8c2a7c524dfcf1e78d70b8bf2e327a45495f110f8d", func := "obol/obollaw03.CurveStays", spec := "curveStays", named := ["math/bits.divideError", "math/bits.overflowError"], apart := false }
def CurveStaysSaid : Prop := curveStaysRow.holds Try.pinned (OpenSpec.ofChange curveStaysSpec)

/-- ITS FALSE NEIGHBOUR: 'it returns false'. Refute it at one input. -/
def curveStaysWrong : ChangeSpec := { name := "curveStays", fn := fun _ => fun
  | [d1, d2] => { results := [.lit (.bool false)], args := [d1, d2] }
  | _ => none }
def CurveStaysWrongFalsely : Prop := curveStaysRow.holds Try.pinned (OpenSpec.ofChange curveStaysWrong)

/-- 'obollaw04.PairTimes': WHATEVER THE INPUT: true; the input reads as it did. -/
def pairTimesSpec : ChangeSpec := { name := "pairTimes", fn := fun _ => fun
  | [d1, d2, d3] => { results := [.lit (.bool true)], args := [d1, d2, d3] }
  | _ => none }
def pairTimesRow : OpenClaim := { program := "ytibmidoepeghpaa", sum := "ed1c6a720a3f562f7d592e8c2a7c524dfcf1e78d70b8bf2e327a45495f110f8d", func := "obol/obollaw04.PairTimes", spec := "pairTimes", named := ["math/bits.divideError", "math/bits.overflowError"], apart := false }
def PairTimesSaid : Prop := pairTimesRow.holds Try.pinned (OpenSpec.ofChange pairTimesSpec)

/-- ITS FALSE NEIGHBOUR: 'it returns false'. Refute it at one input. -/
def pairTimesWrong : ChangeSpec := { name := "pairTimes", fn := fun _ => fun
  | [d1, d2, d3] => { results := [.lit (.bool false)], args := [d1, d2, d3] }
  | _ => none }
def PairTimesWrongFalsely : Prop := pairTimesRow.holds Try.pinned (OpenSpec.ofChange pairTimesWrong)

/-- 'obollaw04.PairWalls': WHATEVER THE INPUT: true; the input reads as it did. -/
def pairWallsSpec : ChangeSpec := { name := "pairWalls", fn := fun _ => fun
  | [d] => { results := [.lit (.bool true)], args := [d] }
  | _ => none }
def pairWallsRow : OpenClaim := { program := "ytibmidoepeghpaa", sum := "ed1c6a720a3f562f7d592e8c2a7c524dfcf1e78d70b8bf2e327a45495f110f8d", func := "obol/obollaw04.PairWalls", spec := "pairWalls", named := ["math/bits.divideError", "math/bits.overflowError"], apart := false }
def PairWallsSaid : Prop := pairWallsRow.holds Try.pinned (OpenSpec.ofChange pairWallsSpec)

/-- ITS FALSE NEIGHBOUR: 'it returns false'. Refute it at one input. -/
def pairWallsWrong : ChangeSpec := { name := "pairWalls", fn := fun _ => fun
  | [d] => { results := [.lit (.bool false)], args := [d] }
  | _ => none }
def PairWallsWrongFalsely : Prop := pairWallsRow.holds Try.pinned (OpenSpec.ofChange pairWallsWrong)

/-- 'obollaw04.PairMultiplies': WHATEVER THE INPUT: true; the input reads as it did. -/
def pairMultipliesSpec : ChangeSpec := { name := "pairMultiplies", fn := fun _ => fun
  | [d1, d2] => { results := [.lit (.bool true)], args := [d1, d2] }
  | _ => none }
def pairMultipliesRow : OpenClaim := { program := "ytibmidoepeghpaa", sum := "ed1c6a720a3f562f7d592e8c2a7c524dfcf1e78d70b8bf2e327a45495f110f8d", func := "obol/obollaw04.PairMultiplies", spec := "pairMultiplies", named := ["math/bits.divideError", "math/bits.overflowError"], apart := false }
def PairMultipliesSaid : Prop := pairMultipliesRow.holds Try.pinned (OpenSpec.ofChange pairMultipliesSpec)

/-- ITS FALSE NEIGHBOUR: 'it returns false'. Refute it at one input. -/
def pairMultipliesWrong : ChangeSpec := { name := "pairMultiplies", fn := fun _ => fun
  | [d1, d2] => { results := [.lit (.bool false)], args := [d1, d2] }
  | _ => none }
def PairMultipliesWrongFalsely : Prop := pairMultipliesRow.holds Try.pinned (OpenSpec.ofChange pairMultipliesWrong)

/-- 'obollaw04.PairStays': WHATEVER THE INPUT: true; the input reads as it did. -/
def pairStaysSpec : ChangeSpec := { name := "pairStays", fn := fun _ => fun
  | [d1, d2] => { results := [.lit (.bool true)], args := [d1, d2] }
  | _ => none }
def pairStaysRow : OpenClaim := { program := "ytibmidoepeghpaa", sum := "ed1c6a720a3f562f7d592e8c2a7c524dfcf1e78d70b8bf2e327a45495f110f8d", func := "obol/obollaw04.PairStays", spec := "pairStays", named := ["math/bits.divideError", "math/bits.overflowError"], apart := false }
def PairStaysSaid : Prop := pairStaysRow.holds Try.pinned (OpenSpec.ofChange pairStaysSpec)

/-- ITS FALSE NEIGHBOUR: 'it returns false'. Refute it at one input. -/
def pairStaysWrong : ChangeSpec := { name := "pairStays", fn := fun _ => fun
  | [d1, d2] => { results := [.lit (.bool false)], args := [d1, d2] }
  | _ => none }
def PairStaysWrongFalsely : Prop := pairStaysRow.holds Try.pinned (OpenSpec.ofChange pairStaysWrong)

/- THE SECOND FORM. 'bulk': how many values and letters a reading holds, each counted each time it is reached (what is shared counts as often as it is met; a slice's spare places count too). A statement '..UptoSaid' is the law's where the arguments, and the package variables that the reading takes, are together of bulk at most 1048576: NARROWER than '..Said'. Prove '..Said' where nothing that the law and all that it calls make is longer than what came in: it says more and counts as full. Else prove '..UptoSaid'. A law counts once. -/
mutual
def uptoBulk {H : Type} : DataW H → Nat
  | .lit (.string bytes) => bytes.length + 1
  | .lit _ => 1
  | .nil => 1
  | .ptr d => uptoBulk d + 1
  | .slice elems spare => uptoBulkAll elems + uptoBulkAll spare + 1
  | .agg parts => uptoBulkAll parts + 1
  | .iface _ d => uptoBulk d + 1
  | .map entries => uptoBulkEntries entries + 1
  | .held _ => 1
def uptoBulkAll {H : Type} : List (DataW H) → Nat
  | [] => 0
  | d :: r => uptoBulk d + uptoBulkAll r
def uptoBulkEntries {H : Type} : List (Lit × DataW H) → Nat
  | [] => 0
  | x :: r => uptoBulkEntry x + uptoBulkEntries r
def uptoBulkEntry {H : Type} : Lit × DataW H → Nat
  | (.string bytes, d) => bytes.length + uptoBulk d + 1
  | (_, d) => uptoBulk d + 1
 end
def uptoSmall : (H : Type) → List (DataW H) → Bool := fun _ ds => decide (uptoBulkAll ds ≤ 1048576)
def OpenSpec.upto (s : _root_.Go.ChangeSpec) : _root_.Go.OpenSpec := { _root_.Go.OpenSpec.ofChange s with cond := some uptoSmall }

/-- 'obollaw03.CurveAdds', WHERE WHAT IT READS IS OF BULK AT MOST 1048576: true; the input reads as it did. -/
def curveAddsUptoRow : OpenClaim := { program := "ytibmidoepeghpaa", sum := "ed1c6a720a3f562f7d592e8c2a7c524dfcf1e78d70b8bf2e327a45495f110f8d", func := "obol/obollaw03.CurveAdds", spec := "curveAdds", named := ["math/bits.divideError", "math/bits.overflowError"], apart := false, narrowed := true }
def CurveAddsUptoSaid : Prop := curveAddsUptoRow.holds Try.pinned (OpenSpec.upto curveAddsSpec)

/-- 'obollaw03.CurveMuls', WHERE WHAT IT READS IS OF BULK AT MOST 1048576: true; the input reads as it did. -/
def curveMulsUptoRow : OpenClaim := { program := "ytibmidoepeghpaa", sum := "ed1c6a720a3f562f7d592e8c2a7c524dfcf1e78d70b8bf2e327a45495f110f8d", func := "obol/obollaw03.CurveMuls", spec := "curveMuls", named := ["math/bits.divideError", "math/bits.overflowError"], apart := false, narrowed := true }
def CurveMulsUptoSaid : Prop := curveMulsUptoRow.holds Try.pinned (OpenSpec.upto curveMulsSpec)

/-- 'obollaw03.CurveGroup', WHERE WHAT IT READS IS OF BULK AT MOST 1048576: true; the input reads as it did. -/
def curveGroupUptoRow : OpenClaim := { program := "ytibmidoepeghpaa", sum := "ed1c6a720a3f562f7d592e8c2a7c524dfcf1e78d70b8bf2e327a45495f110f8d", func := "obol/obollaw03.CurveGroup", spec := "curveGroup", named := ["math/bits.divideError", "math/bits.overflowError"], apart := false, narrowed := true }
def CurveGroupUptoSaid : Prop := curveGroupUptoRow.holds Try.pinned (OpenSpec.upto curveGroupSpec)

/-- 'obollaw03.CurveIs', WHERE WHAT IT READS IS OF BULK AT MOST 1048576: true; the input reads as it did. -/
def curveIsUptoRow : OpenClaim := { program := "ytibmidoepeghpaa", sum := "ed1c6a720a3f562f7d592e8c2a7c524dfcf1e78d70b8bf2e327a45495f110f8d", func := "obol/obollaw03.CurveIs", spec := "curveIs", named := ["math/bits.divideError", "math/bits.overflowError"], apart := false, narrowed := true }
def CurveIsUptoSaid : Prop := curveIsUptoRow.holds Try.pinned (OpenSpec.upto curveIsSpec)

/-- 'obollaw03.CurveWrites', WHERE WHAT IT READS IS OF BULK AT MOST 1048576: true; the input reads as it did. -/
def curveWritesUptoRow : OpenClaim := { program := "ytibmidoepeghpaa", sum := "ed1c6a720a3f562f7d592e8c2a7c524dfcf1e78d70b8bf2e327a45495f110f8d", func := "obol/obollaw03.CurveWrites", spec := "curveWrites", named := ["math/bits.divideError", "math/bits.overflowError"], apart := false, narrowed := true }
def CurveWritesUptoSaid : Prop := curveWritesUptoRow.holds Try.pinned (OpenSpec.upto curveWritesSpec)

/-- 'obollaw03.CurveReads', WHERE WHAT IT READS IS OF BULK AT MOST 1048576: true; the input reads as it did. -/
def curveReadsUptoRow : OpenClaim := { program := "ytibmidoepeghpaa", sum := "ed1c6a720a3f562f7d592e8c2a7c524dfcf1e78d70b8bf2e327a45495f110f8d", func := "obol/obollaw03.CurveReads", spec := "curveReads", named := ["math/bits.divideError", "math/bits.overflowError"], apart := false, narrowed := true }
def CurveReadsUptoSaid : Prop := curveReadsUptoRow.holds Try.pinned (OpenSpec.upto curveReadsSpec)

/-- 'obollaw03.CurveStays', WHERE WHAT IT READS IS OF BULK AT MOST 1048576: true; the input reads as it did. -/
def curveStaysUptoRow : OpenClaim := { program := "ytibmidoepeghpaa", sum := "ed1c6a720a3f562f7d592e8c2a7c524dfcf1e78d70b8bf2e327a45495f110f8d", func := "obol/obollaw03.CurveStays", spec := "curveStays", named := ["math/bits.divideError", "math/bits.overflowError"], apart := false, narrowed := true }
def CurveStaysUptoSaid : Prop := curveStaysUptoRow.holds Try.pinned (OpenSpec.upto curveStaysSpec)

/-- 'obollaw04.PairTimes', WHERE WHAT IT READS IS OF BULK AT MOST 1048576: true; the input reads as it did. -/
def pairTimesUptoRow : OpenClaim := { program := "ytibmidoepeghpaa", sum := "ed1c6a720a3f562f7d592e8c2a7c524dfcf1e78d70b8bf2e327a45495f110f8d", func := "obol/obollaw04.PairTimes", spec := "pairTimes", named := ["math/bits.divideError", "math/bits.overflowError"], apart := false, narrowed := true }
def PairTimesUptoSaid : Prop := pairTimesUptoRow.holds Try.pinned (OpenSpec.upto pairTimesSpec)

/-- 'obollaw04.PairWalls', WHERE WHAT IT READS IS OF BULK AT MOST 1048576: true; the input reads as it did. -/
def pairWallsUptoRow : OpenClaim := { program := "ytibmidoepeghpaa", sum := "ed1c6a720a3f562f7d592e8c2a7c524dfcf1e78d70b8bf2e327a45495f110f8d", func := "obol/obollaw04.PairWalls", spec := "pairWalls", named := ["math/bits.divideError", "math/bits.overflowError"], apart := false, narrowed := true }
def PairWallsUptoSaid : Prop := pairWallsUptoRow.holds Try.pinned (OpenSpec.upto pairWallsSpec)

/-- 'obollaw04.PairMultiplies', WHERE WHAT IT READS IS OF BULK AT MOST 1048576: true; the input reads as it did. -/
def pairMultipliesUptoRow : OpenClaim := { program := "ytibmidoepeghpaa", sum := "ed1c6a720a3f562f7d592e8c2a7c524dfcf1e78d70b8bf2e327a45495f110f8d", func := "obol/obollaw04.PairMultiplies", spec := "pairMultiplies", named := ["math/bits.divideError", "math/bits.overflowError"], apart := false, narrowed := true }
def PairMultipliesUptoSaid : Prop := pairMultipliesUptoRow.holds Try.pinned (OpenSpec.upto pairMultipliesSpec)

/-- 'obollaw04.PairStays', WHERE WHAT IT READS IS OF BULK AT MOST 1048576: true; the input reads as it did. -/
def pairStaysUptoRow : OpenClaim := { program := "ytibmidoepeghpaa", sum := "ed1c6a720a3f562f7d592e8c2a7c524dfcf1e78d70b8bf2e327a45495f110f8d", func := "obol/obollaw04.PairStays", spec := "pairStays", named := ["math/bits.divideError", "math/bits.overflowError"], apart := false, narrowed := true }
def PairStaysUptoSaid : Prop := pairStaysUptoRow.holds Try.pinned (OpenSpec.upto pairStaysSpec)

end Rows
end Go.Proofs.Ytibmidoepeghpaa
