/-
  No cell of these rows narrows 'for every input' (looked for: loops, veiled, ifaces, maps, wideKeys, modest, calm, conditions, laid).
  DERIVED. THE GIVEN ROWS OF THIS SEAT. 5 by the template 'for every input the law returns true; each argument reads behind the call as it read before'; 0 by the template 'total and deterministic' (their statements: YtngphcdhdllnnaaTotals.lean).
  GIVEN WITH THE SEED: the statements are not yours to turn. If you find one false, say at which input.
  Laid BY PROGRAM, IN A SANDBOX (cutbox-rows.mjs): the forced cells as the released guide's own fill.sh prints them over the translation 109416916fb29f85… (all of the seat's roots in one cut). By AI agents, Wed Nov 11 2026. No macro, syntax, notation, axiom, sorry.
-/
import Derived.Test.YtngphcdhdllnnaaChecked
import GoSem.Claim
import GoSem.ClaimJoined
import GoSem.ClaimMapViews
import Derived.JoinedTies
import Derived.KernelRfl
namespace Go.Proofs.Ytngphcdhdllnnaa
/- THE CELL 'sum', in the pinned program and in every row, IS THE sha256 OF THE DUMP (.gsa) THAT YtngphcdhdllnnaaProg.lean LOADS. Nothing in Lean hashes anything: it is a label: what it is worth is what the hold of that sum in a sandbox is worth. -/
noncomputable def Try.pinned : Pinned := { name := "ytngphcdhdllnnaa", sum := "109416916fb29f851e4ebaf17782fc8d9cdddf83afc350cc8bbcc44903cffd4c", checked := Try.checked }
namespace Rows
def none {H : Type} : Left H := { results := [], args := [] }

/-- 'obollaw18.CircuitNumbers': WHATEVER THE INPUT: true; the input reads as it did. -/
def circuitNumbersSpec : ChangeSpec := { name := "circuitNumbers", fn := fun _ => fun
  | [d1, d2] => { results := [.lit (.bool true)], args := [d1, d2] }
  | _ => none }
def circuitNumbersRow : OpenClaim := { program := "ytngphcdhdllnnaa", sum := "109416916fb29f851e4ebaf17782fc8d9cdddf83afc350cc8bbcc44903cffd4c", func := "obol/obollaw18.CircuitNumbers", spec := "circuitNumbers", unfollowed := true, recurses := true, named := ["math/bits.divideError", "math/bits.overflowError"], apart := false }
def CircuitNumbersSaid : Prop := circuitNumbersRow.holds Try.pinned (OpenSpec.ofChange circuitNumbersSpec)

/-- ITS FALSE NEIGHBOUR: 'it returns false'. Refute it at one input. -/
def circuitNumbersWrong : ChangeSpec := { name := "circuitNumbers", fn := fun _ => fun
  | [d1, d2] => { results := [.lit (.bool false)], args := [d1, d2] }
  | _ => none }
def CircuitNumbersWrongFalsely : Prop := circuitNumbersRow.holds Try.pinned (OpenSpec.ofChange circuitNumbersWrong)

/-- 'obollaw18.CircuitRight': WHATEVER THE INPUT: true; the input reads as it did. -/
def circuitRightSpec : ChangeSpec := { name := "circuitRight", fn := fun _ => fun
  | [d1, d2] => { results := [.lit (.bool true)], args := [d1, d2] }
  | _ => none }
def circuitRightRow : OpenClaim := { program := "ytngphcdhdllnnaa", sum := "109416916fb29f851e4ebaf17782fc8d9cdddf83afc350cc8bbcc44903cffd4c", func := "obol/obollaw18.CircuitRight", spec := "circuitRight", unfollowed := true, recurses := true, named := ["math/bits.divideError", "math/bits.overflowError"], apart := false }
def CircuitRightSaid : Prop := circuitRightRow.holds Try.pinned (OpenSpec.ofChange circuitRightSpec)

/-- ITS FALSE NEIGHBOUR: 'it returns false'. Refute it at one input. -/
def circuitRightWrong : ChangeSpec := { name := "circuitRight", fn := fun _ => fun
  | [d1, d2] => { results := [.lit (.bool false)], args := [d1, d2] }
  | _ => none }
def CircuitRightWrongFalsely : Prop := circuitRightRow.holds Try.pinned (OpenSpec.ofChange circuitRightWrong)

/-- 'obollaw18.CircuitHolds': WHATEVER THE INPUT: true; the input reads as it did. -/
def circuitHoldsSpec : ChangeSpec := { name := "circuitHolds", fn := fun _ => fun
  | [d1, d2] => { results := [.lit (.bool true)], args := [d1, d2] }
  | _ => none }
def circuitHoldsRow : OpenClaim := { program := "ytngphcdhdllnnaa", sum := "109416916fb29f851e4ebaf17782fc8d9cdddf83afc350cc8bbcc44903cffd4c", func := "obol/obollaw18.CircuitHolds", spec := "circuitHolds", unfollowed := true, recurses := true, named := ["math/bits.divideError", "math/bits.overflowError"], apart := false }
def CircuitHoldsSaid : Prop := circuitHoldsRow.holds Try.pinned (OpenSpec.ofChange circuitHoldsSpec)

/-- ITS FALSE NEIGHBOUR: 'it returns false'. Refute it at one input. -/
def circuitHoldsWrong : ChangeSpec := { name := "circuitHolds", fn := fun _ => fun
  | [d1, d2] => { results := [.lit (.bool false)], args := [d1, d2] }
  | _ => none }
def CircuitHoldsWrongFalsely : Prop := circuitHoldsRow.holds Try.pinned (OpenSpec.ofChange circuitHoldsWrong)

/-- 'obollaw18.CircuitStays': WHATEVER THE INPUT: true; the input reads as it did. -/
def circuitStaysSpec : ChangeSpec := { name := "circuitStays", fn := fun _ => fun
  | [d1, d2] => { results := [.lit (.bool true)], args := [d1, d2] }
  | _ => none }
def circuitStaysRow : OpenClaim := { program := "ytngphcdhdllnnaa", sum := "109416916fb29f851e4ebaf17782fc8d9cdddf83afc350cc8bbcc44903cffd4c", func := "obol/obollaw18.CircuitStays", spec := "circuitStays", unfollowed := true, recurses := true, named := ["math/bits.divideError", "math/bits.overflowError"], apart := false }
def CircuitStaysSaid : Prop := circuitStaysRow.holds Try.pinned (OpenSpec.ofChange circuitStaysSpec)

/-- ITS FALSE NEIGHBOUR: 'it returns false'. Refute it at one input. -/
def circuitStaysWrong : ChangeSpec := { name := "circuitStays", fn := fun _ => fun
  | [d1, d2] => { results := [.lit (.bool false)], args := [d1, d2] }
  | _ => none }
def CircuitStaysWrongFalsely : Prop := circuitStaysRow.holds Try.pinned (OpenSpec.ofChange circuitStaysWrong)

/-- 'obollaw18.CircuitShapes': WHATEVER THE INPUT: true; the input reads as it did. -/
def circuitShapesSpec : ChangeSpec := { name := "circuitShapes", fn := fun _ => fun
  | [d] => { results := [.lit (.bool true)], args := [d] }
  | _ => none }
def circuitShapesRow : OpenClaim := { program := "ytngphcdhdllnnaa", sum := "109416916fb29f851e4ebaf17782fc8d9cdddf83afc350cc8bbcc44903cffd4c", func := "obol/obollaw18.CircuitShapes", spec := "circuitShapes", unfollowed := true, recurses := true, named := ["math/bits.divideError", "math/bits.overflowError"], apart := false }
def CircuitShapesSaid : Prop := circuitShapesRow.holds Try.pinned (OpenSpec.ofChange circuitShapesSpec)

/-- ITS FALSE NEIGHBOUR: 'it returns false'. Refute it at one input. -/
def circuitShapesWrong : ChangeSpec := { name := "circuitShapes", fn := fun _ => fun
  | [d] => { results := [.lit (.bool false)], args := [d] }
  | _ => none }
def CircuitShapesWrongFalsely : Prop := circuitShapesRow.holds Try.pinned (OpenSpec.ofChange circuitShapesWrong)

/- THE SECOND FORM. 'bulk': how many values and letters a reading holds, each counted each time it is reached (what is shared counts as often as it is met; a slice's spare places count too). A statement '..UptoSaid' is the law's where the arguments, and the package variables that the reading takes, are together of bulk at most 1048576: NARROWER than '..Said'. Prove '..Said' where nothing that the law and all that it calls make is longer than what came in: it says more and counts as full. Else prove '..UptoSaid'. A law counts once. -/
mutual
def uptoBulk {H : Type} : DataW H → Nat
  | .lit (.string bytes) => bytes.length + 1
  | .lit _ => 1
  | .nil => 1
  | .ptr d => uptoBulk d + 1
  | .slice elems spare => uptoBulkAll elems + uptoBulkAll spare + 1
  | .agg parts => uptoBulkAll parts + 1
  | .iface _ d => uptoBulk d + 1
  | .map entries => uptoBulkEntries entries + 1
  | .held _ => 1
def uptoBulkAll {H : Type} : List (DataW H) → Nat
  | [] => 0
  | d :: r => uptoBulk d + uptoBulkAll r
def uptoBulkEntries {H : Type} : List (Lit × DataW H) → Nat
  | [] => 0
  | x :: r => uptoBulkEntry x + uptoBulkEntries r
def uptoBulkEntry {H : Type} : Lit × DataW H → Nat
  | (.string bytes, d) => bytes.length + uptoBulk d + 1
  | (_, d) => uptoBulk d + 1
 end
def uptoSmall : (H : Type) → List (DataW H) → Bool := fun _ ds => decide (uptoBulkAll ds ≤ 1048576)
def OpenSpec.upto (s : _root_.Go.ChangeSpec) : _root_.Go.OpenSpec := { _root_.Go.OpenSpec.ofChange s with cond := some uptoSmall }

/-- 'obollaw18.CircuitNumbers', WHERE WHAT IT READS IS OF BULK AT MOST 1048576: true; the input reads as it did. -/
def circuitNumbersUptoRow : OpenClaim := { program := "ytngphcdhdllnnaa", sum := "109416916fb29f851e4ebaf17782fc8d9cdddf83afc350cc8bbcc44903cffd4c", func := "obol/obollaw18.CircuitNumbers", spec := "circuitNumbers", unfollowed := true, recurses := true, named := ["math/bits.divideError", "math/bits.overflowError"], apart := false, narrowed := true }
def CircuitNumbersUptoSaid : Prop := circuitNumbersUptoRow.holds Try.pinned (OpenSpec.upto circuitNumbersSpec)

/-- 'obollaw18.CircuitRight', WHERE WHAT IT READS IS OF BULK AT MOST 1048576: true; the input reads as it did. -/
def circuitRightUptoRow : OpenClaim := { program := "ytngphcdhdllnnaa", sum := "109416916fb29f851e4ebaf17782fc8d9cdddf83afc350cc8bbcc44903cffd4c", func := "obol/obollaw18.CircuitRight", spec := "circuitRight", unfollowed := true, recurses := true, named := ["math/bits.divideError", "math/bits.overflowError"], apart := false, narrowed := true }
def CircuitRightUptoSaid : Prop := circuitRightUptoRow.holds Try.pinned (OpenSpec.upto circuitRightSpec)

/-- 'obollaw18.CircuitHolds', WHERE WHAT IT READS IS OF BULK AT MOST 1048576: true; the input reads as it did. -/
def circuitHoldsUptoRow : OpenClaim := { program := "ytngphcdhdllnnaa", sum := "109416916fb29f851e4ebaf17782fc8d9cdddf83afc350cc8bbcc44903cffd4c", func := "obol/obollaw18.CircuitHolds", spec := "circuitHolds", unfollowed := true, recurses := true, named := ["math/bits.divideError", "math/bits.overflowError"], apart := false, narrowed := true }
def CircuitHoldsUptoSaid : Prop := circuitHoldsUptoRow.holds Try.pinned (OpenSpec.upto circuitHoldsSpec)

/-- 'obollaw18.CircuitStays', WHERE WHAT IT READS IS OF BULK AT MOST 1048576: true; the input reads as it did. -/
def circuitStaysUptoRow : OpenClaim := { program := "ytngphcdhdllnnaa", sum := "109416916fb29f851e4ebaf17782fc8d9cdddf83afc350cc8bbcc44903cffd4c", func := "obol/obollaw18.CircuitStays", spec := "circuitStays", unfollowed := true, recurses := true, named := ["math/bits.divideError", "math/bits.overflowError"], apart := false, narrowed := true }
def CircuitStaysUptoSaid : Prop := circuitStaysUptoRow.holds Try.pinned (OpenSpec.upto circuitStaysSpec)

/-- 'obollaw18.CircuitShapes', WHERE WHAT IT READS IS OF BULK AT MOST 1048576: true; the input reads as it did. -/
def circuitShapesUptoRow : OpenClaim := { program := "ytngphcdhdllnnaa", sum := "109416916fb29f851e4ebaf17782fc8d9cdddf83afc350cc8bbcc44903cffd4c", func := "obol/obollaw18.CircuitShapes", spec := "circuitShapes", unfollowed := true, recurses := true, named := ["math/bits.divideError", "math/bits.overflowError"], apart := false, narrowed := true }
def CircuitShapesUptoSaid : Prop := circuitShapesUptoRow.holds Try.pinned (OpenSpec.upto circuitShapesSpec)

end Rows
end Go.Proofs.Ytngphcdhdllnnaa
