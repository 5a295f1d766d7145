/-
  No cell of these rows narrows 'for every input' (looked for: loops, veiled, ifaces, maps, wideKeys, modest, calm, conditions, laid).
  DERIVED. THE GIVEN ROWS OF THIS SEAT. 5 by the template 'for every input the law returns true; each argument reads behind the call as it read before'; 0 by the template 'total and deterministic' (their statements: YtiikiamdbelbjaaTotals.lean).
  GIVEN WITH THE SEED: the statements are not yours to turn. If you find one false, say at which input.
  Laid BY PROGRAM, IN A SANDBOX (cutbox-rows.mjs): the forced cells as the released guide's own fill.sh prints them over the translation ca28e5a0ca8ce9a3… (all of the seat's roots in one cut). By AI agents, Wed Nov 11 2026. No macro, syntax, notation, axiom, sorry.
-/
import Derived.Test.YtiikiamdbelbjaaChecked
import GoSem.Claim
import GoSem.ClaimJoined
import GoSem.ClaimMapViews
import Derived.JoinedTies
import Derived.KernelRfl
namespace Go.Proofs.Ytiikiamdbelbjaa
/- THE CELL 'sum', in the pinned program and in every row, IS THE sha256 OF THE DUMP (.gsa) THAT YtiikiamdbelbjaaProg.lean LOADS. Nothing in Lean hashes anything: it is a label: what it is worth is what the hold of that sum in a sandbox is worth. -/
noncomputable def Try.pinned : Pinned := { name := "ytiikiamdbelbjaa", sum := "ca28e5a0ca8ce9a30cb5fea851bf95560ead1fe1d7f060869224b1f2939a1853", checked := Try.checked }
namespace Rows
def none {H : Type} : Left H := { results := [], args := [] }

/-- 'obollaw12.GadgetOnly': WHATEVER THE INPUT: true; the input reads as it did. -/
def gadgetOnlySpec : ChangeSpec := { name := "gadgetOnly", fn := fun _ => fun
  | [d1, d2, d3, d4] => { results := [.lit (.bool true)], args := [d1, d2, d3, d4] }
  | _ => none }
def gadgetOnlyRow : OpenClaim := { program := "ytiikiamdbelbjaa", sum := "ca28e5a0ca8ce9a30cb5fea851bf95560ead1fe1d7f060869224b1f2939a1853", func := "obol/obollaw12.GadgetOnly", spec := "gadgetOnly", unfollowed := true, recurses := true, named := ["math/bits.divideError", "math/bits.overflowError"], apart := false }
def GadgetOnlySaid : Prop := gadgetOnlyRow.holds Try.pinned (OpenSpec.ofChange gadgetOnlySpec)

/-- ITS FALSE NEIGHBOUR: 'it returns false'. Refute it at one input. -/
def gadgetOnlyWrong : ChangeSpec := { name := "gadgetOnly", fn := fun _ => fun
  | [d1, d2, d3, d4] => { results := [.lit (.bool false)], args := [d1, d2, d3, d4] }
  | _ => none }
def GadgetOnlyWrongFalsely : Prop := gadgetOnlyRow.holds Try.pinned (OpenSpec.ofChange gadgetOnlyWrong)

/-- 'obollaw12.GadgetHash': WHATEVER THE INPUT: true; the input reads as it did. -/
def gadgetHashSpec : ChangeSpec := { name := "gadgetHash", fn := fun _ => fun
  | [d1, d2, d3] => { results := [.lit (.bool true)], args := [d1, d2, d3] }
  | _ => none }
def gadgetHashRow : OpenClaim := { program := "ytiikiamdbelbjaa", sum := "ca28e5a0ca8ce9a30cb5fea851bf95560ead1fe1d7f060869224b1f2939a1853", func := "obol/obollaw12.GadgetHash", spec := "gadgetHash", unfollowed := true, recurses := true, named := ["math/bits.divideError", "math/bits.overflowError"], apart := false }
def GadgetHashSaid : Prop := gadgetHashRow.holds Try.pinned (OpenSpec.ofChange gadgetHashSpec)

/-- ITS FALSE NEIGHBOUR: 'it returns false'. Refute it at one input. -/
def gadgetHashWrong : ChangeSpec := { name := "gadgetHash", fn := fun _ => fun
  | [d1, d2, d3] => { results := [.lit (.bool false)], args := [d1, d2, d3] }
  | _ => none }
def GadgetHashWrongFalsely : Prop := gadgetHashRow.holds Try.pinned (OpenSpec.ofChange gadgetHashWrong)

/-- 'obollaw12.GadgetShape': WHATEVER THE INPUT: true; the input reads as it did. -/
def gadgetShapeSpec : ChangeSpec := { name := "gadgetShape", fn := fun _ => fun
  | [d1, d2] => { results := [.lit (.bool true)], args := [d1, d2] }
  | _ => none }
def gadgetShapeRow : OpenClaim := { program := "ytiikiamdbelbjaa", sum := "ca28e5a0ca8ce9a30cb5fea851bf95560ead1fe1d7f060869224b1f2939a1853", func := "obol/obollaw12.GadgetShape", spec := "gadgetShape", unfollowed := true, recurses := true, named := ["math/bits.divideError", "math/bits.overflowError"], apart := false }
def GadgetShapeSaid : Prop := gadgetShapeRow.holds Try.pinned (OpenSpec.ofChange gadgetShapeSpec)

/-- ITS FALSE NEIGHBOUR: 'it returns false'. Refute it at one input. -/
def gadgetShapeWrong : ChangeSpec := { name := "gadgetShape", fn := fun _ => fun
  | [d1, d2] => { results := [.lit (.bool false)], args := [d1, d2] }
  | _ => none }
def GadgetShapeWrongFalsely : Prop := gadgetShapeRow.holds Try.pinned (OpenSpec.ofChange gadgetShapeWrong)

/-- 'obollaw12.GadgetStays': WHATEVER THE INPUT: true; the input reads as it did. -/
def gadgetStaysSpec : ChangeSpec := { name := "gadgetStays", fn := fun _ => fun
  | [d] => { results := [.lit (.bool true)], args := [d] }
  | _ => none }
def gadgetStaysRow : OpenClaim := { program := "ytiikiamdbelbjaa", sum := "ca28e5a0ca8ce9a30cb5fea851bf95560ead1fe1d7f060869224b1f2939a1853", func := "obol/obollaw12.GadgetStays", spec := "gadgetStays", unfollowed := true, recurses := true, named := ["math/bits.divideError", "math/bits.overflowError"], apart := false }
def GadgetStaysSaid : Prop := gadgetStaysRow.holds Try.pinned (OpenSpec.ofChange gadgetStaysSpec)

/-- ITS FALSE NEIGHBOUR: 'it returns false'. Refute it at one input. -/
def gadgetStaysWrong : ChangeSpec := { name := "gadgetStays", fn := fun _ => fun
  | [d] => { results := [.lit (.bool false)], args := [d] }
  | _ => none }
def GadgetStaysWrongFalsely : Prop := gadgetStaysRow.holds Try.pinned (OpenSpec.ofChange gadgetStaysWrong)

/-- 'obollaw12.GadgetHolds': WHATEVER THE INPUT: true; the input reads as it did. -/
def gadgetHoldsSpec : ChangeSpec := { name := "gadgetHolds", fn := fun _ => fun
  | [d] => { results := [.lit (.bool true)], args := [d] }
  | _ => none }
def gadgetHoldsRow : OpenClaim := { program := "ytiikiamdbelbjaa", sum := "ca28e5a0ca8ce9a30cb5fea851bf95560ead1fe1d7f060869224b1f2939a1853", func := "obol/obollaw12.GadgetHolds", spec := "gadgetHolds", unfollowed := true, recurses := true, named := ["math/bits.divideError", "math/bits.overflowError"], apart := false }
def GadgetHoldsSaid : Prop := gadgetHoldsRow.holds Try.pinned (OpenSpec.ofChange gadgetHoldsSpec)

/-- ITS FALSE NEIGHBOUR: 'it returns false'. Refute it at one input. -/
def gadgetHoldsWrong : ChangeSpec := { name := "gadgetHolds", fn := fun _ => fun
  | [d] => { results := [.lit (.bool false)], args := [d] }
  | _ => none }
def GadgetHoldsWrongFalsely : Prop := gadgetHoldsRow.holds Try.pinned (OpenSpec.ofChange gadgetHoldsWrong)

/- THE SECOND FORM. 'bulk': how many values and letters a reading holds, each counted each time it is reached (what is shared counts as often as it is met; a slice's spare places count too). A statement '..UptoSaid' is the law's where the arguments, and the package variables that the reading takes, are together of bulk at most 1048576: NARROWER than '..Said'. Prove '..Said' where nothing that the law and all that it calls make is longer than what came in: it says more and counts as full. Else prove '..UptoSaid'. A law counts once. -/
mutual
def uptoBulk {H : Type} : DataW H → Nat
  | .lit (.string bytes) => bytes.length + 1
  | .lit _ => 1
  | .nil => 1
  | .ptr d => uptoBulk d + 1
  | .slice elems spare => uptoBulkAll elems + uptoBulkAll spare + 1
  | .agg parts => uptoBulkAll parts + 1
  | .iface _ d => uptoBulk d + 1
  | .map entries => uptoBulkEntries entries + 1
  | .held _ => 1
def uptoBulkAll {H : Type} : List (DataW H) → Nat
  | [] => 0
  | d :: r => uptoBulk d + uptoBulkAll r
def uptoBulkEntries {H : Type} : List (Lit × DataW H) → Nat
  | [] => 0
  | x :: r => uptoBulkEntry x + uptoBulkEntries r
def uptoBulkEntry {H : Type} : Lit × DataW H → Nat
  | (.string bytes, d) => bytes.length + uptoBulk d + 1
  | (_, d) => uptoBulk d + 1
 end
def uptoSmall : (H : Type) → List (DataW H) → Bool := fun _ ds => decide (uptoBulkAll ds ≤ 1048576)
def OpenSpec.upto (s : _root_.Go.ChangeSpec) : _root_.Go.OpenSpec := { _root_.Go.OpenSpec.ofChange s with cond := some uptoSmall }

/-- 'obollaw12.GadgetOnly', WHERE WHAT IT READS IS OF BULK AT MOST 1048576: true; the input reads as it did. -/
def gadgetOnlyUptoRow : OpenClaim := { program := "ytiikiamdbelbjaa", sum := "ca28e5a0ca8ce9a30cb5fea851bf95560ead1fe1d7f060869224b1f2939a1853", func := "obol/obollaw12.GadgetOnly", spec := "gadgetOnly", unfollowed := true, recurses := true, named := ["math/bits.divideError", "math/bits.overflowError"], apart := false, narrowed := true }
def GadgetOnlyUptoSaid : Prop := gadgetOnlyUptoRow.holds Try.pinned (OpenSpec.upto gadgetOnlySpec)

/-- 'obollaw12.GadgetHash', WHERE WHAT IT READS IS OF BULK AT MOST 1048576: true; the input reads as it did. -/
def gadgetHashUptoRow : OpenClaim := { program := "ytiikiamdbelbjaa", sum := "ca28e5a0ca8ce9a30cb5fea851bf95560ead1fe1d7f060869224b1f2939a1853", func := "obol/obollaw12.GadgetHash", spec := "gadgetHash", unfollowed := true, recurses := true, named := ["math/bits.divideError", "math/bits.overflowError"], apart := false, narrowed := true }
def GadgetHashUptoSaid : Prop := gadgetHashUptoRow.holds Try.pinned (OpenSpec.upto gadgetHashSpec)

/-- 'obollaw12.GadgetShape', WHERE WHAT IT READS IS OF BULK AT MOST 1048576: true; the input reads as it did. -/
def gadgetShapeUptoRow : OpenClaim := { program := "ytiikiamdbelbjaa", sum := "ca28e5a0ca8ce9a30cb5fea851bf95560ead1fe1d7f060869224b1f2939a1853", func := "obol/obollaw12.GadgetShape", spec := "gadgetShape", unfollowed := true, recurses := true, named := ["math/bits.divideError", "math/bits.overflowError"], apart := false, narrowed := true }
def GadgetShapeUptoSaid : Prop := gadgetShapeUptoRow.holds Try.pinned (OpenSpec.upto gadgetShapeSpec)

/-- 'obollaw12.GadgetStays', WHERE WHAT IT READS IS OF BULK AT MOST 1048576: true; the input reads as it did. -/
def gadgetStaysUptoRow : OpenClaim := { program := "ytiikiamdbelbjaa", sum := "ca28e5a0ca8ce9a30cb5fea851bf95560ead1fe1d7f060869224b1f2939a1853", func := "obol/obollaw12.GadgetStays", spec := "gadgetStays", unfollowed := true, recurses := true, named := ["math/bits.divideError", "math/bits.overflowError"], apart := false, narrowed := true }
def GadgetStaysUptoSaid : Prop := gadgetStaysUptoRow.holds Try.pinned (OpenSpec.upto gadgetStaysSpec)

/-- 'obollaw12.GadgetHolds', WHERE WHAT IT READS IS OF BULK AT MOST 1048576: true; the input reads as it did. -/
def gadgetHoldsUptoRow : OpenClaim := { program := "ytiikiamdbelbjaa", sum := "ca28e5a0ca8ce9a30cb5fea851bf95560ead1fe1d7f060869224b1f2939a1853", func := "obol/obollaw12.GadgetHolds", spec := "gadgetHolds", unfollowed := true, recurses := true, named := ["math/bits.divideError", "math/bits.overflowError"], apart := false, narrowed := true }
def GadgetHoldsUptoSaid : Prop := gadgetHoldsUptoRow.holds Try.pinned (OpenSpec.upto gadgetHoldsSpec)

end Rows
end Go.Proofs.Ytiikiamdbelbjaa
