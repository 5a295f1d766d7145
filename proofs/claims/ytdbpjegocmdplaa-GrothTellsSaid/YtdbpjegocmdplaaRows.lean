/-
  No cell of these rows narrows 'for every input' (looked for: loops, veiled, ifaces, maps, wideKeys, modest, calm, conditions, laid).
  DERIVED. THE GIVEN ROWS OF THIS SEAT. 4 by the template 'for every input the law returns true; each argument reads behind the call as it read before'; 0 by the template 'total and deterministic' (their statements: YtdbpjegocmdplaaTotals.lean).
  GIVEN WITH THE SEED: the statements are not yours to turn. If you find one false, say at which input.
  Laid BY PROGRAM, IN A SANDBOX (cutbox-rows.mjs): the forced cells as the released guide's own fill.sh prints them over the translation cf4136d57ff63c12… (all of the seat's roots in one cut). By AI agents, Wed Nov 11 2026. No macro, syntax, notation, axiom, sorry.
-/
import Derived.Test.YtdbpjegocmdplaaChecked
import GoSem.Claim
import GoSem.ClaimJoined
import GoSem.ClaimMapViews
import Derived.JoinedTies
import Derived.KernelRfl
namespace Go.Proofs.Ytdbpjegocmdplaa
/- THE CELL 'sum', in the pinned program and in every row, IS THE sha256 OF THE DUMP (.gsa) THAT YtdbpjegocmdplaaProg.lean LOADS. Nothing in Lean hashes anything: it is a label: what it is worth is what the hold of that sum in a sandbox is worth. -/
noncomputable def Try.pinned : Pinned := { name := "ytdbpjegocmdplaa", sum := "cf4136d57ff63c1210ffb272cf496fc5696766538db40fe68262e358de7e2c53", checked := Try.checked }
namespace Rows
def none {H : Type} : Left H := { results := [], args := [] }

/-- 'obollaw15.GrothStays': WHATEVER THE INPUT: true; the input reads as it did. -/
def grothStaysSpec : ChangeSpec := { name := "grothStays", fn := fun _ => fun
  | [d1, d2, d3] => { results := [.lit (.bool true)], args := [d1, d2, d3] }
  | _ => none }
def grothStaysRow : OpenClaim := { program := "ytdbpjegocmdplaa", sum := "cf4136d57ff63c1210ffb272cf496fc5696766538db40fe68262e358de7e2c53", func := "obol/obollaw15.GrothStays", spec := "grothStays", unfollowed := true, recurses := true, named := ["math/bits.divideError", "math/bits.overflowError"], apart := false }
def GrothStaysSaid : Prop := grothStaysRow.holds Try.pinned (OpenSpec.ofChange grothStaysSpec)

/-- ITS FALSE NEIGHBOUR: 'it returns false'. Refute it at one input. -/
def grothStaysWrong : ChangeSpec := { name := "grothStays", fn := fun _ => fun
  | [d1, d2, d3] => { results := [.lit (.bool false)], args := [d1, d2, d3] }
  | _ => none }
def GrothStaysWrongFalsely : Prop := grothStaysRow.holds Try.pinned (OpenSpec.ofChange grothStaysWrong)

/-- 'obollaw15.GrothWrites': WHATEVER THE INPUT: true; the input reads as it did. -/
def grothWritesSpec : ChangeSpec := { name := "grothWrites", fn := fun _ => fun
  | [d] => { results := [.lit (.bool true)], args := [d] }
  | _ => none }
def grothWritesRow : OpenClaim := { program := "ytdbpjegocmdplaa", sum := "cf4136d57ff63c1210ffb272cf496fc5696766538db40fe68262e358de7e2c53", func := "obol/obollaw15.GrothWrites", spec := "grothWrites", unfollowed := true, recurses := true, named := ["math/bits.divideError", "math/bits.overflowError"], apart := false }
def GrothWritesSaid : Prop := grothWritesRow.holds Try.pinned (OpenSpec.ofChange grothWritesSpec)

/-- ITS FALSE NEIGHBOUR: 'it returns false'. Refute it at one input. -/
def grothWritesWrong : ChangeSpec := { name := "grothWrites", fn := fun _ => fun
  | [d] => { results := [.lit (.bool false)], args := [d] }
  | _ => none }
def GrothWritesWrongFalsely : Prop := grothWritesRow.holds Try.pinned (OpenSpec.ofChange grothWritesWrong)

/-- 'obollaw15.GrothReads': WHATEVER THE INPUT: true; the input reads as it did. -/
def grothReadsSpec : ChangeSpec := { name := "grothReads", fn := fun _ => fun
  | [d] => { results := [.lit (.bool true)], args := [d] }
  | _ => none }
def grothReadsRow : OpenClaim := { program := "ytdbpjegocmdplaa", sum := "cf4136d57ff63c1210ffb272cf496fc5696766538db40fe68262e358de7e2c53", func := "obol/obollaw15.GrothReads", spec := "grothReads", unfollowed := true, recurses := true, named := ["math/bits.divideError", "math/bits.overflowError"], apart := false }
def GrothReadsSaid : Prop := grothReadsRow.holds Try.pinned (OpenSpec.ofChange grothReadsSpec)

/-- ITS FALSE NEIGHBOUR: 'it returns false'. Refute it at one input. -/
def grothReadsWrong : ChangeSpec := { name := "grothReads", fn := fun _ => fun
  | [d] => { results := [.lit (.bool false)], args := [d] }
  | _ => none }
def GrothReadsWrongFalsely : Prop := grothReadsRow.holds Try.pinned (OpenSpec.ofChange grothReadsWrong)

/-- 'obollaw15.GrothTells': WHATEVER THE INPUT: true; the input reads as it did. -/
def grothTellsSpec : ChangeSpec := { name := "grothTells", fn := fun _ => fun
  | [d1, d2, d3, d4, d5] => { results := [.lit (.bool true)], args := [d1, d2, d3, d4, d5] }
  | _ => none }
def grothTellsRow : OpenClaim := { program := "ytdbpjegocmdplaa", sum := "cf4136d57ff63c1210ffb272cf496fc5696766538db40fe68262e358de7e2c53", func := "obol/obollaw15.GrothTells", spec := "grothTells", unfollowed := true, recurses := true, named := ["math/bits.divideError", "math/bits.overflowError"], apart := false }
def GrothTellsSaid : Prop := grothTellsRow.holds Try.pinned (OpenSpec.ofChange grothTellsSpec)

/-- ITS FALSE NEIGHBOUR: 'it returns false'. Refute it at one input. -/
def grothTellsWrong : ChangeSpec := { name := "grothTells", fn := fun _ => fun
  | [d1, d2, d3, d4, d5] => { results := [.lit (.bool false)], args := [d1, d2, d3, d4, d5] }
  | _ => none }
def GrothTellsWrongFalsely : Prop := grothTellsRow.holds Try.pinned (OpenSpec.ofChange grothTellsWrong)

/- THE SECOND FORM. 'bulk': how many values and letters a reading holds, each counted each time it is reached (what is shared counts as often as it is met; a slice's spare places count too). A statement '..UptoSaid' is the law's where the arguments, and the package variables that the reading takes, are together of bulk at most 1048576: NARROWER than '..Said'. Prove '..Said' where nothing that the law and all that it calls make is longer than what came in: it says more and counts as full. Else prove '..UptoSaid'. A law counts once. -/
mutual
def uptoBulk {H : Type} : DataW H → Nat
  | .lit (.string bytes) => bytes.length + 1
  | .lit _ => 1
  | .nil => 1
  | .ptr d => uptoBulk d + 1
  | .slice elems spare => uptoBulkAll elems + uptoBulkAll spare + 1
  | .agg parts => uptoBulkAll parts + 1
  | .iface _ d => uptoBulk d + 1
  | .map entries => uptoBulkEntries entries + 1
  | .held _ => 1
def uptoBulkAll {H : Type} : List (DataW H) → Nat
  | [] => 0
  | d :: r => uptoBulk d + uptoBulkAll r
def uptoBulkEntries {H : Type} : List (Lit × DataW H) → Nat
  | [] => 0
  | x :: r => uptoBulkEntry x + uptoBulkEntries r
def uptoBulkEntry {H : Type} : Lit × DataW H → Nat
  | (.string bytes, d) => bytes.length + uptoBulk d + 1
  | (_, d) => uptoBulk d + 1
 end
def uptoSmall : (H : Type) → List (DataW H) → Bool := fun _ ds => decide (uptoBulkAll ds ≤ 1048576)
def OpenSpec.upto (s : _root_.Go.ChangeSpec) : _root_.Go.OpenSpec := { _root_.Go.OpenSpec.ofChange s with cond := some uptoSmall }

/-- 'obollaw15.GrothStays', WHERE WHAT IT READS IS OF BULK AT MOST 1048576: true; the input reads as it did. -/
def grothStaysUptoRow : OpenClaim := { program := "ytdbpjegocmdplaa", sum := "cf4136d57ff63c1210ffb272cf496fc5696766538db40fe68262e358de7e2c53", func := "obol/obollaw15.GrothStays", spec := "grothStays", unfollowed := true, recurses := true, named := ["math/bits.divideError", "math/bits.overflowError"], apart := false, narrowed := true }
def GrothStaysUptoSaid : Prop := grothStaysUptoRow.holds Try.pinned (OpenSpec.upto grothStaysSpec)

/-- 'obollaw15.GrothWrites', WHERE WHAT IT READS IS OF BULK AT MOST 1048576: true; the input reads as it did. -/
def grothWritesUptoRow : OpenClaim := { program := "ytdbpjegocmdplaa", sum := "cf4136d57ff63c1210ffb272cf496fc5696766538db40fe68262e358de7e2c53", func := "obol/obollaw15.GrothWrites", spec := "grothWrites", unfollowed := true, recurses := true, named := ["math/bits.divideError", "math/bits.overflowError"], apart := false, narrowed := true }
def GrothWritesUptoSaid : Prop := grothWritesUptoRow.holds Try.pinned (OpenSpec.upto grothWritesSpec)

/-- 'obollaw15.GrothReads', WHERE WHAT IT READS IS OF BULK AT MOST 1048576: true; the input reads as it did. -/
def grothReadsUptoRow : OpenClaim := { program := "ytdbpjegocmdplaa", sum := "cf4136d57ff63c1210ffb272cf496fc5696766538db40fe68262e358de7e2c53", func := "obol/obollaw15.GrothReads", spec := "grothReads", unfollowed := true, recurses := true, named := ["math/bits.divideError", "math/bits.overflowError"], apart := false, narrowed := true }
def GrothReadsUptoSaid : Prop := grothReadsUptoRow.holds Try.pinned (OpenSpec.upto grothReadsSpec)

/-- 'obollaw15.GrothTells', WHERE WHAT IT READS IS OF BULK AT MOST 1048576: true; the input reads as it did. -/
def grothTellsUptoRow : OpenClaim := { program := "ytdbpjegocmdplaa", sum := "cf4136d57ff63c1210ffb272cf496fc5696766538db40fe68262e358de7e2c53", func := "obol/obollaw15.GrothTells", spec := "grothTells", unfollowed := true, recurses := true, named := ["math/bits.divideError", "math/bits.overflowError"], apart := false, narrowed := true }
def GrothTellsUptoSaid : Prop := grothTellsUptoRow.holds Try.pinned (OpenSpec.upto grothTellsSpec)

end Rows
end Go.Proofs.Ytdbpjegocmdplaa
