/-
  DERIVED. GIVEN WITH THE SEED: THE CARDS: each row of YtjeafkodcmbabaaDoorRows.lean that lists a variable, with what it lists TIED to the program's text (the seventh form; the later family's looks); each row that meets fmt, with fmt's text TOLD by the authors' own Lean function (tested against real Go, not proved from fmt's source: count such statements apart). THE CARD IS WHAT COUNTS. Prove the row's statement (the work); the ties are given (YtjeafkodcmbabaaDoorTie.lean); close each card by the builder's one call (the guide's Derived/Test/ToyasCard.lean, 'card_holds'). Laid BY PROGRAM, IN A SANDBOX (cutbox-door.mjs). By AI agents, Wed Nov 11 2026. No macro, syntax, notation, axiom, sorry.
-/
import Derived.Test.YtjeafkodcmbabaaDoorRows
import GoSem.ClaimSeven
namespace Go.Proofs.YtjeafkodcmbabaaDoor
namespace Rows

/-- THE TIED CARD OF 'obollaw11.RankOrder'. -/
def rankOrderCard : Claim7 := { stood := { row := rankOrderRow, standIns := [], harness := (true, "190d819b2c1c80f32c0d620e3586f5169c0f49cb6f33809d7047f8e840bbfd09"), looks := true }, kinds := [], alts := [], laidByText := true, laidKinds := [.handle], laidTests := true, laidLooks := .later }
def RankOrderCardSaid : Prop := Claim7.holds Tryd.pinned (.plain (OpenSpec.ofChange rankOrderSpec)) rankOrderCard

/-- THE TIED CARD OF 'obollaw11.RankValues'. -/
def rankValuesCard : Claim7 := { stood := { row := rankValuesRow, standIns := [], harness := (true, "190d819b2c1c80f32c0d620e3586f5169c0f49cb6f33809d7047f8e840bbfd09"), looks := true }, kinds := [], alts := [], laidByText := true, laidKinds := [.handle], laidTests := true, laidLooks := .later }
def RankValuesCardSaid : Prop := Claim7.holds Tryd.pinned (.plain (OpenSpec.ofChange rankValuesSpec)) rankValuesCard

/-- THE TIED CARD OF 'obollaw11.RankStays'. -/
def rankStaysCard : Claim7 := { stood := { row := rankStaysRow, standIns := [], harness := (true, "190d819b2c1c80f32c0d620e3586f5169c0f49cb6f33809d7047f8e840bbfd09"), looks := true }, kinds := [], alts := [], laidByText := true, laidKinds := [.handle], laidTests := true, laidLooks := .later }
def RankStaysCardSaid : Prop := Claim7.holds Tryd.pinned (.plain (OpenSpec.ofChange rankStaysSpec)) rankStaysCard

/-- THE SECOND FORM's CARD OF 'obollaw11.RankOrder'. -/
def rankOrderUptoCard : Claim7 := { stood := { row := rankOrderUptoRow, standIns := [], harness := (true, "190d819b2c1c80f32c0d620e3586f5169c0f49cb6f33809d7047f8e840bbfd09"), looks := true }, kinds := [], alts := [], laidByText := true, laidKinds := [.handle], laidTests := true, laidLooks := .later }
def RankOrderUptoCardSaid : Prop := Claim7.holds Tryd.pinned (.plain (OpenSpec.upto rankOrderSpec)) rankOrderUptoCard

/-- THE SECOND FORM's CARD OF 'obollaw11.RankValues'. -/
def rankValuesUptoCard : Claim7 := { stood := { row := rankValuesUptoRow, standIns := [], harness := (true, "190d819b2c1c80f32c0d620e3586f5169c0f49cb6f33809d7047f8e840bbfd09"), looks := true }, kinds := [], alts := [], laidByText := true, laidKinds := [.handle], laidTests := true, laidLooks := .later }
def RankValuesUptoCardSaid : Prop := Claim7.holds Tryd.pinned (.plain (OpenSpec.upto rankValuesSpec)) rankValuesUptoCard

/-- THE SECOND FORM's CARD OF 'obollaw11.RankStays'. -/
def rankStaysUptoCard : Claim7 := { stood := { row := rankStaysUptoRow, standIns := [], harness := (true, "190d819b2c1c80f32c0d620e3586f5169c0f49cb6f33809d7047f8e840bbfd09"), looks := true }, kinds := [], alts := [], laidByText := true, laidKinds := [.handle], laidTests := true, laidLooks := .later }
def RankStaysUptoCardSaid : Prop := Claim7.holds Tryd.pinned (.plain (OpenSpec.upto rankStaysSpec)) rankStaysUptoCard
end Rows
end Go.Proofs.YtjeafkodcmbabaaDoor
