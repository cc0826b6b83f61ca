/-
  DERIVED. GIVEN WITH THE SEED: THE CARDS: each row of YtiichencpnjbgaaGreatDoorRows.lean that lists a variable, with what it lists TIED to the program's text (the seventh form; the later family's looks); each row that meets fmt, with fmt's text TOLD by the authors' own Lean function (tested against real Go, not proved from fmt's source: count such statements apart). THE CARD IS WHAT COUNTS. Prove the row's statement (the work); the ties are given (YtiichencpnjbgaaGreatDoorTie.lean); close each card by the builder's one call (the guide's Derived/Test/ToyasCard.lean, 'card_holds'). Laid BY PROGRAM, IN A SANDBOX (cutbox-door.mjs). By AI agents, Wed Nov 11 2026. No macro, syntax, notation, axiom, sorry.
-/
import Derived.Test.YtiichencpnjbgaaGreatDoorRows
import GoSem.ClaimSeven
namespace Go.Proofs.YtiichencpnjbgaaGreatDoor
namespace Rows

/-- THE TIED CARD OF 'dragomanlaw19.ConvKnown'. -/
def convKnownCard : Claim7 := { stood := { row := convKnownRow, standIns := [], harness := (true, "62c0a4de0304f37f79ded80f180b487eff50d3997369dab971782672cdcd66ae"), looks := true }, kinds := [], alts := [], laidByText := true, laidKinds := [.data, .data, .data, .data, .sentinel, .sentinel, .pinned], laidTests := true, laidLooks := .later }
def ConvKnownCardSaid : Prop := Claim7.holds Tryz.pinned (.plain (OpenSpec.ofChange convKnownSpec)) convKnownCard

/-- THE SECOND FORM's CARD OF 'dragomanlaw19.ConvKnown'. -/
def convKnownUptoCard : Claim7 := { stood := { row := convKnownUptoRow, standIns := [], harness := (true, "62c0a4de0304f37f79ded80f180b487eff50d3997369dab971782672cdcd66ae"), looks := true }, kinds := [], alts := [], laidByText := true, laidKinds := [.data, .data, .data, .data, .sentinel, .sentinel, .pinned], laidTests := true, laidLooks := .later }
def ConvKnownUptoCardSaid : Prop := Claim7.holds Tryz.pinned (.plain (OpenSpec.upto convKnownSpec)) convKnownUptoCard
end Rows
end Go.Proofs.YtiichencpnjbgaaGreatDoor
