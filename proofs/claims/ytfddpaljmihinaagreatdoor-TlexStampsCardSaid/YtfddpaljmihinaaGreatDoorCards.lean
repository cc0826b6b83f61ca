/-
  DERIVED. GIVEN WITH THE SEED: THE CARDS: each row of YtfddpaljmihinaaGreatDoorRows.lean that lists a variable, with what it lists TIED to the program's text (the seventh form; the later family's looks); each row that meets fmt, with fmt's text TOLD by the authors' own Lean function (tested against real Go, not proved from fmt's source: count such statements apart). THE CARD IS WHAT COUNTS. Prove the row's statement (the work); the ties are given (YtfddpaljmihinaaGreatDoorTie.lean); close each card by the builder's one call (the guide's Derived/Test/ToyasCard.lean, 'card_holds'). Laid BY PROGRAM, IN A SANDBOX (cutbox-door.mjs). By AI agents, Wed Nov 11 2026. No macro, syntax, notation, axiom, sorry.
-/
import Derived.Test.YtfddpaljmihinaaGreatDoorRows
import GoSem.ClaimSeven
namespace Go.Proofs.YtfddpaljmihinaaGreatDoor
namespace Rows

/-- THE TIED CARD OF 'dragomanlaw10.TlexKnown'. -/
def tlexKnownCard : Claim7 := { stood := { row := tlexKnownRow, standIns := [], harness := (true, "9d1192eba76c0b58287c3f41cfc02bfed55ab02a0080f51b6f39caab06670530"), looks := true }, kinds := [], alts := [], laidByText := true, laidKinds := [.data, .data, .data, .data, .sentinel, .sentinel, .pinned], laidTests := true, laidLooks := .later }
def TlexKnownCardSaid : Prop := Claim7.holds Tryz.pinned (.plain (OpenSpec.ofChange tlexKnownSpec)) tlexKnownCard

/-- THE TIED CARD OF 'dragomanlaw10.TlexInts'. -/
def tlexIntsCard : Claim7 := { stood := { row := tlexIntsRow, standIns := [], harness := (true, "9d1192eba76c0b58287c3f41cfc02bfed55ab02a0080f51b6f39caab06670530"), looks := true }, kinds := [], alts := [], laidByText := true, laidKinds := [.data, .data, .data, .data, .sentinel, .sentinel, .pinned], laidTests := true, laidLooks := .later }
def TlexIntsCardSaid : Prop := Claim7.holds Tryz.pinned (.plain (OpenSpec.ofChange tlexIntsSpec)) tlexIntsCard

/-- THE TIED CARD OF 'dragomanlaw10.TlexStamps'. -/
def tlexStampsCard : Claim7 := { stood := { row := tlexStampsRow, standIns := [], harness := (true, "9d1192eba76c0b58287c3f41cfc02bfed55ab02a0080f51b6f39caab06670530"), looks := true }, kinds := [], alts := [], laidByText := true, laidKinds := [.data, .data, .data, .data, .sentinel, .sentinel, .pinned], laidTests := true, laidLooks := .later }
def TlexStampsCardSaid : Prop := Claim7.holds Tryz.pinned (.plain (OpenSpec.ofChange tlexStampsSpec)) tlexStampsCard

/-- THE TIED CARD OF 'dragomanlaw10.TlexFloats'. -/
def tlexFloatsCard : Claim7 := { stood := { row := tlexFloatsRow, standIns := [], harness := (true, "9d1192eba76c0b58287c3f41cfc02bfed55ab02a0080f51b6f39caab06670530"), looks := true }, kinds := [], alts := [], laidByText := true, laidKinds := [.data, .data, .data, .data, .sentinel, .sentinel, .pinned], laidTests := true, laidLooks := .later }
def TlexFloatsCardSaid : Prop := Claim7.holds Tryz.pinned (.plain (OpenSpec.ofChange tlexFloatsSpec)) tlexFloatsCard

/-- THE TIED CARD OF 'dragomanlaw10.TlexKeysBack'. -/
def tlexKeysBackCard : Claim7 := { stood := { row := tlexKeysBackRow, standIns := [], harness := (true, "9d1192eba76c0b58287c3f41cfc02bfed55ab02a0080f51b6f39caab06670530"), looks := true }, kinds := [], alts := [], laidByText := true, laidKinds := [.data, .data, .data, .data, .sentinel, .sentinel, .pinned], laidTests := true, laidLooks := .later }
def TlexKeysBackCardSaid : Prop := Claim7.holds Tryz.pinned (.plain (OpenSpec.ofChange tlexKeysBackSpec)) tlexKeysBackCard

/-- THE TIED CARD OF 'dragomanlaw11.TreadKnown'. -/
def treadKnownCard : Claim7 := { stood := { row := treadKnownRow, standIns := [], harness := (true, "9d1192eba76c0b58287c3f41cfc02bfed55ab02a0080f51b6f39caab06670530"), looks := true }, kinds := [], alts := [], laidByText := true, laidKinds := [.data, .data, .data, .data, .sentinel, .sentinel, .pinned], laidTests := true, laidLooks := .later }
def TreadKnownCardSaid : Prop := Claim7.holds Tryz.pinned (.plain (OpenSpec.ofChange treadKnownSpec)) treadKnownCard

/-- THE TIED CARD OF 'dragomanlaw11.TreadDots'. -/
def treadDotsCard : Claim7 := { stood := { row := treadDotsRow, standIns := [], harness := (true, "9d1192eba76c0b58287c3f41cfc02bfed55ab02a0080f51b6f39caab06670530"), looks := true }, kinds := [], alts := [], laidByText := true, laidKinds := [.data, .data, .data, .data, .sentinel, .sentinel, .pinned], laidTests := true, laidLooks := .later }
def TreadDotsCardSaid : Prop := Claim7.holds Tryz.pinned (.plain (OpenSpec.ofChange treadDotsSpec)) treadDotsCard

/-- THE TIED CARD OF 'dragomanlaw11.TreadTwice'. -/
def treadTwiceCard : Claim7 := { stood := { row := treadTwiceRow, standIns := [], harness := (true, "9d1192eba76c0b58287c3f41cfc02bfed55ab02a0080f51b6f39caab06670530"), looks := true }, kinds := [], alts := [], laidByText := true, laidKinds := [.data, .data, .data, .data, .sentinel, .sentinel, .pinned], laidTests := true, laidLooks := .later }
def TreadTwiceCardSaid : Prop := Claim7.holds Tryz.pinned (.plain (OpenSpec.ofChange treadTwiceSpec)) treadTwiceCard

/-- THE TIED CARD OF 'dragomanlaw11.TreadLists'. -/
def treadListsCard : Claim7 := { stood := { row := treadListsRow, standIns := [], harness := (true, "9d1192eba76c0b58287c3f41cfc02bfed55ab02a0080f51b6f39caab06670530"), looks := true }, kinds := [], alts := [], laidByText := true, laidKinds := [.data, .data, .data, .data, .sentinel, .sentinel, .pinned], laidTests := true, laidLooks := .later }
def TreadListsCardSaid : Prop := Claim7.holds Tryz.pinned (.plain (OpenSpec.ofChange treadListsSpec)) treadListsCard

/-- THE TIED CARD OF 'dragomanlaw11.TreadValues'. -/
def treadValuesCard : Claim7 := { stood := { row := treadValuesRow, standIns := [], harness := (true, "9d1192eba76c0b58287c3f41cfc02bfed55ab02a0080f51b6f39caab06670530"), looks := true }, kinds := [], alts := [], laidByText := true, laidKinds := [.data, .data, .data, .data, .sentinel, .sentinel, .pinned], laidTests := true, laidLooks := .later }
def TreadValuesCardSaid : Prop := Claim7.holds Tryz.pinned (.plain (OpenSpec.ofChange treadValuesSpec)) treadValuesCard

/-- THE TIED CARD OF 'dragomanlaw11.TreadBounds'. -/
def treadBoundsCard : Claim7 := { stood := { row := treadBoundsRow, standIns := [], harness := (true, "9d1192eba76c0b58287c3f41cfc02bfed55ab02a0080f51b6f39caab06670530"), looks := true }, kinds := [], alts := [], laidByText := true, laidKinds := [.data, .data, .data, .data, .sentinel, .sentinel, .pinned], laidTests := true, laidLooks := .later }
def TreadBoundsCardSaid : Prop := Claim7.holds Tryz.pinned (.plain (OpenSpec.ofChange treadBoundsSpec)) treadBoundsCard

/-- THE SECOND FORM's CARD OF 'dragomanlaw10.TlexKnown'. -/
def tlexKnownUptoCard : Claim7 := { stood := { row := tlexKnownUptoRow, standIns := [], harness := (true, "9d1192eba76c0b58287c3f41cfc02bfed55ab02a0080f51b6f39caab06670530"), looks := true }, kinds := [], alts := [], laidByText := true, laidKinds := [.data, .data, .data, .data, .sentinel, .sentinel, .pinned], laidTests := true, laidLooks := .later }
def TlexKnownUptoCardSaid : Prop := Claim7.holds Tryz.pinned (.plain (OpenSpec.upto tlexKnownSpec)) tlexKnownUptoCard

/-- THE SECOND FORM's CARD OF 'dragomanlaw10.TlexInts'. -/
def tlexIntsUptoCard : Claim7 := { stood := { row := tlexIntsUptoRow, standIns := [], harness := (true, "9d1192eba76c0b58287c3f41cfc02bfed55ab02a0080f51b6f39caab06670530"), looks := true }, kinds := [], alts := [], laidByText := true, laidKinds := [.data, .data, .data, .data, .sentinel, .sentinel, .pinned], laidTests := true, laidLooks := .later }
def TlexIntsUptoCardSaid : Prop := Claim7.holds Tryz.pinned (.plain (OpenSpec.upto tlexIntsSpec)) tlexIntsUptoCard

/-- THE SECOND FORM's CARD OF 'dragomanlaw10.TlexStamps'. -/
def tlexStampsUptoCard : Claim7 := { stood := { row := tlexStampsUptoRow, standIns := [], harness := (true, "9d1192eba76c0b58287c3f41cfc02bfed55ab02a0080f51b6f39caab06670530"), looks := true }, kinds := [], alts := [], laidByText := true, laidKinds := [.data, .data, .data, .data, .sentinel, .sentinel, .pinned], laidTests := true, laidLooks := .later }
def TlexStampsUptoCardSaid : Prop := Claim7.holds Tryz.pinned (.plain (OpenSpec.upto tlexStampsSpec)) tlexStampsUptoCard

/-- THE SECOND FORM's CARD OF 'dragomanlaw10.TlexFloats'. -/
def tlexFloatsUptoCard : Claim7 := { stood := { row := tlexFloatsUptoRow, standIns := [], harness := (true, "9d1192eba76c0b58287c3f41cfc02bfed55ab02a0080f51b6f39caab06670530"), looks := true }, kinds := [], alts := [], laidByText := true, laidKinds := [.data, .data, .data, .data, .sentinel, .sentinel, .pinned], laidTests := true, laidLooks := .later }
def TlexFloatsUptoCardSaid : Prop := Claim7.holds Tryz.pinned (.plain (OpenSpec.upto tlexFloatsSpec)) tlexFloatsUptoCard

/-- THE SECOND FORM's CARD OF 'dragomanlaw10.TlexKeysBack'. -/
def tlexKeysBackUptoCard : Claim7 := { stood := { row := tlexKeysBackUptoRow, standIns := [], harness := (true, "9d1192eba76c0b58287c3f41cfc02bfed55ab02a0080f51b6f39caab06670530"), looks := true }, kinds := [], alts := [], laidByText := true, laidKinds := [.data, .data, .data, .data, .sentinel, .sentinel, .pinned], laidTests := true, laidLooks := .later }
def TlexKeysBackUptoCardSaid : Prop := Claim7.holds Tryz.pinned (.plain (OpenSpec.upto tlexKeysBackSpec)) tlexKeysBackUptoCard

/-- THE SECOND FORM's CARD OF 'dragomanlaw11.TreadKnown'. -/
def treadKnownUptoCard : Claim7 := { stood := { row := treadKnownUptoRow, standIns := [], harness := (true, "9d1192eba76c0b58287c3f41cfc02bfed55ab02a0080f51b6f39caab06670530"), looks := true }, kinds := [], alts := [], laidByText := true, laidKinds := [.data, .data, .data, .data, .sentinel, .sentinel, .pinned], laidTests := true, laidLooks := .later }
def TreadKnownUptoCardSaid : Prop := Claim7.holds Tryz.pinned (.plain (OpenSpec.upto treadKnownSpec)) treadKnownUptoCard

/-- THE SECOND FORM's CARD OF 'dragomanlaw11.TreadDots'. -/
def treadDotsUptoCard : Claim7 := { stood := { row := treadDotsUptoRow, standIns := [], harness := (true, "9d1192eba76c0b58287c3f41cfc02bfed55ab02a0080f51b6f39caab06670530"), looks := true }, kinds := [], alts := [], laidByText := true, laidKinds := [.data, .data, .data, .data, .sentinel, .sentinel, .pinned], laidTests := true, laidLooks := .later }
def TreadDotsUptoCardSaid : Prop := Claim7.holds Tryz.pinned (.plain (OpenSpec.upto treadDotsSpec)) treadDotsUptoCard

/-- THE SECOND FORM's CARD OF 'dragomanlaw11.TreadTwice'. -/
def treadTwiceUptoCard : Claim7 := { stood := { row := treadTwiceUptoRow, standIns := [], harness := (true, "9d1192eba76c0b58287c3f41cfc02bfed55ab02a0080f51b6f39caab06670530"), looks := true }, kinds := [], alts := [], laidByText := true, laidKinds := [.data, .data, .data, .data, .sentinel, .sentinel, .pinned], laidTests := true, laidLooks := .later }
def TreadTwiceUptoCardSaid : Prop := Claim7.holds Tryz.pinned (.plain (OpenSpec.upto treadTwiceSpec)) treadTwiceUptoCard

/-- THE SECOND FORM's CARD OF 'dragomanlaw11.TreadLists'. -/
def treadListsUptoCard : Claim7 := { stood := { row := treadListsUptoRow, standIns := [], harness := (true, "9d1192eba76c0b58287c3f41cfc02bfed55ab02a0080f51b6f39caab06670530"), looks := true }, kinds := [], alts := [], laidByText := true, laidKinds := [.data, .data, .data, .data, .sentinel, .sentinel, .pinned], laidTests := true, laidLooks := .later }
def TreadListsUptoCardSaid : Prop := Claim7.holds Tryz.pinned (.plain (OpenSpec.upto treadListsSpec)) treadListsUptoCard

/-- THE SECOND FORM's CARD OF 'dragomanlaw11.TreadValues'. -/
def treadValuesUptoCard : Claim7 := { stood := { row := treadValuesUptoRow, standIns := [], harness := (true, "9d1192eba76c0b58287c3f41cfc02bfed55ab02a0080f51b6f39caab06670530"), looks := true }, kinds := [], alts := [], laidByText := true, laidKinds := [.data, .data, .data, .data, .sentinel, .sentinel, .pinned], laidTests := true, laidLooks := .later }
def TreadValuesUptoCardSaid : Prop := Claim7.holds Tryz.pinned (.plain (OpenSpec.upto treadValuesSpec)) treadValuesUptoCard

/-- THE SECOND FORM's CARD OF 'dragomanlaw11.TreadBounds'. -/
def treadBoundsUptoCard : Claim7 := { stood := { row := treadBoundsUptoRow, standIns := [], harness := (true, "9d1192eba76c0b58287c3f41cfc02bfed55ab02a0080f51b6f39caab06670530"), looks := true }, kinds := [], alts := [], laidByText := true, laidKinds := [.data, .data, .data, .data, .sentinel, .sentinel, .pinned], laidTests := true, laidLooks := .later }
def TreadBoundsUptoCardSaid : Prop := Claim7.holds Tryz.pinned (.plain (OpenSpec.upto treadBoundsSpec)) treadBoundsUptoCard
end Rows
end Go.Proofs.YtfddpaljmihinaaGreatDoor
