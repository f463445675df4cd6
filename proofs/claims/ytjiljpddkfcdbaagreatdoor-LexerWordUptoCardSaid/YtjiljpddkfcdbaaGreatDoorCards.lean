/-
  DERIVED. GIVEN WITH THE SEED: THE CARDS: each row of YtjiljpddkfcdbaaGreatDoorRows.lean that lists a variable, with what it lists TIED to the program's text (the seventh form; the later family's looks); each row that meets fmt, with fmt's text TOLD by the authors' own Lean function (tested against real Go, not proved from fmt's source: count such statements apart). THE CARD IS WHAT COUNTS. Prove the row's statement (the work); the ties are given (YtjiljpddkfcdbaaGreatDoorTie.lean); close each card by the builder's one call (the guide's Derived/Test/ToyasCard.lean, 'card_holds'). Laid BY PROGRAM, IN A SANDBOX (cutbox-door.mjs). By AI agents, Wed Nov 11 2026. No macro, syntax, notation, axiom, sorry.
-/
import Derived.Test.YtjiljpddkfcdbaaGreatDoorRows
import GoSem.ClaimSeven
namespace Go.Proofs.YtjiljpddkfcdbaaGreatDoor
namespace Rows

/-- THE TIED CARD OF 'variorumlaw05.LexerReads'. -/
def lexerReadsCard : Claim7 := { stood := { row := lexerReadsRow, standIns := [], harness := (true, "63087cfa970a70d8dbdea4c4171a26fd2a5e328f08e6871396b5284cf42d2c4d"), looks := true }, kinds := [], alts := [], laidByText := true, laidKinds := [.data, .pinned], laidTests := true, laidLooks := .later }
def LexerReadsCardSaid : Prop := Claim7.holds Tryz.pinned (.plain (OpenSpec.ofChange lexerReadsSpec)) lexerReadsCard

/-- THE TIED CARD OF 'variorumlaw05.LexerPrints'. -/
def lexerPrintsCard : Claim7 := { stood := { row := lexerPrintsRow, standIns := [], harness := (true, "63087cfa970a70d8dbdea4c4171a26fd2a5e328f08e6871396b5284cf42d2c4d"), looks := true }, kinds := [], alts := [], laidByText := true, laidKinds := [.data, .pinned], laidTests := true, laidLooks := .later }
def LexerPrintsCardSaid : Prop := Claim7.holds Tryz.pinned (.plain (OpenSpec.ofChange lexerPrintsSpec)) lexerPrintsCard

/-- THE TIED CARD OF 'variorumlaw05.LexerBack'. -/
def lexerBackCard : Claim7 := { stood := { row := lexerBackRow, standIns := [], harness := (true, "63087cfa970a70d8dbdea4c4171a26fd2a5e328f08e6871396b5284cf42d2c4d"), looks := true }, kinds := [], alts := [], laidByText := true, laidKinds := [.data, .pinned], laidTests := true, laidLooks := .later }
def LexerBackCardSaid : Prop := Claim7.holds Tryz.pinned (.plain (OpenSpec.ofChange lexerBackSpec)) lexerBackCard

/-- THE TIED CARD OF 'variorumlaw05.LexerGaps'. -/
def lexerGapsCard : Claim7 := { stood := { row := lexerGapsRow, standIns := [], harness := (true, "63087cfa970a70d8dbdea4c4171a26fd2a5e328f08e6871396b5284cf42d2c4d"), looks := true }, kinds := [], alts := [], laidByText := true, laidKinds := [.data, .pinned], laidTests := true, laidLooks := .later }
def LexerGapsCardSaid : Prop := Claim7.holds Tryz.pinned (.plain (OpenSpec.ofChange lexerGapsSpec)) lexerGapsCard

/-- THE TIED CARD OF 'variorumlaw05.LexerPlaces'. -/
def lexerPlacesCard : Claim7 := { stood := { row := lexerPlacesRow, standIns := [], harness := (true, "63087cfa970a70d8dbdea4c4171a26fd2a5e328f08e6871396b5284cf42d2c4d"), looks := true }, kinds := [], alts := [], laidByText := true, laidKinds := [.data, .pinned], laidTests := true, laidLooks := .later }
def LexerPlacesCardSaid : Prop := Claim7.holds Tryz.pinned (.plain (OpenSpec.ofChange lexerPlacesSpec)) lexerPlacesCard

/-- THE TIED CARD OF 'variorumlaw05.LexerParts'. -/
def lexerPartsCard : Claim7 := { stood := { row := lexerPartsRow, standIns := [], harness := (true, "63087cfa970a70d8dbdea4c4171a26fd2a5e328f08e6871396b5284cf42d2c4d"), looks := true }, kinds := [], alts := [], laidByText := true, laidKinds := [.data, .pinned], laidTests := true, laidLooks := .later }
def LexerPartsCardSaid : Prop := Claim7.holds Tryz.pinned (.plain (OpenSpec.ofChange lexerPartsSpec)) lexerPartsCard

/-- THE TIED CARD OF 'variorumlaw05.LexerWord'. -/
def lexerWordCard : Claim7 := { stood := { row := lexerWordRow, standIns := [], harness := (true, "63087cfa970a70d8dbdea4c4171a26fd2a5e328f08e6871396b5284cf42d2c4d"), looks := true }, kinds := [], alts := [], laidByText := true, laidKinds := [.data, .pinned], laidTests := true, laidLooks := .later }
def LexerWordCardSaid : Prop := Claim7.holds Tryz.pinned (.plain (OpenSpec.ofChange lexerWordSpec)) lexerWordCard

/-- THE SECOND FORM's CARD OF 'variorumlaw05.LexerReads'. -/
def lexerReadsUptoCard : Claim7 := { stood := { row := lexerReadsUptoRow, standIns := [], harness := (true, "63087cfa970a70d8dbdea4c4171a26fd2a5e328f08e6871396b5284cf42d2c4d"), looks := true }, kinds := [], alts := [], laidByText := true, laidKinds := [.data, .pinned], laidTests := true, laidLooks := .later }
def LexerReadsUptoCardSaid : Prop := Claim7.holds Tryz.pinned (.plain (OpenSpec.upto lexerReadsSpec)) lexerReadsUptoCard

/-- THE SECOND FORM's CARD OF 'variorumlaw05.LexerPrints'. -/
def lexerPrintsUptoCard : Claim7 := { stood := { row := lexerPrintsUptoRow, standIns := [], harness := (true, "63087cfa970a70d8dbdea4c4171a26fd2a5e328f08e6871396b5284cf42d2c4d"), looks := true }, kinds := [], alts := [], laidByText := true, laidKinds := [.data, .pinned], laidTests := true, laidLooks := .later }
def LexerPrintsUptoCardSaid : Prop := Claim7.holds Tryz.pinned (.plain (OpenSpec.upto lexerPrintsSpec)) lexerPrintsUptoCard

/-- THE SECOND FORM's CARD OF 'variorumlaw05.LexerBack'. -/
def lexerBackUptoCard : Claim7 := { stood := { row := lexerBackUptoRow, standIns := [], harness := (true, "63087cfa970a70d8dbdea4c4171a26fd2a5e328f08e6871396b5284cf42d2c4d"), looks := true }, kinds := [], alts := [], laidByText := true, laidKinds := [.data, .pinned], laidTests := true, laidLooks := .later }
def LexerBackUptoCardSaid : Prop := Claim7.holds Tryz.pinned (.plain (OpenSpec.upto lexerBackSpec)) lexerBackUptoCard

/-- THE SECOND FORM's CARD OF 'variorumlaw05.LexerGaps'. -/
def lexerGapsUptoCard : Claim7 := { stood := { row := lexerGapsUptoRow, standIns := [], harness := (true, "63087cfa970a70d8dbdea4c4171a26fd2a5e328f08e6871396b5284cf42d2c4d"), looks := true }, kinds := [], alts := [], laidByText := true, laidKinds := [.data, .pinned], laidTests := true, laidLooks := .later }
def LexerGapsUptoCardSaid : Prop := Claim7.holds Tryz.pinned (.plain (OpenSpec.upto lexerGapsSpec)) lexerGapsUptoCard

/-- THE SECOND FORM's CARD OF 'variorumlaw05.LexerPlaces'. -/
def lexerPlacesUptoCard : Claim7 := { stood := { row := lexerPlacesUptoRow, standIns := [], harness := (true, "63087cfa970a70d8dbdea4c4171a26fd2a5e328f08e6871396b5284cf42d2c4d"), looks := true }, kinds := [], alts := [], laidByText := true, laidKinds := [.data, .pinned], laidTests := true, laidLooks := .later }
def LexerPlacesUptoCardSaid : Prop := Claim7.holds Tryz.pinned (.plain (OpenSpec.upto lexerPlacesSpec)) lexerPlacesUptoCard

/-- THE SECOND FORM's CARD OF 'variorumlaw05.LexerParts'. -/
def lexerPartsUptoCard : Claim7 := { stood := { row := lexerPartsUptoRow, standIns := [], harness := (true, "63087cfa970a70d8dbdea4c4171a26fd2a5e328f08e6871396b5284cf42d2c4d"), looks := true }, kinds := [], alts := [], laidByText := true, laidKinds := [.data, .pinned], laidTests := true, laidLooks := .later }
def LexerPartsUptoCardSaid : Prop := Claim7.holds Tryz.pinned (.plain (OpenSpec.upto lexerPartsSpec)) lexerPartsUptoCard

/-- THE SECOND FORM's CARD OF 'variorumlaw05.LexerWord'. -/
def lexerWordUptoCard : Claim7 := { stood := { row := lexerWordUptoRow, standIns := [], harness := (true, "63087cfa970a70d8dbdea4c4171a26fd2a5e328f08e6871396b5284cf42d2c4d"), looks := true }, kinds := [], alts := [], laidByText := true, laidKinds := [.data, .pinned], laidTests := true, laidLooks := .later }
def LexerWordUptoCardSaid : Prop := Claim7.holds Tryz.pinned (.plain (OpenSpec.upto lexerWordSpec)) lexerWordUptoCard
end Rows
end Go.Proofs.YtjiljpddkfcdbaaGreatDoor
