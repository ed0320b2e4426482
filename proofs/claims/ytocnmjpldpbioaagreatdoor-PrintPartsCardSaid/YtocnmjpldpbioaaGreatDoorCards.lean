/-
  DERIVED. GIVEN WITH THE SEED: THE CARDS: each row of YtocnmjpldpbioaaGreatDoorRows.lean that lists a variable, with what it lists TIED to the program's text (the seventh form; the later family's looks); each row that meets fmt, with fmt's text TOLD by the authors' own Lean function (tested against real Go, not proved from fmt's source: count such statements apart). THE CARD IS WHAT COUNTS. Prove the row's statement (the work); the ties are given (YtocnmjpldpbioaaGreatDoorTie.lean); close each card by the builder's one call (the guide's Derived/Test/ToyasCard.lean, 'card_holds'). Laid BY PROGRAM, IN A SANDBOX (cutbox-door.mjs). By AI agents, Wed Nov 11 2026. No macro, syntax, notation, axiom, sorry.
-/
import Derived.Test.YtocnmjpldpbioaaGreatDoorRows
import GoSem.ClaimSeven
namespace Go.Proofs.YtocnmjpldpbioaaGreatDoor
namespace Rows

/-- THE TIED CARD OF 'slotcodelaw11.PrintParts'. -/
def printPartsCard : Claim7 := { stood := { row := printPartsRow, standIns := [], harness := (true, "3bba62a95287e7e38d6be09d68aa6373903498c9b0568151da4ef3cde2336068"), looks := true }, kinds := [], alts := [], laidByText := true, laidKinds := [.data, .data, .data, .data, .widerDeep, .data], laidTests := true, laidLooks := .later }
def PrintPartsCardSaid : Prop := Claim7.holds Tryz.pinned (.plain (OpenSpec.ofChange printPartsSpec)) printPartsCard

/-- THE TIED CARD OF 'slotcodelaw11.PrintDefs'. -/
def printDefsCard : Claim7 := { stood := { row := printDefsRow, standIns := [], harness := (true, "3bba62a95287e7e38d6be09d68aa6373903498c9b0568151da4ef3cde2336068"), looks := true }, kinds := [], alts := [], laidByText := true, laidKinds := [.data, .data, .data, .data, .widerDeep, .data], laidTests := true, laidLooks := .later }
def PrintDefsCardSaid : Prop := Claim7.holds Tryz.pinned (.plain (OpenSpec.ofChange printDefsSpec)) printDefsCard

/-- THE SECOND FORM's CARD OF 'slotcodelaw11.PrintParts'. -/
def printPartsUptoCard : Claim7 := { stood := { row := printPartsUptoRow, standIns := [], harness := (true, "3bba62a95287e7e38d6be09d68aa6373903498c9b0568151da4ef3cde2336068"), looks := true }, kinds := [], alts := [], laidByText := true, laidKinds := [.data, .data, .data, .data, .widerDeep, .data], laidTests := true, laidLooks := .later }
def PrintPartsUptoCardSaid : Prop := Claim7.holds Tryz.pinned (.plain (OpenSpec.upto printPartsSpec)) printPartsUptoCard

/-- THE SECOND FORM's CARD OF 'slotcodelaw11.PrintDefs'. -/
def printDefsUptoCard : Claim7 := { stood := { row := printDefsUptoRow, standIns := [], harness := (true, "3bba62a95287e7e38d6be09d68aa6373903498c9b0568151da4ef3cde2336068"), looks := true }, kinds := [], alts := [], laidByText := true, laidKinds := [.data, .data, .data, .data, .widerDeep, .data], laidTests := true, laidLooks := .later }
def PrintDefsUptoCardSaid : Prop := Claim7.holds Tryz.pinned (.plain (OpenSpec.upto printDefsSpec)) printDefsUptoCard
end Rows
end Go.Proofs.YtocnmjpldpbioaaGreatDoor
