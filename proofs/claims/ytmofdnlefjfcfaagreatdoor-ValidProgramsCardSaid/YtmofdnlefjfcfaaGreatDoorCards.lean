/-
  DERIVED. GIVEN WITH THE SEED: THE CARDS: each row of YtmofdnlefjfcfaaGreatDoorRows.lean that lists a variable, with what it lists TIED to the program's text (the seventh form; the later family's looks); each row that meets fmt, with fmt's text TOLD by the authors' own Lean function (tested against real Go, not proved from fmt's source: count such statements apart). THE CARD IS WHAT COUNTS. Prove the row's statement (the work); the ties are given (YtmofdnlefjfcfaaGreatDoorTie.lean); close each card by the builder's one call (the guide's Derived/Test/ToyasCard.lean, 'card_holds'). Laid BY PROGRAM, IN A SANDBOX (cutbox-door.mjs). By AI agents, Wed Nov 11 2026. No macro, syntax, notation, axiom, sorry.
-/
import Derived.Test.YtmofdnlefjfcfaaGreatDoorRows
import GoSem.ClaimSeven
namespace Go.Proofs.YtmofdnlefjfcfaaGreatDoor
namespace Rows

/-- THE TIED CARD OF 'slotcodelaw16.ObjectPrograms'. -/
def objectProgramsCard : Claim7 := { stood := { row := objectProgramsRow, standIns := [], harness := (true, "1048327d93722b48b19983cf21cab0543a974b4e9890764b65e51f79a095c64d"), looks := true }, kinds := [], alts := [], laidByText := true, laidKinds := [.data, .data, .data, .sentinel, .sentinel, .data, .data, .widerDeep, .data, .pinned, .pinned], laidTests := true, laidLooks := .later }
def ObjectProgramsCardSaid : Prop := Claim7.holds Tryz.pinned (.plain (OpenSpec.ofChange objectProgramsSpec)) objectProgramsCard

/-- THE TIED CARD OF 'slotcodelaw17.ValidPrograms'. -/
def validProgramsCard : Claim7 := { stood := { row := validProgramsRow, standIns := [], harness := (true, "1048327d93722b48b19983cf21cab0543a974b4e9890764b65e51f79a095c64d"), looks := true }, kinds := [], alts := [], laidByText := true, laidKinds := [.data, .data, .data, .sentinel, .sentinel, .data, .data, .widerDeep, .data, .pinned, .pinned], laidTests := true, laidLooks := .later }
def ValidProgramsCardSaid : Prop := Claim7.holds Tryz.pinned (.plain (OpenSpec.ofChange validProgramsSpec)) validProgramsCard

/-- THE SECOND FORM's CARD OF 'slotcodelaw16.ObjectPrograms'. -/
def objectProgramsUptoCard : Claim7 := { stood := { row := objectProgramsUptoRow, standIns := [], harness := (true, "1048327d93722b48b19983cf21cab0543a974b4e9890764b65e51f79a095c64d"), looks := true }, kinds := [], alts := [], laidByText := true, laidKinds := [.data, .data, .data, .sentinel, .sentinel, .data, .data, .widerDeep, .data, .pinned, .pinned], laidTests := true, laidLooks := .later }
def ObjectProgramsUptoCardSaid : Prop := Claim7.holds Tryz.pinned (.plain (OpenSpec.upto objectProgramsSpec)) objectProgramsUptoCard

/-- THE SECOND FORM's CARD OF 'slotcodelaw17.ValidPrograms'. -/
def validProgramsUptoCard : Claim7 := { stood := { row := validProgramsUptoRow, standIns := [], harness := (true, "1048327d93722b48b19983cf21cab0543a974b4e9890764b65e51f79a095c64d"), looks := true }, kinds := [], alts := [], laidByText := true, laidKinds := [.data, .data, .data, .sentinel, .sentinel, .data, .data, .widerDeep, .data, .pinned, .pinned], laidTests := true, laidLooks := .later }
def ValidProgramsUptoCardSaid : Prop := Claim7.holds Tryz.pinned (.plain (OpenSpec.upto validProgramsSpec)) validProgramsUptoCard
end Rows
end Go.Proofs.YtmofdnlefjfcfaaGreatDoor
