/-
  DERIVED. GIVEN WITH THE SEED: THE CARDS: each row of YtmnbalbiehlkpaaGreatDoorRows.lean that lists a variable, with what it lists TIED to the program's text (the seventh form; the later family's looks); each row that meets fmt, with fmt's text TOLD by the authors' own Lean function (tested against real Go, not proved from fmt's source: count such statements apart). THE CARD IS WHAT COUNTS. Prove the row's statement (the work); the ties are given (YtmnbalbiehlkpaaGreatDoorTie.lean); close each card by the builder's one call (the guide's Derived/Test/ToyasCard.lean, 'card_holds'). Laid BY PROGRAM, IN A SANDBOX (cutbox-door.mjs). By AI agents, Wed Nov 11 2026. No macro, syntax, notation, axiom, sorry.
-/
import Derived.Test.YtmnbalbiehlkpaaGreatDoorRows
import GoSem.ClaimSeven
namespace Go.Proofs.YtmnbalbiehlkpaaGreatDoor
namespace Rows

/-- THE TIED CARD OF 'slotcodelaw24.SymRuns'. -/
def symRunsCard : Claim7 := { stood := { row := symRunsRow, standIns := [], harness := (true, "f4202cab81fc0b95cff0733bf1a4fe1ccf0c93dbeaaf12d7500c7b4ea51e0001"), looks := true }, kinds := [], alts := [], laidByText := true, laidKinds := [.data, .data, .data, .sentinel, .sentinel, .data, .data, .widerDeep, .data, .pinned, .pinned], laidTests := true, laidLooks := .later }
def SymRunsCardSaid : Prop := Claim7.holds Tryz.pinned (.plain (OpenSpec.ofChange symRunsSpec)) symRunsCard

/-- THE TIED CARD OF 'slotcodelaw24.SymTraces'. -/
def symTracesCard : Claim7 := { stood := { row := symTracesRow, standIns := [], harness := (true, "f4202cab81fc0b95cff0733bf1a4fe1ccf0c93dbeaaf12d7500c7b4ea51e0001"), looks := true }, kinds := [], alts := [], laidByText := true, laidKinds := [.data, .data, .data, .sentinel, .sentinel, .data, .data, .widerDeep, .data, .pinned, .pinned], laidTests := true, laidLooks := .later }
def SymTracesCardSaid : Prop := Claim7.holds Tryz.pinned (.plain (OpenSpec.ofChange symTracesSpec)) symTracesCard

/-- THE TIED CARD OF 'slotcodelaw24.SymReaches'. -/
def symReachesCard : Claim7 := { stood := { row := symReachesRow, standIns := [], harness := (true, "f4202cab81fc0b95cff0733bf1a4fe1ccf0c93dbeaaf12d7500c7b4ea51e0001"), looks := true }, kinds := [], alts := [], laidByText := true, laidKinds := [.data, .data, .data, .sentinel, .sentinel, .data, .data, .widerDeep, .data, .pinned, .pinned], laidTests := true, laidLooks := .later }
def SymReachesCardSaid : Prop := Claim7.holds Tryz.pinned (.plain (OpenSpec.ofChange symReachesSpec)) symReachesCard

/-- THE SECOND FORM's CARD OF 'slotcodelaw24.SymRuns'. -/
def symRunsUptoCard : Claim7 := { stood := { row := symRunsUptoRow, standIns := [], harness := (true, "f4202cab81fc0b95cff0733bf1a4fe1ccf0c93dbeaaf12d7500c7b4ea51e0001"), looks := true }, kinds := [], alts := [], laidByText := true, laidKinds := [.data, .data, .data, .sentinel, .sentinel, .data, .data, .widerDeep, .data, .pinned, .pinned], laidTests := true, laidLooks := .later }
def SymRunsUptoCardSaid : Prop := Claim7.holds Tryz.pinned (.plain (OpenSpec.upto symRunsSpec)) symRunsUptoCard

/-- THE SECOND FORM's CARD OF 'slotcodelaw24.SymTraces'. -/
def symTracesUptoCard : Claim7 := { stood := { row := symTracesUptoRow, standIns := [], harness := (true, "f4202cab81fc0b95cff0733bf1a4fe1ccf0c93dbeaaf12d7500c7b4ea51e0001"), looks := true }, kinds := [], alts := [], laidByText := true, laidKinds := [.data, .data, .data, .sentinel, .sentinel, .data, .data, .widerDeep, .data, .pinned, .pinned], laidTests := true, laidLooks := .later }
def SymTracesUptoCardSaid : Prop := Claim7.holds Tryz.pinned (.plain (OpenSpec.upto symTracesSpec)) symTracesUptoCard

/-- THE SECOND FORM's CARD OF 'slotcodelaw24.SymReaches'. -/
def symReachesUptoCard : Claim7 := { stood := { row := symReachesUptoRow, standIns := [], harness := (true, "f4202cab81fc0b95cff0733bf1a4fe1ccf0c93dbeaaf12d7500c7b4ea51e0001"), looks := true }, kinds := [], alts := [], laidByText := true, laidKinds := [.data, .data, .data, .sentinel, .sentinel, .data, .data, .widerDeep, .data, .pinned, .pinned], laidTests := true, laidLooks := .later }
def SymReachesUptoCardSaid : Prop := Claim7.holds Tryz.pinned (.plain (OpenSpec.upto symReachesSpec)) symReachesUptoCard
end Rows
end Go.Proofs.YtmnbalbiehlkpaaGreatDoor
