/-
  DERIVED. GIVEN WITH THE SEED: THE CARDS: each row of YtiaddncjghkajaaGreatDoorRows.lean that lists a variable, with what it lists TIED to the program's text (the seventh form; the later family's looks); each row that meets fmt, with fmt's text TOLD by the authors' own Lean function (tested against real Go, not proved from fmt's source: count such statements apart). THE CARD IS WHAT COUNTS. Prove the row's statement (the work); the ties are given (YtiaddncjghkajaaGreatDoorTie.lean); close each card by the builder's one call (the guide's Derived/Test/ToyasCard.lean, 'card_holds'). Laid BY PROGRAM, IN A SANDBOX (cutbox-door.mjs). By AI agents, Wed Nov 11 2026. No macro, syntax, notation, axiom, sorry.
-/
import Derived.Test.YtiaddncjghkajaaGreatDoorRows
import GoSem.ClaimSeven
namespace Go.Proofs.YtiaddncjghkajaaGreatDoor
namespace Rows

/-- THE TIED CARD OF 'slotcodelaw16.ObjectChecks'. -/
def objectChecksCard : Claim7 := { stood := { row := objectChecksRow, standIns := [], harness := (true, "8052720306b2697fc996d2aead457a34f0e0499eb9d68265617c37f07823bd5c"), looks := true }, kinds := [], alts := [], laidByText := true, laidKinds := [.data, .data, .data, .sentinel, .sentinel, .data, .data, .widerDeep, .data, .pinned, .pinned], laidTests := true, laidLooks := .later }
def ObjectChecksCardSaid : Prop := Claim7.holds Tryz.pinned (.plain (OpenSpec.ofChange objectChecksSpec)) objectChecksCard

/-- THE TIED CARD OF 'slotcodelaw16.ObjectPacks'. -/
def objectPacksCard : Claim7 := { stood := { row := objectPacksRow, standIns := [], harness := (true, "8052720306b2697fc996d2aead457a34f0e0499eb9d68265617c37f07823bd5c"), looks := true }, kinds := [], alts := [], laidByText := true, laidKinds := [.data, .data, .data, .sentinel, .sentinel, .data, .data, .widerDeep, .data, .pinned, .pinned], laidTests := true, laidLooks := .later }
def ObjectPacksCardSaid : Prop := Claim7.holds Tryz.pinned (.plain (OpenSpec.ofChange objectPacksSpec)) objectPacksCard

/-- THE TIED CARD OF 'slotcodelaw16.ObjectParses'. -/
def objectParsesCard : Claim7 := { stood := { row := objectParsesRow, standIns := [], harness := (true, "8052720306b2697fc996d2aead457a34f0e0499eb9d68265617c37f07823bd5c"), looks := true }, kinds := [], alts := [], laidByText := true, laidKinds := [.data, .data, .data, .sentinel, .sentinel, .data, .data, .widerDeep, .data, .pinned, .pinned], laidTests := true, laidLooks := .later }
def ObjectParsesCardSaid : Prop := Claim7.holds Tryz.pinned (.plain (OpenSpec.ofChange objectParsesSpec)) objectParsesCard

/-- THE TIED CARD OF 'slotcodelaw16.ObjectIsCanonical'. -/
def objectIsCanonicalCard : Claim7 := { stood := { row := objectIsCanonicalRow, standIns := [], harness := (true, "8052720306b2697fc996d2aead457a34f0e0499eb9d68265617c37f07823bd5c"), looks := true }, kinds := [], alts := [], laidByText := true, laidKinds := [.data, .data, .data, .sentinel, .sentinel, .data, .data, .widerDeep, .data, .pinned, .pinned], laidTests := true, laidLooks := .later }
def ObjectIsCanonicalCardSaid : Prop := Claim7.holds Tryz.pinned (.plain (OpenSpec.ofChange objectIsCanonicalSpec)) objectIsCanonicalCard

/-- THE TIED CARD OF 'slotcodelaw16.ObjectPrograms'. -/
def objectProgramsCard : Claim7 := { stood := { row := objectProgramsRow, standIns := [], harness := (true, "8052720306b2697fc996d2aead457a34f0e0499eb9d68265617c37f07823bd5c"), looks := true }, kinds := [], alts := [], laidByText := true, laidKinds := [.data, .data, .data, .sentinel, .sentinel, .data, .data, .widerDeep, .data, .pinned, .pinned], laidTests := true, laidLooks := .later }
def ObjectProgramsCardSaid : Prop := Claim7.holds Tryz.pinned (.plain (OpenSpec.ofChange objectProgramsSpec)) objectProgramsCard

/-- THE TIED CARD OF 'slotcodelaw17.ValidChecks'. -/
def validChecksCard : Claim7 := { stood := { row := validChecksRow, standIns := [], harness := (true, "8052720306b2697fc996d2aead457a34f0e0499eb9d68265617c37f07823bd5c"), looks := true }, kinds := [], alts := [], laidByText := true, laidKinds := [.data, .data, .data, .sentinel, .sentinel, .data, .data, .widerDeep, .data, .pinned, .pinned], laidTests := true, laidLooks := .later }
def ValidChecksCardSaid : Prop := Claim7.holds Tryz.pinned (.plain (OpenSpec.ofChange validChecksSpec)) validChecksCard

/-- THE TIED CARD OF 'slotcodelaw17.ValidBytes'. -/
def validBytesCard : Claim7 := { stood := { row := validBytesRow, standIns := [], harness := (true, "8052720306b2697fc996d2aead457a34f0e0499eb9d68265617c37f07823bd5c"), looks := true }, kinds := [], alts := [], laidByText := true, laidKinds := [.data, .data, .data, .sentinel, .sentinel, .data, .data, .widerDeep, .data, .pinned, .pinned], laidTests := true, laidLooks := .later }
def ValidBytesCardSaid : Prop := Claim7.holds Tryz.pinned (.plain (OpenSpec.ofChange validBytesSpec)) validBytesCard

/-- THE TIED CARD OF 'slotcodelaw17.ValidCode'. -/
def validCodeCard : Claim7 := { stood := { row := validCodeRow, standIns := [], harness := (true, "8052720306b2697fc996d2aead457a34f0e0499eb9d68265617c37f07823bd5c"), looks := true }, kinds := [], alts := [], laidByText := true, laidKinds := [.data, .data, .data, .sentinel, .sentinel, .data, .data, .widerDeep, .data, .pinned, .pinned], laidTests := true, laidLooks := .later }
def ValidCodeCardSaid : Prop := Claim7.holds Tryz.pinned (.plain (OpenSpec.ofChange validCodeSpec)) validCodeCard

/-- THE TIED CARD OF 'slotcodelaw17.ValidTargets'. -/
def validTargetsCard : Claim7 := { stood := { row := validTargetsRow, standIns := [], harness := (true, "8052720306b2697fc996d2aead457a34f0e0499eb9d68265617c37f07823bd5c"), looks := true }, kinds := [], alts := [], laidByText := true, laidKinds := [.data, .data, .data, .sentinel, .sentinel, .data, .data, .widerDeep, .data, .pinned, .pinned], laidTests := true, laidLooks := .later }
def ValidTargetsCardSaid : Prop := Claim7.holds Tryz.pinned (.plain (OpenSpec.ofChange validTargetsSpec)) validTargetsCard

/-- THE TIED CARD OF 'slotcodelaw17.ValidSlots'. -/
def validSlotsCard : Claim7 := { stood := { row := validSlotsRow, standIns := [], harness := (true, "8052720306b2697fc996d2aead457a34f0e0499eb9d68265617c37f07823bd5c"), looks := true }, kinds := [], alts := [], laidByText := true, laidKinds := [.data, .data, .data, .sentinel, .sentinel, .data, .data, .widerDeep, .data, .pinned, .pinned], laidTests := true, laidLooks := .later }
def ValidSlotsCardSaid : Prop := Claim7.holds Tryz.pinned (.plain (OpenSpec.ofChange validSlotsSpec)) validSlotsCard

/-- THE SECOND FORM's CARD OF 'slotcodelaw16.ObjectChecks'. -/
def objectChecksUptoCard : Claim7 := { stood := { row := objectChecksUptoRow, standIns := [], harness := (true, "8052720306b2697fc996d2aead457a34f0e0499eb9d68265617c37f07823bd5c"), looks := true }, kinds := [], alts := [], laidByText := true, laidKinds := [.data, .data, .data, .sentinel, .sentinel, .data, .data, .widerDeep, .data, .pinned, .pinned], laidTests := true, laidLooks := .later }
def ObjectChecksUptoCardSaid : Prop := Claim7.holds Tryz.pinned (.plain (OpenSpec.upto objectChecksSpec)) objectChecksUptoCard

/-- THE SECOND FORM's CARD OF 'slotcodelaw16.ObjectPacks'. -/
def objectPacksUptoCard : Claim7 := { stood := { row := objectPacksUptoRow, standIns := [], harness := (true, "8052720306b2697fc996d2aead457a34f0e0499eb9d68265617c37f07823bd5c"), looks := true }, kinds := [], alts := [], laidByText := true, laidKinds := [.data, .data, .data, .sentinel, .sentinel, .data, .data, .widerDeep, .data, .pinned, .pinned], laidTests := true, laidLooks := .later }
def ObjectPacksUptoCardSaid : Prop := Claim7.holds Tryz.pinned (.plain (OpenSpec.upto objectPacksSpec)) objectPacksUptoCard

/-- THE SECOND FORM's CARD OF 'slotcodelaw16.ObjectParses'. -/
def objectParsesUptoCard : Claim7 := { stood := { row := objectParsesUptoRow, standIns := [], harness := (true, "8052720306b2697fc996d2aead457a34f0e0499eb9d68265617c37f07823bd5c"), looks := true }, kinds := [], alts := [], laidByText := true, laidKinds := [.data, .data, .data, .sentinel, .sentinel, .data, .data, .widerDeep, .data, .pinned, .pinned], laidTests := true, laidLooks := .later }
def ObjectParsesUptoCardSaid : Prop := Claim7.holds Tryz.pinned (.plain (OpenSpec.upto objectParsesSpec)) objectParsesUptoCard

/-- THE SECOND FORM's CARD OF 'slotcodelaw16.ObjectIsCanonical'. -/
def objectIsCanonicalUptoCard : Claim7 := { stood := { row := objectIsCanonicalUptoRow, standIns := [], harness := (true, "8052720306b2697fc996d2aead457a34f0e0499eb9d68265617c37f07823bd5c"), looks := true }, kinds := [], alts := [], laidByText := true, laidKinds := [.data, .data, .data, .sentinel, .sentinel, .data, .data, .widerDeep, .data, .pinned, .pinned], laidTests := true, laidLooks := .later }
def ObjectIsCanonicalUptoCardSaid : Prop := Claim7.holds Tryz.pinned (.plain (OpenSpec.upto objectIsCanonicalSpec)) objectIsCanonicalUptoCard

/-- THE SECOND FORM's CARD OF 'slotcodelaw16.ObjectPrograms'. -/
def objectProgramsUptoCard : Claim7 := { stood := { row := objectProgramsUptoRow, standIns := [], harness := (true, "8052720306b2697fc996d2aead457a34f0e0499eb9d68265617c37f07823bd5c"), looks := true }, kinds := [], alts := [], laidByText := true, laidKinds := [.data, .data, .data, .sentinel, .sentinel, .data, .data, .widerDeep, .data, .pinned, .pinned], laidTests := true, laidLooks := .later }
def ObjectProgramsUptoCardSaid : Prop := Claim7.holds Tryz.pinned (.plain (OpenSpec.upto objectProgramsSpec)) objectProgramsUptoCard

/-- THE SECOND FORM's CARD OF 'slotcodelaw17.ValidChecks'. -/
def validChecksUptoCard : Claim7 := { stood := { row := validChecksUptoRow, standIns := [], harness := (true, "8052720306b2697fc996d2aead457a34f0e0499eb9d68265617c37f07823bd5c"), looks := true }, kinds := [], alts := [], laidByText := true, laidKinds := [.data, .data, .data, .sentinel, .sentinel, .data, .data, .widerDeep, .data, .pinned, .pinned], laidTests := true, laidLooks := .later }
def ValidChecksUptoCardSaid : Prop := Claim7.holds Tryz.pinned (.plain (OpenSpec.upto validChecksSpec)) validChecksUptoCard

/-- THE SECOND FORM's CARD OF 'slotcodelaw17.ValidBytes'. -/
def validBytesUptoCard : Claim7 := { stood := { row := validBytesUptoRow, standIns := [], harness := (true, "8052720306b2697fc996d2aead457a34f0e0499eb9d68265617c37f07823bd5c"), looks := true }, kinds := [], alts := [], laidByText := true, laidKinds := [.data, .data, .data, .sentinel, .sentinel, .data, .data, .widerDeep, .data, .pinned, .pinned], laidTests := true, laidLooks := .later }
def ValidBytesUptoCardSaid : Prop := Claim7.holds Tryz.pinned (.plain (OpenSpec.upto validBytesSpec)) validBytesUptoCard

/-- THE SECOND FORM's CARD OF 'slotcodelaw17.ValidCode'. -/
def validCodeUptoCard : Claim7 := { stood := { row := validCodeUptoRow, standIns := [], harness := (true, "8052720306b2697fc996d2aead457a34f0e0499eb9d68265617c37f07823bd5c"), looks := true }, kinds := [], alts := [], laidByText := true, laidKinds := [.data, .data, .data, .sentinel, .sentinel, .data, .data, .widerDeep, .data, .pinned, .pinned], laidTests := true, laidLooks := .later }
def ValidCodeUptoCardSaid : Prop := Claim7.holds Tryz.pinned (.plain (OpenSpec.upto validCodeSpec)) validCodeUptoCard

/-- THE SECOND FORM's CARD OF 'slotcodelaw17.ValidTargets'. -/
def validTargetsUptoCard : Claim7 := { stood := { row := validTargetsUptoRow, standIns := [], harness := (true, "8052720306b2697fc996d2aead457a34f0e0499eb9d68265617c37f07823bd5c"), looks := true }, kinds := [], alts := [], laidByText := true, laidKinds := [.data, .data, .data, .sentinel, .sentinel, .data, .data, .widerDeep, .data, .pinned, .pinned], laidTests := true, laidLooks := .later }
def ValidTargetsUptoCardSaid : Prop := Claim7.holds Tryz.pinned (.plain (OpenSpec.upto validTargetsSpec)) validTargetsUptoCard

/-- THE SECOND FORM's CARD OF 'slotcodelaw17.ValidSlots'. -/
def validSlotsUptoCard : Claim7 := { stood := { row := validSlotsUptoRow, standIns := [], harness := (true, "8052720306b2697fc996d2aead457a34f0e0499eb9d68265617c37f07823bd5c"), looks := true }, kinds := [], alts := [], laidByText := true, laidKinds := [.data, .data, .data, .sentinel, .sentinel, .data, .data, .widerDeep, .data, .pinned, .pinned], laidTests := true, laidLooks := .later }
def ValidSlotsUptoCardSaid : Prop := Claim7.holds Tryz.pinned (.plain (OpenSpec.upto validSlotsSpec)) validSlotsUptoCard
end Rows
end Go.Proofs.YtiaddncjghkajaaGreatDoor
