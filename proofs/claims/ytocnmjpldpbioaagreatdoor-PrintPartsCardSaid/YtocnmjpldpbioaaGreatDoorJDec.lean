/- The layer slot: Decode of the program. -/
import Derived.Test.YtocnmjpldpbioaaGreatDoorJFmtI
import Derived.Test.YtocnmjpldpbioaaGreatDoorJRulG
import Derived.Deep.QuietTactic
import Derived.BigQuiet
import Derived.StillTailTactics
set_option linter.unusedVariables false
set_option linter.unusedSimpArgs false
namespace Go.Proofs.YtocnmjpldpbioaaGreatDoor
open Go.RowKit

end Go.Proofs.YtocnmjpldpbioaaGreatDoor
