/- The layer ops, the reference: Identify. -/
import Derived.Test.YtocnmjpldpbioaaGreatDoorJOpsC
set_option linter.unusedVariables false
set_option linter.unusedSimpArgs false
namespace Go.Proofs.YtocnmjpldpbioaaGreatDoor
open Go.RowKit

end Go.Proofs.YtocnmjpldpbioaaGreatDoor
