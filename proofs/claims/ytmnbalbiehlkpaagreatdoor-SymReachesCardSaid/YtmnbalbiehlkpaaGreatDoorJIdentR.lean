/- The layer ops, the reference: Identify. -/
import Derived.Test.YtmnbalbiehlkpaaGreatDoorJOpsC
set_option linter.unusedVariables false
set_option linter.unusedSimpArgs false
namespace Go.Proofs.YtmnbalbiehlkpaaGreatDoor
open Go.RowKit

end Go.Proofs.YtmnbalbiehlkpaaGreatDoor
