/- The layer ops, the reference: Identify. -/
import Derived.Test.YtmofdnlefjfcfaaGreatDoorJOpsC
set_option linter.unusedVariables false
set_option linter.unusedSimpArgs false
namespace Go.Proofs.YtmofdnlefjfcfaaGreatDoor
open Go.RowKit

end Go.Proofs.YtmofdnlefjfcfaaGreatDoor
