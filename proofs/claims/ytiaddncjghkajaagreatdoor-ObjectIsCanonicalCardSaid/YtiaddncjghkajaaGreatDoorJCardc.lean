/- Closed facts of the program that every row asks, each by itself. -/
import Derived.Test.YtiaddncjghkajaaGreatDoorRows
import Derived.JoinedOf
set_option linter.unusedVariables false
namespace Go.Proofs.YtiaddncjghkajaaGreatDoor
set_option maxRecDepth 100000
theorem p_lay : laidOutB Tryz.pinned.checked.prog = true := by kernel_rfl
theorem p_mr : mapsRowed Tryz.pinned.checked.prog = true := by kernel_rfl
theorem p_pk : (Rows.objectChecksRow.plainKeys == Tryz.pinned.checked.prog.plainKeys) = true := by kernel_rfl
theorem p_sh : Tryz.pinned.checked.prog.stopsHeard = true := by kernel_rfl
theorem p_me : Tryz.pinned.checked.prog.mayEnter = true := by kernel_rfl
theorem p_lf : (Rows.objectChecksRow.lifted == Tryz.pinned.checked.prog.liftsFinal) = true := by kernel_rfl
theorem p_mk : (Tryz.pinned.checked.prog.make == some Rows.objectChecksRow.make) = true := by kernel_rfl
end Go.Proofs.YtiaddncjghkajaaGreatDoor
