/- dustpan/dustpanlaw23.SweeperMay: what the card asks of the program, one by one. -/
import Derived.Test.YtickhjoakbldpaaGreatDoorRows
import Derived.SevenTiedAt
namespace Go.Proofs.YtickhjoakbldpaaGreatDoor.sweeperMay
set_option linter.unusedVariables false
set_option maxRecDepth 100000
set_option maxHeartbeats 8000000 in
theorem looksF : false = Tryz.prog.looks [] := by decide +kernel
set_option maxHeartbeats 8000000 in
theorem goesF : false = Rows.sweeperMayRow.goesBy Tryz.prog := by decide +kernel
theorem wfF : Rows.sweeperMayRow.wfByText (OpenSpec.ofChange Rows.sweeperMaySpec) = true := by decide +kernel
end Go.Proofs.YtickhjoakbldpaaGreatDoor.sweeperMay
