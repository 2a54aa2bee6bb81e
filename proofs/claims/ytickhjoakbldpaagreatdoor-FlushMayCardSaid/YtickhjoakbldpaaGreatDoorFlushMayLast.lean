/- dustpan/dustpanlaw22.FlushMay: what the card asks of the program, one by one. -/
import Derived.Test.YtickhjoakbldpaaGreatDoorRows
import Derived.SevenTiedAt
namespace Go.Proofs.YtickhjoakbldpaaGreatDoor.flushMay
set_option linter.unusedVariables false
set_option maxRecDepth 100000
set_option maxHeartbeats 8000000 in
theorem looksF : false = Tryz.prog.looks [] := by decide +kernel
set_option maxHeartbeats 8000000 in
theorem goesF : false = Rows.flushMayRow.goesBy Tryz.prog := by decide +kernel
theorem wfF : Rows.flushMayRow.wfByText (OpenSpec.ofChange Rows.flushMaySpec) = true := by decide +kernel
end Go.Proofs.YtickhjoakbldpaaGreatDoor.flushMay
