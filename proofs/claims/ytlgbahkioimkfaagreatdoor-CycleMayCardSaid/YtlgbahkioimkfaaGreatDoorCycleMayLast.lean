/- dustpan/dustpanlaw25.CycleMay: what the card asks of the program, one by one. -/
import Derived.Test.YtlgbahkioimkfaaGreatDoorRows
import Derived.SevenTiedAt
namespace Go.Proofs.YtlgbahkioimkfaaGreatDoor.cycleMay
set_option linter.unusedVariables false
set_option maxRecDepth 100000
set_option maxHeartbeats 8000000 in
theorem looksF : false = Tryz.prog.looks [] := by decide +kernel
set_option maxHeartbeats 8000000 in
theorem goesF : false = Rows.cycleMayRow.goesBy Tryz.prog := by decide +kernel
theorem wfF : Rows.cycleMayRow.wfByText (OpenSpec.ofChange Rows.cycleMaySpec) = true := by decide +kernel
end Go.Proofs.YtlgbahkioimkfaaGreatDoor.cycleMay
