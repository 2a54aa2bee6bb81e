/- dustpan/dustpanlaw21.FrontMay: what the card asks of the program, one by one. -/
import Derived.Test.YtlgbahkioimkfaaGreatDoorRows
import Derived.SevenTiedAt
namespace Go.Proofs.YtlgbahkioimkfaaGreatDoor.frontMay
set_option linter.unusedVariables false
set_option maxRecDepth 100000
set_option maxHeartbeats 8000000 in
theorem looksF : false = Tryz.prog.looks [] := by decide +kernel
set_option maxHeartbeats 8000000 in
theorem goesF : false = Rows.frontMayRow.goesBy Tryz.prog := by decide +kernel
theorem wfF : Rows.frontMayRow.wfByText (OpenSpec.ofChange Rows.frontMaySpec) = true := by decide +kernel
end Go.Proofs.YtlgbahkioimkfaaGreatDoor.frontMay
