/- dustpan/dustpanlaw21.FrontGreat: what the card asks of the program, one by one. -/
import Derived.Test.YthggcmhmjkmjnaaGreatDoorRows
import Derived.SevenTiedAt
namespace Go.Proofs.YthggcmhmjkmjnaaGreatDoor.frontGreat
set_option linter.unusedVariables false
set_option maxRecDepth 100000
set_option maxHeartbeats 8000000 in
theorem looksF : false = Tryz.prog.looks [] := by decide +kernel
set_option maxHeartbeats 8000000 in
theorem goesF : false = Rows.frontGreatRow.goesBy Tryz.prog := by decide +kernel
theorem wfF : Rows.frontGreatRow.wfByText (OpenSpec.ofChange Rows.frontGreatSpec) = true := by decide +kernel
end Go.Proofs.YthggcmhmjkmjnaaGreatDoor.frontGreat
