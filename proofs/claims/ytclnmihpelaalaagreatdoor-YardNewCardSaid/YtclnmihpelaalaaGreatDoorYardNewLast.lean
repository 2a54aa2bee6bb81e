/- dustpan/dustpanlaw27.YardNew: what the card asks of the program, one by one. -/
import Derived.Test.YtclnmihpelaalaaGreatDoorRows
import Derived.SevenTiedAt
namespace Go.Proofs.YtclnmihpelaalaaGreatDoor.yardNew
set_option linter.unusedVariables false
set_option maxRecDepth 100000
set_option maxHeartbeats 8000000 in
theorem looksF : true = Tryz.prog.looks [] := by decide +kernel
set_option maxHeartbeats 8000000 in
theorem goesF : false = Rows.yardNewRow.goesBy Tryz.prog := by decide +kernel
theorem wfF : Rows.yardNewRow.wfByText (OpenSpec.ofChange Rows.yardNewSpec) = true := by decide +kernel
end Go.Proofs.YtclnmihpelaalaaGreatDoor.yardNew
