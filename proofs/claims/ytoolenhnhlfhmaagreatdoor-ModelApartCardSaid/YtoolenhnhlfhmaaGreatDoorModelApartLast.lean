/- dustpan/dustpanlaw28.ModelApart: what the card asks of the program, one by one. -/
import Derived.Test.YtoolenhnhlfhmaaGreatDoorRows
import Derived.SevenTiedAt
namespace Go.Proofs.YtoolenhnhlfhmaaGreatDoor.modelApart
set_option linter.unusedVariables false
set_option maxRecDepth 100000
set_option maxHeartbeats 8000000 in
theorem looksF : false = Tryz.prog.looks [] := by decide +kernel
set_option maxHeartbeats 8000000 in
theorem goesF : false = Rows.modelApartRow.goesBy Tryz.prog := by decide +kernel
theorem wfF : Rows.modelApartRow.wfByText (OpenSpec.ofChange Rows.modelApartSpec) = true := by decide +kernel
end Go.Proofs.YtoolenhnhlfhmaaGreatDoor.modelApart
