/- dustpan/dustpanlaw28.ModelMade: what the card asks of the program, one by one. -/
import Derived.Test.YtoolenhnhlfhmaaGreatDoorRows
import Derived.SevenTiedAt
namespace Go.Proofs.YtoolenhnhlfhmaaGreatDoor.modelMade
set_option linter.unusedVariables false
set_option maxRecDepth 100000
set_option maxHeartbeats 8000000 in
theorem looksF : false=Tryz.prog.looks []:=by decide +kernel
set_option maxHeartbeats 8000000 in
theorem goesF : false=Rows.modelMadeRow.goesBy Tryz.prog:=by decide +kernel
theorem wfF : Rows.modelMadeRow.wfByText (OpenSpec.ofChange Rows.modelMadeSpec)=true:=by decide +kernel
end Go.Proofs.YtoolenhnhlfhmaaGreatDoor.modelMade
