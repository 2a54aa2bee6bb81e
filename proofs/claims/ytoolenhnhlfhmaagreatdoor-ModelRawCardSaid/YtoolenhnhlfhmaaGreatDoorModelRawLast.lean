/- dustpan/dustpanlaw28.ModelRaw: what the card asks of the program, one by one. -/
import Derived.Test.YtoolenhnhlfhmaaGreatDoorRows
import Derived.SevenTiedAt
namespace Go.Proofs.YtoolenhnhlfhmaaGreatDoor.modelRaw
set_option linter.unusedVariables false
set_option maxRecDepth 100000
set_option maxHeartbeats 8000000 in
theorem looksF : false=Tryz.prog.looks []:=by decide +kernel
set_option maxHeartbeats 8000000 in
theorem goesF : false=Rows.modelRawRow.goesBy Tryz.prog:=by decide +kernel
theorem wfF : Rows.modelRawRow.wfByText (OpenSpec.ofChange Rows.modelRawSpec)=true:=by decide +kernel
end Go.Proofs.YtoolenhnhlfhmaaGreatDoor.modelRaw
