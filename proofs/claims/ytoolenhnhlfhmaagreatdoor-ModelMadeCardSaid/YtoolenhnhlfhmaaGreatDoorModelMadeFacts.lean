/- dustpan/dustpanlaw28.ModelMade: what the row's cells say of the program, limb by limb. -/
import Derived.Test.YtoolenhnhlfhmaaGreatDoorRows
import Derived.ProofKit
import Derived.JoinedOf
namespace Go.Proofs.YtoolenhnhlfhmaaGreatDoor.modelMade
open Go.ChangeShapes Go.WideShapes Go.ChangeAt Go.RowKit
set_option linter.unusedVariables false
set_option maxRecDepth 100000
set_option maxHeartbeats 8000000 in
theorem closedF : joinedFacts Tryz.prog 5 Tryz.f5 Rows.modelMadeSpec Rows.modelMadeRow=true:=by
 unfold joinedFacts
 simp only [Bool.and_eq_true]
 repeat' refine And.intro ?_ ?_
 all_goals decide +kernel
end Go.Proofs.YtoolenhnhlfhmaaGreatDoor.modelMade
