/- dustpan/dustpanlaw21.FrontGreat: what the row's cells say of the program, limb by limb. -/
import Derived.Test.YthggcmhmjkmjnaaGreatDoorRows
import Derived.ProofKit
import Derived.JoinedOf
namespace Go.Proofs.YthggcmhmjkmjnaaGreatDoor.frontGreat
open Go.ChangeShapes Go.WideShapes Go.ChangeAt Go.RowKit
set_option linter.unusedVariables false
set_option maxRecDepth 100000
set_option maxHeartbeats 8000000 in
theorem closedF : joinedFacts Tryz.prog 3 Tryz.f3 Rows.frontGreatSpec Rows.frontGreatRow = true := by
  unfold joinedFacts
  simp only [Bool.and_eq_true]
  repeat' refine And.intro ?_ ?_
  all_goals decide +kernel
end Go.Proofs.YthggcmhmjkmjnaaGreatDoor.frontGreat
