/- dustpan/dustpanlaw27.YardNew: the row. -/
import Derived.Test.YtclnmihpelaalaaGreatDoorYardNewLift
import Derived.Test.YtclnmihpelaalaaGreatDoorYardNewFacts
namespace Go.Proofs.YtclnmihpelaalaaGreatDoor.yardNew
open Go.ChangeShapes Go.WideShapes Go.ChangeAt Go.RowKit
set_option linter.unusedVariables false
set_option maxRecDepth 100000
theorem over : Rows.YardNewSaid :=
  OpenClaim.holds_of_wide 3 Tryz.f3 rfl rfl rfl rfl rfl rfl rfl ⟨rfl, rfl, rfl, rfl, rfl⟩ rfl rfl rfl rfl rfl (by kernel_rfl) Tryz.func3 closedF
    (of_decide_eq_true (by kernel_rfl)) (by unfold Func.isWrapper; first | (rw [if_pos (by decide +kernel)]; kernel_rfl) | (rw [if_neg (by decide +kernel)]; exact ⟨rfl, rfl⟩))
    (fun os started H enc _ => lifted os started H enc)

end Go.Proofs.YtclnmihpelaalaaGreatDoor.yardNew
