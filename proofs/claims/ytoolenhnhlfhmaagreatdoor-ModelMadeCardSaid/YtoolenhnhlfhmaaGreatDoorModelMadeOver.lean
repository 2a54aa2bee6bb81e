/- dustpan/dustpanlaw28.ModelMade: the row. -/
import Derived.Test.YtoolenhnhlfhmaaGreatDoorModelMadeLift
import Derived.Test.YtoolenhnhlfhmaaGreatDoorModelMadeFacts
namespace Go.Proofs.YtoolenhnhlfhmaaGreatDoor.modelMade
open Go.ChangeShapes Go.WideShapes Go.ChangeAt Go.RowKit
set_option linter.unusedVariables false
set_option maxRecDepth 100000
theorem over : Rows.ModelMadeSaid :=
 OpenClaim.holds_of_wide 5 Tryz.f5 rfl rfl rfl rfl rfl rfl rfl ⟨rfl,rfl,rfl,rfl,rfl⟩ rfl rfl rfl rfl rfl (by kernel_rfl) Tryz.func5 closedF
  (of_decide_eq_true (by kernel_rfl)) (by unfold Func.isWrapper; first | (rw [if_pos (by decide +kernel)]; kernel_rfl) | (rw [if_neg (by decide +kernel)]; exact ⟨rfl,rfl⟩))
  (fun os started H enc _=>lifted os started H enc)
end Go.Proofs.YtoolenhnhlfhmaaGreatDoor.modelMade
