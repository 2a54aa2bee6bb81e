/- dustpan/dustpanlaw28.ModelRaw: the row. -/
import Derived.Test.YtoolenhnhlfhmaaGreatDoorModelRawLift
import Derived.Test.YtoolenhnhlfhmaaGreatDoorModelRawFacts
namespace Go.Proofs.YtoolenhnhlfhmaaGreatDoor.modelRaw
open Go.ChangeShapes Go.WideShapes Go.ChangeAt Go.RowKit
set_option linter.unusedVariables false
set_option maxRecDepth 100000
theorem over : Rows.ModelRawSaid :=
 OpenClaim.holds_of_wide 4 Tryz.f4 rfl rfl rfl rfl rfl rfl rfl ⟨rfl,rfl,rfl,rfl,rfl⟩ rfl rfl rfl rfl rfl (by kernel_rfl) Tryz.func4 closedF
  (of_decide_eq_true (by kernel_rfl)) (by unfold Func.isWrapper; first | (rw [if_pos (by decide +kernel)]; kernel_rfl) | (rw [if_neg (by decide +kernel)]; exact ⟨rfl,rfl⟩))
  (fun os started H enc _=>lifted os started H enc)
end Go.Proofs.YtoolenhnhlfhmaaGreatDoor.modelRaw
