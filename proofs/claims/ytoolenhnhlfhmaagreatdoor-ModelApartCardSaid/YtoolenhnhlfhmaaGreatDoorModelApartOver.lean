/- dustpan/dustpanlaw28.ModelApart: the row. -/
import Derived.Test.YtoolenhnhlfhmaaGreatDoorModelApartLift
import Derived.Test.YtoolenhnhlfhmaaGreatDoorModelApartFacts
namespace Go.Proofs.YtoolenhnhlfhmaaGreatDoor.modelApart
open Go.ChangeShapes Go.WideShapes Go.ChangeAt Go.RowKit
set_option linter.unusedVariables false
set_option maxRecDepth 100000
theorem over : Rows.ModelApartSaid :=
  OpenClaim.holds_of_wide 3 Tryz.f3 rfl rfl rfl rfl rfl rfl rfl ⟨rfl, rfl, rfl, rfl, rfl⟩ rfl rfl rfl rfl rfl (by kernel_rfl) Tryz.func3 closedF
    (of_decide_eq_true (by kernel_rfl)) (by unfold Func.isWrapper; first | (rw [if_pos (by decide +kernel)]; kernel_rfl) | (rw [if_neg (by decide +kernel)]; exact ⟨rfl, rfl⟩))
    (fun os started H enc _ => lifted os started H enc)

end Go.Proofs.YtoolenhnhlfhmaaGreatDoor.modelApart
