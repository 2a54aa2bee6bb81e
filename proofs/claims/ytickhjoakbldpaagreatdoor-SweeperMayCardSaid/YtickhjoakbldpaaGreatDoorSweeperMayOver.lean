/- dustpan/dustpanlaw23.SweeperMay: the row. -/
import Derived.Test.YtickhjoakbldpaaGreatDoorSweeperMayLift
import Derived.Test.YtickhjoakbldpaaGreatDoorSweeperMayFacts
namespace Go.Proofs.YtickhjoakbldpaaGreatDoor.sweeperMay
open Go.ChangeShapes Go.WideShapes Go.ChangeAt Go.RowKit
set_option linter.unusedVariables false
set_option maxRecDepth 100000
theorem over : Rows.SweeperMaySaid :=
  OpenClaim.holds_of_wide 6 Tryz.f6 rfl rfl rfl rfl rfl rfl rfl ⟨rfl, rfl, rfl, rfl, rfl⟩ rfl rfl rfl rfl rfl (by kernel_rfl) Tryz.func6 closedF
    (of_decide_eq_true (by kernel_rfl)) (by unfold Func.isWrapper; first | (rw [if_pos (by decide +kernel)]; kernel_rfl) | (rw [if_neg (by decide +kernel)]; exact ⟨rfl, rfl⟩))
    (fun os started H enc _ => lifted os started H enc)

end Go.Proofs.YtickhjoakbldpaaGreatDoor.sweeperMay
