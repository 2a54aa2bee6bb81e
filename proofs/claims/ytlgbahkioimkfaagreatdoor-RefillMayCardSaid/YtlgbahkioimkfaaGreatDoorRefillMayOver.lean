/- dustpan/dustpanlaw19.RefillMay: the row. -/
import Derived.Test.YtlgbahkioimkfaaGreatDoorRefillMayLift
import Derived.Test.YtlgbahkioimkfaaGreatDoorRefillMayFacts
namespace Go.Proofs.YtlgbahkioimkfaaGreatDoor.refillMay
open Go.ChangeShapes Go.WideShapes Go.ChangeAt Go.RowKit
set_option linter.unusedVariables false
set_option maxRecDepth 100000
theorem over : Rows.RefillMaySaid :=
  OpenClaim.holds_of_wide 6 Tryz.f6 rfl rfl rfl rfl rfl rfl rfl ⟨rfl, rfl, rfl, rfl, rfl⟩ rfl rfl rfl rfl rfl (by kernel_rfl) Tryz.func6 closedF
    (of_decide_eq_true (by kernel_rfl)) (by unfold Func.isWrapper; first | (rw [if_pos (by decide +kernel)]; kernel_rfl) | (rw [if_neg (by decide +kernel)]; exact ⟨rfl, rfl⟩))
    (fun os started H enc _ => lifted os started H enc)

end Go.Proofs.YtlgbahkioimkfaaGreatDoor.refillMay
