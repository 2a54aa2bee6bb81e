/- dustpan/dustpanlaw21.FrontMay: the row. -/
import Derived.Test.YtlgbahkioimkfaaGreatDoorFrontMayLift
import Derived.Test.YtlgbahkioimkfaaGreatDoorFrontMayFacts
namespace Go.Proofs.YtlgbahkioimkfaaGreatDoor.frontMay
open Go.ChangeShapes Go.WideShapes Go.ChangeAt Go.RowKit
set_option linter.unusedVariables false
set_option maxRecDepth 100000
theorem over : Rows.FrontMaySaid :=
  OpenClaim.holds_of_wide 7 Tryz.f7 rfl rfl rfl rfl rfl rfl rfl ⟨rfl, rfl, rfl, rfl, rfl⟩ rfl rfl rfl rfl rfl (by kernel_rfl) Tryz.func7 closedF
    (of_decide_eq_true (by kernel_rfl)) (by unfold Func.isWrapper; first | (rw [if_pos (by decide +kernel)]; kernel_rfl) | (rw [if_neg (by decide +kernel)]; exact ⟨rfl, rfl⟩))
    (fun os started H enc _ => lifted os started H enc)

end Go.Proofs.YtlgbahkioimkfaaGreatDoor.frontMay
