/- dustpan/dustpanlaw25.CycleMay: the row. -/
import Derived.Test.YtlgbahkioimkfaaGreatDoorCycleMayLift
import Derived.Test.YtlgbahkioimkfaaGreatDoorCycleMayFacts
namespace Go.Proofs.YtlgbahkioimkfaaGreatDoor.cycleMay
open Go.ChangeShapes Go.WideShapes Go.ChangeAt Go.RowKit
set_option linter.unusedVariables false
set_option maxRecDepth 100000
theorem over : Rows.CycleMaySaid :=
  OpenClaim.holds_of_wide 5 Tryz.f5 rfl rfl rfl rfl rfl rfl rfl ⟨rfl, rfl, rfl, rfl, rfl⟩ rfl rfl rfl rfl rfl (by kernel_rfl) Tryz.func5 closedF
    (of_decide_eq_true (by kernel_rfl)) (by unfold Func.isWrapper; first | (rw [if_pos (by decide +kernel)]; kernel_rfl) | (rw [if_neg (by decide +kernel)]; exact ⟨rfl, rfl⟩))
    (fun os started H enc _ => lifted os started H enc)

end Go.Proofs.YtlgbahkioimkfaaGreatDoor.cycleMay
