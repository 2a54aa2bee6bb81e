/- dustpan/dustpanlaw21.FrontMay, case C (printed by gen_may.py). -/
import Derived.Test.YtlgbahkioimkfaaGreatDoorMfN
namespace Go.Proofs.YtlgbahkioimkfaaGreatDoor
open Go.RowKit
set_option linter.unusedVariables false
set_option maxRecDepth 100000
def MfEC : List Ent := (eGe 3 (kf 2) (vI 0)) ++ (eLt 3 (kf 2) (vI 2)) ++ (eGe 3 (kf 3) (vI 0))
def MfFC : List FnEnt := [⟨35, [], .bool true⟩, ⟨74, [kf 3], .tuple [kf 4, kf 5, vB true].toArray⟩]
theorem MflC : isTrue (evCall (ev Tryz.prog (orcL MfEC (fsL MfFC)) 2 5000) Tryz.prog (orcL MfEC (fsL MfFC)) [] 7 #[vG [vI 3, vI 2], kf 2, kf 3] (baseWorld 2 tabA)) = true := by decide +kernel
end Go.Proofs.YtlgbahkioimkfaaGreatDoor
