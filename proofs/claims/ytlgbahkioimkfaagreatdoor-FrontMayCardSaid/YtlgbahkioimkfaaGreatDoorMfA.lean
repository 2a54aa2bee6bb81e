/- dustpan/dustpanlaw21.FrontMay, case A (printed by gen_may.py). -/
import Derived.Test.YtlgbahkioimkfaaGreatDoorMfN
namespace Go.Proofs.YtlgbahkioimkfaaGreatDoor
open Go.RowKit
set_option linter.unusedVariables false
set_option maxRecDepth 100000
def MfEA : List Ent := (eGe 3 (kf 0) (vI 1)) ++ (eLe 3 (kf 0) (vI 4096)) ++ (eGe 3 (kf 1) (vI 1)) ++ (eLe 3 (kf 1) (vI 64)) ++ (eGe 3 (kf 2) (vI 0)) ++ (eLt 3 (kf 2) (kf 1)) ++ (eGe 3 (kf 3) (vI 0)) ++ (eLt 3 (vI 0) (kf 0)) ++ ([⟨.bin .eql 23, [vG [kf 0, kf 1], vG [vI 3, vI 2]], .bool false⟩, ⟨.bin .neq 23, [vG [vI 3, vI 2], vG [kf 0, kf 1]], .bool true⟩])
def MfFA : List FnEnt := [⟨35, [], .bool true⟩, ⟨74, [kf 3], .tuple [kf 4, kf 5, vB true].toArray⟩]
theorem MflA : isTrue (evCall (ev Tryz.prog (orcL MfEA (fsL MfFA)) 2 5000) Tryz.prog (orcL MfEA (fsL MfFA)) [] 7 #[vG [kf 0, kf 1], kf 2, kf 3] (baseWorld 2 tabA)) = true := by decide +kernel
end Go.Proofs.YtlgbahkioimkfaaGreatDoor
