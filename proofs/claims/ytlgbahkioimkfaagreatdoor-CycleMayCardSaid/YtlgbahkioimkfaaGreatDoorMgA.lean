/- dustpan/dustpanlaw25.CycleMay, case A (printed by gen_may.py). -/
import Derived.Test.YtlgbahkioimkfaaGreatDoorMgN
namespace Go.Proofs.YtlgbahkioimkfaaGreatDoor
open Go.RowKit
set_option linter.unusedVariables false
set_option maxRecDepth 100000
def MgEA : List Ent := (eGe 3 (kf 0) (vI 1)) ++ (eLe 3 (kf 0) (vI 4096)) ++ (eGe 3 (kf 1) (vI 1)) ++ (eLe 3 (kf 1) (vI 64)) ++ (eGe 3 (kf 2) (vI 0)) ++ (eLt 3 (kf 2) (kf 1)) ++ (eLe 3 (kf 5) (vI 8)) ++ (eLt 3 (vI 0) (kf 0)) ++ ([⟨.bin .eql 23, [vG [kf 0, kf 1], vG [vI 3, vI 2]], .bool false⟩, ⟨.bin .neq 23, [vG [vI 3, vI 2], vG [kf 0, kf 1]], .bool true⟩]) ++ ([⟨.len #[31], [kf 4], kf 5⟩, ⟨.bin .add 3, [kf 2, vI 1], kf 6⟩, ⟨.conv 3 30, [kf 6], kf 7⟩])
def MgFA : List FnEnt := [⟨25, [], .bool true⟩, ⟨60, [kf 4], .complex .f64 0 0⟩]
theorem MglA : isTrue (evCall (ev Tryz.prog (orcL MgEA (fsL MgFA)) 2 5000) Tryz.prog (orcL MgEA (fsL MgFA)) [] 5 #[vG [kf 0, kf 1], kf 2, kf 3, kf 4] (baseWorld 2 tabA)) = true := by decide +kernel
end Go.Proofs.YtlgbahkioimkfaaGreatDoor
