/- dustpan/dustpanlaw25.CycleMay, case C (printed by gen_may.py). -/
import Derived.Test.YtlgbahkioimkfaaGreatDoorMgN
namespace Go.Proofs.YtlgbahkioimkfaaGreatDoor
open Go.RowKit
set_option linter.unusedVariables false
set_option maxRecDepth 100000
def MgEC : List Ent := (eGe 3 (kf 2) (vI 0)) ++ (eLt 3 (kf 2) (vI 2)) ++ (eLe 3 (kf 5) (vI 8)) ++ ([⟨.len #[31], [kf 4], kf 5⟩, ⟨.bin .add 3, [kf 2, vI 1], kf 6⟩, ⟨.conv 3 30, [kf 6], kf 7⟩])
def MgFC : List FnEnt := [⟨25, [], .bool true⟩, ⟨60, [kf 4], .complex .f64 0 0⟩]
theorem MglC : isTrue (evCall (ev Tryz.prog (orcL MgEC (fsL MgFC)) 2 5000) Tryz.prog (orcL MgEC (fsL MgFC)) [] 5 #[vG [vI 3, vI 2], kf 2, kf 3, kf 4] (baseWorld 2 tabA)) = true := by decide +kernel
end Go.Proofs.YtlgbahkioimkfaaGreatDoor
