/- dustpan/dustpanlaw19.RefillMay, case A (printed by gen_may.py). -/
import Derived.Test.YtlgbahkioimkfaaGreatDoorMeN
namespace Go.Proofs.YtlgbahkioimkfaaGreatDoor
open Go.RowKit
set_option linter.unusedVariables false
set_option maxRecDepth 100000
def MeEA : List Ent := (eGe 3 (kf 0) (vI 1)) ++ (eLe 3 (kf 0) (vI 4096)) ++ (eGe 3 (kf 1) (vI 1)) ++ (eLe 3 (kf 1) (vI 64)) ++ (eGe 3 (kf 2) (vI 0)) ++ (eLt 3 (kf 2) (kf 1)) ++ (eGe 3 (kf 3) (vI 0)) ++ (eLt 3 (kf 3) (vI 14)) ++ (eGe 3 (kf 4) (vI 1)) ++ (eLe 3 (kf 4) (vI 2147483648)) ++ (eLt 3 (vI 0) (kf 0)) ++ ([⟨.bin .eql 23, [vG [kf 0, kf 1], vG [vI 3, vI 2]], .bool false⟩, ⟨.bin .neq 23, [vG [vI 3, vI 2], vG [kf 0, kf 1]], .bool true⟩]) ++ ([⟨.bin .mul 3, [vI 14, kf 2], kf 5⟩, ⟨.bin .add 3, [vI 68, kf 5], kf 6⟩, ⟨.bin .add 3, [kf 6, kf 3], kf 7⟩])
def MeFA : List FnEnt := [⟨30, [], .bool true⟩]
theorem MelA : isTrue (evCall (ev Tryz.prog (orcL MeEA (fsL MeFA)) 2 5000) Tryz.prog (orcL MeEA (fsL MeFA)) [] 6 #[vG [kf 0, kf 1], kf 2, kf 3, kf 4] (baseWorld 2 tabA)) = true := by decide +kernel
end Go.Proofs.YtlgbahkioimkfaaGreatDoor
