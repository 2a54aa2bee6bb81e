/- dustpan/dustpanlaw19.RefillMay, case C (printed by gen_may.py). -/
import Derived.Test.YtlgbahkioimkfaaGreatDoorMeN
namespace Go.Proofs.YtlgbahkioimkfaaGreatDoor
open Go.RowKit
set_option linter.unusedVariables false
set_option maxRecDepth 100000
def MeEC : List Ent := (eGe 3 (kf 2) (vI 0)) ++ (eLt 3 (kf 2) (vI 2)) ++ (eGe 3 (kf 3) (vI 0)) ++ (eLt 3 (kf 3) (vI 14)) ++ (eGe 3 (kf 4) (vI 1)) ++ (eLe 3 (kf 4) (vI 2147483648)) ++ ([⟨.bin .mul 3, [vI 14, kf 2], kf 5⟩, ⟨.bin .add 3, [vI 68, kf 5], kf 6⟩, ⟨.bin .add 3, [kf 6, kf 3], kf 7⟩])
def MeFC : List FnEnt := [⟨30, [], .bool true⟩]
theorem MelC : isTrue (evCall (ev Tryz.prog (orcL MeEC (fsL MeFC)) 2 5000) Tryz.prog (orcL MeEC (fsL MeFC)) [] 6 #[vG [vI 3, vI 2], kf 2, kf 3, kf 4] (baseWorld 2 tabA)) = true := by decide +kernel
end Go.Proofs.YtlgbahkioimkfaaGreatDoor
