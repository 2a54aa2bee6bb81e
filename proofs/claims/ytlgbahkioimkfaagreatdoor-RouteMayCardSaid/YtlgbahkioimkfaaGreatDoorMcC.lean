/- dustpan/dustpanlaw18.RouteMay, case C (printed by gen_may.py). -/
import Derived.Test.YtlgbahkioimkfaaGreatDoorMcN
namespace Go.Proofs.YtlgbahkioimkfaaGreatDoor
open Go.RowKit
set_option linter.unusedVariables false
set_option maxRecDepth 100000
def McEC : List Ent := (eGe 3 (kf 2) (vI 0)) ++ (eLt 3 (kf 2) (vI 2)) ++ (eGe 3 (kf 3) (vI 0)) ++ (eLt 3 (kf 3) (vI 3)) ++ (eGe 3 (kf 4) (vI 1)) ++ (eLe 3 (kf 4) (vI 2147483648)) ++ (eLt 3 (kf 3) (vI 4)) ++ ([⟨.bin .mul 3, [vI 5, kf 3], kf 5⟩, ⟨.bin .add 3, [vI 96, kf 5], kf 6⟩, ⟨.bin .add 3, [kf 6, vI 10], kf 7⟩, ⟨.bin .sub 3, [kf 7, vI 9], kf 8⟩])
def McFC : List FnEnt := [⟨12, [], .bool true⟩]
theorem MclC : isTrue (evCall (ev Tryz.prog (orcL McEC (fsL McFC)) 2 5000) Tryz.prog (orcL McEC (fsL McFC)) [] 4 #[vG [vI 3, vI 2], kf 2, kf 3, kf 4] (baseWorld 2 tabA)) = true := by decide +kernel
end Go.Proofs.YtlgbahkioimkfaaGreatDoor
