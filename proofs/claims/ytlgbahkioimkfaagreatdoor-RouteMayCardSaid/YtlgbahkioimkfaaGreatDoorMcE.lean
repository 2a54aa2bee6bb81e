/- dustpan/dustpanlaw18.RouteMay, case E (printed by gen_may.py). -/
import Derived.Test.YtlgbahkioimkfaaGreatDoorMcN
namespace Go.Proofs.YtlgbahkioimkfaaGreatDoor
open Go.RowKit
set_option linter.unusedVariables false
set_option maxRecDepth 100000
def McEE : List Ent := (eGe 3 (kf 2) (vI 0)) ++ (eLt 3 (kf 2) (vI 2)) ++ (eGe 3 (kf 3) (vI 0)) ++ (eLt 3 (kf 3) (vI 4)) ++ (eGe 3 (kf 4) (vI 1)) ++ (eLe 3 (kf 4) (vI 2147483648)) ++ ([⟨.bin .mul 3, [vI 5, kf 3], kf 5⟩, ⟨.bin .add 3, [vI 96, kf 5], kf 6⟩, ⟨.bin .add 3, [kf 6, vI 10], kf 7⟩, ⟨.bin .sub 3, [kf 7, vI 9], kf 8⟩])
def McFE : List FnEnt := [⟨12, [], .bool true⟩, ⟨13, [vG [vI 3, vI 2], kf 2, kf 3, kf 4], vN⟩, ⟨14, [vG [vI 11, vI 3, vI 2, kf 2, kf 3, vI 0, vI 0, kf 4, vI 0, vI 0, vI 0, vU 0, vB false, vZ, vZ, vB false, vI 0, vB false, vN, vI 0, vI 0, vU 0, vU 0, vI 0, vI 0, vI 0, vI 0, vU 0, vZ, vZ, vI 0, vI 0]], vB false⟩]
theorem MclE : isTrue (evCall (ev Tryz.prog (orcL McEE (fsL McFE)) 2 5000) Tryz.prog (orcL McEE (fsL McFE)) [] 4 #[vG [vI 3, vI 2], kf 2, kf 3, kf 4] (baseWorld 2 tabA)) = true := by decide +kernel
end Go.Proofs.YtlgbahkioimkfaaGreatDoor
