/- dustpan/dustpanlaw18.RouteMay, case D (printed by gen_may.py). -/
import Derived.Test.YtlgbahkioimkfaaGreatDoorMcN
namespace Go.Proofs.YtlgbahkioimkfaaGreatDoor
open Go.RowKit
set_option linter.unusedVariables false
set_option maxRecDepth 100000
def McED : List Ent := []
def McFD : List FnEnt := [⟨12, [], .bool true⟩, ⟨13, [vG [vI 3, vI 2], kf 2, kf 3, kf 4], vN⟩, ⟨13, [vG [vI 4, vI 2], kf 2, kf 3, kf 4], vN⟩, ⟨14, [vG [vI 11, vI 3, vI 2, kf 2, kf 3, vI 0, vI 0, kf 4, vI 0, vI 0, vI 0, vU 0, vB false, vZ, vZ, vB false, vI 0, vB false, vN, vI 0, vI 0, vU 0, vU 0, vI 0, vI 0, vI 0, vI 0, vU 0, vZ, vZ, vI 0, vI 0]], vB false⟩]
theorem MclD : isTrue (evCall (ev Tryz.prog (orcL McED (fsL McFD)) 2 5000) Tryz.prog (orcL McED (fsL McFD)) [] 4 #[vG [vI 3, vI 2], kf 2, kf 3, kf 4] (baseWorld 2 tabA)) = true := by decide +kernel
end Go.Proofs.YtlgbahkioimkfaaGreatDoor
