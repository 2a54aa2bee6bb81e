/- dustpan/dustpanlaw19.RefillMay, case D (printed by gen_may.py). -/
import Derived.Test.YtlgbahkioimkfaaGreatDoorMeN
namespace Go.Proofs.YtlgbahkioimkfaaGreatDoor
open Go.RowKit
set_option linter.unusedVariables false
set_option maxRecDepth 100000
def MeED : List Ent := []
def MeFD : List FnEnt := [⟨30, [], .bool true⟩, ⟨26, [vG [vI 3, vI 2], kf 2, kf 3, kf 4], vN⟩, ⟨26, [vG [vI 4, vI 2], kf 2, kf 3, kf 4], vN⟩, ⟨14, [vG [vI 12, vI 3, vI 2, kf 2, vI 0, kf 3, vI 0, kf 4, vI 0, vI 0, vI 0, vU 0, vB false, vZ, vZ, vB false, vI 0, vB false, vN, vI 0, vI 0, vU 0, vU 0, vI 0, vI 0, vI 0, vI 0, vU 0, vZ, vZ, vI 0, vI 0]], vB false⟩]
theorem MelD : isTrue (evCall (ev Tryz.prog (orcL MeED (fsL MeFD)) 2 5000) Tryz.prog (orcL MeED (fsL MeFD)) [] 6 #[vG [vI 3, vI 2], kf 2, kf 3, kf 4] (baseWorld 2 tabA)) = true := by decide +kernel
end Go.Proofs.YtlgbahkioimkfaaGreatDoor
