/- dustpan/dustpanlaw21.FrontMay, case D (printed by gen_may.py). -/
import Derived.Test.YtlgbahkioimkfaaGreatDoorMfN
namespace Go.Proofs.YtlgbahkioimkfaaGreatDoor
open Go.RowKit
set_option linter.unusedVariables false
set_option maxRecDepth 100000
def MfED : List Ent := []
def MfFD : List FnEnt := [⟨35, [], .bool true⟩, ⟨31, [vG [vI 3, vI 2], kf 2, kf 3], vN⟩, ⟨31, [vG [vI 4, vI 2], kf 2, kf 3], vN⟩, ⟨14, [vG [vI 17, vI 3, vI 2, kf 2, vI 0, vI 0, vI 0, vI 0, vI 0, kf 3, vI 0, vU 0, vB false, vZ, vZ, vB false, vI 0, vB false, vN, vI 0, vI 0, vU 0, vU 0, vI 0, vI 0, vI 0, vI 0, vU 0, vZ, vZ, vI 0, vI 0]], vB false⟩]
theorem MflD : isTrue (evCall (ev Tryz.prog (orcL MfED (fsL MfFD)) 2 5000) Tryz.prog (orcL MfED (fsL MfFD)) [] 7 #[vG [vI 3, vI 2], kf 2, kf 3] (baseWorld 2 tabA)) = true := by decide +kernel
end Go.Proofs.YtlgbahkioimkfaaGreatDoor
