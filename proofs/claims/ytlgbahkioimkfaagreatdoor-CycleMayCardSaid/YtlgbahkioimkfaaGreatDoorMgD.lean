/- dustpan/dustpanlaw25.CycleMay, case D (printed by gen_may.py). -/
import Derived.Test.YtlgbahkioimkfaaGreatDoorMgN
namespace Go.Proofs.YtlgbahkioimkfaaGreatDoor
open Go.RowKit
set_option linter.unusedVariables false
set_option maxRecDepth 100000
def MgED : List Ent := ([⟨.len #[31], [kf 4], kf 5⟩])
def MgFD : List FnEnt := [⟨25, [], .bool true⟩, ⟨21, [vG [vI 3, vI 2], kf 2, kf 3, kf 4], vN⟩, ⟨21, [vG [vI 4, vI 2], kf 2, kf 3, kf 4], vN⟩, ⟨14, [vG [vI 21, vI 3, vI 2, kf 2, vI 0, vI 0, vI 0, vI 0, vI 0, vI 0, vI 0, vU 0, vB false, kf 4, vZ, vB false, vI 0, vB false, vN, vI 0, vI 0, vU 0, vU 0, vI 0, vI 0, vI 0, vI 0, vU 0, vZ, vZ, vI 0, vI 0]], vB false⟩]
theorem MglD : isTrue (evCall (ev Tryz.prog (orcL MgED (fsL MgFD)) 2 5000) Tryz.prog (orcL MgED (fsL MgFD)) [] 5 #[vG [vI 3, vI 2], kf 2, kf 3, kf 4] (baseWorld 2 tabA)) = true := by decide +kernel
end Go.Proofs.YtlgbahkioimkfaaGreatDoor
