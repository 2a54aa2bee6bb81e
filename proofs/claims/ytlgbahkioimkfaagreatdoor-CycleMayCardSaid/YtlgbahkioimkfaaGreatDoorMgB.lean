/- dustpan/dustpanlaw25.CycleMay, case B (printed by gen_may.py). -/
import Derived.Test.YtlgbahkioimkfaaGreatDoorMgN
namespace Go.Proofs.YtlgbahkioimkfaaGreatDoor
open Go.RowKit
set_option linter.unusedVariables false
set_option maxRecDepth 100000
def MgEB : List Ent := ([⟨.bin .eql 23, [vG [kf 0, kf 1], vG [vI 3, vI 2]], .bool false⟩, ⟨.bin .neq 23, [vG [vI 3, vI 2], vG [kf 0, kf 1]], .bool true⟩]) ++ ([⟨.len #[31], [kf 4], kf 5⟩])
def MgFB : List FnEnt := [⟨25, [], .bool true⟩, ⟨21, [vG [kf 0, kf 1], kf 2, kf 3, kf 4], vN⟩, ⟨14, [vG [vI 21, kf 0, kf 1, kf 2, vI 0, vI 0, vI 0, vI 0, vI 0, vI 0, vI 0, vU 0, vB false, kf 4, vZ, vB false, vI 0, vB false, vN, vI 0, vI 0, vU 0, vU 0, vI 0, vI 0, vI 0, vI 0, vU 0, vZ, vZ, vI 0, vI 0]], vB false⟩]
theorem MglB : isTrue (evCall (ev Tryz.prog (orcL MgEB (fsL MgFB)) 2 5000) Tryz.prog (orcL MgEB (fsL MgFB)) [] 5 #[vG [kf 0, kf 1], kf 2, kf 3, kf 4] (baseWorld 2 tabA)) = true := by decide +kernel
end Go.Proofs.YtlgbahkioimkfaaGreatDoor
