/- dustpan/dustpanlaw21.FrontMay, case B (printed by gen_may.py). -/
import Derived.Test.YtlgbahkioimkfaaGreatDoorMfN
namespace Go.Proofs.YtlgbahkioimkfaaGreatDoor
open Go.RowKit
set_option linter.unusedVariables false
set_option maxRecDepth 100000
def MfEB : List Ent := ([⟨.bin .eql 23, [vG [kf 0, kf 1], vG [vI 3, vI 2]], .bool false⟩, ⟨.bin .neq 23, [vG [vI 3, vI 2], vG [kf 0, kf 1]], .bool true⟩])
def MfFB : List FnEnt := [⟨35, [], .bool true⟩, ⟨31, [vG [kf 0, kf 1], kf 2, kf 3], vN⟩, ⟨14, [vG [vI 17, kf 0, kf 1, kf 2, vI 0, vI 0, vI 0, vI 0, vI 0, kf 3, vI 0, vU 0, vB false, vZ, vZ, vB false, vI 0, vB false, vN, vI 0, vI 0, vU 0, vU 0, vI 0, vI 0, vI 0, vI 0, vU 0, vZ, vZ, vI 0, vI 0]], vB false⟩]
theorem MflB : isTrue (evCall (ev Tryz.prog (orcL MfEB (fsL MfFB)) 2 5000) Tryz.prog (orcL MfEB (fsL MfFB)) [] 7 #[vG [kf 0, kf 1], kf 2, kf 3] (baseWorld 2 tabA)) = true := by decide +kernel
end Go.Proofs.YtlgbahkioimkfaaGreatDoor
