/- dustpan/dustpanlaw23.SweeperMay, case B (printed by gen_may.py). -/
import Derived.Test.YtickhjoakbldpaaGreatDoorMdN
namespace Go.Proofs.YtickhjoakbldpaaGreatDoor
open Go.RowKit
set_option linter.unusedVariables false
set_option maxRecDepth 100000
def MdEB : List Ent := [⟨.bin .eql 23, [vG [kf 0, kf 1], vG [vI 3, vI 2]], .bool false⟩, ⟨.bin .neq 23, [vG [vI 3, vI 2], vG [kf 0, kf 1]], .bool true⟩]
def MdFB : List FnEnt := [⟨33, [], .bool true⟩, ⟨29, [vG [kf 0, kf 1], kf 2, kf 3], vN⟩, ⟨11, [vG [vI 19, kf 0, kf 1, kf 2, vI 0, vI 0, vI 0, vI 0, vI 0, vI 0, kf 3, vU 0, vB false, vZ, vZ, vB false, vI 0, vB false, vN, vI 0, vI 0, vU 0, vU 0, vI 0, vI 0, vI 0, vI 0, vU 0, vZ, vZ, vI 0, vI 0]], vB false⟩]
theorem MdlB : isTrue (evCall (ev Tryz.prog (orcL MdEB (fsL MdFB)) 2 5000) Tryz.prog (orcL MdEB (fsL MdFB)) [] 6 #[vG [kf 0, kf 1], kf 2, kf 3] (baseWorld 2 tabA)) = true := by decide +kernel
end Go.Proofs.YtickhjoakbldpaaGreatDoor
