/- dustpan/dustpanlaw23.SweeperMay, case D (printed by gen_may.py). -/
import Derived.Test.YtickhjoakbldpaaGreatDoorMdN
namespace Go.Proofs.YtickhjoakbldpaaGreatDoor
open Go.RowKit
set_option linter.unusedVariables false
set_option maxRecDepth 100000
def MdED : List Ent := []
def MdFD : List FnEnt := [⟨33, [], .bool true⟩, ⟨29, [vG [vI 3, vI 2], kf 2, kf 3], vN⟩, ⟨29, [vG [vI 4, vI 2], kf 2, kf 3], vN⟩, ⟨11, [vG [vI 19, vI 3, vI 2, kf 2, vI 0, vI 0, vI 0, vI 0, vI 0, vI 0, kf 3, vU 0, vB false, vZ, vZ, vB false, vI 0, vB false, vN, vI 0, vI 0, vU 0, vU 0, vI 0, vI 0, vI 0, vI 0, vU 0, vZ, vZ, vI 0, vI 0]], vB false⟩]
theorem MdlD : isTrue (evCall (ev Tryz.prog (orcL MdED (fsL MdFD)) 2 5000) Tryz.prog (orcL MdED (fsL MdFD)) [] 6 #[vG [vI 3, vI 2], kf 2, kf 3] (baseWorld 2 tabA)) = true := by decide +kernel
end Go.Proofs.YtickhjoakbldpaaGreatDoor
