/- dustpan/dustpanlaw22.FlushMay, case D (printed by gen_may.py). -/
import Derived.Test.YtickhjoakbldpaaGreatDoorMbN
namespace Go.Proofs.YtickhjoakbldpaaGreatDoor
open Go.RowKit
set_option linter.unusedVariables false
set_option maxRecDepth 100000
def MbED : List Ent := []
def MbFD : List FnEnt := [⟨28, [], .bool true⟩, ⟨24, [vG [vI 3, vI 2], kf 2], vN⟩, ⟨24, [vG [vI 4, vI 2], kf 2], vN⟩, ⟨11, [vG [vI 18, vI 3, vI 2, kf 2, vI 0, vI 0, vI 0, vI 0, vI 0, vI 0, vI 0, vU 0, vB false, vZ, vZ, vB false, vI 0, vB false, vN, vI 0, vI 0, vU 0, vU 0, vI 0, vI 0, vI 0, vI 0, vU 0, vZ, vZ, vI 0, vI 0]], vB false⟩]
theorem MblD : isTrue (evCall (ev Tryz.prog (orcL MbED (fsL MbFD)) 2 5000) Tryz.prog (orcL MbED (fsL MbFD)) [] 5 #[vG [vI 3, vI 2], kf 2] (baseWorld 2 tabA)) = true := by decide +kernel
end Go.Proofs.YtickhjoakbldpaaGreatDoor
