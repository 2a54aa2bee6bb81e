/- dustpan/dustpanlaw22.FlushMay, case B (printed by gen_may.py). -/
import Derived.Test.YtickhjoakbldpaaGreatDoorMbN
namespace Go.Proofs.YtickhjoakbldpaaGreatDoor
open Go.RowKit
set_option linter.unusedVariables false
set_option maxRecDepth 100000
def MbEB : List Ent := [⟨.bin .eql 23, [vG [kf 0, kf 1], vG [vI 3, vI 2]], .bool false⟩, ⟨.bin .neq 23, [vG [vI 3, vI 2], vG [kf 0, kf 1]], .bool true⟩]
def MbFB : List FnEnt := [⟨28, [], .bool true⟩, ⟨24, [vG [kf 0, kf 1], kf 2], vN⟩, ⟨11, [vG [vI 18, kf 0, kf 1, kf 2, vI 0, vI 0, vI 0, vI 0, vI 0, vI 0, vI 0, vU 0, vB false, vZ, vZ, vB false, vI 0, vB false, vN, vI 0, vI 0, vU 0, vU 0, vI 0, vI 0, vI 0, vI 0, vU 0, vZ, vZ, vI 0, vI 0]], vB false⟩]
theorem MblB : isTrue (evCall (ev Tryz.prog (orcL MbEB (fsL MbFB)) 2 5000) Tryz.prog (orcL MbEB (fsL MbFB)) [] 5 #[vG [kf 0, kf 1], kf 2] (baseWorld 2 tabA)) = true := by decide +kernel
end Go.Proofs.YtickhjoakbldpaaGreatDoor
