/- dustpan/dustpanlaw22.FlushMay, case C (printed by gen_may.py). -/
import Derived.Test.YtickhjoakbldpaaGreatDoorMbN
namespace Go.Proofs.YtickhjoakbldpaaGreatDoor
open Go.RowKit
set_option linter.unusedVariables false
set_option maxRecDepth 100000
def MbEC : List Ent := (eGe 3 (kf 2) (vI 0)) ++ (eLt 3 (kf 2) (vI 2)) ++ ([⟨.bin .add 3, [kf 2, vI 1], kf 3⟩, ⟨.conv 3 27, [kf 3], kf 4⟩])
def MbFC : List FnEnt := [⟨28, [], .bool true⟩]
theorem MblC : isTrue (evCall (ev Tryz.prog (orcL MbEC (fsL MbFC)) 2 5000) Tryz.prog (orcL MbEC (fsL MbFC)) [] 5 #[vG [vI 3, vI 2], kf 2] (baseWorld 2 tabA)) = true := by decide +kernel
end Go.Proofs.YtickhjoakbldpaaGreatDoor
