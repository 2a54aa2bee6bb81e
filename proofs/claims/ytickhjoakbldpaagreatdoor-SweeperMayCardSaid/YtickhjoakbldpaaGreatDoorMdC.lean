/- dustpan/dustpanlaw23.SweeperMay, case C (printed by gen_may.py). -/
import Derived.Test.YtickhjoakbldpaaGreatDoorMdN
namespace Go.Proofs.YtickhjoakbldpaaGreatDoor
open Go.RowKit
set_option linter.unusedVariables false
set_option maxRecDepth 100000
def MdEC : List Ent := (eGe 3 (kf 2) (vI 0)) ++ (eLt 3 (kf 2) (vI 2)) ++ (eGe 3 (kf 3) (vI 1)) ++ (eLe 3 (kf 3) (vI 4096)) ++ ([⟨.bin .add 3, [kf 2, vI 1], kf 4⟩, ⟨.conv 3 27, [kf 4], kf 5⟩])
def MdFC : List FnEnt := [⟨33, [], .bool true⟩]
theorem MdlC : isTrue (evCall (ev Tryz.prog (orcL MdEC (fsL MdFC)) 2 5000) Tryz.prog (orcL MdEC (fsL MdFC)) [] 6 #[vG [vI 3, vI 2], kf 2, kf 3] (baseWorld 2 tabA)) = true := by decide +kernel
end Go.Proofs.YtickhjoakbldpaaGreatDoor
