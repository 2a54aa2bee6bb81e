/- dustpan/dustpanlaw23.SweeperMay, case A (printed by gen_may.py). -/
import Derived.Test.YtickhjoakbldpaaGreatDoorMdN
namespace Go.Proofs.YtickhjoakbldpaaGreatDoor
open Go.RowKit
set_option linter.unusedVariables false
set_option maxRecDepth 100000
def MdEA : List Ent := (eGe 3 (kf 0) (vI 1)) ++ (eLe 3 (kf 0) (vI 4096)) ++ (eGe 3 (kf 1) (vI 1)) ++ (eLe 3 (kf 1) (vI 64)) ++ (eGe 3 (kf 2) (vI 0)) ++ (eLt 3 (kf 2) (kf 1)) ++ (eGe 3 (kf 3) (vI 1)) ++ (eLe 3 (kf 3) (vI 4096)) ++ (eLt 3 (vI 0) (kf 0)) ++ ([⟨.bin .eql 23, [vG [kf 0, kf 1], vG [vI 3, vI 2]], .bool false⟩, ⟨.bin .neq 23, [vG [vI 3, vI 2], vG [kf 0, kf 1]], .bool true⟩]) ++ ([⟨.bin .add 3, [kf 2, vI 1], kf 4⟩, ⟨.conv 3 27, [kf 4], kf 5⟩])
def MdFA : List FnEnt := [⟨33, [], .bool true⟩]
theorem MdlA : isTrue (evCall (ev Tryz.prog (orcL MdEA (fsL MdFA)) 2 5000) Tryz.prog (orcL MdEA (fsL MdFA)) [] 6 #[vG [kf 0, kf 1], kf 2, kf 3] (baseWorld 2 tabA)) = true := by decide +kernel
end Go.Proofs.YtickhjoakbldpaaGreatDoor
