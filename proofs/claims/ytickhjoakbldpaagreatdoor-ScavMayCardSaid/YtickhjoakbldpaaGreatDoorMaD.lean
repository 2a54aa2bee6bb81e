/- dustpan/dustpanlaw24.ScavMay, case D (printed by gen_may.py). -/
import Derived.Test.YtickhjoakbldpaaGreatDoorMaN
namespace Go.Proofs.YtickhjoakbldpaaGreatDoor
open Go.RowKit
set_option linter.unusedVariables false
set_option maxRecDepth 100000
def MaED : List Ent := []
def MaFD : List FnEnt := [⟨19, [], .bool true⟩, ⟨10, [vG [vI 3, vI 2], kf 2, kf 3], vN⟩, ⟨10, [vG [vI 4, vI 2], kf 2, kf 3], vN⟩, ⟨11, [vG [vI 20, vI 3, vI 2, kf 2, vI 0, vI 0, vI 0, vI 0, vI 0, vI 0, kf 3, vU 0, vB false, vZ, vZ, vB false, vI 0, vB false, vN, vI 0, vI 0, vU 0, vU 0, vI 0, vI 0, vI 0, vI 0, vU 0, vZ, vZ, vI 0, vI 0]], vB false⟩]
theorem MalD : isTrue (evCall (ev Tryz.prog (orcL MaED (fsL MaFD)) 2 5000) Tryz.prog (orcL MaED (fsL MaFD)) [] 3 #[vG [vI 3, vI 2], kf 2, kf 3] (baseWorld 2 tabB)) = true := by decide +kernel
end Go.Proofs.YtickhjoakbldpaaGreatDoor
