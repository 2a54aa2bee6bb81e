/- dustpan/dustpanlaw18.RouteHeads: its runs (printed by gen_heads.py). -/
import Derived.Test.YtlgbahkioimkfaaGreatDoorTabM
import Derived.Test.YtlgbahkioimkfaaGreatDoorRefl20
namespace Go.Proofs.YtlgbahkioimkfaaGreatDoor
open Go.RowKit
set_option linter.unusedVariables false
set_option maxRecDepth 100000
def MhF : List FnEnt := [⟨12, [], .bool true⟩]
end Go.Proofs.YtlgbahkioimkfaaGreatDoor
