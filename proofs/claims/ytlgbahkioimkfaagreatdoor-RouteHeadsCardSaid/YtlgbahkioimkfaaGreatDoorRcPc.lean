/- dustpan/dustpanlaw18.awake: calls (printed by gen_run4.py). -/
import Derived.Test.YtlgbahkioimkfaaGreatDoorRcS
namespace Go.Proofs.YtlgbahkioimkfaaGreatDoor
open Go.RowKit
set_option linter.unusedVariables false
set_option maxRecDepth 100000
theorem Rcc0 : callChk Tryz.prog 2 (regOps (seqL (seqR (seqR (seqR (seqR ((bodyOf Tryz.prog 12)))))))) 2 Rcl10 Rch11 39 Rcl12 = true := by decide +kernel
theorem Rcc1 : retChk Tryz.prog (regOps (seqL (seqR (seqR (seqR (seqR ((bodyOf Tryz.prog 12)))))))) 2 39 Rcl73 Rch74 (List.drop 0 Rcr75) Rcl76 = true := by decide +kernel
end Go.Proofs.YtlgbahkioimkfaaGreatDoor
