/- dustpan/dustpanlaw21.awake: calls (printed by gen_run4.py). -/
import Derived.Test.YtlgbahkioimkfaaGreatDoorRfS
namespace Go.Proofs.YtlgbahkioimkfaaGreatDoor
open Go.RowKit
set_option linter.unusedVariables false
set_option maxRecDepth 100000
theorem Rfc0 : callChk Tryz.prog 2 (regOps (seqL (seqR (seqR (seqR (seqR ((bodyOf Tryz.prog 35)))))))) 2 Rfl10 Rfh11 81 Rfl12 = true := by decide +kernel
theorem Rfc1 : retChk Tryz.prog (regOps (seqL (seqR (seqR (seqR (seqR ((bodyOf Tryz.prog 35)))))))) 2 81 Rfl103 Rfh104 (List.drop 0 Rfr105) Rfl106 = true := by decide +kernel
theorem Rfc2 : callChk Tryz.prog 2 (regOps (seqL (seqR (seqR (seqR (seqR (seqR ((bodyOf Tryz.prog 35))))))))) 2 Rfl109 Rfh110 81 Rfl111 = true := by decide +kernel
theorem Rfc3 : retChk Tryz.prog (regOps (seqL (seqR (seqR (seqR (seqR (seqR ((bodyOf Tryz.prog 35))))))))) 2 81 Rfl151 Rfh152 (List.drop 0 Rfr153) Rfl154 = true := by decide +kernel
end Go.Proofs.YtlgbahkioimkfaaGreatDoor
