/- dustpan/dustpanlaw21.awake: calls (printed by gen_run4.py). -/
import Derived.Test.YthggcmhmjkmjnaaGreatDoorRfS
namespace Go.Proofs.YthggcmhmjkmjnaaGreatDoor
open Go.RowKit
set_option linter.unusedVariables false
set_option maxRecDepth 100000
theorem Rfc0 : callChk Tryz.prog 2 (regOps (seqL (seqR (seqR (seqR (seqR ((bodyOf Tryz.prog 7)))))))) 2 Rfl10 Rfh11 10 Rfl12 = true := by decide +kernel
theorem Rfc1 : retChk Tryz.prog (regOps (seqL (seqR (seqR (seqR (seqR ((bodyOf Tryz.prog 7)))))))) 2 10 Rfl103 Rfh104 (List.drop 0 Rfr105) Rfl106 = true := by decide +kernel
theorem Rfc2 : callChk Tryz.prog 2 (regOps (seqL (seqR (seqR (seqR (seqR (seqR ((bodyOf Tryz.prog 7))))))))) 2 Rfl109 Rfh110 10 Rfl111 = true := by decide +kernel
theorem Rfc3 : retChk Tryz.prog (regOps (seqL (seqR (seqR (seqR (seqR (seqR ((bodyOf Tryz.prog 7))))))))) 2 10 Rfl151 Rfh152 (List.drop 0 Rfr153) Rfl154 = true := by decide +kernel
end Go.Proofs.YthggcmhmjkmjnaaGreatDoor
