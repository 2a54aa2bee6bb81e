/- dustpan/dustpanlaw22.awake: pieces (printed by gen_run.py). -/
import Derived.Test.YtickhjoakbldpaaGreatDoorRbS
namespace Go.Proofs.YtickhjoakbldpaaGreatDoor
open Go.RowKit
set_option linter.unusedVariables false
set_option maxRecDepth 100000
theorem Rbp24 {σ : Nat → Value} (hσ : ∀ j, OneC (σ j)) {W0 : World} {H : Nat} : Seg Tryz.prog σ W0 H 2 [] (.code (seqR (seqR (seqR (seqR (seqR (seqR (bodyOf Tryz.prog 28)))))))) (mkA Rbl23) (mkW Rbh23) .ret (mkA Rbl24) (mkW Rbh24) :=
  seg_ev (O := Orc.none) (n := 5000) hσ (OrcOK.none _ _ _ _) (by decide +kernel)
end Go.Proofs.YtickhjoakbldpaaGreatDoor
