/- dustpan/dustpanlaw22.awake: pieces (printed by gen_run.py). -/
import Derived.Test.YtickhjoakbldpaaGreatDoorRbS
namespace Go.Proofs.YtickhjoakbldpaaGreatDoor
open Go.RowKit
set_option linter.unusedVariables false
set_option maxRecDepth 100000
theorem Rbp12 {σ : Nat → Value} (hσ : ∀ j, OneC (σ j)) {W0 : World} {H : Nat} : Seg Tryz.prog σ W0 H 2 [] (.code (inL (inB (seqL (seqR (seqR (seqR (seqR (bodyOf Tryz.prog 28))))))))) (mkA Rbl11) (mkW Rbh11) .normal (mkA Rbl12) (mkW Rbh12) :=
  seg_ev (O := Orc.none) (n := 5000) hσ (OrcOK.none _ _ _ _) (by decide +kernel)
theorem Rbp13 {σ : Nat → Value} (hσ : ∀ j, OneC (σ j)) {W0 : World} {H : Nat} : Seg Tryz.prog σ W0 H 2 [] (.code (inL (inB (seqL (seqR (seqR (seqR (seqR (bodyOf Tryz.prog 28))))))))) (mkA Rbl12) (mkW Rbh12) .normal (mkA Rbl13) (mkW Rbh13) :=
  seg_ev (O := Orc.none) (n := 5000) hσ (OrcOK.none _ _ _ _) (by decide +kernel)
theorem Rbp14 {σ : Nat → Value} (hσ : ∀ j, OneC (σ j)) {W0 : World} {H : Nat} : Seg Tryz.prog σ W0 H 2 [] (.code (inL (inB (seqL (seqR (seqR (seqR (seqR (bodyOf Tryz.prog 28))))))))) (mkA Rbl13) (mkW Rbh13) .normal (mkA Rbl14) (mkW Rbh14) :=
  seg_ev (O := Orc.none) (n := 5000) hσ (OrcOK.none _ _ _ _) (by decide +kernel)
theorem Rbp15 {σ : Nat → Value} (hσ : ∀ j, OneC (σ j)) {W0 : World} {H : Nat} : Seg Tryz.prog σ W0 H 2 [] (.code (inL (inB (seqL (seqR (seqR (seqR (seqR (bodyOf Tryz.prog 28))))))))) (mkA Rbl14) (mkW Rbh14) .normal (mkA Rbl15) (mkW Rbh15) :=
  seg_ev (O := Orc.none) (n := 5000) hσ (OrcOK.none _ _ _ _) (by decide +kernel)
end Go.Proofs.YtickhjoakbldpaaGreatDoor
