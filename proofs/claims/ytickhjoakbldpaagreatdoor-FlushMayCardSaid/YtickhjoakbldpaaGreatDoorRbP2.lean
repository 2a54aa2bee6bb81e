/- dustpan/dustpanlaw22.awake: pieces (printed by gen_run.py). -/
import Derived.Test.YtickhjoakbldpaaGreatDoorRbS
namespace Go.Proofs.YtickhjoakbldpaaGreatDoor
open Go.RowKit
set_option linter.unusedVariables false
set_option maxRecDepth 100000
theorem Rbp8 {σ : Nat → Value} (hσ : ∀ j, OneC (σ j)) {W0 : World} {H : Nat} : Seg Tryz.prog σ W0 H 2 [] (.code (inL (inB (seqL (seqR (seqR (seqR (seqR (bodyOf Tryz.prog 28))))))))) (mkA Rbl7) (mkW Rbh7) .normal (mkA Rbl8) (mkW Rbh8) :=
  seg_ev (O := Orc.none) (n := 5000) hσ (OrcOK.none _ _ _ _) (by decide +kernel)
theorem Rbp9 {σ : Nat → Value} (hσ : ∀ j, OneC (σ j)) {W0 : World} {H : Nat} : Seg Tryz.prog σ W0 H 2 [] (.code (inL (inB (seqL (seqR (seqR (seqR (seqR (bodyOf Tryz.prog 28))))))))) (mkA Rbl8) (mkW Rbh8) .normal (mkA Rbl9) (mkW Rbh9) :=
  seg_ev (O := Orc.none) (n := 5000) hσ (OrcOK.none _ _ _ _) (by decide +kernel)
theorem Rbp10 {σ : Nat → Value} (hσ : ∀ j, OneC (σ j)) {W0 : World} {H : Nat} : Seg Tryz.prog σ W0 H 2 [] (.code (inL (inB (seqL (seqR (seqR (seqR (seqR (bodyOf Tryz.prog 28))))))))) (mkA Rbl9) (mkW Rbh9) .normal (mkA Rbl10) (mkW Rbh10) :=
  seg_ev (O := Orc.none) (n := 5000) hσ (OrcOK.none _ _ _ _) (by decide +kernel)
theorem Rbp11 {σ : Nat → Value} (hσ : ∀ j, OneC (σ j)) {W0 : World} {H : Nat} : Seg Tryz.prog σ W0 H 2 [] (.code (inL (inB (seqL (seqR (seqR (seqR (seqR (bodyOf Tryz.prog 28))))))))) (mkA Rbl10) (mkW Rbh10) .normal (mkA Rbl11) (mkW Rbh11) :=
  seg_ev (O := Orc.none) (n := 5000) hσ (OrcOK.none _ _ _ _) (by decide +kernel)
end Go.Proofs.YtickhjoakbldpaaGreatDoor
