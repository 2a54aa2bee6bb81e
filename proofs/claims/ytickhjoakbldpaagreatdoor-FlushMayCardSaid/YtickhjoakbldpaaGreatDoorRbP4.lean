/- dustpan/dustpanlaw22.awake: pieces (printed by gen_run.py). -/
import Derived.Test.YtickhjoakbldpaaGreatDoorRbS
namespace Go.Proofs.YtickhjoakbldpaaGreatDoor
open Go.RowKit
set_option linter.unusedVariables false
set_option maxRecDepth 100000
theorem Rbp16 {σ : Nat → Value} (hσ : ∀ j, OneC (σ j)) {W0 : World} {H : Nat} : Seg Tryz.prog σ W0 H 2 [] (.code (inL (inB (seqL (seqR (seqR (seqR (seqR (bodyOf Tryz.prog 28))))))))) (mkA Rbl15) (mkW Rbh15) .normal (mkA Rbl16) (mkW Rbh16) :=
  seg_ev (O := Orc.none) (n := 5000) hσ (OrcOK.none _ _ _ _) (by decide +kernel)
theorem Rbp17 {σ : Nat → Value} (hσ : ∀ j, OneC (σ j)) {W0 : World} {H : Nat} : Seg Tryz.prog σ W0 H 2 [] (.code (inL (inB (seqL (seqR (seqR (seqR (seqR (bodyOf Tryz.prog 28))))))))) (mkA Rbl16) (mkW Rbh16) .normal (mkA Rbl17) (mkW Rbh17) :=
  seg_ev (O := Orc.none) (n := 5000) hσ (OrcOK.none _ _ _ _) (by decide +kernel)
theorem Rbp18 {σ : Nat → Value} (hσ : ∀ j, OneC (σ j)) {W0 : World} {H : Nat} : Seg Tryz.prog σ W0 H 2 [] (.code (inL (inB (seqL (seqR (seqR (seqR (seqR (bodyOf Tryz.prog 28))))))))) (mkA Rbl17) (mkW Rbh17) .normal (mkA Rbl18) (mkW Rbh18) :=
  seg_ev (O := Orc.none) (n := 5000) hσ (OrcOK.none _ _ _ _) (by decide +kernel)
theorem Rbp19 {σ : Nat → Value} (hσ : ∀ j, OneC (σ j)) {W0 : World} {H : Nat} : Seg Tryz.prog σ W0 H 2 [] (.code (inL (inB (seqL (seqR (seqR (seqR (seqR (bodyOf Tryz.prog 28))))))))) (mkA Rbl18) (mkW Rbh18) .normal (mkA Rbl19) (mkW Rbh19) :=
  seg_ev (O := Orc.none) (n := 5000) hσ (OrcOK.none _ _ _ _) (by decide +kernel)
end Go.Proofs.YtickhjoakbldpaaGreatDoor
