/- dustpan/dustpanlaw22.awake: pieces (printed by gen_run.py). -/
import Derived.Test.YtickhjoakbldpaaGreatDoorRbS
namespace Go.Proofs.YtickhjoakbldpaaGreatDoor
open Go.RowKit
set_option linter.unusedVariables false
set_option maxRecDepth 100000
theorem Rbp0 {σ : Nat → Value} (hσ : ∀ j, OneC (σ j)) {W0 : World} {H : Nat} : Seg Tryz.prog σ W0 H 2 [] (.code (seqL (bodyOf Tryz.prog 28))) { tmps := #[] ++ Array.replicate (37 - 0) undef, defers := [] } (baseWorld 2 tabA) .normal (mkA Rbl0) (mkW Rbh0) :=
  seg_ev (O := Orc.none) (n := 5000) hσ (OrcOK.none _ _ _ _) (by decide +kernel)
theorem Rbp1 {σ : Nat → Value} (hσ : ∀ j, OneC (σ j)) {W0 : World} {H : Nat} : Seg Tryz.prog σ W0 H 2 [] (.code (seqL (seqR (bodyOf Tryz.prog 28)))) (mkA Rbl0) (mkW Rbh0) .normal (mkA Rbl1) (mkW Rbh1) :=
  seg_ev (O := Orc.none) (n := 5000) hσ (OrcOK.none _ _ _ _) (by decide +kernel)
theorem Rbp2 {σ : Nat → Value} (hσ : ∀ j, OneC (σ j)) {W0 : World} {H : Nat} : Seg Tryz.prog σ W0 H 2 [] (.code (seqL (seqR (seqR (bodyOf Tryz.prog 28))))) (mkA Rbl1) (mkW Rbh1) .normal (mkA Rbl2) (mkW Rbh2) :=
  seg_ev (O := Orc.none) (n := 5000) hσ (OrcOK.none _ _ _ _) (by decide +kernel)
theorem Rbp3 {σ : Nat → Value} (hσ : ∀ j, OneC (σ j)) {W0 : World} {H : Nat} : Seg Tryz.prog σ W0 H 2 [] (.code (seqL (seqR (seqR (seqR (bodyOf Tryz.prog 28)))))) (mkA Rbl2) (mkW Rbh2) .normal (mkA Rbl3) (mkW Rbh3) :=
  seg_ev (O := Orc.none) (n := 5000) hσ (OrcOK.none _ _ _ _) (by decide +kernel)
end Go.Proofs.YtickhjoakbldpaaGreatDoor
