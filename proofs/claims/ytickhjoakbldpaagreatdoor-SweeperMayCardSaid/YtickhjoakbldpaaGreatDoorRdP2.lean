/- dustpan/dustpanlaw23.awake: pieces (printed by gen_run.py). -/
import Derived.Test.YtickhjoakbldpaaGreatDoorRdS
namespace Go.Proofs.YtickhjoakbldpaaGreatDoor
open Go.RowKit
set_option linter.unusedVariables false
set_option maxRecDepth 100000
theorem Rdp8 {σ : Nat → Value} (hσ : ∀ j, OneC (σ j)) {W0 : World} {H : Nat} : Seg0 Tryz.prog σ W0 H 2 (.code (inL (inB (seqL (seqR (seqR (seqR (seqR (bodyOf Tryz.prog 33))))))))) (mkA Rdl7) (mkW Rdh7) .normal (mkA Rdl8) (mkW Rdh8) :=
  seg0_ev (O := Orc.none) (n := 5000) (m := [0, 1, 2, 3, 4, 5, 6, 7, 8, 9, 10, 21, 22, 23, 24]) hσ (OrcOK.none _ _ _ _) (by decide +kernel)
theorem Rdp9 {σ : Nat → Value} (hσ : ∀ j, OneC (σ j)) {W0 : World} {H : Nat} : Seg0 Tryz.prog σ W0 H 2 (.code (inL (inB (seqL (seqR (seqR (seqR (seqR (bodyOf Tryz.prog 33))))))))) (mkA Rdl8) (mkW Rdh8) .normal (mkA Rdl9) (mkW Rdh9) :=
  seg0_ev (O := Orc.none) (n := 5000) (m := [0, 1, 2, 3, 4, 5, 6, 7, 8, 9, 10, 19, 20, 21, 40, 41, 42, 57, 58, 59, 60, 61, 62, 63]) hσ (OrcOK.none _ _ _ _) (by decide +kernel)
theorem Rdp10 {σ : Nat → Value} (hσ : ∀ j, OneC (σ j)) {W0 : World} {H : Nat} : Seg0 Tryz.prog σ W0 H 2 (.code (inL (inB (seqL (seqR (seqR (seqR (seqR (bodyOf Tryz.prog 33))))))))) (mkA Rdl9) (mkW Rdh9) .normal (mkA Rdl10) (mkW Rdh10) :=
  seg0_ev (O := Orc.none) (n := 5000) (m := [0, 1, 2, 3, 4, 5, 6, 7, 8, 9, 10, 39, 40, 41, 60, 61, 62, 77, 78, 79, 80, 81, 82, 83]) hσ (OrcOK.none _ _ _ _) (by decide +kernel)
theorem Rdp11 {σ : Nat → Value} (hσ : ∀ j, OneC (σ j)) {W0 : World} {H : Nat} : Seg0 Tryz.prog σ W0 H 2 (.code (inL (inB (seqL (seqR (seqR (seqR (seqR (bodyOf Tryz.prog 33))))))))) (mkA Rdl10) (mkW Rdh10) .normal (mkA Rdl11) (mkW Rdh11) :=
  seg0_ev (O := Orc.none) (n := 5000) (m := [0, 1, 2, 3, 4, 5, 6, 7, 8, 9, 10, 39, 40, 41, 60, 61, 62, 77, 78, 79, 80, 81, 82, 83]) hσ (OrcOK.none _ _ _ _) (by decide +kernel)
end Go.Proofs.YtickhjoakbldpaaGreatDoor
