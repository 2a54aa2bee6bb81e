/- dustpan/dustpanlaw23.awake: pieces (printed by gen_run.py). -/
import Derived.Test.YtickhjoakbldpaaGreatDoorRdS
namespace Go.Proofs.YtickhjoakbldpaaGreatDoor
open Go.RowKit
set_option linter.unusedVariables false
set_option maxRecDepth 100000
theorem Rdp12 {σ : Nat → Value} (hσ : ∀ j, OneC (σ j)) {W0 : World} {H : Nat} : Seg0 Tryz.prog σ W0 H 2 (.code (inL (inB (seqL (seqR (seqR (seqR (seqR (bodyOf Tryz.prog 33))))))))) (mkA Rdl11) (mkW Rdh11) .normal (mkA Rdl12) (mkW Rdh12) :=
  seg0_ev (O := Orc.none) (n := 5000) (m := [0, 1, 2, 3, 4, 5, 6, 7, 8, 9, 10, 39, 40, 41, 60, 61, 62, 77, 78, 79, 80, 81, 82, 83]) hσ (OrcOK.none _ _ _ _) (by decide +kernel)
theorem Rdp13 {σ : Nat → Value} (hσ : ∀ j, OneC (σ j)) {W0 : World} {H : Nat} : Seg0 Tryz.prog σ W0 H 2 (.code (inL (inB (seqL (seqR (seqR (seqR (seqR (bodyOf Tryz.prog 33))))))))) (mkA Rdl12) (mkW Rdh12) .normal (mkA Rdl13) (mkW Rdh13) :=
  seg0_ev (O := Orc.none) (n := 5000) (m := [0, 1, 2, 3, 4, 5, 6, 7, 8, 9, 10, 39, 40, 41, 60, 61, 62, 77, 78, 79, 80, 81, 82, 83]) hσ (OrcOK.none _ _ _ _) (by decide +kernel)
theorem Rdp14 {σ : Nat → Value} (hσ : ∀ j, OneC (σ j)) {W0 : World} {H : Nat} : Seg0 Tryz.prog σ W0 H 2 (.code (inL (inB (seqL (seqR (seqR (seqR (seqR (bodyOf Tryz.prog 33))))))))) (mkA Rdl13) (mkW Rdh13) .normal (mkA Rdl14) (mkW Rdh14) :=
  seg0_ev (O := Orc.none) (n := 5000) (m := [0, 1, 2, 3, 4, 5, 6, 7, 8, 9, 10, 39, 40, 41, 60, 61, 62, 77, 78, 79, 80, 81, 82, 83]) hσ (OrcOK.none _ _ _ _) (by decide +kernel)
theorem Rdp15 {σ : Nat → Value} (hσ : ∀ j, OneC (σ j)) {W0 : World} {H : Nat} : Seg0 Tryz.prog σ W0 H 2 (.code (inL (inB (seqL (seqR (seqR (seqR (seqR (bodyOf Tryz.prog 33))))))))) (mkA Rdl14) (mkW Rdh14) .normal (mkA Rdl15) (mkW Rdh15) :=
  seg0_ev (O := Orc.none) (n := 5000) (m := [0, 1, 2, 3, 4, 5, 6, 7, 8, 9, 10, 39, 40, 41, 60, 61, 62, 77, 78, 79, 80, 81, 82, 83]) hσ (OrcOK.none _ _ _ _) (by decide +kernel)
end Go.Proofs.YtickhjoakbldpaaGreatDoor
