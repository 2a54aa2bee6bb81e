/- dustpan/dustpanlaw23.awake: pieces (printed by gen_run.py). -/
import Derived.Test.YtickhjoakbldpaaGreatDoorRdS
namespace Go.Proofs.YtickhjoakbldpaaGreatDoor
open Go.RowKit
set_option linter.unusedVariables false
set_option maxRecDepth 100000
theorem Rdp16 {σ : Nat → Value} (hσ : ∀ j, OneC (σ j)) {W0 : World} {H : Nat} : Seg0 Tryz.prog σ W0 H 2 (.code (inL (inB (seqL (seqR (seqR (seqR (seqR (bodyOf Tryz.prog 33))))))))) (mkA Rdl15) (mkW Rdh15) .normal (mkA Rdl16) (mkW Rdh16) :=
  seg0_ev (O := Orc.none) (n := 5000) (m := [0, 1, 2, 3, 4, 5, 6, 7, 8, 9, 10, 39, 40, 41, 60, 61, 62, 77, 78, 79, 80, 81, 82, 83]) hσ (OrcOK.none _ _ _ _) (by decide +kernel)
theorem Rdp17 {σ : Nat → Value} (hσ : ∀ j, OneC (σ j)) {W0 : World} {H : Nat} : Seg0 Tryz.prog σ W0 H 2 (.code (inL (inB (seqL (seqR (seqR (seqR (seqR (bodyOf Tryz.prog 33))))))))) (mkA Rdl16) (mkW Rdh16) .normal (mkA Rdl17) (mkW Rdh17) :=
  seg0_ev (O := Orc.none) (n := 5000) (m := [0, 1, 2, 3, 4, 5, 6, 7, 8, 9, 10, 39, 40, 41, 60, 61, 62, 77, 78, 79, 80, 81, 82, 83]) hσ (OrcOK.none _ _ _ _) (by decide +kernel)
theorem Rdp18 {σ : Nat → Value} (hσ : ∀ j, OneC (σ j)) {W0 : World} {H : Nat} : Seg0 Tryz.prog σ W0 H 2 (.code (inL (inB (seqL (seqR (seqR (seqR (seqR (bodyOf Tryz.prog 33))))))))) (mkA Rdl17) (mkW Rdh17) .normal (mkA Rdl18) (mkW Rdh18) :=
  seg0_ev (O := Orc.none) (n := 5000) (m := [0, 1, 2, 3, 4, 5, 6, 7, 8, 9, 10, 39, 40, 41, 60, 61, 62, 77, 78, 79, 80, 81, 82, 83]) hσ (OrcOK.none _ _ _ _) (by decide +kernel)
theorem Rdp19 {σ : Nat → Value} (hσ : ∀ j, OneC (σ j)) {W0 : World} {H : Nat} : Seg0 Tryz.prog σ W0 H 2 (.code (inL (inB (seqL (seqR (seqR (seqR (seqR (bodyOf Tryz.prog 33))))))))) (mkA Rdl18) (mkW Rdh18) .normal (mkA Rdl19) (mkW Rdh19) :=
  seg0_ev (O := Orc.none) (n := 5000) (m := [0, 1, 2, 3, 4, 5, 6, 7, 8, 9, 10, 39, 40, 41, 60, 61, 62, 77, 78, 79, 80, 81, 82, 83]) hσ (OrcOK.none _ _ _ _) (by decide +kernel)
end Go.Proofs.YtickhjoakbldpaaGreatDoor
