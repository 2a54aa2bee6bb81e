/- dustpan/dustpanlaw23.awake: pieces (printed by gen_run.py). -/
import Derived.Test.YtickhjoakbldpaaGreatDoorRdS
namespace Go.Proofs.YtickhjoakbldpaaGreatDoor
open Go.RowKit
set_option linter.unusedVariables false
set_option maxRecDepth 100000
theorem Rdp28 {σ : Nat → Value} (hσ : ∀ j, OneC (σ j)) {W0 : World} {H : Nat} : Seg0 Tryz.prog σ W0 H 2 (.code (inL (inB (seqL (seqR (seqR (seqR (seqR (bodyOf Tryz.prog 33))))))))) (mkA Rdl27) (mkW Rdh27) .normal (mkA Rdl28) (mkW Rdh28) :=
  seg0_ev (O := Orc.none) (n := 5000) (m := [0, 1, 2, 3, 4, 5, 6, 7, 8, 9, 10, 39, 40, 41, 60, 61, 62, 77, 78, 79, 80, 81, 82, 83]) hσ (OrcOK.none _ _ _ _) (by decide +kernel)
theorem Rdp29 {σ : Nat → Value} (hσ : ∀ j, OneC (σ j)) {W0 : World} {H : Nat} : Seg0 Tryz.prog σ W0 H 2 (.code (inL (inB (seqL (seqR (seqR (seqR (seqR (bodyOf Tryz.prog 33))))))))) (mkA Rdl28) (mkW Rdh28) .normal (mkA Rdl29) (mkW Rdh29) :=
  seg0_ev (O := Orc.none) (n := 5000) (m := [0, 1, 2, 3, 4, 5, 6, 7, 8, 9, 10, 39, 40, 41, 60, 61, 62, 77, 78, 79, 80, 81, 82, 83]) hσ (OrcOK.none _ _ _ _) (by decide +kernel)
theorem Rdp30 {σ : Nat → Value} (hσ : ∀ j, OneC (σ j)) {W0 : World} {H : Nat} : Seg0 Tryz.prog σ W0 H 2 (.code (inL (inB (seqL (seqR (seqR (seqR (seqR (bodyOf Tryz.prog 33))))))))) (mkA Rdl29) (mkW Rdh29) .normal (mkA Rdl30) (mkW Rdh30) :=
  seg0_ev (O := Orc.none) (n := 5000) (m := [0, 1, 2, 3, 4, 5, 6, 7, 8, 9, 10, 39, 40, 41, 60, 61, 62, 77, 78, 79, 80, 81, 82, 83]) hσ (OrcOK.none _ _ _ _) (by decide +kernel)
theorem Rdp31 {σ : Nat → Value} (hσ : ∀ j, OneC (σ j)) {W0 : World} {H : Nat} : Seg0 Tryz.prog σ W0 H 2 (.code (inL (inB (seqL (seqR (seqR (seqR (seqR (bodyOf Tryz.prog 33))))))))) (mkA Rdl30) (mkW Rdh30) .normal (mkA Rdl31) (mkW Rdh31) :=
  seg0_ev (O := Orc.none) (n := 5000) (m := [0, 1, 2, 3, 4, 5, 6, 7, 8, 9, 10, 39, 40, 41, 60, 61, 62, 77, 78, 79, 80, 81, 82, 83]) hσ (OrcOK.none _ _ _ _) (by decide +kernel)
end Go.Proofs.YtickhjoakbldpaaGreatDoor
