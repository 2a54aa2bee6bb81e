/- dustpan/dustpanlaw23.awake: pieces (printed by gen_run.py). -/
import Derived.Test.YtickhjoakbldpaaGreatDoorRdS
namespace Go.Proofs.YtickhjoakbldpaaGreatDoor
open Go.RowKit
set_option linter.unusedVariables false
set_option maxRecDepth 100000
theorem Rdp4 {σ : Nat → Value} (hσ : ∀ j, OneC (σ j)) {W0 : World} {H : Nat} : Seg0 Tryz.prog σ W0 H 2 (.code (inL (inB (seqL (seqR (seqR (seqR (seqR (bodyOf Tryz.prog 33))))))))) (mkA Rdl3) (mkW Rdh3) .normal (mkA Rdl4) (mkW Rdh4) :=
  seg0_ev (O := Orc.none) (n := 5000) (m := [0, 1, 2, 3, 4, 5, 6, 7, 8, 9, 10, 11, 12, 13, 17, 18, 19, 28, 29]) hσ (OrcOK.none _ _ _ _) (by decide +kernel)
theorem Rdp5 {σ : Nat → Value} (hσ : ∀ j, OneC (σ j)) {W0 : World} {H : Nat} : Seg0 Tryz.prog σ W0 H 2 (.code (inL (inB (seqL (seqR (seqR (seqR (seqR (bodyOf Tryz.prog 33))))))))) (mkA Rdl4) (mkW Rdh4) .normal (mkA Rdl5) (mkW Rdh5) :=
  seg0_ev (O := Orc.none) (n := 5000) (m := [0, 1, 2, 3, 4, 5, 6, 7, 8, 9, 10, 11, 12, 13, 14, 15, 16, 27, 28]) hσ (OrcOK.none _ _ _ _) (by decide +kernel)
theorem Rdp6 {σ : Nat → Value} (hσ : ∀ j, OneC (σ j)) {W0 : World} {H : Nat} : Seg0 Tryz.prog σ W0 H 2 (.code (inL (inB (seqL (seqR (seqR (seqR (seqR (bodyOf Tryz.prog 33))))))))) (mkA Rdl5) (mkW Rdh5) .normal (mkA Rdl6) (mkW Rdh6) :=
  seg0_ev (O := Orc.none) (n := 5000) (m := [0, 1, 2, 3, 4, 5, 6, 7, 8, 9, 10, 29, 30, 31, 32]) hσ (OrcOK.none _ _ _ _) (by decide +kernel)
theorem Rdp7 {σ : Nat → Value} (hσ : ∀ j, OneC (σ j)) {W0 : World} {H : Nat} : Seg0 Tryz.prog σ W0 H 2 (.code (inL (inB (seqL (seqR (seqR (seqR (seqR (bodyOf Tryz.prog 33))))))))) (mkA Rdl6) (mkW Rdh6) .normal (mkA Rdl7) (mkW Rdh7) :=
  seg0_ev (O := Orc.none) (n := 5000) (m := [0, 1, 2, 3, 4, 5, 6, 7, 8, 9, 10, 19, 20, 21, 26, 27, 28]) hσ (OrcOK.none _ _ _ _) (by decide +kernel)
end Go.Proofs.YtickhjoakbldpaaGreatDoor
