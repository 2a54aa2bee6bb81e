/- dustpan/dustpanlaw23.awake: pieces (printed by gen_run.py). -/
import Derived.Test.YtickhjoakbldpaaGreatDoorRdS
namespace Go.Proofs.YtickhjoakbldpaaGreatDoor
open Go.RowKit
set_option linter.unusedVariables false
set_option maxRecDepth 100000
theorem Rdp0 {σ : Nat → Value} (hσ : ∀ j, OneC (σ j)) {W0 : World} {H : Nat} : Seg0 Tryz.prog σ W0 H 2 (.code (seqL (bodyOf Tryz.prog 33))) { tmps := #[] ++ Array.replicate (37 - 0) undef, defers := [] } (baseWorld 2 tabA) .normal (mkA Rdl0) (mkW Rdh0) :=
  seg0_ev (O := Orc.none) (n := 5000) (m := [0, 1]) hσ (OrcOK.none _ _ _ _) (by decide +kernel)
theorem Rdp1 {σ : Nat → Value} (hσ : ∀ j, OneC (σ j)) {W0 : World} {H : Nat} : Seg0 Tryz.prog σ W0 H 2 (.code (seqL (seqR (bodyOf Tryz.prog 33)))) (mkA Rdl0) (mkW Rdh0) .normal (mkA Rdl1) (mkW Rdh1) :=
  seg0_ev (O := Orc.none) (n := 5000) (m := [0, 1, 2]) hσ (OrcOK.none _ _ _ _) (by decide +kernel)
theorem Rdp2 {σ : Nat → Value} (hσ : ∀ j, OneC (σ j)) {W0 : World} {H : Nat} : Seg0 Tryz.prog σ W0 H 2 (.code (seqL (seqR (seqR (bodyOf Tryz.prog 33))))) (mkA Rdl1) (mkW Rdh1) .normal (mkA Rdl2) (mkW Rdh2) :=
  seg0_ev (O := Orc.none) (n := 5000) (m := [0, 1, 2, 14, 15, 16, 17, 21, 23, 24, 28, 29, 32, 33, 34, 35, 36, 37, 38, 39]) hσ (OrcOK.none _ _ _ _) (by decide +kernel)
theorem Rdp3 {σ : Nat → Value} (hσ : ∀ j, OneC (σ j)) {W0 : World} {H : Nat} : Seg0 Tryz.prog σ W0 H 2 (.code (seqL (seqR (seqR (seqR (bodyOf Tryz.prog 33)))))) (mkA Rdl2) (mkW Rdh2) .normal (mkA Rdl3) (mkW Rdh3) :=
  seg0_ev (O := Orc.none) (n := 5000) (m := [0, 1, 2, 3, 4, 5, 6, 7, 8, 9, 10, 11, 12, 13, 14, 15, 16, 17, 18, 19]) hσ (OrcOK.none _ _ _ _) (by decide +kernel)
end Go.Proofs.YtickhjoakbldpaaGreatDoor
