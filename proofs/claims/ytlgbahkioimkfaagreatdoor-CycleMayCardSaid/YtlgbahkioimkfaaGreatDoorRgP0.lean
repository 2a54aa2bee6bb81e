/- dustpan/dustpanlaw25.awake: pieces (printed by gen_run4.py). -/
import Derived.Test.YtlgbahkioimkfaaGreatDoorRgS
namespace Go.Proofs.YtlgbahkioimkfaaGreatDoor
open Go.RowKit
set_option linter.unusedVariables false
set_option maxRecDepth 100000
theorem Rgp0 {σ : Nat → Value} (hσ : ∀ j, OneC (σ j)) {W0 : World} {H : Nat} : Seg1 Tryz.prog σ W0 H 2 ([] : List Value).toArray (.code (seqL ((bodyOf Tryz.prog 25)))) { tmps := #[] ++ Array.replicate (53 - 0) undef, defers := [] } (baseWorld 2 tabA) .normal ([] : List Value).toArray (mkA Rgl0) (mkW Rgh1) :=
  seg1_ev (O := Orc.none) (n := 5000) (m := [0, 1]) hσ (OrcOK.none _ _ _ _) (by decide +kernel)
theorem Rgp1 {σ : Nat → Value} (hσ : ∀ j, OneC (σ j)) {W0 : World} {H : Nat} : Seg1 Tryz.prog σ W0 H 2 ([] : List Value).toArray (.code (seqL (seqR ((bodyOf Tryz.prog 25))))) (mkA Rgl0) (mkW Rgh1) .normal ([] : List Value).toArray (mkA Rgl2) (mkW Rgh3) :=
  seg1_ev (O := Orc.none) (n := 5000) (m := [0, 1, 2]) hσ (OrcOK.none _ _ _ _) (by decide +kernel)
theorem Rgp2 {σ : Nat → Value} (hσ : ∀ j, OneC (σ j)) {W0 : World} {H : Nat} : Seg1 Tryz.prog σ W0 H 2 ([] : List Value).toArray (.code (seqL (seqR (seqR ((bodyOf Tryz.prog 25)))))) (mkA Rgl2) (mkW Rgh3) .normal ([] : List Value).toArray (mkA Rgl4) (mkW Rgh5) :=
  seg1_ev (O := Orc.none) (n := 5000) (m := [0, 1, 2, 14, 15, 16, 17, 21, 23, 24, 28, 29, 30, 34, 35, 36, 37, 38, 39, 40, 41, 42]) hσ (OrcOK.none _ _ _ _) (by decide +kernel)
theorem Rgp3 {σ : Nat → Value} (hσ : ∀ j, OneC (σ j)) {W0 : World} {H : Nat} : Seg1 Tryz.prog σ W0 H 2 ([] : List Value).toArray (.code (seqL (seqR (seqR (seqR ((bodyOf Tryz.prog 25))))))) (mkA Rgl4) (mkW Rgh5) .normal ([] : List Value).toArray (mkA Rgl6) (mkW Rgh7) :=
  seg1_ev (O := Orc.none) (n := 5000) (m := [0, 1, 2, 3, 4, 5, 6, 7, 8, 9, 10, 11, 12, 13, 14, 15, 16, 17, 18, 19, 20, 21]) hσ (OrcOK.none _ _ _ _) (by decide +kernel)
theorem Rgp4 {σ : Nat → Value} (hσ : ∀ j, OneC (σ j)) {W0 : World} {H : Nat} : Seg1 Tryz.prog σ W0 H 2 ([] : List Value).toArray (.code (inL (inB (seqL (seqR (seqR (seqR (seqR ((bodyOf Tryz.prog 25)))))))))) (mkA Rgl6) (mkW Rgh7) .normal ([] : List Value).toArray (mkA Rgl8) (mkW Rgh9) :=
  seg1_ev (O := Orc.none) (n := 5000) (m := [0, 1, 2, 3, 4, 5, 6, 7, 8, 9, 10, 11, 12, 13, 19, 20, 21, 30, 31]) hσ (OrcOK.none _ _ _ _) (by decide +kernel)
end Go.Proofs.YtlgbahkioimkfaaGreatDoor
