/- dustpan/dustpanlaw25.awake: pieces (printed by gen_run4.py). -/
import Derived.Test.YtlgbahkioimkfaaGreatDoorRgS
namespace Go.Proofs.YtlgbahkioimkfaaGreatDoor
open Go.RowKit
set_option linter.unusedVariables false
set_option maxRecDepth 100000
theorem Rgp5 {σ : Nat → Value} (hσ : ∀ j, OneC (σ j)) {W0 : World} {H : Nat} : Seg1 Tryz.prog σ W0 H 2 ([] : List Value).toArray (.code (inL (inB (seqL (seqR (seqR (seqR (seqR ((bodyOf Tryz.prog 25)))))))))) (mkA Rgl8) (mkW Rgh9) .normal ([] : List Value).toArray (mkA Rgl10) (mkW Rgh11) :=
  seg1_ev (O := Orc.none) (n := 5000) (m := [0, 1, 2, 3, 4, 5, 6, 7, 8, 9, 10, 11, 12, 13, 14, 15, 16, 27, 28, 29]) hσ (OrcOK.none _ _ _ _) (by decide +kernel)
theorem Rgp6 {σ : Nat → Value} (hσ : ∀ j, OneC (σ j)) {W0 : World} {H : Nat} : Seg1 Tryz.prog σ W0 H 2 ([] : List Value).toArray (.code (inL (inB (seqL (seqR (seqR (seqR (seqR ((bodyOf Tryz.prog 25)))))))))) (mkA Rgl10) (mkW Rgh11) .normal ([] : List Value).toArray (mkA Rgl12) (mkW Rgh13) :=
  seg1_ev (O := Orc.none) (n := 5000) (m := [0, 1, 2, 3, 4, 5, 6, 7, 8, 9, 10, 12, 30, 31, 32, 51, 52, 53, 68, 69, 70, 71, 72, 73, 74]) hσ (OrcOK.none _ _ _ _) (by decide +kernel)
theorem Rgp7 {σ : Nat → Value} (hσ : ∀ j, OneC (σ j)) {W0 : World} {H : Nat} : Seg1 Tryz.prog σ W0 H 2 ([] : List Value).toArray (.code (inL (inB (seqL (seqR (seqR (seqR (seqR ((bodyOf Tryz.prog 25)))))))))) (mkA Rgl12) (mkW Rgh13) .normal ([] : List Value).toArray (mkA Rgl14) (mkW Rgh15) :=
  seg1_ev (O := Orc.none) (n := 5000) (m := [0, 1, 2, 3, 4, 5, 6, 7, 8, 9, 10, 11, 40, 41, 42, 61, 62, 63, 78, 79, 80, 81, 82, 83, 84]) hσ (OrcOK.none _ _ _ _) (by decide +kernel)
theorem Rgp8 {σ : Nat → Value} (hσ : ∀ j, OneC (σ j)) {W0 : World} {H : Nat} : Seg1 Tryz.prog σ W0 H 2 ([] : List Value).toArray (.code (inL (inB (seqL (seqR (seqR (seqR (seqR ((bodyOf Tryz.prog 25)))))))))) (mkA Rgl14) (mkW Rgh15) .normal ([] : List Value).toArray (mkA Rgl16) (mkW Rgh17) :=
  seg1_ev (O := Orc.none) (n := 5000) (m := [0, 1, 2, 3, 4, 5, 6, 7, 8, 9, 10, 11, 40, 41, 42, 61, 62, 63, 78, 79, 80, 81, 82, 83, 84]) hσ (OrcOK.none _ _ _ _) (by decide +kernel)
theorem Rgp9 {σ : Nat → Value} (hσ : ∀ j, OneC (σ j)) {W0 : World} {H : Nat} : Seg1 Tryz.prog σ W0 H 2 ([] : List Value).toArray (.code (inL (inB (seqL (seqR (seqR (seqR (seqR ((bodyOf Tryz.prog 25)))))))))) (mkA Rgl16) (mkW Rgh17) .normal ([] : List Value).toArray (mkA Rgl18) (mkW Rgh19) :=
  seg1_ev (O := Orc.none) (n := 5000) (m := [0, 1, 2, 3, 4, 5, 6, 7, 8, 9, 10, 11, 40, 41, 42, 61, 62, 63, 78, 79, 80, 81, 82, 83, 84]) hσ (OrcOK.none _ _ _ _) (by decide +kernel)
end Go.Proofs.YtlgbahkioimkfaaGreatDoor
