/- dustpan/dustpanlaw25.awake: pieces (printed by gen_run4.py). -/
import Derived.Test.YtlgbahkioimkfaaGreatDoorRgS
namespace Go.Proofs.YtlgbahkioimkfaaGreatDoor
open Go.RowKit
set_option linter.unusedVariables false
set_option maxRecDepth 100000
theorem Rgp25 {σ : Nat → Value} (hσ : ∀ j, OneC (σ j)) {W0 : World} {H : Nat} : Seg1 Tryz.prog σ W0 H 2 ([] : List Value).toArray (.code (inL (inB (seqL (seqR (seqR (seqR (seqR ((bodyOf Tryz.prog 25)))))))))) (mkA Rgl48) (mkW Rgh49) .normal ([] : List Value).toArray (mkA Rgl50) (mkW Rgh51) :=
  seg1_ev (O := Orc.none) (n := 5000) (m := [0, 1, 2, 3, 4, 5, 6, 7, 8, 9, 10, 11, 40, 41, 42, 61, 62, 63, 78, 79, 80, 81, 82, 83, 84]) hσ (OrcOK.none _ _ _ _) (by decide +kernel)
theorem Rgp26 {σ : Nat → Value} (hσ : ∀ j, OneC (σ j)) {W0 : World} {H : Nat} : Seg1 Tryz.prog σ W0 H 2 ([] : List Value).toArray (.code (inL (inB (seqL (seqR (seqR (seqR (seqR ((bodyOf Tryz.prog 25)))))))))) (mkA Rgl50) (mkW Rgh51) .normal ([] : List Value).toArray (mkA Rgl52) (mkW Rgh53) :=
  seg1_ev (O := Orc.none) (n := 5000) (m := [0, 1, 2, 3, 4, 5, 6, 7, 8, 9, 10, 11, 40, 41, 42, 61, 62, 63, 78, 79, 80, 81, 82, 83, 84]) hσ (OrcOK.none _ _ _ _) (by decide +kernel)
theorem Rgp27 {σ : Nat → Value} (hσ : ∀ j, OneC (σ j)) {W0 : World} {H : Nat} : Seg1 Tryz.prog σ W0 H 2 ([] : List Value).toArray (.code (inL (inB (seqL (seqR (seqR (seqR (seqR ((bodyOf Tryz.prog 25)))))))))) (mkA Rgl52) (mkW Rgh53) .normal ([] : List Value).toArray (mkA Rgl54) (mkW Rgh55) :=
  seg1_ev (O := Orc.none) (n := 5000) (m := [0, 1, 2, 3, 4, 5, 6, 7, 8, 9, 10, 11, 40, 41, 42, 61, 62, 63, 78, 79, 80, 81, 82, 83, 84]) hσ (OrcOK.none _ _ _ _) (by decide +kernel)
theorem Rgp28 {σ : Nat → Value} (hσ : ∀ j, OneC (σ j)) {W0 : World} {H : Nat} : Seg1 Tryz.prog σ W0 H 2 ([] : List Value).toArray (.code (inL (inB (seqL (seqR (seqR (seqR (seqR ((bodyOf Tryz.prog 25)))))))))) (mkA Rgl54) (mkW Rgh55) .normal ([] : List Value).toArray (mkA Rgl56) (mkW Rgh57) :=
  seg1_ev (O := Orc.none) (n := 5000) (m := [0, 1, 2, 3, 4, 5, 6, 7, 8, 9, 10, 11, 40, 41, 42, 61, 62, 63, 78, 79, 80, 81, 82, 83, 84]) hσ (OrcOK.none _ _ _ _) (by decide +kernel)
theorem Rgp29 {σ : Nat → Value} (hσ : ∀ j, OneC (σ j)) {W0 : World} {H : Nat} : Seg1 Tryz.prog σ W0 H 2 ([] : List Value).toArray (.code (inL (inB (seqL (seqR (seqR (seqR (seqR ((bodyOf Tryz.prog 25)))))))))) (mkA Rgl56) (mkW Rgh57) .normal ([] : List Value).toArray (mkA Rgl58) (mkW Rgh59) :=
  seg1_ev (O := Orc.none) (n := 5000) (m := [0, 1, 2, 3, 4, 5, 6, 7, 8, 9, 10, 11, 40, 41, 42, 61, 62, 63, 78, 79, 80, 81, 82, 83, 84]) hσ (OrcOK.none _ _ _ _) (by decide +kernel)
end Go.Proofs.YtlgbahkioimkfaaGreatDoor
