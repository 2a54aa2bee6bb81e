/- dustpan/dustpanlaw25.awake: pieces (printed by gen_run4.py). -/
import Derived.Test.YtlgbahkioimkfaaGreatDoorRgS
namespace Go.Proofs.YtlgbahkioimkfaaGreatDoor
open Go.RowKit
set_option linter.unusedVariables false
set_option maxRecDepth 100000
theorem Rgp20 {σ : Nat → Value} (hσ : ∀ j, OneC (σ j)) {W0 : World} {H : Nat} : Seg1 Tryz.prog σ W0 H 2 ([] : List Value).toArray (.code (inL (inB (seqL (seqR (seqR (seqR (seqR ((bodyOf Tryz.prog 25)))))))))) (mkA Rgl38) (mkW Rgh39) .normal ([] : List Value).toArray (mkA Rgl40) (mkW Rgh41) :=
  seg1_ev (O := Orc.none) (n := 5000) (m := [0, 1, 2, 3, 4, 5, 6, 7, 8, 9, 10, 11, 40, 41, 42, 61, 62, 63, 78, 79, 80, 81, 82, 83, 84]) hσ (OrcOK.none _ _ _ _) (by decide +kernel)
theorem Rgp21 {σ : Nat → Value} (hσ : ∀ j, OneC (σ j)) {W0 : World} {H : Nat} : Seg1 Tryz.prog σ W0 H 2 ([] : List Value).toArray (.code (inL (inB (seqL (seqR (seqR (seqR (seqR ((bodyOf Tryz.prog 25)))))))))) (mkA Rgl40) (mkW Rgh41) .normal ([] : List Value).toArray (mkA Rgl42) (mkW Rgh43) :=
  seg1_ev (O := Orc.none) (n := 5000) (m := [0, 1, 2, 3, 4, 5, 6, 7, 8, 9, 10, 11, 40, 41, 42, 61, 62, 63, 78, 79, 80, 81, 82, 83, 84]) hσ (OrcOK.none _ _ _ _) (by decide +kernel)
theorem Rgp22 {σ : Nat → Value} (hσ : ∀ j, OneC (σ j)) {W0 : World} {H : Nat} : Seg1 Tryz.prog σ W0 H 2 ([] : List Value).toArray (.code (inL (inB (seqL (seqR (seqR (seqR (seqR ((bodyOf Tryz.prog 25)))))))))) (mkA Rgl42) (mkW Rgh43) .normal ([] : List Value).toArray (mkA Rgl44) (mkW Rgh45) :=
  seg1_ev (O := Orc.none) (n := 5000) (m := [0, 1, 2, 3, 4, 5, 6, 7, 8, 9, 10, 11, 40, 41, 42, 61, 62, 63, 78, 79, 80, 81, 82, 83, 84]) hσ (OrcOK.none _ _ _ _) (by decide +kernel)
theorem Rgp23 {σ : Nat → Value} (hσ : ∀ j, OneC (σ j)) {W0 : World} {H : Nat} : Seg1 Tryz.prog σ W0 H 2 ([] : List Value).toArray (.code (inL (inB (seqL (seqR (seqR (seqR (seqR ((bodyOf Tryz.prog 25)))))))))) (mkA Rgl44) (mkW Rgh45) .normal ([] : List Value).toArray (mkA Rgl46) (mkW Rgh47) :=
  seg1_ev (O := Orc.none) (n := 5000) (m := [0, 1, 2, 3, 4, 5, 6, 7, 8, 9, 10, 11, 40, 41, 42, 61, 62, 63, 78, 79, 80, 81, 82, 83, 84]) hσ (OrcOK.none _ _ _ _) (by decide +kernel)
theorem Rgp24 {σ : Nat → Value} (hσ : ∀ j, OneC (σ j)) {W0 : World} {H : Nat} : Seg1 Tryz.prog σ W0 H 2 ([] : List Value).toArray (.code (inL (inB (seqL (seqR (seqR (seqR (seqR ((bodyOf Tryz.prog 25)))))))))) (mkA Rgl46) (mkW Rgh47) .normal ([] : List Value).toArray (mkA Rgl48) (mkW Rgh49) :=
  seg1_ev (O := Orc.none) (n := 5000) (m := [0, 1, 2, 3, 4, 5, 6, 7, 8, 9, 10, 11, 40, 41, 42, 61, 62, 63, 78, 79, 80, 81, 82, 83, 84]) hσ (OrcOK.none _ _ _ _) (by decide +kernel)
end Go.Proofs.YtlgbahkioimkfaaGreatDoor
