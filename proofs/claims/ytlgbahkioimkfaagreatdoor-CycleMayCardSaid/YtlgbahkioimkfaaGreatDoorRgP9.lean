/- dustpan/dustpanlaw25.awake: pieces (printed by gen_run4.py). -/
import Derived.Test.YtlgbahkioimkfaaGreatDoorRgS
namespace Go.Proofs.YtlgbahkioimkfaaGreatDoor
open Go.RowKit
set_option linter.unusedVariables false
set_option maxRecDepth 100000
theorem Rgp45 {σ : Nat → Value} (hσ : ∀ j, OneC (σ j)) {W0 : World} {H : Nat} : Seg1 Tryz.prog σ W0 H 2 ([] : List Value).toArray (.code (inL (inB (seqL (seqR (seqR (seqR (seqR ((bodyOf Tryz.prog 25)))))))))) (mkA Rgl88) (mkW Rgh89) .normal ([] : List Value).toArray (mkA Rgl90) (mkW Rgh91) :=
  seg1_ev (O := Orc.none) (n := 5000) (m := [0, 1, 2, 3, 4, 5, 6, 7, 8, 9, 10, 11, 22, 23, 24, 27, 28]) hσ (OrcOK.none _ _ _ _) (by decide +kernel)
theorem Rgp46 {σ : Nat → Value} (hσ : ∀ j, OneC (σ j)) {W0 : World} {H : Nat} : Seg1 Tryz.prog σ W0 H 2 ([] : List Value).toArray (.code (inL (inB (seqL (seqR (seqR (seqR (seqR ((bodyOf Tryz.prog 25)))))))))) (mkA Rgl90) (mkW Rgh91) .normal ([] : List Value).toArray (mkA Rgl92) (mkW Rgh93) :=
  seg1_ev (O := Orc.none) (n := 5000) (m := [0, 1, 2, 3, 4, 5, 6, 7, 8, 9, 10, 11, 22, 23, 24, 27, 28]) hσ (OrcOK.none _ _ _ _) (by decide +kernel)
theorem Rgp47 {σ : Nat → Value} (hσ : ∀ j, OneC (σ j)) {W0 : World} {H : Nat} : Seg1 Tryz.prog σ W0 H 2 ([] : List Value).toArray (.code (inL (inB (seqL (seqR (seqR (seqR (seqR ((bodyOf Tryz.prog 25)))))))))) (mkA Rgl92) (mkW Rgh93) .normal ([] : List Value).toArray (mkA Rgl94) (mkW Rgh95) :=
  seg1_ev (O := Orc.none) (n := 5000) (m := [0, 1, 2, 3, 4, 5, 6, 7, 8, 9, 10, 11, 22, 23, 24, 27, 28]) hσ (OrcOK.none _ _ _ _) (by decide +kernel)
theorem Rgp48 {σ : Nat → Value} (hσ : ∀ j, OneC (σ j)) {W0 : World} {H : Nat} : Seg1 Tryz.prog σ W0 H 2 ([] : List Value).toArray (.code (inL (inB (seqL (seqR (seqR (seqR (seqR ((bodyOf Tryz.prog 25)))))))))) (mkA Rgl94) (mkW Rgh95) .normal ([] : List Value).toArray (mkA Rgl96) (mkW Rgh97) :=
  seg1_ev (O := Orc.none) (n := 5000) (m := [0, 1, 2, 3, 4, 5, 6, 7, 8, 9, 10, 11, 22, 23, 24, 27, 28]) hσ (OrcOK.none _ _ _ _) (by decide +kernel)
theorem Rgp49 {σ : Nat → Value} (hσ : ∀ j, OneC (σ j)) {W0 : World} {H : Nat} : Seg1 Tryz.prog σ W0 H 2 ([] : List Value).toArray (.code (inL (inB (seqL (seqR (seqR (seqR (seqR ((bodyOf Tryz.prog 25)))))))))) (mkA Rgl96) (mkW Rgh97) .normal ([] : List Value).toArray (mkA Rgl98) (mkW Rgh99) :=
  seg1_ev (O := Orc.none) (n := 5000) (m := [0, 1, 2, 3, 4, 5, 6, 7, 8, 9, 10, 11, 22, 23, 24, 27, 28]) hσ (OrcOK.none _ _ _ _) (by decide +kernel)
end Go.Proofs.YtlgbahkioimkfaaGreatDoor
