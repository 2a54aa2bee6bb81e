/- dustpan/dustpanlaw19.awake: pieces (printed by gen_run4.py). -/
import Derived.Test.YtlgbahkioimkfaaGreatDoorReS
namespace Go.Proofs.YtlgbahkioimkfaaGreatDoor
open Go.RowKit
set_option linter.unusedVariables false
set_option maxRecDepth 100000
theorem Rep12 {σ : Nat → Value} (hσ : ∀ j, OneC (σ j)) {W0 : World} {H : Nat} : Seg1 Tryz.prog σ W0 H 2 ([] : List Value).toArray (.code (inL (inB (seqL (seqR (seqR (seqR (seqR (seqR (seqR ((bodyOf Tryz.prog 30)))))))))))) (mkA Rel22) (mkW Reh23) .normal ([] : List Value).toArray (mkA Rel24) (mkW Reh25) :=
  seg1_ev (O := Orc.none) (n := 5000) (m := [0, 1, 2, 3, 4, 5, 6, 8, 9, 10, 11, 12, 13, 14, 15, 16, 17, 18, 19, 20, 21, 22, 23, 24, 25, 26, 50, 57, 58, 59, 60, 61, 78, 79, 80]) hσ (OrcOK.none _ _ _ _) (by decide +kernel)
theorem Rep13 {σ : Nat → Value} (hσ : ∀ j, OneC (σ j)) {W0 : World} {H : Nat} : Seg1 Tryz.prog σ W0 H 2 ([] : List Value).toArray (.code (inL (inB (seqL (seqR (seqR (seqR (seqR (seqR (seqR ((bodyOf Tryz.prog 30)))))))))))) (mkA Rel24) (mkW Reh25) .normal ([] : List Value).toArray (mkA Rel26) (mkW Reh27) :=
  seg1_ev (O := Orc.none) (n := 5000) (m := [0, 1, 2, 3, 4, 5, 6, 7, 8, 9, 10, 11, 12, 13, 14, 15, 16, 17, 18, 19, 20, 21, 22, 23, 24, 25, 26, 27, 28, 29, 30, 31, 43, 44]) hσ (OrcOK.none _ _ _ _) (by decide +kernel)
theorem Rep14 {σ : Nat → Value} (hσ : ∀ j, OneC (σ j)) {W0 : World} {H : Nat} : Seg1 Tryz.prog σ W0 H 2 ([] : List Value).toArray (.code (inL (inB (seqL (seqR (seqR (seqR (seqR (seqR (seqR ((bodyOf Tryz.prog 30)))))))))))) (mkA Rel26) (mkW Reh27) .normal ([] : List Value).toArray (mkA Rel28) (mkW Reh29) :=
  seg1_ev (O := Orc.none) (n := 5000) (m := [0, 1, 2, 3, 4, 5, 6, 7, 8, 9, 10, 11, 12, 13, 14, 15, 16, 17, 18, 19, 20, 21, 22, 23, 24, 25, 26, 27, 44, 45, 48, 49, 50, 51, 52, 53]) hσ (OrcOK.none _ _ _ _) (by decide +kernel)
theorem Rep15 {σ : Nat → Value} (hσ : ∀ j, OneC (σ j)) {W0 : World} {H : Nat} : Seg1 Tryz.prog σ W0 H 2 ([] : List Value).toArray (.code (inL (inB (seqL (seqR (seqR (seqR (seqR (seqR (seqR ((bodyOf Tryz.prog 30)))))))))))) (mkA Rel28) (mkW Reh29) .normal ([] : List Value).toArray (mkA Rel30) (mkW Reh31) :=
  seg1_ev (O := Orc.none) (n := 5000) (m := [0, 1, 2, 3, 4, 5, 6, 7, 8, 9, 10, 11, 12, 13, 14, 15, 16, 17, 18, 19, 26, 51, 55, 56, 57, 63, 64, 65, 66, 67]) hσ (OrcOK.none _ _ _ _) (by decide +kernel)
end Go.Proofs.YtlgbahkioimkfaaGreatDoor
