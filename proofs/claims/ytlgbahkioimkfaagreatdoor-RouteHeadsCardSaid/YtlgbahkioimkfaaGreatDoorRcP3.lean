/- dustpan/dustpanlaw18.awake: pieces (printed by gen_run4.py). -/
import Derived.Test.YtlgbahkioimkfaaGreatDoorRcS
namespace Go.Proofs.YtlgbahkioimkfaaGreatDoor
open Go.RowKit
set_option linter.unusedVariables false
set_option maxRecDepth 100000
theorem Rcp18 {σ : Nat → Value} (hσ : ∀ j, OneC (σ j)) {W0 : World} {H : Nat} : Seg1 Tryz.prog σ W0 H 2 Rcr48.toArray (.code (seqL (seqL (seqR (seqR (seqR (seqR (seqR (seqR (seqR (seqR ((bodyOf Tryz.prog 39))))))))))))) (mkA Rcl46) (mkW Rch47) .normal Rcr51.toArray (mkA Rcl49) (mkW Rch50) :=
  seg1_ev (O := Orc.none) (n := 5000) (m := [0, 1, 2, 3, 4, 5, 6, 7, 8, 9, 10, 11, 12, 13, 14, 15, 16, 17]) hσ (OrcOK.none _ _ _ _) (by decide +kernel)
theorem Rcp19 {σ : Nat → Value} (hσ : ∀ j, OneC (σ j)) {W0 : World} {H : Nat} : Seg1 Tryz.prog σ W0 H 2 Rcr51.toArray (.code (inL (inB (seqR (seqL (seqR (seqR (seqR (seqR (seqR (seqR (seqR (seqR ((bodyOf Tryz.prog 39))))))))))))))) (mkA Rcl49) (mkW Rch50) .normal Rcr54.toArray (mkA Rcl52) (mkW Rch53) :=
  seg1_ev (O := Orc.none) (n := 5000) (m := [0, 1, 2, 3, 4, 5, 6, 7, 8, 9, 10, 11, 12, 13, 14, 15, 16, 17]) hσ (OrcOK.none _ _ _ _) (by decide +kernel)
theorem Rcp20 {σ : Nat → Value} (hσ : ∀ j, OneC (σ j)) {W0 : World} {H : Nat} : Seg1 Tryz.prog σ W0 H 2 Rcr54.toArray (.code (inL (inB (seqR (seqL (seqR (seqR (seqR (seqR (seqR (seqR (seqR (seqR ((bodyOf Tryz.prog 39))))))))))))))) (mkA Rcl52) (mkW Rch53) .normal Rcr57.toArray (mkA Rcl55) (mkW Rch56) :=
  seg1_ev (O := Orc.none) (n := 5000) (m := [0, 1, 2, 3, 4, 5, 6, 7, 8, 9, 10, 11, 12, 13, 14, 15, 16, 17]) hσ (OrcOK.none _ _ _ _) (by decide +kernel)
theorem Rcp21 {σ : Nat → Value} (hσ : ∀ j, OneC (σ j)) {W0 : World} {H : Nat} : Seg1 Tryz.prog σ W0 H 2 Rcr57.toArray (.code (inL (inB (seqR (seqL (seqR (seqR (seqR (seqR (seqR (seqR (seqR (seqR ((bodyOf Tryz.prog 39))))))))))))))) (mkA Rcl55) (mkW Rch56) (.exit 2) Rcr60.toArray (mkA Rcl58) (mkW Rch59) :=
  seg1_ev (O := Orc.none) (n := 5000) (m := [0, 1, 2, 3, 4, 5, 6, 7, 8, 9, 10, 11, 12, 13, 14, 15, 16, 17]) hσ (OrcOK.none _ _ _ _) (by decide +kernel)
theorem Rcp22 {σ : Nat → Value} (hσ : ∀ j, OneC (σ j)) {W0 : World} {H : Nat} : Seg1 Tryz.prog σ W0 H 2 Rcr60.toArray (.code (seqL (seqR (seqR (seqR (seqR (seqR (seqR (seqR (seqR (seqR ((bodyOf Tryz.prog 39))))))))))))) (mkA Rcl58) (mkW Rch59) .normal Rcr63.toArray (mkA Rcl61) (mkW Rch62) :=
  seg1_ev (O := Orc.none) (n := 5000) (m := [0, 1, 2, 3, 4, 5, 6, 7, 8, 9, 10, 11, 12, 13, 14, 15, 16, 17]) hσ (OrcOK.none _ _ _ _) (by decide +kernel)
theorem Rcp23 {σ : Nat → Value} (hσ : ∀ j, OneC (σ j)) {W0 : World} {H : Nat} : Seg1 Tryz.prog σ W0 H 2 Rcr63.toArray (.code (seqL (seqR (seqR (seqR (seqR (seqR (seqR (seqR (seqR (seqR (seqR ((bodyOf Tryz.prog 39)))))))))))))) (mkA Rcl61) (mkW Rch62) .normal Rcr66.toArray (mkA Rcl64) (mkW Rch65) :=
  seg1_ev (O := Orc.none) (n := 5000) (m := [0, 1, 2, 3, 4, 5, 6, 7, 8, 9, 10, 11, 12, 13, 14, 15, 16, 17]) hσ (OrcOK.none _ _ _ _) (by decide +kernel)
end Go.Proofs.YtlgbahkioimkfaaGreatDoor
