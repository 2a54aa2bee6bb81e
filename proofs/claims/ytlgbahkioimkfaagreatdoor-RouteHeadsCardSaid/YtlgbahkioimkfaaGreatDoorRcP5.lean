/- dustpan/dustpanlaw18.awake: pieces (printed by gen_run4.py). -/
import Derived.Test.YtlgbahkioimkfaaGreatDoorRcS
namespace Go.Proofs.YtlgbahkioimkfaaGreatDoor
open Go.RowKit
set_option linter.unusedVariables false
set_option maxRecDepth 100000
theorem Rcp30 {σ : Nat → Value} (hσ : ∀ j, OneC (σ j)) {W0 : World} {H : Nat} : Seg1 Tryz.prog σ W0 H 2 ([] : List Value).toArray (.code (inL (inB (seqL (seqR (seqR (seqR (seqR (seqR (seqR (seqR ((bodyOf Tryz.prog 12))))))))))))) (mkA Rcl81) (mkW Rch82) .normal ([] : List Value).toArray (mkA Rcl83) (mkW Rch84) :=
  seg1_ev (O := Orc.none) (n := 5000) (m := [0, 1, 2, 3, 4, 5, 6, 7, 8, 9, 10, 11, 12, 13, 14, 15, 16, 19, 20, 27, 32, 33]) hσ (OrcOK.none _ _ _ _) (by decide +kernel)
theorem Rcp31 {σ : Nat → Value} (hσ : ∀ j, OneC (σ j)) {W0 : World} {H : Nat} : Seg1 Tryz.prog σ W0 H 2 ([] : List Value).toArray (.code (inL (inB (seqL (seqR (seqR (seqR (seqR (seqR (seqR (seqR ((bodyOf Tryz.prog 12))))))))))))) (mkA Rcl83) (mkW Rch84) .normal ([] : List Value).toArray (mkA Rcl85) (mkW Rch86) :=
  seg1_ev (O := Orc.none) (n := 5000) (m := [0, 1, 2, 3, 4, 5, 6, 7, 8, 9, 10, 11, 12, 13, 14, 15, 16, 17, 26, 27, 33, 38, 39, 40]) hσ (OrcOK.none _ _ _ _) (by decide +kernel)
theorem Rcp32 {σ : Nat → Value} (hσ : ∀ j, OneC (σ j)) {W0 : World} {H : Nat} : Seg1 Tryz.prog σ W0 H 2 ([] : List Value).toArray (.code (inL (inB (seqL (seqR (seqR (seqR (seqR (seqR (seqR (seqR ((bodyOf Tryz.prog 12))))))))))))) (mkA Rcl85) (mkW Rch86) .normal ([] : List Value).toArray (mkA Rcl87) (mkW Rch88) :=
  seg1_ev (O := Orc.none) (n := 5000) (m := [0, 1, 2, 3, 4, 5, 6, 7, 8, 9, 10, 11, 12, 13, 14, 15, 16, 17, 46, 47, 48, 49, 50]) hσ (OrcOK.none _ _ _ _) (by decide +kernel)
theorem Rcp33 {σ : Nat → Value} (hσ : ∀ j, OneC (σ j)) {W0 : World} {H : Nat} : Seg1 Tryz.prog σ W0 H 2 ([] : List Value).toArray (.code (inL (inB (seqL (seqR (seqR (seqR (seqR (seqR (seqR (seqR ((bodyOf Tryz.prog 12))))))))))))) (mkA Rcl87) (mkW Rch88) .normal ([] : List Value).toArray (mkA Rcl89) (mkW Rch90) :=
  seg1_ev (O := Orc.none) (n := 5000) (m := [0, 1, 2, 3, 4, 5, 6, 7, 8, 9, 10, 11, 12, 13, 14, 15, 16, 17, 18, 21, 22, 31, 32, 37, 38, 39]) hσ (OrcOK.none _ _ _ _) (by decide +kernel)
theorem Rcp34 {σ : Nat → Value} (hσ : ∀ j, OneC (σ j)) {W0 : World} {H : Nat} : Seg1 Tryz.prog σ W0 H 2 ([] : List Value).toArray (.code (inL (inB (seqL (seqR (seqR (seqR (seqR (seqR (seqR (seqR ((bodyOf Tryz.prog 12))))))))))))) (mkA Rcl89) (mkW Rch90) .normal ([] : List Value).toArray (mkA Rcl91) (mkW Rch92) :=
  seg1_ev (O := Orc.none) (n := 5000) (m := [0, 1, 2, 3, 4, 5, 6, 7, 8, 9, 10, 11, 12, 13, 14, 15, 16, 17, 18, 19, 20, 21, 34, 35, 36, 37]) hσ (OrcOK.none _ _ _ _) (by decide +kernel)
theorem Rcp35 {σ : Nat → Value} (hσ : ∀ j, OneC (σ j)) {W0 : World} {H : Nat} : Seg1 Tryz.prog σ W0 H 2 ([] : List Value).toArray (.code (inL (inB (seqL (seqR (seqR (seqR (seqR (seqR (seqR (seqR ((bodyOf Tryz.prog 12))))))))))))) (mkA Rcl91) (mkW Rch92) .normal ([] : List Value).toArray (mkA Rcl93) (mkW Rch94) :=
  seg1_ev (O := Orc.none) (n := 5000) (m := [0, 1, 2, 3, 4, 5, 6, 7, 8, 9, 10, 11, 12, 13, 14, 15, 16, 17]) hσ (OrcOK.none _ _ _ _) (by decide +kernel)
end Go.Proofs.YtlgbahkioimkfaaGreatDoor
