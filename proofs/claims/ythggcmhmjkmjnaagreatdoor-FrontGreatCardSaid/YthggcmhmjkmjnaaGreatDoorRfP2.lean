/- dustpan/dustpanlaw21.awake: pieces (printed by gen_run4.py). -/
import Derived.Test.YthggcmhmjkmjnaaGreatDoorRfS
namespace Go.Proofs.YthggcmhmjkmjnaaGreatDoor
open Go.RowKit
set_option linter.unusedVariables false
set_option maxRecDepth 100000
theorem Rfp16 {σ : Nat → Value} (hσ : ∀ j, OneC (σ j)) {W0 : World} {H : Nat} : Seg1 Tryz.prog σ W0 H 2 Rfr42.toArray (.code (inL (inB (seqL (seqR (seqR (seqR ((bodyOf Tryz.prog 10))))))))) (mkA Rfl40) (mkW Rfh41) .normal Rfr45.toArray (mkA Rfl43) (mkW Rfh44) :=
  seg1_ev (O := Orc.none) (n := 5000) (m := [0, 1, 2, 3, 4, 5, 6, 7, 8, 9, 10, 11, 12, 13, 14, 15, 16, 49, 50, 52, 66, 105, 107, 108, 112, 113, 114, 115, 116, 117, 118, 119, 120, 121]) hσ (OrcOK.none _ _ _ _) (by decide +kernel)
theorem Rfp17 {σ : Nat → Value} (hσ : ∀ j, OneC (σ j)) {W0 : World} {H : Nat} : Seg1 Tryz.prog σ W0 H 2 Rfr45.toArray (.code (inL (inB (seqL (seqR (seqR (seqR ((bodyOf Tryz.prog 10))))))))) (mkA Rfl43) (mkW Rfh44) .normal Rfr48.toArray (mkA Rfl46) (mkW Rfh47) :=
  seg1_ev (O := Orc.none) (n := 5000) (m := [0, 1, 2, 3, 4, 5, 6, 7, 8, 9, 10, 11, 12, 13, 14, 15, 16, 17, 18, 19, 22, 23, 32, 33, 52, 53, 54]) hσ (OrcOK.none _ _ _ _) (by decide +kernel)
theorem Rfp18 {σ : Nat → Value} (hσ : ∀ j, OneC (σ j)) {W0 : World} {H : Nat} : Seg1 Tryz.prog σ W0 H 2 Rfr48.toArray (.code (inL (inB (seqL (seqR (seqR (seqR ((bodyOf Tryz.prog 10))))))))) (mkA Rfl46) (mkW Rfh47) .normal Rfr51.toArray (mkA Rfl49) (mkW Rfh50) :=
  seg1_ev (O := Orc.none) (n := 5000) (m := [0, 1, 2, 3, 4, 5, 6, 8, 9, 10, 11, 12, 13, 14, 15, 16, 17, 18, 19, 20, 21, 22, 23, 53, 54, 55, 56, 57, 74, 75, 76]) hσ (OrcOK.none _ _ _ _) (by decide +kernel)
theorem Rfp19 {σ : Nat → Value} (hσ : ∀ j, OneC (σ j)) {W0 : World} {H : Nat} : Seg1 Tryz.prog σ W0 H 2 Rfr51.toArray (.code (inL (inB (seqL (seqR (seqR (seqR ((bodyOf Tryz.prog 10))))))))) (mkA Rfl49) (mkW Rfh50) .normal Rfr54.toArray (mkA Rfl52) (mkW Rfh53) :=
  seg1_ev (O := Orc.none) (n := 5000) (m := [0, 1, 2, 3, 4, 5, 6, 7, 8, 9, 10, 11, 12, 13, 14, 15, 16, 17, 18, 19, 20, 21, 22, 23, 24, 25, 26, 27, 43, 44]) hσ (OrcOK.none _ _ _ _) (by decide +kernel)
theorem Rfp20 {σ : Nat → Value} (hσ : ∀ j, OneC (σ j)) {W0 : World} {H : Nat} : Seg1 Tryz.prog σ W0 H 2 Rfr54.toArray (.code (inL (inB (seqL (seqR (seqR (seqR ((bodyOf Tryz.prog 10))))))))) (mkA Rfl52) (mkW Rfh53) .normal Rfr57.toArray (mkA Rfl55) (mkW Rfh56) :=
  seg1_ev (O := Orc.none) (n := 5000) (m := [0, 1, 2, 3, 4, 5, 6, 7, 8, 9, 10, 11, 12, 13, 14, 15, 16, 17, 18, 19, 20, 21, 22, 23, 44, 45, 48, 49, 50, 51, 52, 53]) hσ (OrcOK.none _ _ _ _) (by decide +kernel)
theorem Rfp21 {σ : Nat → Value} (hσ : ∀ j, OneC (σ j)) {W0 : World} {H : Nat} : Seg1 Tryz.prog σ W0 H 2 Rfr57.toArray (.code (inL (inB (seqL (seqR (seqR (seqR ((bodyOf Tryz.prog 10))))))))) (mkA Rfl55) (mkW Rfh56) .normal Rfr60.toArray (mkA Rfl58) (mkW Rfh59) :=
  seg1_ev (O := Orc.none) (n := 5000) (m := [0, 1, 2, 3, 4, 5, 6, 7, 8, 9, 10, 11, 12, 13, 14, 15, 16, 51, 55, 56, 57, 63, 64, 65, 66, 67]) hσ (OrcOK.none _ _ _ _) (by decide +kernel)
theorem Rfp22 {σ : Nat → Value} (hσ : ∀ j, OneC (σ j)) {W0 : World} {H : Nat} : Seg1 Tryz.prog σ W0 H 2 Rfr60.toArray (.code (inL (inB (seqL (seqR (seqR (seqR ((bodyOf Tryz.prog 10))))))))) (mkA Rfl58) (mkW Rfh59) .normal Rfr63.toArray (mkA Rfl61) (mkW Rfh62) :=
  seg1_ev (O := Orc.none) (n := 5000) (m := [0, 1, 2, 3, 4, 5, 6, 7, 8, 9, 10, 11, 12, 13, 14, 15, 16, 17, 18, 24, 25, 38, 44, 45, 46]) hσ (OrcOK.none _ _ _ _) (by decide +kernel)
theorem Rfp23 {σ : Nat → Value} (hσ : ∀ j, OneC (σ j)) {W0 : World} {H : Nat} : Seg1 Tryz.prog σ W0 H 2 Rfr63.toArray (.code (inL (inB (seqL (seqR (seqR (seqR ((bodyOf Tryz.prog 10))))))))) (mkA Rfl61) (mkW Rfh62) .normal Rfr66.toArray (mkA Rfl64) (mkW Rfh65) :=
  seg1_ev (O := Orc.none) (n := 5000) (m := [0, 1, 2, 3, 4, 5, 6, 7, 8, 9, 10, 11, 12, 13, 14, 15, 16, 17, 18, 19, 20, 21, 41, 42, 43]) hσ (OrcOK.none _ _ _ _) (by decide +kernel)
end Go.Proofs.YthggcmhmjkmjnaaGreatDoor
