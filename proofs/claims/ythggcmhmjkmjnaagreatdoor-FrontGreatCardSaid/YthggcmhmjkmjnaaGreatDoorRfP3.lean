/- dustpan/dustpanlaw21.awake: pieces (printed by gen_run4.py). -/
import Derived.Test.YthggcmhmjkmjnaaGreatDoorRfS
namespace Go.Proofs.YthggcmhmjkmjnaaGreatDoor
open Go.RowKit
set_option linter.unusedVariables false
set_option maxRecDepth 100000
theorem Rfp24 {σ : Nat → Value} (hσ : ∀ j, OneC (σ j)) {W0 : World} {H : Nat} : Seg1 Tryz.prog σ W0 H 2 Rfr66.toArray (.code (inL (inB (seqL (seqR (seqR (seqR ((bodyOf Tryz.prog 10))))))))) (mkA Rfl64) (mkW Rfh65) .normal Rfr69.toArray (mkA Rfl67) (mkW Rfh68) :=
  seg1_ev (O := Orc.none) (n := 5000) (m := [0, 1, 2, 3, 4, 5, 6, 7, 8, 9, 10, 11, 12, 13, 14, 15, 16, 17, 18, 19, 20, 21, 41, 42, 43]) hσ (OrcOK.none _ _ _ _) (by decide +kernel)
theorem Rfp25 {σ : Nat → Value} (hσ : ∀ j, OneC (σ j)) {W0 : World} {H : Nat} : Seg1 Tryz.prog σ W0 H 2 Rfr69.toArray (.code (inL (inB (seqL (seqR (seqR (seqR ((bodyOf Tryz.prog 10))))))))) (mkA Rfl67) (mkW Rfh68) .normal Rfr72.toArray (mkA Rfl70) (mkW Rfh71) :=
  seg1_ev (O := Orc.none) (n := 5000) (m := [0, 1, 2, 3, 4, 5, 6, 7, 8, 9, 10, 11, 12, 13, 14, 15, 16, 17, 18, 19, 20, 41, 42, 43]) hσ (OrcOK.none _ _ _ _) (by decide +kernel)
theorem Rfp26 {σ : Nat → Value} (hσ : ∀ j, OneC (σ j)) {W0 : World} {H : Nat} : Seg1 Tryz.prog σ W0 H 2 Rfr72.toArray (.code (inL (inB (seqL (seqR (seqR (seqR ((bodyOf Tryz.prog 10))))))))) (mkA Rfl70) (mkW Rfh71) .normal Rfr75.toArray (mkA Rfl73) (mkW Rfh74) :=
  seg1_ev (O := Orc.none) (n := 5000) (m := [0, 1, 2, 3, 4, 5, 6, 7, 8, 9, 10, 11, 12, 13, 14, 15, 38, 39, 44, 45, 46]) hσ (OrcOK.none _ _ _ _) (by decide +kernel)
theorem Rfp27 {σ : Nat → Value} (hσ : ∀ j, OneC (σ j)) {W0 : World} {H : Nat} : Seg1 Tryz.prog σ W0 H 2 Rfr75.toArray (.code (inL (inB (seqL (seqR (seqR (seqR ((bodyOf Tryz.prog 10))))))))) (mkA Rfl73) (mkW Rfh74) .normal Rfr78.toArray (mkA Rfl76) (mkW Rfh77) :=
  seg1_ev (O := Orc.none) (n := 5000) (m := [0, 1, 2, 3, 4, 5, 6, 7, 8, 9, 10, 11, 12, 13, 14, 15, 16, 29, 30, 31]) hσ (OrcOK.none _ _ _ _) (by decide +kernel)
theorem Rfp28 {σ : Nat → Value} (hσ : ∀ j, OneC (σ j)) {W0 : World} {H : Nat} : Seg1 Tryz.prog σ W0 H 2 Rfr78.toArray (.code (inL (inB (seqL (seqR (seqR (seqR ((bodyOf Tryz.prog 10))))))))) (mkA Rfl76) (mkW Rfh77) .normal Rfr81.toArray (mkA Rfl79) (mkW Rfh80) :=
  seg1_ev (O := Orc.none) (n := 5000) (m := [0, 1, 2, 3, 4, 5, 6, 7, 8, 9, 10, 30, 33, 34]) hσ (OrcOK.none _ _ _ _) (by decide +kernel)
theorem Rfp29 {σ : Nat → Value} (hσ : ∀ j, OneC (σ j)) {W0 : World} {H : Nat} : Seg1 Tryz.prog σ W0 H 2 Rfr81.toArray (.code (inL (inB (seqL (seqR (seqR (seqR ((bodyOf Tryz.prog 10))))))))) (mkA Rfl79) (mkW Rfh80) .normal Rfr84.toArray (mkA Rfl82) (mkW Rfh83) :=
  seg1_ev (O := Orc.none) (n := 5000) (m := [0, 1, 2, 3, 4, 5, 6, 7, 8, 9, 10, 11, 18, 23, 24]) hσ (OrcOK.none _ _ _ _) (by decide +kernel)
theorem Rfp30 {σ : Nat → Value} (hσ : ∀ j, OneC (σ j)) {W0 : World} {H : Nat} : Seg1 Tryz.prog σ W0 H 2 Rfr84.toArray (.code (inL (inB (seqL (seqR (seqR (seqR ((bodyOf Tryz.prog 10))))))))) (mkA Rfl82) (mkW Rfh83) .normal Rfr87.toArray (mkA Rfl85) (mkW Rfh86) :=
  seg1_ev (O := Orc.none) (n := 5000) (m := [0, 1, 2, 3, 4, 5, 6, 7, 8, 9, 10, 11, 12, 24, 29, 30, 31]) hσ (OrcOK.none _ _ _ _) (by decide +kernel)
theorem Rfp31 {σ : Nat → Value} (hσ : ∀ j, OneC (σ j)) {W0 : World} {H : Nat} : Seg1 Tryz.prog σ W0 H 2 Rfr87.toArray (.code (inL (inB (seqL (seqR (seqR (seqR ((bodyOf Tryz.prog 10))))))))) (mkA Rfl85) (mkW Rfh86) .normal Rfr90.toArray (mkA Rfl88) (mkW Rfh89) :=
  seg1_ev (O := Orc.none) (n := 5000) (m := [0, 1, 2, 3, 4, 5, 6, 7, 8, 9, 10, 21, 22, 23, 26, 27, 28, 29, 30, 31, 32]) hσ (OrcOK.none _ _ _ _) (by decide +kernel)
end Go.Proofs.YthggcmhmjkmjnaaGreatDoor
