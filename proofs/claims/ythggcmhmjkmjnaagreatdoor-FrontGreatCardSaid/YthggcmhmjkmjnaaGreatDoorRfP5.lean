/- dustpan/dustpanlaw21.awake: pieces (printed by gen_run4.py). -/
import Derived.Test.YthggcmhmjkmjnaaGreatDoorRfS
namespace Go.Proofs.YthggcmhmjkmjnaaGreatDoor
open Go.RowKit
set_option linter.unusedVariables false
set_option maxRecDepth 100000
theorem Rfp40 {σ : Nat → Value} (hσ : ∀ j, OneC (σ j)) {W0 : World} {H : Nat} : Seg1 Tryz.prog σ W0 H 2 Rfr114.toArray (.code (seqL (seqR ((bodyOf Tryz.prog 10))))) (mkA Rfl112) (mkW Rfh113) .normal Rfr117.toArray (mkA Rfl115) (mkW Rfh116) :=
  seg1_ev (O := Orc.none) (n := 5000) (m := [0, 1, 2, 3, 4, 5, 6, 7, 8, 9, 10, 11, 12, 15, 16, 19, 20, 21, 22, 23, 24, 25, 26]) hσ (OrcOK.none _ _ _ _) (by decide +kernel)
theorem Rfp41 {σ : Nat → Value} (hσ : ∀ j, OneC (σ j)) {W0 : World} {H : Nat} : Seg1 Tryz.prog σ W0 H 2 Rfr117.toArray (.code (seqL (seqR (seqR ((bodyOf Tryz.prog 10)))))) (mkA Rfl115) (mkW Rfh116) .normal Rfr120.toArray (mkA Rfl118) (mkW Rfh119) :=
  seg1_ev (O := Orc.none) (n := 5000) (m := [0, 1, 2, 3, 4, 5, 6, 7, 8, 9, 10, 11, 12, 13, 14, 15, 16, 17, 18, 19, 20, 21, 22]) hσ (OrcOK.none _ _ _ _) (by decide +kernel)
theorem Rfp42 {σ : Nat → Value} (hσ : ∀ j, OneC (σ j)) {W0 : World} {H : Nat} : Seg1 Tryz.prog σ W0 H 2 Rfr120.toArray (.code (inL (inB (seqL (seqR (seqR (seqR ((bodyOf Tryz.prog 10))))))))) (mkA Rfl118) (mkW Rfh119) .normal Rfr123.toArray (mkA Rfl121) (mkW Rfh122) :=
  seg1_ev (O := Orc.none) (n := 5000) (m := [0, 1, 2, 3, 4, 5, 6, 7, 8, 9, 10, 11, 12, 13, 14, 15, 16, 20, 21, 22, 31, 32]) hσ (OrcOK.none _ _ _ _) (by decide +kernel)
theorem Rfp43 {σ : Nat → Value} (hσ : ∀ j, OneC (σ j)) {W0 : World} {H : Nat} : Seg1 Tryz.prog σ W0 H 2 Rfr123.toArray (.code (inL (inB (seqL (seqR (seqR (seqR ((bodyOf Tryz.prog 10))))))))) (mkA Rfl121) (mkW Rfh122) .normal Rfr126.toArray (mkA Rfl124) (mkW Rfh125) :=
  seg1_ev (O := Orc.none) (n := 5000) (m := [0, 1, 2, 3, 4, 5, 6, 7, 8, 9, 10, 11, 12, 13, 14, 15, 16, 17, 18, 19, 30, 31]) hσ (OrcOK.none _ _ _ _) (by decide +kernel)
theorem Rfp44 {σ : Nat → Value} (hσ : ∀ j, OneC (σ j)) {W0 : World} {H : Nat} : Seg1 Tryz.prog σ W0 H 2 Rfr126.toArray (.code (inL (inB (seqL (seqR (seqR (seqR ((bodyOf Tryz.prog 10))))))))) (mkA Rfl124) (mkW Rfh125) .normal Rfr129.toArray (mkA Rfl127) (mkW Rfh128) :=
  seg1_ev (O := Orc.none) (n := 5000) (m := [0, 1, 2, 3, 4, 5, 6, 7, 8, 9, 13, 32, 35, 36]) hσ (OrcOK.none _ _ _ _) (by decide +kernel)
theorem Rfp45 {σ : Nat → Value} (hσ : ∀ j, OneC (σ j)) {W0 : World} {H : Nat} : Seg1 Tryz.prog σ W0 H 2 Rfr129.toArray (.code (inL (inB (seqL (seqR (seqR (seqR ((bodyOf Tryz.prog 10))))))))) (mkA Rfl127) (mkW Rfh128) .normal Rfr132.toArray (mkA Rfl130) (mkW Rfh131) :=
  seg1_ev (O := Orc.none) (n := 5000) (m := [0, 1, 2, 3, 4, 5, 6, 7, 8, 9, 10, 11, 18, 23, 24]) hσ (OrcOK.none _ _ _ _) (by decide +kernel)
theorem Rfp46 {σ : Nat → Value} (hσ : ∀ j, OneC (σ j)) {W0 : World} {H : Nat} : Seg1 Tryz.prog σ W0 H 2 Rfr132.toArray (.code (inL (inB (seqL (seqR (seqR (seqR ((bodyOf Tryz.prog 10))))))))) (mkA Rfl130) (mkW Rfh131) .normal Rfr135.toArray (mkA Rfl133) (mkW Rfh134) :=
  seg1_ev (O := Orc.none) (n := 5000) (m := [0, 1, 2, 3, 4, 5, 6, 7, 8, 9, 10, 11, 12, 24, 29, 30, 31]) hσ (OrcOK.none _ _ _ _) (by decide +kernel)
theorem Rfp47 {σ : Nat → Value} (hσ : ∀ j, OneC (σ j)) {W0 : World} {H : Nat} : Seg1 Tryz.prog σ W0 H 2 Rfr135.toArray (.code (inL (inB (seqL (seqR (seqR (seqR ((bodyOf Tryz.prog 10))))))))) (mkA Rfl133) (mkW Rfh134) .normal Rfr138.toArray (mkA Rfl136) (mkW Rfh137) :=
  seg1_ev (O := Orc.none) (n := 5000) (m := [0, 1, 2, 3, 4, 5, 6, 7, 8, 9, 10, 21, 22, 23, 26, 27, 28, 29, 30, 31, 32]) hσ (OrcOK.none _ _ _ _) (by decide +kernel)
end Go.Proofs.YthggcmhmjkmjnaaGreatDoor
