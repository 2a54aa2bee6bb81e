/- dustpan/dustpanlaw21.awake: pieces (printed by gen_run4.py). -/
import Derived.Test.YthggcmhmjkmjnaaGreatDoorRfS
namespace Go.Proofs.YthggcmhmjkmjnaaGreatDoor
open Go.RowKit
set_option linter.unusedVariables false
set_option maxRecDepth 100000
theorem Rfp8 {σ : Nat → Value} (hσ : ∀ j, OneC (σ j)) {W0 : World} {H : Nat} : Seg1 Tryz.prog σ W0 H 2 Rfr18.toArray (.code (seqL (seqR (seqR ((bodyOf Tryz.prog 10)))))) (mkA Rfl16) (mkW Rfh17) .normal Rfr21.toArray (mkA Rfl19) (mkW Rfh20) :=
  seg1_ev (O := Orc.none) (n := 5000) (m := [0, 1, 2, 3, 4, 5, 6, 7, 8, 9, 10, 11, 12, 13, 14, 15, 16, 17, 18, 19, 20, 21, 22, 23]) hσ (OrcOK.none _ _ _ _) (by decide +kernel)
theorem Rfp9 {σ : Nat → Value} (hσ : ∀ j, OneC (σ j)) {W0 : World} {H : Nat} : Seg1 Tryz.prog σ W0 H 2 Rfr21.toArray (.code (inL (inB (seqL (seqR (seqR (seqR ((bodyOf Tryz.prog 10))))))))) (mkA Rfl19) (mkW Rfh20) .normal Rfr24.toArray (mkA Rfl22) (mkW Rfh23) :=
  seg1_ev (O := Orc.none) (n := 5000) (m := [0, 1, 2, 3, 4, 5, 6, 7, 8, 9, 10, 11, 12, 13, 14, 15, 16, 17, 21, 22, 23, 32, 33]) hσ (OrcOK.none _ _ _ _) (by decide +kernel)
theorem Rfp10 {σ : Nat → Value} (hσ : ∀ j, OneC (σ j)) {W0 : World} {H : Nat} : Seg1 Tryz.prog σ W0 H 2 Rfr24.toArray (.code (inL (inB (seqL (seqR (seqR (seqR ((bodyOf Tryz.prog 10))))))))) (mkA Rfl22) (mkW Rfh23) .normal Rfr27.toArray (mkA Rfl25) (mkW Rfh26) :=
  seg1_ev (O := Orc.none) (n := 5000) (m := [0, 1, 2, 3, 4, 5, 6, 7, 8, 9, 10, 11, 12, 13, 14, 15, 16, 17, 18, 19, 20, 31, 32]) hσ (OrcOK.none _ _ _ _) (by decide +kernel)
theorem Rfp11 {σ : Nat → Value} (hσ : ∀ j, OneC (σ j)) {W0 : World} {H : Nat} : Seg1 Tryz.prog σ W0 H 2 Rfr27.toArray (.code (inL (inB (seqL (seqR (seqR (seqR ((bodyOf Tryz.prog 10))))))))) (mkA Rfl25) (mkW Rfh26) .normal Rfr30.toArray (mkA Rfl28) (mkW Rfh29) :=
  seg1_ev (O := Orc.none) (n := 5000) (m := [0, 1, 2, 3, 4, 5, 6, 7, 8, 9, 10, 14, 33, 36, 37]) hσ (OrcOK.none _ _ _ _) (by decide +kernel)
theorem Rfp12 {σ : Nat → Value} (hσ : ∀ j, OneC (σ j)) {W0 : World} {H : Nat} : Seg1 Tryz.prog σ W0 H 2 Rfr30.toArray (.code (inL (inB (seqL (seqR (seqR (seqR ((bodyOf Tryz.prog 10))))))))) (mkA Rfl28) (mkW Rfh29) .normal Rfr33.toArray (mkA Rfl31) (mkW Rfh32) :=
  seg1_ev (O := Orc.none) (n := 5000) (m := [0, 1, 2, 3, 4, 5, 6, 7, 8, 9, 10, 11, 19, 20, 21, 22, 23, 26, 27, 28, 29, 30, 31, 32]) hσ (OrcOK.none _ _ _ _) (by decide +kernel)
theorem Rfp13 {σ : Nat → Value} (hσ : ∀ j, OneC (σ j)) {W0 : World} {H : Nat} : Seg1 Tryz.prog σ W0 H 2 Rfr33.toArray (.code (inL (inB (seqL (seqR (seqR (seqR ((bodyOf Tryz.prog 10))))))))) (mkA Rfl31) (mkW Rfh32) .normal Rfr36.toArray (mkA Rfl34) (mkW Rfh35) :=
  seg1_ev (O := Orc.none) (n := 5000) (m := [0, 1, 2, 3, 4, 5, 6, 7, 8, 9, 10, 11, 12, 13, 18, 22, 23, 33, 34, 53, 54, 55, 56, 57]) hσ (OrcOK.none _ _ _ _) (by decide +kernel)
theorem Rfp14 {σ : Nat → Value} (hσ : ∀ j, OneC (σ j)) {W0 : World} {H : Nat} : Seg1 Tryz.prog σ W0 H 2 Rfr36.toArray (.code (inL (inB (seqL (seqR (seqR (seqR ((bodyOf Tryz.prog 10))))))))) (mkA Rfl34) (mkW Rfh35) .normal Rfr39.toArray (mkA Rfl37) (mkW Rfh38) :=
  seg1_ev (O := Orc.none) (n := 5000) (m := [0, 1, 2, 3, 4, 5, 6, 7, 8, 9, 10, 11, 12, 13, 14, 15, 16, 38, 39, 40, 59, 60, 61, 76, 77, 78, 79, 80, 81, 82]) hσ (OrcOK.none _ _ _ _) (by decide +kernel)
theorem Rfp15 {σ : Nat → Value} (hσ : ∀ j, OneC (σ j)) {W0 : World} {H : Nat} : Seg1 Tryz.prog σ W0 H 2 Rfr39.toArray (.code (inL (inB (seqL (seqR (seqR (seqR ((bodyOf Tryz.prog 10))))))))) (mkA Rfl37) (mkW Rfh38) .normal Rfr42.toArray (mkA Rfl40) (mkW Rfh41) :=
  seg1_ev (O := Orc.none) (n := 5000) (m := [0, 1, 2, 3, 4, 5, 6, 7, 8, 9, 10, 11, 12, 13, 14, 15, 16, 49, 50, 51, 70, 71, 72, 87, 88, 89, 90, 91, 92, 93]) hσ (OrcOK.none _ _ _ _) (by decide +kernel)
end Go.Proofs.YthggcmhmjkmjnaaGreatDoor
