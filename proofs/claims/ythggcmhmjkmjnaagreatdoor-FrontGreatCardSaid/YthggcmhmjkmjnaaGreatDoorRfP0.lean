/- dustpan/dustpanlaw21.awake: pieces (printed by gen_run4.py). -/
import Derived.Test.YthggcmhmjkmjnaaGreatDoorRfS
namespace Go.Proofs.YthggcmhmjkmjnaaGreatDoor
open Go.RowKit
set_option linter.unusedVariables false
set_option maxRecDepth 100000
theorem Rfp0 {σ : Nat → Value} (hσ : ∀ j, OneC (σ j)) {W0 : World} {H : Nat} : Seg1 Tryz.prog σ W0 H 2 ([] : List Value).toArray (.code (seqL ((bodyOf Tryz.prog 7)))) { tmps := #[] ++ Array.replicate (50 - 0) undef, defers := [] } (baseWorld 2 tabA) .normal ([] : List Value).toArray (mkA Rfl0) (mkW Rfh1) :=
  seg1_ev (O := Orc.none) (n := 5000) (m := [0, 1]) hσ (OrcOK.none _ _ _ _) (by decide +kernel)
theorem Rfp1 {σ : Nat → Value} (hσ : ∀ j, OneC (σ j)) {W0 : World} {H : Nat} : Seg1 Tryz.prog σ W0 H 2 ([] : List Value).toArray (.code (seqL (seqR ((bodyOf Tryz.prog 7))))) (mkA Rfl0) (mkW Rfh1) .normal ([] : List Value).toArray (mkA Rfl2) (mkW Rfh3) :=
  seg1_ev (O := Orc.none) (n := 5000) (m := [0, 1, 2]) hσ (OrcOK.none _ _ _ _) (by decide +kernel)
theorem Rfp2 {σ : Nat → Value} (hσ : ∀ j, OneC (σ j)) {W0 : World} {H : Nat} : Seg1 Tryz.prog σ W0 H 2 ([] : List Value).toArray (.code (seqL (seqR (seqR ((bodyOf Tryz.prog 7)))))) (mkA Rfl2) (mkW Rfh3) .normal ([] : List Value).toArray (mkA Rfl4) (mkW Rfh5) :=
  seg1_ev (O := Orc.none) (n := 5000) (m := [0, 1, 2, 14, 15, 16, 17, 21, 23, 24]) hσ (OrcOK.none _ _ _ _) (by decide +kernel)
theorem Rfp3 {σ : Nat → Value} (hσ : ∀ j, OneC (σ j)) {W0 : World} {H : Nat} : Seg1 Tryz.prog σ W0 H 2 ([] : List Value).toArray (.code (seqL (seqL (seqR (seqR (seqR ((bodyOf Tryz.prog 7)))))))) (mkA Rfl4) (mkW Rfh5) .normal ([] : List Value).toArray (mkA Rfl6) (mkW Rfh7) :=
  seg1_ev (O := Orc.none) (n := 5000) (m := [0, 1, 2, 3, 4, 5, 6, 7, 8, 9]) hσ (OrcOK.none _ _ _ _) (by decide +kernel)
theorem Rfp4 {σ : Nat → Value} (hσ : ∀ j, OneC (σ j)) {W0 : World} {H : Nat} : Seg1 Tryz.prog σ W0 H 2 ([] : List Value).toArray (.code (seqR (seqL (seqR (seqR (seqR ((bodyOf Tryz.prog 7)))))))) (mkA Rfl6) (mkW Rfh7) .normal ([] : List Value).toArray (mkA Rfl8) (mkW Rfh9) :=
  seg1_ev (O := Orc.none) (n := 5000) (m := [0, 1, 2, 3, 4, 5, 6, 7, 8, 9]) hσ (OrcOK.none _ _ _ _) (by decide +kernel)
theorem Rfp5 {σ : Nat → Value} (hσ : ∀ j, OneC (σ j)) {W0 : World} {H : Nat} : Seg1 Tryz.prog σ W0 H 2 ([] : List Value).toArray (.ops (regOps (seqL (seqR (seqR (seqR (seqR ((bodyOf Tryz.prog 7)))))))) (List.range 2)) (mkA Rfl8) (mkW Rfh9) .normal ([] : List Value).toArray (mkA Rfl10) (mkW Rfh11) :=
  seg1_ev (O := Orc.none) (n := 5000) (m := [0, 1, 2, 3, 4, 5, 6, 7, 8, 9]) hσ (OrcOK.none _ _ _ _) (by decide +kernel)
theorem Rfp6 {σ : Nat → Value} (hσ : ∀ j, OneC (σ j)) {W0 : World} {H : Nat} : Seg1 Tryz.prog σ W0 H 2 (([] : List Value) ++ Rfl10).toArray (.code (seqL ((bodyOf Tryz.prog 10)))) (mkA Rfl12) (mkW Rfh11) .normal Rfr15.toArray (mkA Rfl13) (mkW Rfh14) :=
  seg1_ev (O := Orc.none) (n := 5000) (m := [0, 1, 2, 3, 4, 5, 6, 7, 8, 9, 10]) hσ (OrcOK.none _ _ _ _) (by decide +kernel)
theorem Rfp7 {σ : Nat → Value} (hσ : ∀ j, OneC (σ j)) {W0 : World} {H : Nat} : Seg1 Tryz.prog σ W0 H 2 Rfr15.toArray (.code (seqL (seqR ((bodyOf Tryz.prog 10))))) (mkA Rfl13) (mkW Rfh14) .normal Rfr18.toArray (mkA Rfl16) (mkW Rfh17) :=
  seg1_ev (O := Orc.none) (n := 5000) (m := [0, 1, 2, 3, 4, 5, 6, 7, 8, 9, 10, 11, 12, 13, 16, 17, 20, 21, 22, 23, 24, 25, 26, 27]) hσ (OrcOK.none _ _ _ _) (by decide +kernel)
end Go.Proofs.YthggcmhmjkmjnaaGreatDoor
