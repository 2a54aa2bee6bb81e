/- dustpan/dustpanlaw21.awake: pieces (printed by gen_run4.py). -/
import Derived.Test.YthggcmhmjkmjnaaGreatDoorRfS
namespace Go.Proofs.YthggcmhmjkmjnaaGreatDoor
open Go.RowKit
set_option linter.unusedVariables false
set_option maxRecDepth 100000
theorem Rfp48 {σ : Nat → Value} (hσ : ∀ j, OneC (σ j)) {W0 : World} {H : Nat} : Seg1 Tryz.prog σ W0 H 2 Rfr138.toArray (.code (inL (inB (seqL (seqR (seqR (seqR ((bodyOf Tryz.prog 10))))))))) (mkA Rfl136) (mkW Rfh137) .normal Rfr141.toArray (mkA Rfl139) (mkW Rfh140) :=
  seg1_ev (O := Orc.none) (n := 5000) (m := [0, 1, 2, 3, 4, 5, 6, 7, 8, 9, 10]) hσ (OrcOK.none _ _ _ _) (by decide +kernel)
theorem Rfp49 {σ : Nat → Value} (hσ : ∀ j, OneC (σ j)) {W0 : World} {H : Nat} : Seg1 Tryz.prog σ W0 H 2 Rfr141.toArray (.code (inL (inB (seqL (seqR (seqR (seqR ((bodyOf Tryz.prog 10))))))))) (mkA Rfl139) (mkW Rfh140) (.exit 0) Rfr144.toArray (mkA Rfl142) (mkW Rfh143) :=
  seg1_ev (O := Orc.none) (n := 5000) (m := [0, 1, 2, 3, 4, 5, 6, 7, 8, 9, 10]) hσ (OrcOK.none _ _ _ _) (by decide +kernel)
theorem Rfp50 {σ : Nat → Value} (hσ : ∀ j, OneC (σ j)) {W0 : World} {H : Nat} : Seg1 Tryz.prog σ W0 H 2 Rfr144.toArray (.code (seqL (seqR (seqR (seqR (seqR ((bodyOf Tryz.prog 10)))))))) (mkA Rfl142) (mkW Rfh143) .normal Rfr147.toArray (mkA Rfl145) (mkW Rfh146) :=
  seg1_ev (O := Orc.none) (n := 5000) (m := [0, 1, 2, 3, 4, 5, 6, 7, 8, 9, 10]) hσ (OrcOK.none _ _ _ _) (by decide +kernel)
theorem Rfp51 {σ : Nat → Value} (hσ : ∀ j, OneC (σ j)) {W0 : World} {H : Nat} : Seg1 Tryz.prog σ W0 H 2 Rfr147.toArray (.code (seqL (seqR (seqR (seqR (seqR (seqR ((bodyOf Tryz.prog 10))))))))) (mkA Rfl145) (mkW Rfh146) .normal Rfr150.toArray (mkA Rfl148) (mkW Rfh149) :=
  seg1_ev (O := Orc.none) (n := 5000) (m := [0, 1, 2, 3, 4, 5, 6, 7, 8, 9, 10]) hσ (OrcOK.none _ _ _ _) (by decide +kernel)
theorem Rfp52 {σ : Nat → Value} (hσ : ∀ j, OneC (σ j)) {W0 : World} {H : Nat} : Seg1 Tryz.prog σ W0 H 2 Rfr150.toArray (.code (seqR (seqR (seqR (seqR (seqR (seqR ((bodyOf Tryz.prog 10))))))))) (mkA Rfl148) (mkW Rfh149) .ret Rfr153.toArray (mkA Rfl151) (mkW Rfh152) :=
  seg1_ev (O := Orc.none) (n := 5000) (m := [0, 1, 2, 3, 4, 5, 6, 7, 8, 9, 10]) hσ (OrcOK.none _ _ _ _) (by decide +kernel)
theorem Rfp53 {σ : Nat → Value} (hσ : ∀ j, OneC (σ j)) {W0 : World} {H : Nat} : Seg1 Tryz.prog σ W0 H 2 (List.take 0 Rfr153).toArray (.ops (regOps (seqL (seqR (seqR (seqR (seqR (seqR ((bodyOf Tryz.prog 7))))))))) ((List.range (regOps (seqL (seqR (seqR (seqR (seqR (seqR ((bodyOf Tryz.prog 7))))))))).size).drop (2 + 1))) (mkA Rfl154) (mkW Rfh152) .normal ([] : List Value).toArray (mkA Rfl155) (mkW Rfh156) :=
  seg1_ev (O := Orc.none) (n := 5000) (m := [0, 1, 2, 3, 4, 5, 6, 7, 8]) hσ (OrcOK.none _ _ _ _) (by decide +kernel)
theorem Rfp54 {σ : Nat → Value} (hσ : ∀ j, OneC (σ j)) {W0 : World} {H : Nat} : Seg1 Tryz.prog σ W0 H 2 ([] : List Value).toArray (.code (seqL (seqR (seqR (seqR (seqR (seqR (seqR ((bodyOf Tryz.prog 7)))))))))) (mkA Rfl155) (mkW Rfh156) .normal ([] : List Value).toArray (mkA Rfl157) (mkW Rfh158) :=
  seg1_ev (O := Orc.none) (n := 5000) (m := [0, 1, 2, 3, 4, 5, 6, 7, 8]) hσ (OrcOK.none _ _ _ _) (by decide +kernel)
theorem Rfp55 {σ : Nat → Value} (hσ : ∀ j, OneC (σ j)) {W0 : World} {H : Nat} : Seg1 Tryz.prog σ W0 H 2 ([] : List Value).toArray (.code (seqR (seqR (seqR (seqR (seqR (seqR (seqR ((bodyOf Tryz.prog 7)))))))))) (mkA Rfl157) (mkW Rfh158) .ret ([] : List Value).toArray (mkA Rfl159) (mkW Rfh160) :=
  seg1_ev (O := Orc.none) (n := 5000) (m := [0, 1, 2, 3, 4, 5, 6, 7, 8]) hσ (OrcOK.none _ _ _ _) (by decide +kernel)
end Go.Proofs.YthggcmhmjkmjnaaGreatDoor
