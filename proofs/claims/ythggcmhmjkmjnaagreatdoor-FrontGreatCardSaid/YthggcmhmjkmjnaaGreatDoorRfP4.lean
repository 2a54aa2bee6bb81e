/- dustpan/dustpanlaw21.awake: pieces (printed by gen_run4.py). -/
import Derived.Test.YthggcmhmjkmjnaaGreatDoorRfS
namespace Go.Proofs.YthggcmhmjkmjnaaGreatDoor
open Go.RowKit
set_option linter.unusedVariables false
set_option maxRecDepth 100000
theorem Rfp32 {σ : Nat → Value} (hσ : ∀ j, OneC (σ j)) {W0 : World} {H : Nat} : Seg1 Tryz.prog σ W0 H 2 Rfr90.toArray (.code (inL (inB (seqL (seqR (seqR (seqR ((bodyOf Tryz.prog 10))))))))) (mkA Rfl88) (mkW Rfh89) .normal Rfr93.toArray (mkA Rfl91) (mkW Rfh92) :=
  seg1_ev (O := Orc.none) (n := 5000) (m := [0, 1, 2, 3, 4, 5, 6, 7, 8, 9, 10]) hσ (OrcOK.none _ _ _ _) (by decide +kernel)
theorem Rfp33 {σ : Nat → Value} (hσ : ∀ j, OneC (σ j)) {W0 : World} {H : Nat} : Seg1 Tryz.prog σ W0 H 2 Rfr93.toArray (.code (inL (inB (seqL (seqR (seqR (seqR ((bodyOf Tryz.prog 10))))))))) (mkA Rfl91) (mkW Rfh92) (.exit 0) Rfr96.toArray (mkA Rfl94) (mkW Rfh95) :=
  seg1_ev (O := Orc.none) (n := 5000) (m := [0, 1, 2, 3, 4, 5, 6, 7, 8, 9, 10]) hσ (OrcOK.none _ _ _ _) (by decide +kernel)
theorem Rfp34 {σ : Nat → Value} (hσ : ∀ j, OneC (σ j)) {W0 : World} {H : Nat} : Seg1 Tryz.prog σ W0 H 2 Rfr96.toArray (.code (seqL (seqR (seqR (seqR (seqR ((bodyOf Tryz.prog 10)))))))) (mkA Rfl94) (mkW Rfh95) .normal Rfr99.toArray (mkA Rfl97) (mkW Rfh98) :=
  seg1_ev (O := Orc.none) (n := 5000) (m := [0, 1, 2, 3, 4, 5, 6, 7, 8, 9, 10]) hσ (OrcOK.none _ _ _ _) (by decide +kernel)
theorem Rfp35 {σ : Nat → Value} (hσ : ∀ j, OneC (σ j)) {W0 : World} {H : Nat} : Seg1 Tryz.prog σ W0 H 2 Rfr99.toArray (.code (seqL (seqR (seqR (seqR (seqR (seqR ((bodyOf Tryz.prog 10))))))))) (mkA Rfl97) (mkW Rfh98) .normal Rfr102.toArray (mkA Rfl100) (mkW Rfh101) :=
  seg1_ev (O := Orc.none) (n := 5000) (m := [0, 1, 2, 3, 4, 5, 6, 7, 8, 9, 10]) hσ (OrcOK.none _ _ _ _) (by decide +kernel)
theorem Rfp36 {σ : Nat → Value} (hσ : ∀ j, OneC (σ j)) {W0 : World} {H : Nat} : Seg1 Tryz.prog σ W0 H 2 Rfr102.toArray (.code (seqR (seqR (seqR (seqR (seqR (seqR ((bodyOf Tryz.prog 10))))))))) (mkA Rfl100) (mkW Rfh101) .ret Rfr105.toArray (mkA Rfl103) (mkW Rfh104) :=
  seg1_ev (O := Orc.none) (n := 5000) (m := [0, 1, 2, 3, 4, 5, 6, 7, 8, 9, 10]) hσ (OrcOK.none _ _ _ _) (by decide +kernel)
theorem Rfp37 {σ : Nat → Value} (hσ : ∀ j, OneC (σ j)) {W0 : World} {H : Nat} : Seg1 Tryz.prog σ W0 H 2 (List.take 0 Rfr105).toArray (.ops (regOps (seqL (seqR (seqR (seqR (seqR ((bodyOf Tryz.prog 7)))))))) ((List.range (regOps (seqL (seqR (seqR (seqR (seqR ((bodyOf Tryz.prog 7)))))))).size).drop (2 + 1))) (mkA Rfl106) (mkW Rfh104) .normal ([] : List Value).toArray (mkA Rfl107) (mkW Rfh108) :=
  seg1_ev (O := Orc.none) (n := 5000) (m := [0, 1, 2, 3, 4, 5, 6, 7, 8]) hσ (OrcOK.none _ _ _ _) (by decide +kernel)
theorem Rfp38 {σ : Nat → Value} (hσ : ∀ j, OneC (σ j)) {W0 : World} {H : Nat} : Seg1 Tryz.prog σ W0 H 2 ([] : List Value).toArray (.ops (regOps (seqL (seqR (seqR (seqR (seqR (seqR ((bodyOf Tryz.prog 7))))))))) (List.range 2)) (mkA Rfl107) (mkW Rfh108) .normal ([] : List Value).toArray (mkA Rfl109) (mkW Rfh110) :=
  seg1_ev (O := Orc.none) (n := 5000) (m := [0, 1, 2, 3, 4, 5, 6, 7, 8]) hσ (OrcOK.none _ _ _ _) (by decide +kernel)
theorem Rfp39 {σ : Nat → Value} (hσ : ∀ j, OneC (σ j)) {W0 : World} {H : Nat} : Seg1 Tryz.prog σ W0 H 2 (([] : List Value) ++ Rfl109).toArray (.code (seqL ((bodyOf Tryz.prog 10)))) (mkA Rfl111) (mkW Rfh110) .normal Rfr114.toArray (mkA Rfl112) (mkW Rfh113) :=
  seg1_ev (O := Orc.none) (n := 5000) (m := [0, 1, 2, 3, 4, 5, 6, 7, 8, 9]) hσ (OrcOK.none _ _ _ _) (by decide +kernel)
end Go.Proofs.YthggcmhmjkmjnaaGreatDoor
