/- dustpan/dustpanlaw21.awake: pieces (printed by gen_run4.py). -/
import Derived.Test.YtlgbahkioimkfaaGreatDoorRfS
namespace Go.Proofs.YtlgbahkioimkfaaGreatDoor
open Go.RowKit
set_option linter.unusedVariables false
set_option maxRecDepth 100000
theorem Rfp5 {σ : Nat → Value} (hσ : ∀ j, OneC (σ j)) {W0 : World} {H : Nat} : Seg1 Tryz.prog σ W0 H 2 ([] : List Value).toArray (.ops (regOps (seqL (seqR (seqR (seqR (seqR ((bodyOf Tryz.prog 35)))))))) (List.range 2)) (mkA Rfl8) (mkW Rfh9) .normal ([] : List Value).toArray (mkA Rfl10) (mkW Rfh11) :=
  seg1_ev (O := Orc.none) (n := 5000) (m := [0, 1, 2, 3, 4, 5, 6, 7, 8, 9]) hσ (OrcOK.none _ _ _ _) (by decide +kernel)
theorem Rfp6 {σ : Nat → Value} (hσ : ∀ j, OneC (σ j)) {W0 : World} {H : Nat} : Seg1 Tryz.prog σ W0 H 2 (([] : List Value) ++ Rfl10).toArray (.code (seqL ((bodyOf Tryz.prog 81)))) (mkA Rfl12) (mkW Rfh11) .normal Rfr15.toArray (mkA Rfl13) (mkW Rfh14) :=
  seg1_ev (O := Orc.none) (n := 5000) (m := [0, 1, 2, 3, 4, 5, 6, 7, 8, 9, 10]) hσ (OrcOK.none _ _ _ _) (by decide +kernel)
theorem Rfp7 {σ : Nat → Value} (hσ : ∀ j, OneC (σ j)) {W0 : World} {H : Nat} : Seg1 Tryz.prog σ W0 H 2 Rfr15.toArray (.code (seqL (seqR ((bodyOf Tryz.prog 81))))) (mkA Rfl13) (mkW Rfh14) .normal Rfr18.toArray (mkA Rfl16) (mkW Rfh17) :=
  seg1_ev (O := Orc.none) (n := 5000) (m := [0, 1, 2, 3, 4, 5, 6, 7, 8, 9, 10, 11, 12, 13, 16, 17, 20, 21, 22, 23, 24, 25, 26, 27]) hσ (OrcOK.none _ _ _ _) (by decide +kernel)
theorem Rfp8 {σ : Nat → Value} (hσ : ∀ j, OneC (σ j)) {W0 : World} {H : Nat} : Seg1 Tryz.prog σ W0 H 2 Rfr18.toArray (.code (seqL (seqR (seqR ((bodyOf Tryz.prog 81)))))) (mkA Rfl16) (mkW Rfh17) .normal Rfr21.toArray (mkA Rfl19) (mkW Rfh20) :=
  seg1_ev (O := Orc.none) (n := 5000) (m := [0, 1, 2, 3, 4, 5, 6, 7, 8, 9, 10, 11, 12, 13, 14, 15, 16, 17, 18, 19, 20, 21, 22, 23]) hσ (OrcOK.none _ _ _ _) (by decide +kernel)
theorem Rfp9 {σ : Nat → Value} (hσ : ∀ j, OneC (σ j)) {W0 : World} {H : Nat} : Seg1 Tryz.prog σ W0 H 2 Rfr21.toArray (.code (inL (inB (seqL (seqR (seqR (seqR ((bodyOf Tryz.prog 81))))))))) (mkA Rfl19) (mkW Rfh20) .normal Rfr24.toArray (mkA Rfl22) (mkW Rfh23) :=
  seg1_ev (O := Orc.none) (n := 5000) (m := [0, 1, 2, 3, 4, 5, 6, 7, 8, 9, 10, 11, 12, 13, 14, 15, 16, 17, 21, 22, 23, 32, 33]) hσ (OrcOK.none _ _ _ _) (by decide +kernel)
end Go.Proofs.YtlgbahkioimkfaaGreatDoor
