/- dustpan/dustpanlaw18.awake: pieces (printed by gen_run4.py). -/
import Derived.Test.YtlgbahkioimkfaaGreatDoorRcS
namespace Go.Proofs.YtlgbahkioimkfaaGreatDoor
open Go.RowKit
set_option linter.unusedVariables false
set_option maxRecDepth 100000
theorem Rcp6 {σ : Nat → Value} (hσ : ∀ j, OneC (σ j)) {W0 : World} {H : Nat} : Seg1 Tryz.prog σ W0 H 2 (([] : List Value) ++ Rcl10).toArray (.code (seqL ((bodyOf Tryz.prog 39)))) (mkA Rcl12) (mkW Rch11) .normal Rcr15.toArray (mkA Rcl13) (mkW Rch14) :=
  seg1_ev (O := Orc.none) (n := 5000) (m := [0, 1, 2, 3, 4, 5, 6, 7, 8, 9, 10, 11, 12, 13, 14, 15, 16]) hσ (OrcOK.none _ _ _ _) (by decide +kernel)
theorem Rcp7 {σ : Nat → Value} (hσ : ∀ j, OneC (σ j)) {W0 : World} {H : Nat} : Seg1 Tryz.prog σ W0 H 2 Rcr15.toArray (.code (seqL (seqR ((bodyOf Tryz.prog 39))))) (mkA Rcl13) (mkW Rch14) .normal Rcr18.toArray (mkA Rcl16) (mkW Rch17) :=
  seg1_ev (O := Orc.none) (n := 5000) (m := [0, 1, 2, 3, 4, 5, 6, 8, 9, 10, 11, 12, 13, 14, 15, 16, 29]) hσ (OrcOK.none _ _ _ _) (by decide +kernel)
theorem Rcp8 {σ : Nat → Value} (hσ : ∀ j, OneC (σ j)) {W0 : World} {H : Nat} : Seg1 Tryz.prog σ W0 H 2 Rcr18.toArray (.code (seqL (seqR (seqR ((bodyOf Tryz.prog 39)))))) (mkA Rcl16) (mkW Rch17) .normal Rcr21.toArray (mkA Rcl19) (mkW Rch20) :=
  seg1_ev (O := Orc.none) (n := 5000) (m := [0, 1, 2, 3, 4, 5, 6, 7, 8, 9, 10, 11, 12, 13, 15, 16, 26]) hσ (OrcOK.none _ _ _ _) (by decide +kernel)
theorem Rcp9 {σ : Nat → Value} (hσ : ∀ j, OneC (σ j)) {W0 : World} {H : Nat} : Seg1 Tryz.prog σ W0 H 2 Rcr21.toArray (.code (seqL (seqL (seqR (seqR (seqR ((bodyOf Tryz.prog 39)))))))) (mkA Rcl19) (mkW Rch20) .normal Rcr24.toArray (mkA Rcl22) (mkW Rch23) :=
  seg1_ev (O := Orc.none) (n := 5000) (m := [0, 1, 2, 3, 4, 5, 6, 7, 8, 9, 10, 11, 12, 13, 14, 15, 16]) hσ (OrcOK.none _ _ _ _) (by decide +kernel)
theorem Rcp10 {σ : Nat → Value} (hσ : ∀ j, OneC (σ j)) {W0 : World} {H : Nat} : Seg1 Tryz.prog σ W0 H 2 Rcr24.toArray (.code (seqR (seqL (seqR (seqR (seqR ((bodyOf Tryz.prog 39)))))))) (mkA Rcl22) (mkW Rch23) .normal Rcr27.toArray (mkA Rcl25) (mkW Rch26) :=
  seg1_ev (O := Orc.none) (n := 5000) (m := [0, 1, 2, 3, 4, 5, 6, 7, 8, 9, 10, 11, 12, 13, 14, 15, 16]) hσ (OrcOK.none _ _ _ _) (by decide +kernel)
theorem Rcp11 {σ : Nat → Value} (hσ : ∀ j, OneC (σ j)) {W0 : World} {H : Nat} : Seg1 Tryz.prog σ W0 H 2 Rcr27.toArray (.code (seqL (seqL (seqR (seqR (seqR (seqR ((bodyOf Tryz.prog 39))))))))) (mkA Rcl25) (mkW Rch26) .normal Rcr30.toArray (mkA Rcl28) (mkW Rch29) :=
  seg1_ev (O := Orc.none) (n := 5000) (m := [0, 1, 2, 3, 4, 5, 6, 7, 8, 9, 10, 11, 12, 13, 14, 15, 16]) hσ (OrcOK.none _ _ _ _) (by decide +kernel)
end Go.Proofs.YtlgbahkioimkfaaGreatDoor
