/- dustpan/dustpanlaw18.awake: pieces (printed by gen_run4.py). -/
import Derived.Test.YtlgbahkioimkfaaGreatDoorRcS
namespace Go.Proofs.YtlgbahkioimkfaaGreatDoor
open Go.RowKit
set_option linter.unusedVariables false
set_option maxRecDepth 100000
theorem Rcp36 {σ : Nat → Value} (hσ : ∀ j, OneC (σ j)) {W0 : World} {H : Nat} : Seg1 Tryz.prog σ W0 H 2 ([] : List Value).toArray (.code (inL (inB (seqL (seqR (seqR (seqR (seqR (seqR (seqR (seqR ((bodyOf Tryz.prog 12))))))))))))) (mkA Rcl93) (mkW Rch94) (.exit 0) ([] : List Value).toArray (mkA Rcl95) (mkW Rch96) :=
  seg1_ev (O := Orc.none) (n := 5000) (m := [0, 1, 2, 3, 4, 5, 6, 7, 8, 9, 10, 11, 12, 13, 14, 15, 16, 17]) hσ (OrcOK.none _ _ _ _) (by decide +kernel)
theorem Rcp37 {σ : Nat → Value} (hσ : ∀ j, OneC (σ j)) {W0 : World} {H : Nat} : Seg1 Tryz.prog σ W0 H 2 ([] : List Value).toArray (.code (seqL (seqR (seqR (seqR (seqR (seqR (seqR (seqR (seqR ((bodyOf Tryz.prog 12)))))))))))) (mkA Rcl95) (mkW Rch96) .normal ([] : List Value).toArray (mkA Rcl97) (mkW Rch98) :=
  seg1_ev (O := Orc.none) (n := 5000) (m := [0, 1, 2, 3, 4, 5, 6, 7, 8, 9, 10, 11, 12, 13, 14, 15, 16, 17, 37, 42]) hσ (OrcOK.none _ _ _ _) (by decide +kernel)
theorem Rcp38 {σ : Nat → Value} (hσ : ∀ j, OneC (σ j)) {W0 : World} {H : Nat} : Seg1 Tryz.prog σ W0 H 2 ([] : List Value).toArray (.code (seqR (seqR (seqR (seqR (seqR (seqR (seqR (seqR (seqR ((bodyOf Tryz.prog 12)))))))))))) (mkA Rcl97) (mkW Rch98) .ret ([] : List Value).toArray (mkA Rcl99) (mkW Rch100) :=
  seg1_ev (O := Orc.none) (n := 5000) (m := [0, 1, 2, 3, 4, 5, 6, 7, 8, 9, 10, 11, 12, 13, 14, 15, 16, 17, 18, 19]) hσ (OrcOK.none _ _ _ _) (by decide +kernel)
end Go.Proofs.YtlgbahkioimkfaaGreatDoor
