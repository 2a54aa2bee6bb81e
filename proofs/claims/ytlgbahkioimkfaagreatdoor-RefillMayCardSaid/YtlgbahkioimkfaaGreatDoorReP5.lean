/- dustpan/dustpanlaw19.awake: pieces (printed by gen_run4.py). -/
import Derived.Test.YtlgbahkioimkfaaGreatDoorReS
namespace Go.Proofs.YtlgbahkioimkfaaGreatDoor
open Go.RowKit
set_option linter.unusedVariables false
set_option maxRecDepth 100000
theorem Rep20 {σ : Nat → Value} (hσ : ∀ j, OneC (σ j)) {W0 : World} {H : Nat} : Seg1 Tryz.prog σ W0 H 2 ([] : List Value).toArray (.code (inL (inB (seqL (seqR (seqR (seqR (seqR (seqR (seqR ((bodyOf Tryz.prog 30)))))))))))) (mkA Rel38) (mkW Reh39) .normal ([] : List Value).toArray (mkA Rel40) (mkW Reh41) :=
  seg1_ev (O := Orc.none) (n := 5000) (m := [0, 1, 2, 3, 4, 5, 6, 7, 8, 9, 10, 11, 12, 13, 14, 15, 16, 17, 18, 20, 38, 39, 44, 45, 46]) hσ (OrcOK.none _ _ _ _) (by decide +kernel)
theorem Rep21 {σ : Nat → Value} (hσ : ∀ j, OneC (σ j)) {W0 : World} {H : Nat} : Seg1 Tryz.prog σ W0 H 2 ([] : List Value).toArray (.code (inL (inB (seqL (seqR (seqR (seqR (seqR (seqR (seqR ((bodyOf Tryz.prog 30)))))))))))) (mkA Rel40) (mkW Reh41) .normal ([] : List Value).toArray (mkA Rel42) (mkW Reh43) :=
  seg1_ev (O := Orc.none) (n := 5000) (m := [0, 1, 2, 3, 4, 5, 6, 7, 8, 9, 10, 11, 12, 13, 14, 15, 16, 17, 18, 19, 20, 29, 30, 31]) hσ (OrcOK.none _ _ _ _) (by decide +kernel)
theorem Rep22 {σ : Nat → Value} (hσ : ∀ j, OneC (σ j)) {W0 : World} {H : Nat} : Seg1 Tryz.prog σ W0 H 2 ([] : List Value).toArray (.code (inL (inB (seqL (seqR (seqR (seqR (seqR (seqR (seqR ((bodyOf Tryz.prog 30)))))))))))) (mkA Rel42) (mkW Reh43) .normal ([] : List Value).toArray (mkA Rel44) (mkW Reh45) :=
  seg1_ev (O := Orc.none) (n := 5000) (m := [0, 1, 2, 3, 4, 5, 6, 7, 8, 9, 10, 11, 12, 13, 14, 15, 16, 17, 18, 19]) hσ (OrcOK.none _ _ _ _) (by decide +kernel)
theorem Rep23 {σ : Nat → Value} (hσ : ∀ j, OneC (σ j)) {W0 : World} {H : Nat} : Seg1 Tryz.prog σ W0 H 2 ([] : List Value).toArray (.code (inL (inB (seqL (seqR (seqR (seqR (seqR (seqR (seqR ((bodyOf Tryz.prog 30)))))))))))) (mkA Rel44) (mkW Reh45) (.exit 0) ([] : List Value).toArray (mkA Rel46) (mkW Reh47) :=
  seg1_ev (O := Orc.none) (n := 5000) (m := [0, 1, 2, 3, 4, 5, 6, 7, 8, 9, 10, 11, 12, 13, 14, 15, 16, 17, 18, 19]) hσ (OrcOK.none _ _ _ _) (by decide +kernel)
end Go.Proofs.YtlgbahkioimkfaaGreatDoor
