/- dustpan/dustpanlaw19.awake: pieces (printed by gen_run4.py). -/
import Derived.Test.YtlgbahkioimkfaaGreatDoorReS
namespace Go.Proofs.YtlgbahkioimkfaaGreatDoor
open Go.RowKit
set_option linter.unusedVariables false
set_option maxRecDepth 100000
theorem Rep4 {σ : Nat → Value} (hσ : ∀ j, OneC (σ j)) {W0 : World} {H : Nat} : Seg1 Tryz.prog σ W0 H 2 ([] : List Value).toArray (.code (seqR (seqL (seqR (seqR (seqR ((bodyOf Tryz.prog 30)))))))) (mkA Rel6) (mkW Reh7) .normal ([] : List Value).toArray (mkA Rel8) (mkW Reh9) :=
  seg1_ev (O := Orc.none) (n := 5000) (m := [0, 1, 2, 3, 4, 5, 6, 7, 8, 9, 10, 11, 12, 13, 14, 15, 16]) hσ (OrcOK.none _ _ _ _) (by decide +kernel)
theorem Rep5 {σ : Nat → Value} (hσ : ∀ j, OneC (σ j)) {W0 : World} {H : Nat} : Seg1 Tryz.prog σ W0 H 2 ([] : List Value).toArray (.code (seqL (seqR (seqR (seqR (seqR ((bodyOf Tryz.prog 30)))))))) (mkA Rel8) (mkW Reh9) .normal ([] : List Value).toArray (mkA Rel10) (mkW Reh11) :=
  seg1_ev (O := Orc.none) (n := 5000) (m := [0, 1, 2, 3, 4, 5, 6, 7, 8, 9, 10, 11, 12, 13, 14, 15, 16, 18, 19, 20, 21, 24, 25, 26, 27, 28, 29]) hσ (OrcOK.none _ _ _ _) (by decide +kernel)
theorem Rep6 {σ : Nat → Value} (hσ : ∀ j, OneC (σ j)) {W0 : World} {H : Nat} : Seg1 Tryz.prog σ W0 H 2 ([] : List Value).toArray (.code (seqL (seqR (seqR (seqR (seqR (seqR ((bodyOf Tryz.prog 30))))))))) (mkA Rel10) (mkW Reh11) .normal ([] : List Value).toArray (mkA Rel12) (mkW Reh13) :=
  seg1_ev (O := Orc.none) (n := 5000) (m := [0, 1, 2, 3, 4, 5, 6, 7, 8, 9, 10, 11, 12, 13, 14, 15, 16, 17, 18, 19, 20, 21, 22, 23, 24, 25, 26]) hσ (OrcOK.none _ _ _ _) (by decide +kernel)
theorem Rep7 {σ : Nat → Value} (hσ : ∀ j, OneC (σ j)) {W0 : World} {H : Nat} : Seg1 Tryz.prog σ W0 H 2 ([] : List Value).toArray (.code (inL (inB (seqL (seqR (seqR (seqR (seqR (seqR (seqR ((bodyOf Tryz.prog 30)))))))))))) (mkA Rel12) (mkW Reh13) .normal ([] : List Value).toArray (mkA Rel14) (mkW Reh15) :=
  seg1_ev (O := Orc.none) (n := 5000) (m := [0, 1, 2, 3, 4, 5, 6, 7, 8, 9, 10, 11, 12, 13, 14, 15, 16, 17, 22, 26, 32, 33, 52, 53, 54, 55, 56]) hσ (OrcOK.none _ _ _ _) (by decide +kernel)
end Go.Proofs.YtlgbahkioimkfaaGreatDoor
