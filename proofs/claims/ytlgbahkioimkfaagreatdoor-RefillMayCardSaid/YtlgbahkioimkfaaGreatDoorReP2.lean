/- dustpan/dustpanlaw19.awake: pieces (printed by gen_run4.py). -/
import Derived.Test.YtlgbahkioimkfaaGreatDoorReS
namespace Go.Proofs.YtlgbahkioimkfaaGreatDoor
open Go.RowKit
set_option linter.unusedVariables false
set_option maxRecDepth 100000
theorem Rep8 {σ : Nat → Value} (hσ : ∀ j, OneC (σ j)) {W0 : World} {H : Nat} : Seg1 Tryz.prog σ W0 H 2 ([] : List Value).toArray (.code (inL (inB (seqL (seqR (seqR (seqR (seqR (seqR (seqR ((bodyOf Tryz.prog 30)))))))))))) (mkA Rel14) (mkW Reh15) .normal ([] : List Value).toArray (mkA Rel16) (mkW Reh17) :=
  seg1_ev (O := Orc.none) (n := 5000) (m := [0, 1, 2, 3, 4, 5, 6, 7, 8, 9, 10, 11, 12, 13, 14, 15, 16, 17, 18, 19, 37, 38, 39, 58, 59, 60, 75, 76, 77, 78, 79, 80, 81]) hσ (OrcOK.none _ _ _ _) (by decide +kernel)
theorem Rep9 {σ : Nat → Value} (hσ : ∀ j, OneC (σ j)) {W0 : World} {H : Nat} : Seg1 Tryz.prog σ W0 H 2 ([] : List Value).toArray (.code (inL (inB (seqL (seqR (seqR (seqR (seqR (seqR (seqR ((bodyOf Tryz.prog 30)))))))))))) (mkA Rel16) (mkW Reh17) .normal ([] : List Value).toArray (mkA Rel18) (mkW Reh19) :=
  seg1_ev (O := Orc.none) (n := 5000) (m := [0, 1, 2, 3, 4, 5, 6, 7, 8, 9, 10, 11, 12, 13, 14, 15, 16, 17, 18, 19, 48, 49, 50, 69, 70, 71, 86, 87, 88, 89, 90, 91, 92]) hσ (OrcOK.none _ _ _ _) (by decide +kernel)
theorem Rep10 {σ : Nat → Value} (hσ : ∀ j, OneC (σ j)) {W0 : World} {H : Nat} : Seg1 Tryz.prog σ W0 H 2 ([] : List Value).toArray (.code (inL (inB (seqL (seqR (seqR (seqR (seqR (seqR (seqR ((bodyOf Tryz.prog 30)))))))))))) (mkA Rel18) (mkW Reh19) .normal ([] : List Value).toArray (mkA Rel20) (mkW Reh21) :=
  seg1_ev (O := Orc.none) (n := 5000) (m := [0, 1, 2, 3, 4, 5, 6, 7, 8, 9, 10, 11, 12, 13, 14, 15, 16, 17, 18, 19, 48, 49, 51, 65, 104, 106, 107, 111, 112, 113, 114, 115, 116, 117, 118, 119, 120]) hσ (OrcOK.none _ _ _ _) (by decide +kernel)
theorem Rep11 {σ : Nat → Value} (hσ : ∀ j, OneC (σ j)) {W0 : World} {H : Nat} : Seg1 Tryz.prog σ W0 H 2 ([] : List Value).toArray (.code (inL (inB (seqL (seqR (seqR (seqR (seqR (seqR (seqR ((bodyOf Tryz.prog 30)))))))))))) (mkA Rel20) (mkW Reh21) .normal ([] : List Value).toArray (mkA Rel22) (mkW Reh23) :=
  seg1_ev (O := Orc.none) (n := 5000) (m := [0, 1, 2, 3, 4, 5, 6, 7, 8, 9, 10, 11, 12, 13, 14, 15, 16, 17, 18, 19, 20, 21, 22, 25, 26, 35, 36, 51, 52, 53]) hσ (OrcOK.none _ _ _ _) (by decide +kernel)
end Go.Proofs.YtlgbahkioimkfaaGreatDoor
