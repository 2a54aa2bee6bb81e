/- dustpan/dustpanlaw19.awake: pieces (printed by gen_run4.py). -/
import Derived.Test.YtlgbahkioimkfaaGreatDoorReS
namespace Go.Proofs.YtlgbahkioimkfaaGreatDoor
open Go.RowKit
set_option linter.unusedVariables false
set_option maxRecDepth 100000
theorem Rep24 {σ : Nat → Value} (hσ : ∀ j, OneC (σ j)) {W0 : World} {H : Nat} : Seg1 Tryz.prog σ W0 H 2 ([] : List Value).toArray (.code (seqL (seqR (seqR (seqR (seqR (seqR (seqR (seqR ((bodyOf Tryz.prog 30))))))))))) (mkA Rel46) (mkW Reh47) .normal ([] : List Value).toArray (mkA Rel48) (mkW Reh49) :=
  seg1_ev (O := Orc.none) (n := 5000) (m := [0, 1, 2, 3, 4, 5, 6, 7, 8, 9, 10, 11, 12, 13, 14, 15, 16, 17, 18, 19, 41]) hσ (OrcOK.none _ _ _ _) (by decide +kernel)
theorem Rep25 {σ : Nat → Value} (hσ : ∀ j, OneC (σ j)) {W0 : World} {H : Nat} : Seg1 Tryz.prog σ W0 H 2 ([] : List Value).toArray (.code (seqL (seqR (seqR (seqR (seqR (seqR (seqR (seqR (seqR ((bodyOf Tryz.prog 30)))))))))))) (mkA Rel48) (mkW Reh49) .normal ([] : List Value).toArray (mkA Rel50) (mkW Reh51) :=
  seg1_ev (O := Orc.none) (n := 5000) (m := [0, 1, 2, 3, 4, 5, 6, 7, 8, 9, 10, 11, 12, 13, 14, 15, 16, 17, 18, 19, 20]) hσ (OrcOK.none _ _ _ _) (by decide +kernel)
theorem Rep26 {σ : Nat → Value} (hσ : ∀ j, OneC (σ j)) {W0 : World} {H : Nat} : Seg1 Tryz.prog σ W0 H 2 ([] : List Value).toArray (.code (seqR (seqR (seqR (seqR (seqR (seqR (seqR (seqR (seqR ((bodyOf Tryz.prog 30)))))))))))) (mkA Rel50) (mkW Reh51) .ret ([] : List Value).toArray (mkA Rel52) (mkW Reh53) :=
  seg1_ev (O := Orc.none) (n := 5000) (m := [0, 1, 2, 3, 4, 5, 6, 7, 8, 9, 10, 11, 12, 13, 14, 15, 16, 17, 18, 19, 20]) hσ (OrcOK.none _ _ _ _) (by decide +kernel)
end Go.Proofs.YtlgbahkioimkfaaGreatDoor
