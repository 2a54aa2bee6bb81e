/- dustpan/dustpanlaw19.awake: pieces (printed by gen_run4.py). -/
import Derived.Test.YtlgbahkioimkfaaGreatDoorReS
namespace Go.Proofs.YtlgbahkioimkfaaGreatDoor
open Go.RowKit
set_option linter.unusedVariables false
set_option maxRecDepth 100000
theorem Rep0 {σ : Nat → Value} (hσ : ∀ j, OneC (σ j)) {W0 : World} {H : Nat} : Seg1 Tryz.prog σ W0 H 2 ([] : List Value).toArray (.code (seqL ((bodyOf Tryz.prog 30)))) { tmps := #[] ++ Array.replicate (66 - 0) undef, defers := [] } (baseWorld 2 tabA) .normal ([] : List Value).toArray (mkA Rel0) (mkW Reh1) :=
  seg1_ev (O := Orc.none) (n := 5000) (m := [0, 1]) hσ (OrcOK.none _ _ _ _) (by decide +kernel)
theorem Rep1 {σ : Nat → Value} (hσ : ∀ j, OneC (σ j)) {W0 : World} {H : Nat} : Seg1 Tryz.prog σ W0 H 2 ([] : List Value).toArray (.code (seqL (seqR ((bodyOf Tryz.prog 30))))) (mkA Rel0) (mkW Reh1) .normal ([] : List Value).toArray (mkA Rel2) (mkW Reh3) :=
  seg1_ev (O := Orc.none) (n := 5000) (m := [0, 1, 2]) hσ (OrcOK.none _ _ _ _) (by decide +kernel)
theorem Rep2 {σ : Nat → Value} (hσ : ∀ j, OneC (σ j)) {W0 : World} {H : Nat} : Seg1 Tryz.prog σ W0 H 2 ([] : List Value).toArray (.code (seqL (seqR (seqR ((bodyOf Tryz.prog 30)))))) (mkA Rel2) (mkW Reh3) .normal ([] : List Value).toArray (mkA Rel4) (mkW Reh5) :=
  seg1_ev (O := Orc.none) (n := 5000) (m := [0, 1, 2, 15, 16, 17, 18, 22, 24, 25, 32, 33, 34, 35, 36, 40, 41]) hσ (OrcOK.none _ _ _ _) (by decide +kernel)
theorem Rep3 {σ : Nat → Value} (hσ : ∀ j, OneC (σ j)) {W0 : World} {H : Nat} : Seg1 Tryz.prog σ W0 H 2 ([] : List Value).toArray (.code (seqL (seqL (seqR (seqR (seqR ((bodyOf Tryz.prog 30)))))))) (mkA Rel4) (mkW Reh5) .normal ([] : List Value).toArray (mkA Rel6) (mkW Reh7) :=
  seg1_ev (O := Orc.none) (n := 5000) (m := [0, 1, 2, 3, 4, 5, 6, 7, 8, 9, 10, 11, 12, 13, 14, 15, 16]) hσ (OrcOK.none _ _ _ _) (by decide +kernel)
end Go.Proofs.YtlgbahkioimkfaaGreatDoor
