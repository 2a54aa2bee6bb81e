/- dustpan/dustpanlaw21.awake: pieces (printed by gen_run4.py). -/
import Derived.Test.YtlgbahkioimkfaaGreatDoorRfS
namespace Go.Proofs.YtlgbahkioimkfaaGreatDoor
open Go.RowKit
set_option linter.unusedVariables false
set_option maxRecDepth 100000
theorem Rfp0 {σ : Nat → Value} (hσ : ∀ j, OneC (σ j)) {W0 : World} {H : Nat} : Seg1 Tryz.prog σ W0 H 2 ([] : List Value).toArray (.code (seqL ((bodyOf Tryz.prog 35)))) { tmps := #[] ++ Array.replicate (50 - 0) undef, defers := [] } (baseWorld 2 tabA) .normal ([] : List Value).toArray (mkA Rfl0) (mkW Rfh1) :=
  seg1_ev (O := Orc.none) (n := 5000) (m := [0, 1]) hσ (OrcOK.none _ _ _ _) (by decide +kernel)
theorem Rfp1 {σ : Nat → Value} (hσ : ∀ j, OneC (σ j)) {W0 : World} {H : Nat} : Seg1 Tryz.prog σ W0 H 2 ([] : List Value).toArray (.code (seqL (seqR ((bodyOf Tryz.prog 35))))) (mkA Rfl0) (mkW Rfh1) .normal ([] : List Value).toArray (mkA Rfl2) (mkW Rfh3) :=
  seg1_ev (O := Orc.none) (n := 5000) (m := [0, 1, 2]) hσ (OrcOK.none _ _ _ _) (by decide +kernel)
theorem Rfp2 {σ : Nat → Value} (hσ : ∀ j, OneC (σ j)) {W0 : World} {H : Nat} : Seg1 Tryz.prog σ W0 H 2 ([] : List Value).toArray (.code (seqL (seqR (seqR ((bodyOf Tryz.prog 35)))))) (mkA Rfl2) (mkW Rfh3) .normal ([] : List Value).toArray (mkA Rfl4) (mkW Rfh5) :=
  seg1_ev (O := Orc.none) (n := 5000) (m := [0, 1, 2, 14, 15, 16, 17, 21, 23, 24]) hσ (OrcOK.none _ _ _ _) (by decide +kernel)
theorem Rfp3 {σ : Nat → Value} (hσ : ∀ j, OneC (σ j)) {W0 : World} {H : Nat} : Seg1 Tryz.prog σ W0 H 2 ([] : List Value).toArray (.code (seqL (seqL (seqR (seqR (seqR ((bodyOf Tryz.prog 35)))))))) (mkA Rfl4) (mkW Rfh5) .normal ([] : List Value).toArray (mkA Rfl6) (mkW Rfh7) :=
  seg1_ev (O := Orc.none) (n := 5000) (m := [0, 1, 2, 3, 4, 5, 6, 7, 8, 9]) hσ (OrcOK.none _ _ _ _) (by decide +kernel)
theorem Rfp4 {σ : Nat → Value} (hσ : ∀ j, OneC (σ j)) {W0 : World} {H : Nat} : Seg1 Tryz.prog σ W0 H 2 ([] : List Value).toArray (.code (seqR (seqL (seqR (seqR (seqR ((bodyOf Tryz.prog 35)))))))) (mkA Rfl6) (mkW Rfh7) .normal ([] : List Value).toArray (mkA Rfl8) (mkW Rfh9) :=
  seg1_ev (O := Orc.none) (n := 5000) (m := [0, 1, 2, 3, 4, 5, 6, 7, 8, 9]) hσ (OrcOK.none _ _ _ _) (by decide +kernel)
end Go.Proofs.YtlgbahkioimkfaaGreatDoor
