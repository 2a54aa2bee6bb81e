/- dustpan/dustpanlaw21.awake: pieces (printed by gen_run4.py). -/
import Derived.Test.YtlgbahkioimkfaaGreatDoorRfS
namespace Go.Proofs.YtlgbahkioimkfaaGreatDoor
open Go.RowKit
set_option linter.unusedVariables false
set_option maxRecDepth 100000
theorem Rfp30 {σ : Nat → Value} (hσ : ∀ j, OneC (σ j)) {W0 : World} {H : Nat} : Seg1 Tryz.prog σ W0 H 2 Rfr84.toArray (.code (inL (inB (seqL (seqR (seqR (seqR ((bodyOf Tryz.prog 81))))))))) (mkA Rfl82) (mkW Rfh83) .normal Rfr87.toArray (mkA Rfl85) (mkW Rfh86) :=
  seg1_ev (O := Orc.none) (n := 5000) (m := [0, 1, 2, 3, 4, 5, 6, 7, 8, 9, 10, 11, 12, 24, 29, 30, 31]) hσ (OrcOK.none _ _ _ _) (by decide +kernel)
theorem Rfp31 {σ : Nat → Value} (hσ : ∀ j, OneC (σ j)) {W0 : World} {H : Nat} : Seg1 Tryz.prog σ W0 H 2 Rfr87.toArray (.code (inL (inB (seqL (seqR (seqR (seqR ((bodyOf Tryz.prog 81))))))))) (mkA Rfl85) (mkW Rfh86) .normal Rfr90.toArray (mkA Rfl88) (mkW Rfh89) :=
  seg1_ev (O := Orc.none) (n := 5000) (m := [0, 1, 2, 3, 4, 5, 6, 7, 8, 9, 10, 21, 22, 23, 26, 27, 28, 29, 30, 31, 32]) hσ (OrcOK.none _ _ _ _) (by decide +kernel)
theorem Rfp32 {σ : Nat → Value} (hσ : ∀ j, OneC (σ j)) {W0 : World} {H : Nat} : Seg1 Tryz.prog σ W0 H 2 Rfr90.toArray (.code (inL (inB (seqL (seqR (seqR (seqR ((bodyOf Tryz.prog 81))))))))) (mkA Rfl88) (mkW Rfh89) .normal Rfr93.toArray (mkA Rfl91) (mkW Rfh92) :=
  seg1_ev (O := Orc.none) (n := 5000) (m := [0, 1, 2, 3, 4, 5, 6, 7, 8, 9, 10]) hσ (OrcOK.none _ _ _ _) (by decide +kernel)
theorem Rfp33 {σ : Nat → Value} (hσ : ∀ j, OneC (σ j)) {W0 : World} {H : Nat} : Seg1 Tryz.prog σ W0 H 2 Rfr93.toArray (.code (inL (inB (seqL (seqR (seqR (seqR ((bodyOf Tryz.prog 81))))))))) (mkA Rfl91) (mkW Rfh92) (.exit 0) Rfr96.toArray (mkA Rfl94) (mkW Rfh95) :=
  seg1_ev (O := Orc.none) (n := 5000) (m := [0, 1, 2, 3, 4, 5, 6, 7, 8, 9, 10]) hσ (OrcOK.none _ _ _ _) (by decide +kernel)
theorem Rfp34 {σ : Nat → Value} (hσ : ∀ j, OneC (σ j)) {W0 : World} {H : Nat} : Seg1 Tryz.prog σ W0 H 2 Rfr96.toArray (.code (seqL (seqR (seqR (seqR (seqR ((bodyOf Tryz.prog 81)))))))) (mkA Rfl94) (mkW Rfh95) .normal Rfr99.toArray (mkA Rfl97) (mkW Rfh98) :=
  seg1_ev (O := Orc.none) (n := 5000) (m := [0, 1, 2, 3, 4, 5, 6, 7, 8, 9, 10]) hσ (OrcOK.none _ _ _ _) (by decide +kernel)
end Go.Proofs.YtlgbahkioimkfaaGreatDoor
