/- dustpan/dustpanlaw21.awake: pieces (printed by gen_run4.py). -/
import Derived.Test.YtlgbahkioimkfaaGreatDoorRfS
namespace Go.Proofs.YtlgbahkioimkfaaGreatDoor
open Go.RowKit
set_option linter.unusedVariables false
set_option maxRecDepth 100000
theorem Rfp45 {σ : Nat → Value} (hσ : ∀ j, OneC (σ j)) {W0 : World} {H : Nat} : Seg1 Tryz.prog σ W0 H 2 Rfr129.toArray (.code (inL (inB (seqL (seqR (seqR (seqR ((bodyOf Tryz.prog 81))))))))) (mkA Rfl127) (mkW Rfh128) .normal Rfr132.toArray (mkA Rfl130) (mkW Rfh131) :=
  seg1_ev (O := Orc.none) (n := 5000) (m := [0, 1, 2, 3, 4, 5, 6, 7, 8, 9, 10, 11, 18, 23, 24]) hσ (OrcOK.none _ _ _ _) (by decide +kernel)
theorem Rfp46 {σ : Nat → Value} (hσ : ∀ j, OneC (σ j)) {W0 : World} {H : Nat} : Seg1 Tryz.prog σ W0 H 2 Rfr132.toArray (.code (inL (inB (seqL (seqR (seqR (seqR ((bodyOf Tryz.prog 81))))))))) (mkA Rfl130) (mkW Rfh131) .normal Rfr135.toArray (mkA Rfl133) (mkW Rfh134) :=
  seg1_ev (O := Orc.none) (n := 5000) (m := [0, 1, 2, 3, 4, 5, 6, 7, 8, 9, 10, 11, 12, 24, 29, 30, 31]) hσ (OrcOK.none _ _ _ _) (by decide +kernel)
theorem Rfp47 {σ : Nat → Value} (hσ : ∀ j, OneC (σ j)) {W0 : World} {H : Nat} : Seg1 Tryz.prog σ W0 H 2 Rfr135.toArray (.code (inL (inB (seqL (seqR (seqR (seqR ((bodyOf Tryz.prog 81))))))))) (mkA Rfl133) (mkW Rfh134) .normal Rfr138.toArray (mkA Rfl136) (mkW Rfh137) :=
  seg1_ev (O := Orc.none) (n := 5000) (m := [0, 1, 2, 3, 4, 5, 6, 7, 8, 9, 10, 21, 22, 23, 26, 27, 28, 29, 30, 31, 32]) hσ (OrcOK.none _ _ _ _) (by decide +kernel)
theorem Rfp48 {σ : Nat → Value} (hσ : ∀ j, OneC (σ j)) {W0 : World} {H : Nat} : Seg1 Tryz.prog σ W0 H 2 Rfr138.toArray (.code (inL (inB (seqL (seqR (seqR (seqR ((bodyOf Tryz.prog 81))))))))) (mkA Rfl136) (mkW Rfh137) .normal Rfr141.toArray (mkA Rfl139) (mkW Rfh140) :=
  seg1_ev (O := Orc.none) (n := 5000) (m := [0, 1, 2, 3, 4, 5, 6, 7, 8, 9, 10]) hσ (OrcOK.none _ _ _ _) (by decide +kernel)
theorem Rfp49 {σ : Nat → Value} (hσ : ∀ j, OneC (σ j)) {W0 : World} {H : Nat} : Seg1 Tryz.prog σ W0 H 2 Rfr141.toArray (.code (inL (inB (seqL (seqR (seqR (seqR ((bodyOf Tryz.prog 81))))))))) (mkA Rfl139) (mkW Rfh140) (.exit 0) Rfr144.toArray (mkA Rfl142) (mkW Rfh143) :=
  seg1_ev (O := Orc.none) (n := 5000) (m := [0, 1, 2, 3, 4, 5, 6, 7, 8, 9, 10]) hσ (OrcOK.none _ _ _ _) (by decide +kernel)
end Go.Proofs.YtlgbahkioimkfaaGreatDoor
