/- dustpan/dustpanlaw18.awake: pieces (printed by gen_run4.py). -/
import Derived.Test.YtlgbahkioimkfaaGreatDoorRcS
namespace Go.Proofs.YtlgbahkioimkfaaGreatDoor
open Go.RowKit
set_option linter.unusedVariables false
set_option maxRecDepth 100000
theorem Rcp12 {σ : Nat → Value} (hσ : ∀ j, OneC (σ j)) {W0 : World} {H : Nat} : Seg1 Tryz.prog σ W0 H 2 Rcr30.toArray (.code (seqR (seqL (seqR (seqR (seqR (seqR ((bodyOf Tryz.prog 39))))))))) (mkA Rcl28) (mkW Rch29) .normal Rcr33.toArray (mkA Rcl31) (mkW Rch32) :=
  seg1_ev (O := Orc.none) (n := 5000) (m := [0, 1, 2, 3, 4, 5, 6, 7, 8, 9, 10, 11, 12, 13, 14, 15, 16]) hσ (OrcOK.none _ _ _ _) (by decide +kernel)
theorem Rcp13 {σ : Nat → Value} (hσ : ∀ j, OneC (σ j)) {W0 : World} {H : Nat} : Seg1 Tryz.prog σ W0 H 2 Rcr33.toArray (.code (seqL (seqR (seqR (seqR (seqR (seqR ((bodyOf Tryz.prog 39))))))))) (mkA Rcl31) (mkW Rch32) .normal Rcr36.toArray (mkA Rcl34) (mkW Rch35) :=
  seg1_ev (O := Orc.none) (n := 5000) (m := [0, 1, 2, 3, 4, 5, 6, 7, 8, 9, 10, 11, 12, 13, 14, 15, 16]) hσ (OrcOK.none _ _ _ _) (by decide +kernel)
theorem Rcp14 {σ : Nat → Value} (hσ : ∀ j, OneC (σ j)) {W0 : World} {H : Nat} : Seg1 Tryz.prog σ W0 H 2 Rcr36.toArray (.code (seqL (seqR (seqR (seqR (seqR (seqR (seqR ((bodyOf Tryz.prog 39)))))))))) (mkA Rcl34) (mkW Rch35) .normal Rcr39.toArray (mkA Rcl37) (mkW Rch38) :=
  seg1_ev (O := Orc.none) (n := 5000) (m := [0, 1, 2, 3, 4, 5, 6, 7, 8, 9, 10, 11, 12, 13, 14, 15, 16, 18]) hσ (OrcOK.none _ _ _ _) (by decide +kernel)
theorem Rcp15 {σ : Nat → Value} (hσ : ∀ j, OneC (σ j)) {W0 : World} {H : Nat} : Seg1 Tryz.prog σ W0 H 2 Rcr39.toArray (.code (seqL (seqL (seqR (seqR (seqR (seqR (seqR (seqR (seqR ((bodyOf Tryz.prog 39)))))))))))) (mkA Rcl37) (mkW Rch38) .normal Rcr42.toArray (mkA Rcl40) (mkW Rch41) :=
  seg1_ev (O := Orc.none) (n := 5000) (m := [0, 1, 2, 3, 4, 5, 6, 7, 8, 9, 10, 11, 12, 13, 14, 15, 16, 17]) hσ (OrcOK.none _ _ _ _) (by decide +kernel)
theorem Rcp16 {σ : Nat → Value} (hσ : ∀ j, OneC (σ j)) {W0 : World} {H : Nat} : Seg1 Tryz.prog σ W0 H 2 Rcr42.toArray (.code (inL (inB (seqR (seqL (seqR (seqR (seqR (seqR (seqR (seqR (seqR ((bodyOf Tryz.prog 39)))))))))))))) (mkA Rcl40) (mkW Rch41) .normal Rcr45.toArray (mkA Rcl43) (mkW Rch44) :=
  seg1_ev (O := Orc.none) (n := 5000) (m := [0, 1, 2, 3, 4, 5, 6, 7, 8, 9, 10, 11, 12, 13, 14, 15, 16, 17]) hσ (OrcOK.none _ _ _ _) (by decide +kernel)
theorem Rcp17 {σ : Nat → Value} (hσ : ∀ j, OneC (σ j)) {W0 : World} {H : Nat} : Seg1 Tryz.prog σ W0 H 2 Rcr45.toArray (.code (inL (inB (seqR (seqL (seqR (seqR (seqR (seqR (seqR (seqR (seqR ((bodyOf Tryz.prog 39)))))))))))))) (mkA Rcl43) (mkW Rch44) (.exit 0) Rcr48.toArray (mkA Rcl46) (mkW Rch47) :=
  seg1_ev (O := Orc.none) (n := 5000) (m := [0, 1, 2, 3, 4, 5, 6, 7, 8, 9, 10, 11, 12, 13, 14, 15, 16, 17]) hσ (OrcOK.none _ _ _ _) (by decide +kernel)
end Go.Proofs.YtlgbahkioimkfaaGreatDoor
