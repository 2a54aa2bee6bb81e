/- dustpan/dustpanlaw18.awake: pieces (printed by gen_run4.py). -/
import Derived.Test.YtlgbahkioimkfaaGreatDoorRcS
namespace Go.Proofs.YtlgbahkioimkfaaGreatDoor
open Go.RowKit
set_option linter.unusedVariables false
set_option maxRecDepth 100000
theorem Rcp0 {σ : Nat → Value} (hσ : ∀ j, OneC (σ j)) {W0 : World} {H : Nat} : Seg1 Tryz.prog σ W0 H 2 ([] : List Value).toArray (.code (seqL ((bodyOf Tryz.prog 12)))) { tmps := #[] ++ Array.replicate (60 - 0) undef, defers := [] } (baseWorld 2 tabA) .normal ([] : List Value).toArray (mkA Rcl0) (mkW Rch1) :=
  seg1_ev (O := Orc.none) (n := 5000) (m := [0, 1]) hσ (OrcOK.none _ _ _ _) (by decide +kernel)
theorem Rcp1 {σ : Nat → Value} (hσ : ∀ j, OneC (σ j)) {W0 : World} {H : Nat} : Seg1 Tryz.prog σ W0 H 2 ([] : List Value).toArray (.code (seqL (seqR ((bodyOf Tryz.prog 12))))) (mkA Rcl0) (mkW Rch1) .normal ([] : List Value).toArray (mkA Rcl2) (mkW Rch3) :=
  seg1_ev (O := Orc.none) (n := 5000) (m := [0, 1, 2]) hσ (OrcOK.none _ _ _ _) (by decide +kernel)
theorem Rcp2 {σ : Nat → Value} (hσ : ∀ j, OneC (σ j)) {W0 : World} {H : Nat} : Seg1 Tryz.prog σ W0 H 2 ([] : List Value).toArray (.code (seqL (seqR (seqR ((bodyOf Tryz.prog 12)))))) (mkA Rcl2) (mkW Rch3) .normal ([] : List Value).toArray (mkA Rcl4) (mkW Rch5) :=
  seg1_ev (O := Orc.none) (n := 5000) (m := [0, 1, 2, 15, 16, 17, 18, 22, 24, 25, 32, 33, 34, 35, 36, 40, 41]) hσ (OrcOK.none _ _ _ _) (by decide +kernel)
theorem Rcp3 {σ : Nat → Value} (hσ : ∀ j, OneC (σ j)) {W0 : World} {H : Nat} : Seg1 Tryz.prog σ W0 H 2 ([] : List Value).toArray (.code (seqL (seqL (seqR (seqR (seqR ((bodyOf Tryz.prog 12)))))))) (mkA Rcl4) (mkW Rch5) .normal ([] : List Value).toArray (mkA Rcl6) (mkW Rch7) :=
  seg1_ev (O := Orc.none) (n := 5000) (m := [0, 1, 2, 3, 4, 5, 6, 7, 8, 9, 10, 11, 12, 13, 14, 15, 16]) hσ (OrcOK.none _ _ _ _) (by decide +kernel)
theorem Rcp4 {σ : Nat → Value} (hσ : ∀ j, OneC (σ j)) {W0 : World} {H : Nat} : Seg1 Tryz.prog σ W0 H 2 ([] : List Value).toArray (.code (seqR (seqL (seqR (seqR (seqR ((bodyOf Tryz.prog 12)))))))) (mkA Rcl6) (mkW Rch7) .normal ([] : List Value).toArray (mkA Rcl8) (mkW Rch9) :=
  seg1_ev (O := Orc.none) (n := 5000) (m := [0, 1, 2, 3, 4, 5, 6, 7, 8, 9, 10, 11, 12, 13, 14, 15, 16]) hσ (OrcOK.none _ _ _ _) (by decide +kernel)
theorem Rcp5 {σ : Nat → Value} (hσ : ∀ j, OneC (σ j)) {W0 : World} {H : Nat} : Seg1 Tryz.prog σ W0 H 2 ([] : List Value).toArray (.ops (regOps (seqL (seqR (seqR (seqR (seqR ((bodyOf Tryz.prog 12)))))))) (List.range 2)) (mkA Rcl8) (mkW Rch9) .normal ([] : List Value).toArray (mkA Rcl10) (mkW Rch11) :=
  seg1_ev (O := Orc.none) (n := 5000) (m := [0, 1, 2, 3, 4, 5, 6, 7, 8, 9, 10, 11, 12, 13, 14, 15, 16]) hσ (OrcOK.none _ _ _ _) (by decide +kernel)
end Go.Proofs.YtlgbahkioimkfaaGreatDoor
