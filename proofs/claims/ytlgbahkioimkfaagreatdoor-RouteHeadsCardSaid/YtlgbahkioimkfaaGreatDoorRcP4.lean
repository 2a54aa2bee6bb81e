/- dustpan/dustpanlaw18.awake: pieces (printed by gen_run4.py). -/
import Derived.Test.YtlgbahkioimkfaaGreatDoorRcS
namespace Go.Proofs.YtlgbahkioimkfaaGreatDoor
open Go.RowKit
set_option linter.unusedVariables false
set_option maxRecDepth 100000
theorem Rcp24 {σ : Nat → Value} (hσ : ∀ j, OneC (σ j)) {W0 : World} {H : Nat} : Seg1 Tryz.prog σ W0 H 2 Rcr66.toArray (.code (seqL (seqR (seqR (seqR (seqR (seqR (seqR (seqR (seqR (seqR (seqR (seqR ((bodyOf Tryz.prog 39))))))))))))))) (mkA Rcl64) (mkW Rch65) .normal Rcr69.toArray (mkA Rcl67) (mkW Rch68) :=
  seg1_ev (O := Orc.none) (n := 5000) (m := [0, 1, 2, 3, 4, 5, 6, 7, 8, 9, 10, 11, 12, 13, 14, 15, 16, 17]) hσ (OrcOK.none _ _ _ _) (by decide +kernel)
theorem Rcp25 {σ : Nat → Value} (hσ : ∀ j, OneC (σ j)) {W0 : World} {H : Nat} : Seg1 Tryz.prog σ W0 H 2 Rcr69.toArray (.code (seqL (seqR (seqR (seqR (seqR (seqR (seqR (seqR (seqR (seqR (seqR (seqR (seqR ((bodyOf Tryz.prog 39)))))))))))))))) (mkA Rcl67) (mkW Rch68) .normal Rcr72.toArray (mkA Rcl70) (mkW Rch71) :=
  seg1_ev (O := Orc.none) (n := 5000) (m := [0, 1, 2, 3, 4, 5, 6, 7, 8, 9, 10, 11, 12, 13, 14, 15, 16, 17]) hσ (OrcOK.none _ _ _ _) (by decide +kernel)
theorem Rcp26 {σ : Nat → Value} (hσ : ∀ j, OneC (σ j)) {W0 : World} {H : Nat} : Seg1 Tryz.prog σ W0 H 2 Rcr72.toArray (.code (seqR (seqR (seqR (seqR (seqR (seqR (seqR (seqR (seqR (seqR (seqR (seqR (seqR ((bodyOf Tryz.prog 39)))))))))))))))) (mkA Rcl70) (mkW Rch71) .ret Rcr75.toArray (mkA Rcl73) (mkW Rch74) :=
  seg1_ev (O := Orc.none) (n := 5000) (m := [0, 1, 2, 3, 4, 5, 6, 7, 8, 9, 10, 11, 12, 13, 14, 15, 16, 17]) hσ (OrcOK.none _ _ _ _) (by decide +kernel)
theorem Rcp27 {σ : Nat → Value} (hσ : ∀ j, OneC (σ j)) {W0 : World} {H : Nat} : Seg1 Tryz.prog σ W0 H 2 (List.take 0 Rcr75).toArray (.ops (regOps (seqL (seqR (seqR (seqR (seqR ((bodyOf Tryz.prog 12)))))))) ((List.range (regOps (seqL (seqR (seqR (seqR (seqR ((bodyOf Tryz.prog 12)))))))).size).drop (2 + 1))) (mkA Rcl76) (mkW Rch74) .normal ([] : List Value).toArray (mkA Rcl77) (mkW Rch78) :=
  seg1_ev (O := Orc.none) (n := 5000) (m := [0, 1, 2, 3, 4, 5, 6, 7, 8, 9, 10, 11, 12, 13, 14, 15, 16]) hσ (OrcOK.none _ _ _ _) (by decide +kernel)
theorem Rcp28 {σ : Nat → Value} (hσ : ∀ j, OneC (σ j)) {W0 : World} {H : Nat} : Seg1 Tryz.prog σ W0 H 2 ([] : List Value).toArray (.code (seqL (seqR (seqR (seqR (seqR (seqR ((bodyOf Tryz.prog 12))))))))) (mkA Rcl77) (mkW Rch78) .normal ([] : List Value).toArray (mkA Rcl79) (mkW Rch80) :=
  seg1_ev (O := Orc.none) (n := 5000) (m := [0, 1, 2, 3, 4, 5, 6, 7, 8, 9, 10, 11, 12, 13, 14, 15, 16, 17, 18, 21, 22, 27, 28]) hσ (OrcOK.none _ _ _ _) (by decide +kernel)
theorem Rcp29 {σ : Nat → Value} (hσ : ∀ j, OneC (σ j)) {W0 : World} {H : Nat} : Seg1 Tryz.prog σ W0 H 2 ([] : List Value).toArray (.code (seqL (seqR (seqR (seqR (seqR (seqR (seqR ((bodyOf Tryz.prog 12)))))))))) (mkA Rcl79) (mkW Rch80) .normal ([] : List Value).toArray (mkA Rcl81) (mkW Rch82) :=
  seg1_ev (O := Orc.none) (n := 5000) (m := [0, 1, 2, 3, 4, 5, 6, 7, 8, 9, 10, 11, 12, 13, 14, 15, 16, 17, 18, 19, 20, 21, 22]) hσ (OrcOK.none _ _ _ _) (by decide +kernel)
end Go.Proofs.YtlgbahkioimkfaaGreatDoor
