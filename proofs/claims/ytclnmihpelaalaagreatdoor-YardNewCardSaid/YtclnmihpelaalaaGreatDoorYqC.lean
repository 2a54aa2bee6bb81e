/- Law 27's example: pieces of its run (printed by gen_aw27.py). -/
import Derived.Test.YtclnmihpelaalaaGreatDoorYqA
namespace Go.Proofs.YtclnmihpelaalaaGreatDoor
open Go.RowKit Go.IntWalk
set_option linter.unusedVariables false
set_option linter.unusedSimpArgs false
set_option maxRecDepth 100000
theorem Yqp22 {σ : Nat → Value} (hσ : ∀ j, OneC (σ j)) {W0 : World} {H : Nat} (hO : OrcOK Tryz.prog σ W0 H (orcG [] [] noMk)) : Seg1 Tryz.prog σ W0 H 2 ([] : List Value).toArray (.code (inL (inB (seqR (seqL (seqR (seqR (seqR ((bodyOf Tryz.prog 4)))))))))) (mkA Yql221) (mkW Yqh225) .normal ([] : List Value).toArray (mkA Yql229) (mkW Yqh237) :=
  seg1_ev (O := orcG [] [] noMk) (n := 60000) (m := [0, 1, 2, 3, 4, 5, 6, 7, 8, 9, 10, 11, 12, 13, 14, 15, 16, 17, 18, 19, 20, 22, 46, 47, 52, 53, 54]) hσ hO (by decide +kernel)
theorem Yqp23 {σ : Nat → Value} (hσ : ∀ j, OneC (σ j)) {W0 : World} {H : Nat} (hO : OrcOK Tryz.prog σ W0 H (orcG [] [] noMk)) : Seg1 Tryz.prog σ W0 H 2 ([] : List Value).toArray (.code (inL (inB (seqR (seqL (seqR (seqR (seqR ((bodyOf Tryz.prog 4)))))))))) (mkA Yql229) (mkW Yqh237) .normal ([] : List Value).toArray (mkA Yql241) (mkW Yqh247) :=
  seg1_ev (O := orcG [] [] noMk) (n := 60000) (m := [0, 1, 2, 3, 4, 5, 6, 7, 8, 9, 10, 11, 12, 13, 14, 15, 16, 17, 18, 19, 20, 21, 22, 37, 38, 39]) hσ hO (by decide +kernel)
theorem Yqp24 {σ : Nat → Value} (hσ : ∀ j, OneC (σ j)) {W0 : World} {H : Nat} (hO : OrcOK Tryz.prog σ W0 H (orcG [] [] noMk)) : Seg1 Tryz.prog σ W0 H 2 ([] : List Value).toArray (.code (inL (inB (seqR (seqL (seqR (seqR (seqR ((bodyOf Tryz.prog 4)))))))))) (mkA Yql241) (mkW Yqh247) .normal ([] : List Value).toArray (mkA Yql251) (mkW Yqh255) :=
  seg1_ev (O := orcG [] [] noMk) (n := 60000) (m := [0, 1, 2, 3, 4, 5, 6, 7, 8, 9, 10, 11, 12, 13, 14, 15, 21, 38, 41, 42]) hσ hO (by decide +kernel)
theorem Yqp25 {σ : Nat → Value} (hσ : ∀ j, OneC (σ j)) {W0 : World} {H : Nat} (hO : OrcOK Tryz.prog σ W0 H (orcG [] [] noMk)) : Seg1 Tryz.prog σ W0 H 2 ([] : List Value).toArray (.code (inL (inB (seqR (seqL (seqR (seqR (seqR ((bodyOf Tryz.prog 4)))))))))) (mkA Yql251) (mkW Yqh255) .normal ([] : List Value).toArray (mkA Yql259) (mkW Yqh264) :=
  seg1_ev (O := orcG [] [] noMk) (n := 60000) (m := [0, 1, 2, 3, 4, 5, 6, 7, 8, 9, 10, 11, 12, 13, 14, 15, 16, 17, 26, 31, 32]) hσ hO (by decide +kernel)
theorem Yqp26 {σ : Nat → Value} (hσ : ∀ j, OneC (σ j)) {W0 : World} {H : Nat} (hO : OrcOK Tryz.prog σ W0 H (orcG [] [] noMk)) : Seg1 Tryz.prog σ W0 H 2 ([] : List Value).toArray (.code (inL (inB (seqR (seqL (seqR (seqR (seqR ((bodyOf Tryz.prog 4)))))))))) (mkA Yql259) (mkW Yqh264) .normal ([] : List Value).toArray (mkA Yql268) (mkW Yqh273) :=
  seg1_ev (O := orcG [] [] noMk) (n := 60000) (m := [0, 1, 2, 3, 4, 5, 6, 7, 8, 9, 10, 11, 12, 13, 14, 15, 16, 17, 18, 32, 37, 38, 39]) hσ hO (by decide +kernel)
theorem Yqp27 {σ : Nat → Value} (hσ : ∀ j, OneC (σ j)) {W0 : World} {H : Nat} (hO : OrcOK Tryz.prog σ W0 H (orcG [] [] noMk)) : Seg1 Tryz.prog σ W0 H 2 ([] : List Value).toArray (.code (inL (inB (seqR (seqL (seqR (seqR (seqR ((bodyOf Tryz.prog 4)))))))))) (mkA Yql268) (mkW Yqh273) .normal ([] : List Value).toArray (mkA Yql277) (mkW Yqh289) :=
  seg1_ev (O := orcG [] [] noMk) (n := 60000) (m := [0, 1, 2, 3, 4, 5, 6, 7, 8, 9, 10, 11, 12, 13, 14, 15, 16, 29, 30, 31, 34, 35, 36, 37, 38, 39, 40]) hσ hO (by decide +kernel)
theorem Yqp28 {σ : Nat → Value} (hσ : ∀ j, OneC (σ j)) {W0 : World} {H : Nat} (hO : OrcOK Tryz.prog σ W0 H (orcG [] [] noMk)) : Seg1 Tryz.prog σ W0 H 2 ([] : List Value).toArray (.code (inL (inB (seqR (seqL (seqR (seqR (seqR ((bodyOf Tryz.prog 4)))))))))) (mkA Yql277) (mkW Yqh289) .normal ([] : List Value).toArray (mkA Yql293) (mkW Yqh300) :=
  seg1_ev (O := orcG [] [] noMk) (n := 60000) (m := [0, 1, 2, 3, 4, 5, 6, 7, 8, 9, 10, 11, 12, 13, 15, 16, 74, 76]) hσ hO (by decide +kernel)
theorem Yqp29 {σ : Nat → Value} (hσ : ∀ j, OneC (σ j)) {W0 : World} {H : Nat} (hO : OrcOK Tryz.prog σ W0 H (orcG [] [] noMk)) : Seg1 Tryz.prog σ W0 H 2 ([] : List Value).toArray (.code (inL (inB (seqR (seqL (seqR (seqR (seqR ((bodyOf Tryz.prog 4)))))))))) (mkA Yql293) (mkW Yqh300) (.exit 0) ([] : List Value).toArray (mkA Yql302) (mkW Yqh303) :=
  seg1_ev (O := orcG [] [] noMk) (n := 60000) (m := [0, 1, 2, 3, 4, 5, 6, 7, 8, 9, 10, 11, 12, 13, 14, 15, 16, 17]) hσ hO (by decide +kernel)
theorem Yqp30 {σ : Nat → Value} (hσ : ∀ j, OneC (σ j)) {W0 : World} {H : Nat} (hO : OrcOK Tryz.prog σ W0 H (orcG [] [] noMk)) : Seg1 Tryz.prog σ W0 H 2 ([] : List Value).toArray (.code (seqL (seqR (seqR (seqR (seqR ((bodyOf Tryz.prog 4)))))))) (mkA Yql302) (mkW Yqh303) .normal ([] : List Value).toArray (mkA Yql306) (mkW Yqh307) :=
  seg1_ev (O := orcG [] [] noMk) (n := 60000) (m := [0, 1, 2, 3, 4, 5, 6, 7, 8, 9, 10, 11, 12, 13, 14, 15, 16, 17, 19]) hσ hO (by decide +kernel)
theorem Yqp31 {σ : Nat → Value} (hσ : ∀ j, OneC (σ j)) {W0 : World} {H : Nat} (hO : OrcOK Tryz.prog σ W0 H (orcG [] [] noMk)) : Seg1 Tryz.prog σ W0 H 2 ([] : List Value).toArray (.code (seqL (seqR (seqR (seqR (seqR (seqR ((bodyOf Tryz.prog 4))))))))) (mkA Yql306) (mkW Yqh307) .normal ([] : List Value).toArray (mkA Yql313) (mkW Yqh314) :=
  seg1_ev (O := orcG [] [] noMk) (n := 60000) (m := [0, 1, 2, 3, 4, 5, 6, 7, 8, 9, 10, 11, 12, 13, 14, 15, 16, 17, 18]) hσ hO (by decide +kernel)
theorem Yqp32 {σ : Nat → Value} (hσ : ∀ j, OneC (σ j)) {W0 : World} {H : Nat} (hO : OrcOK Tryz.prog σ W0 H (orcG [] [] noMk)) : Seg1 Tryz.prog σ W0 H 2 ([] : List Value).toArray (.code (seqR (seqR (seqR (seqR (seqR (seqR ((bodyOf Tryz.prog 4))))))))) (mkA Yql313) (mkW Yqh314) .ret ([] : List Value).toArray (mkA Yql315) (mkW Yqh316) :=
  seg1_ev (O := orcG [] [] noMk) (n := 60000) (m := [0, 1, 2, 3, 4, 5, 6, 7, 8, 9, 10, 11, 12, 13, 14, 15, 16, 17, 18]) hσ hO (by decide +kernel)
end Go.Proofs.YtclnmihpelaalaaGreatDoor
