/- dustpan/dustpanlaw24.awake: pieces (printed by gen_run.py). -/
import Derived.Test.YtickhjoakbldpaaGreatDoorRaS
namespace Go.Proofs.YtickhjoakbldpaaGreatDoor
open Go.RowKit
set_option linter.unusedVariables false
set_option maxRecDepth 100000
theorem Rap8 {σ : Nat → Value} (hσ : ∀ j, OneC (σ j)) {W0 : World} {H : Nat} : Seg Tryz.prog σ W0 H 2 [] (.code (inL (inB (seqL (seqR (seqR (seqR (seqR (bodyOf Tryz.prog 19))))))))) (mkA Ral7) (mkW Rah7) .normal (mkA Ral8) (mkW Rah8) :=
  seg_ev (O := Orc.none) (n := 5000) hσ (OrcOK.none _ _ _ _) (by decide +kernel)
theorem Rap9 {σ : Nat → Value} (hσ : ∀ j, OneC (σ j)) {W0 : World} {H : Nat} : Seg Tryz.prog σ W0 H 2 [] (.code (inL (inB (seqL (seqR (seqR (seqR (seqR (bodyOf Tryz.prog 19))))))))) (mkA Ral8) (mkW Rah8) .normal (mkA Ral9) (mkW Rah9) :=
  seg_ev (O := Orc.none) (n := 5000) hσ (OrcOK.none _ _ _ _) (by decide +kernel)
theorem Rap10 {σ : Nat → Value} (hσ : ∀ j, OneC (σ j)) {W0 : World} {H : Nat} : Seg Tryz.prog σ W0 H 2 [] (.code (inL (inB (seqL (seqR (seqR (seqR (seqR (bodyOf Tryz.prog 19))))))))) (mkA Ral9) (mkW Rah9) .normal (mkA Ral10) (mkW Rah10) :=
  seg_ev (O := Orc.none) (n := 5000) hσ (OrcOK.none _ _ _ _) (by decide +kernel)
theorem Rap11 {σ : Nat → Value} (hσ : ∀ j, OneC (σ j)) {W0 : World} {H : Nat} : Seg Tryz.prog σ W0 H 2 [] (.code (inL (inB (seqL (seqR (seqR (seqR (seqR (bodyOf Tryz.prog 19))))))))) (mkA Ral10) (mkW Rah10) .normal (mkA Ral11) (mkW Rah11) :=
  seg_ev (O := Orc.none) (n := 5000) hσ (OrcOK.none _ _ _ _) (by decide +kernel)
end Go.Proofs.YtickhjoakbldpaaGreatDoor
