/- dustpan/dustpanlaw24.awake: pieces (printed by gen_run.py). -/
import Derived.Test.YtickhjoakbldpaaGreatDoorRaS
namespace Go.Proofs.YtickhjoakbldpaaGreatDoor
open Go.RowKit
set_option linter.unusedVariables false
set_option maxRecDepth 100000
theorem Rap4 {σ : Nat → Value} (hσ : ∀ j, OneC (σ j)) {W0 : World} {H : Nat} : Seg Tryz.prog σ W0 H 2 [] (.code (inL (inB (seqL (seqR (seqR (seqR (seqR (bodyOf Tryz.prog 19))))))))) (mkA Ral3) (mkW Rah3) .normal (mkA Ral4) (mkW Rah4) :=
  seg_ev (O := Orc.none) (n := 5000) hσ (OrcOK.none _ _ _ _) (by decide +kernel)
theorem Rap5 {σ : Nat → Value} (hσ : ∀ j, OneC (σ j)) {W0 : World} {H : Nat} : Seg Tryz.prog σ W0 H 2 [] (.code (inL (inB (seqL (seqR (seqR (seqR (seqR (bodyOf Tryz.prog 19))))))))) (mkA Ral4) (mkW Rah4) .normal (mkA Ral5) (mkW Rah5) :=
  seg_ev (O := Orc.none) (n := 5000) hσ (OrcOK.none _ _ _ _) (by decide +kernel)
theorem Rap6 {σ : Nat → Value} (hσ : ∀ j, OneC (σ j)) {W0 : World} {H : Nat} : Seg Tryz.prog σ W0 H 2 [] (.code (inL (inB (seqL (seqR (seqR (seqR (seqR (bodyOf Tryz.prog 19))))))))) (mkA Ral5) (mkW Rah5) .normal (mkA Ral6) (mkW Rah6) :=
  seg_ev (O := Orc.none) (n := 5000) hσ (OrcOK.none _ _ _ _) (by decide +kernel)
theorem Rap7 {σ : Nat → Value} (hσ : ∀ j, OneC (σ j)) {W0 : World} {H : Nat} : Seg Tryz.prog σ W0 H 2 [] (.code (inL (inB (seqL (seqR (seqR (seqR (seqR (bodyOf Tryz.prog 19))))))))) (mkA Ral6) (mkW Rah6) .normal (mkA Ral7) (mkW Rah7) :=
  seg_ev (O := Orc.none) (n := 5000) hσ (OrcOK.none _ _ _ _) (by decide +kernel)
end Go.Proofs.YtickhjoakbldpaaGreatDoor
