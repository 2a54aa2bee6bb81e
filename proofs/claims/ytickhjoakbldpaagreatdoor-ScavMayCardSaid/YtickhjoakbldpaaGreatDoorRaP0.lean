/- dustpan/dustpanlaw24.awake: pieces (printed by gen_run.py). -/
import Derived.Test.YtickhjoakbldpaaGreatDoorRaS
namespace Go.Proofs.YtickhjoakbldpaaGreatDoor
open Go.RowKit
set_option linter.unusedVariables false
set_option maxRecDepth 100000
theorem Rap0 {σ : Nat → Value} (hσ : ∀ j, OneC (σ j)) {W0 : World} {H : Nat} : Seg Tryz.prog σ W0 H 2 [] (.code (seqL (bodyOf Tryz.prog 19))) { tmps := #[] ++ Array.replicate (50 - 0) undef, defers := [] } (baseWorld 2 tabB) .normal (mkA Ral0) (mkW Rah0) :=
  seg_ev (O := Orc.none) (n := 5000) hσ (OrcOK.none _ _ _ _) (by decide +kernel)
theorem Rap1 {σ : Nat → Value} (hσ : ∀ j, OneC (σ j)) {W0 : World} {H : Nat} : Seg Tryz.prog σ W0 H 2 [] (.code (seqL (seqR (bodyOf Tryz.prog 19)))) (mkA Ral0) (mkW Rah0) .normal (mkA Ral1) (mkW Rah1) :=
  seg_ev (O := Orc.none) (n := 5000) hσ (OrcOK.none _ _ _ _) (by decide +kernel)
theorem Rap2 {σ : Nat → Value} (hσ : ∀ j, OneC (σ j)) {W0 : World} {H : Nat} : Seg Tryz.prog σ W0 H 2 [] (.code (seqL (seqR (seqR (bodyOf Tryz.prog 19))))) (mkA Ral1) (mkW Rah1) .normal (mkA Ral2) (mkW Rah2) :=
  seg_ev (O := Orc.none) (n := 5000) hσ (OrcOK.none _ _ _ _) (by decide +kernel)
theorem Rap3 {σ : Nat → Value} (hσ : ∀ j, OneC (σ j)) {W0 : World} {H : Nat} : Seg Tryz.prog σ W0 H 2 [] (.code (seqL (seqR (seqR (seqR (bodyOf Tryz.prog 19)))))) (mkA Ral2) (mkW Rah2) .normal (mkA Ral3) (mkW Rah3) :=
  seg_ev (O := Orc.none) (n := 5000) hσ (OrcOK.none _ _ _ _) (by decide +kernel)
end Go.Proofs.YtickhjoakbldpaaGreatDoor
