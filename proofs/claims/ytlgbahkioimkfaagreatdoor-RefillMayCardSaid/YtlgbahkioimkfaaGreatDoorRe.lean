/- dustpan/dustpanlaw19.awake returns true: its pieces, one behind the other (printed by gen_run4.py). -/
import Derived.Test.YtlgbahkioimkfaaGreatDoorReP0
import Derived.Test.YtlgbahkioimkfaaGreatDoorReP1
import Derived.Test.YtlgbahkioimkfaaGreatDoorReP2
import Derived.Test.YtlgbahkioimkfaaGreatDoorReP3
import Derived.Test.YtlgbahkioimkfaaGreatDoorReP4
import Derived.Test.YtlgbahkioimkfaaGreatDoorReP5
import Derived.Test.YtlgbahkioimkfaaGreatDoorReP6
namespace Go.Proofs.YtlgbahkioimkfaaGreatDoor
open Go.RowKit
set_option linter.unusedVariables false
set_option maxRecDepth 100000
theorem Re_any (w : World) (hT : TabR w tabA) (hG : 2 ≤ w.heap.size) : Calls Tryz.prog 30 #[] w fun e w' => e = .returned (.bool true) ∧ Ext w w' := by
  have hσ : ∀ j, OneC ((fun _ => Value.bool true : Nat → Value) j) := fun _ => trivial
  have h : Seg0 Tryz.prog (fun _ => Value.bool true) w w.heap.size 2 (.code (bodyOf Tryz.prog 30)) { tmps := #[] ++ Array.replicate (66 - 0) undef, defers := [] } (baseWorld 2 tabA) .ret (mkA Rel52) (mkW Reh53) :=
    (show Seg1 _ _ _ _ _ #[] _ _ _ _ #[] _ _ from (Seg1.seqP (by rfl) (Rep0 hσ) (Seg1.seqP (by rfl) (Rep1 hσ) (Seg1.seqP (by rfl) (Rep2 hσ) (Seg1.seqP (by rfl) (Seg1.seqP (by rfl) (Rep3 hσ) (Rep4 hσ)) (Seg1.seqP (by rfl) (Rep5 hσ) (Seg1.seqP (by rfl) (Rep6 hσ) (Seg1.seqP (by rfl) (Seg1.loopP (by rfl) (Seg1.loopNext (Rep7 hσ) (Seg1.loopNext (Rep8 hσ) (Seg1.loopNext (Rep9 hσ) (Seg1.loopNext (Rep10 hσ) (Seg1.loopNext (Rep11 hσ) (Seg1.loopNext (Rep12 hσ) (Seg1.loopNext (Rep13 hσ) (Seg1.loopNext (Rep14 hσ) (Seg1.loopNext (Rep15 hσ) (Seg1.loopNext (Rep16 hσ) (Seg1.loopNext (Rep17 hσ) (Seg1.loopNext (Rep18 hσ) (Seg1.loopNext (Rep19 hσ) (Seg1.loopNext (Rep20 hσ) (Seg1.loopNext (Rep21 hσ) (Seg1.loopNext (Rep22 hσ) (Seg1.loopExit (Rep23 hσ))))))))))))))))))) (Seg1.seqP (by rfl) (Rep24 hσ) (Seg1.seqP (by rfl) (Rep25 hσ) (Rep26 hσ))))))))))).zero
  exact calls_of_seg0 hσ hG hT Tryz.func30 rfl h (by first | exact .inl rfl | exact .inr rfl) (v := .bool true) (retTrue_eq (by decide +kernel)) rfl
end Go.Proofs.YtlgbahkioimkfaaGreatDoor
