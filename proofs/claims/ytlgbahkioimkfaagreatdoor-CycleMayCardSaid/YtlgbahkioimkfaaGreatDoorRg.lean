/- dustpan/dustpanlaw25.awake returns true: its pieces, one behind the other (printed by gen_run4.py). -/
import Derived.Test.YtlgbahkioimkfaaGreatDoorRgP0
import Derived.Test.YtlgbahkioimkfaaGreatDoorRgP1
import Derived.Test.YtlgbahkioimkfaaGreatDoorRgP2
import Derived.Test.YtlgbahkioimkfaaGreatDoorRgP3
import Derived.Test.YtlgbahkioimkfaaGreatDoorRgP4
import Derived.Test.YtlgbahkioimkfaaGreatDoorRgP5
import Derived.Test.YtlgbahkioimkfaaGreatDoorRgP6
import Derived.Test.YtlgbahkioimkfaaGreatDoorRgP7
import Derived.Test.YtlgbahkioimkfaaGreatDoorRgP8
import Derived.Test.YtlgbahkioimkfaaGreatDoorRgP9
import Derived.Test.YtlgbahkioimkfaaGreatDoorRgP10
import Derived.Test.YtlgbahkioimkfaaGreatDoorRgP11
namespace Go.Proofs.YtlgbahkioimkfaaGreatDoor
open Go.RowKit
set_option linter.unusedVariables false
set_option maxRecDepth 100000
theorem Rg_any (w : World) (hT : TabR w tabA) (hG : 2 ≤ w.heap.size) : Calls Tryz.prog 25 #[] w fun e w' => e = .returned (.bool true) ∧ Ext w w' := by
  have hσ : ∀ j, OneC ((fun _ => Value.bool true : Nat → Value) j) := fun _ => trivial
  have h : Seg0 Tryz.prog (fun _ => Value.bool true) w w.heap.size 2 (.code (bodyOf Tryz.prog 25)) { tmps := #[] ++ Array.replicate (53 - 0) undef, defers := [] } (baseWorld 2 tabA) .ret (mkA Rgl116) (mkW Rgh117) :=
    (show Seg1 _ _ _ _ _ #[] _ _ _ _ #[] _ _ from (Seg1.seqP (by rfl) (Rgp0 hσ) (Seg1.seqP (by rfl) (Rgp1 hσ) (Seg1.seqP (by rfl) (Rgp2 hσ) (Seg1.seqP (by rfl) (Rgp3 hσ) (Seg1.seqP (by rfl) (Seg1.loopP (by rfl) (Seg1.loopNext (Rgp4 hσ) (Seg1.loopNext (Rgp5 hσ) (Seg1.loopNext (Rgp6 hσ) (Seg1.loopNext (Rgp7 hσ) (Seg1.loopNext (Rgp8 hσ) (Seg1.loopNext (Rgp9 hσ) (Seg1.loopNext (Rgp10 hσ) (Seg1.loopNext (Rgp11 hσ) (Seg1.loopNext (Rgp12 hσ) (Seg1.loopNext (Rgp13 hσ) (Seg1.loopNext (Rgp14 hσ) (Seg1.loopNext (Rgp15 hσ) (Seg1.loopNext (Rgp16 hσ) (Seg1.loopNext (Rgp17 hσ) (Seg1.loopNext (Rgp18 hσ) (Seg1.loopNext (Rgp19 hσ) (Seg1.loopNext (Rgp20 hσ) (Seg1.loopNext (Rgp21 hσ) (Seg1.loopNext (Rgp22 hσ) (Seg1.loopNext (Rgp23 hσ) (Seg1.loopNext (Rgp24 hσ) (Seg1.loopNext (Rgp25 hσ) (Seg1.loopNext (Rgp26 hσ) (Seg1.loopNext (Rgp27 hσ) (Seg1.loopNext (Rgp28 hσ) (Seg1.loopNext (Rgp29 hσ) (Seg1.loopNext (Rgp30 hσ) (Seg1.loopNext (Rgp31 hσ) (Seg1.loopNext (Rgp32 hσ) (Seg1.loopNext (Rgp33 hσ) (Seg1.loopNext (Rgp34 hσ) (Seg1.loopNext (Rgp35 hσ) (Seg1.loopNext (Rgp36 hσ) (Seg1.loopNext (Rgp37 hσ) (Seg1.loopNext (Rgp38 hσ) (Seg1.loopNext (Rgp39 hσ) (Seg1.loopNext (Rgp40 hσ) (Seg1.loopNext (Rgp41 hσ) (Seg1.loopNext (Rgp42 hσ) (Seg1.loopNext (Rgp43 hσ) (Seg1.loopNext (Rgp44 hσ) (Seg1.loopNext (Rgp45 hσ) (Seg1.loopNext (Rgp46 hσ) (Seg1.loopNext (Rgp47 hσ) (Seg1.loopNext (Rgp48 hσ) (Seg1.loopNext (Rgp49 hσ) (Seg1.loopNext (Rgp50 hσ) (Seg1.loopNext (Rgp51 hσ) (Seg1.loopNext (Rgp52 hσ) (Seg1.loopNext (Rgp53 hσ) (Seg1.loopNext (Rgp54 hσ) (Seg1.loopExit (Rgp55 hσ)))))))))))))))))))))))))))))))))))))))))))))))))))))) (Seg1.seqP (by rfl) (Rgp56 hσ) (Seg1.seqP (by rfl) (Rgp57 hσ) (Rgp58 hσ))))))))).zero
  exact calls_of_seg0 hσ hG hT Tryz.func25 rfl h (by first | exact .inl rfl | exact .inr rfl) (v := .bool true) (retTrue_eq (by decide +kernel)) rfl
end Go.Proofs.YtlgbahkioimkfaaGreatDoor
