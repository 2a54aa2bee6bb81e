/- dustpan/dustpanlaw23.awake returns true: its pieces, one behind the other (printed by gen_run.py). -/
import Derived.Test.YtickhjoakbldpaaGreatDoorRdP0
import Derived.Test.YtickhjoakbldpaaGreatDoorRdP1
import Derived.Test.YtickhjoakbldpaaGreatDoorRdP2
import Derived.Test.YtickhjoakbldpaaGreatDoorRdP3
import Derived.Test.YtickhjoakbldpaaGreatDoorRdP4
import Derived.Test.YtickhjoakbldpaaGreatDoorRdP5
import Derived.Test.YtickhjoakbldpaaGreatDoorRdP6
import Derived.Test.YtickhjoakbldpaaGreatDoorRdP7
import Derived.Test.YtickhjoakbldpaaGreatDoorRdP8
import Derived.Test.YtickhjoakbldpaaGreatDoorRdP9
import Derived.Test.YtickhjoakbldpaaGreatDoorRdP10
namespace Go.Proofs.YtickhjoakbldpaaGreatDoor
open Go.RowKit
set_option linter.unusedVariables false
set_option maxRecDepth 100000
theorem Rd_any (w : World) (hT : TabR w tabA) (hG : 2 ≤ w.heap.size) : Calls Tryz.prog 33 #[] w fun e w' => e = .returned (.bool true) ∧ Ext w w' := by
  have hσ : ∀ j, OneC ((fun _ => Value.bool true : Nat → Value) j) := fun _ => trivial
  have h : Seg0 Tryz.prog (fun _ => Value.bool true) w w.heap.size 2 (.code (bodyOf Tryz.prog 33)) { tmps := #[] ++ Array.replicate (37 - 0) undef, defers := [] } (baseWorld 2 tabA) .ret (mkA Rdl43) (mkW Rdh43) :=
    (Seg0.seqP (by rfl) (Rdp0 hσ) (Seg0.seqP (by rfl) (Rdp1 hσ) (Seg0.seqP (by rfl) (Rdp2 hσ) (Seg0.seqP (by rfl) (Rdp3 hσ) (Seg0.seqP (by rfl) (Seg0.loopP (by rfl) (Seg0.loopNext (Rdp4 hσ) (Seg0.loopNext (Rdp5 hσ) (Seg0.loopNext (Rdp6 hσ) (Seg0.loopNext (Rdp7 hσ) (Seg0.loopNext (Rdp8 hσ) (Seg0.loopNext (Rdp9 hσ) (Seg0.loopNext (Rdp10 hσ) (Seg0.loopNext (Rdp11 hσ) (Seg0.loopNext (Rdp12 hσ) (Seg0.loopNext (Rdp13 hσ) (Seg0.loopNext (Rdp14 hσ) (Seg0.loopNext (Rdp15 hσ) (Seg0.loopNext (Rdp16 hσ) (Seg0.loopNext (Rdp17 hσ) (Seg0.loopNext (Rdp18 hσ) (Seg0.loopNext (Rdp19 hσ) (Seg0.loopNext (Rdp20 hσ) (Seg0.loopNext (Rdp21 hσ) (Seg0.loopNext (Rdp22 hσ) (Seg0.loopNext (Rdp23 hσ) (Seg0.loopNext (Rdp24 hσ) (Seg0.loopNext (Rdp25 hσ) (Seg0.loopNext (Rdp26 hσ) (Seg0.loopNext (Rdp27 hσ) (Seg0.loopNext (Rdp28 hσ) (Seg0.loopNext (Rdp29 hσ) (Seg0.loopNext (Rdp30 hσ) (Seg0.loopNext (Rdp31 hσ) (Seg0.loopNext (Rdp32 hσ) (Seg0.loopNext (Rdp33 hσ) (Seg0.loopNext (Rdp34 hσ) (Seg0.loopNext (Rdp35 hσ) (Seg0.loopNext (Rdp36 hσ) (Seg0.loopNext (Rdp37 hσ) (Seg0.loopNext (Rdp38 hσ) (Seg0.loopNext (Rdp39 hσ) (Seg0.loopNext (Rdp40 hσ) (Seg0.loopExit (Rdp41 hσ)))))))))))))))))))))))))))))))))))))))) (Seg0.seqP (by rfl) (Rdp42 hσ) (Rdp43 hσ)))))))
  exact calls_of_seg0 hσ hG hT Tryz.func33 rfl h (by first | exact .inl rfl | exact .inr rfl) (v := .bool true) (retTrue_eq (by decide +kernel)) rfl
end Go.Proofs.YtickhjoakbldpaaGreatDoor
