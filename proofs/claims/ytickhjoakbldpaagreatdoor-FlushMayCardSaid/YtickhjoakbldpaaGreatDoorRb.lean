/- dustpan/dustpanlaw22.awake returns true: its pieces, one behind the other (printed by gen_run.py). -/
import Derived.Test.YtickhjoakbldpaaGreatDoorRbP0
import Derived.Test.YtickhjoakbldpaaGreatDoorRbP1
import Derived.Test.YtickhjoakbldpaaGreatDoorRbP2
import Derived.Test.YtickhjoakbldpaaGreatDoorRbP3
import Derived.Test.YtickhjoakbldpaaGreatDoorRbP4
import Derived.Test.YtickhjoakbldpaaGreatDoorRbP5
import Derived.Test.YtickhjoakbldpaaGreatDoorRbP6
namespace Go.Proofs.YtickhjoakbldpaaGreatDoor
open Go.RowKit
set_option linter.unusedVariables false
set_option maxRecDepth 100000
theorem Rb_any (w : World) (hT : TabR w tabA) (hG : 2 ≤ w.heap.size) : Calls Tryz.prog 28 #[] w fun e w' => e = .returned (.bool true) ∧ Ext w w' := by
  have hσ : ∀ j, OneC ((fun _ => Value.bool true : Nat → Value) j) := fun _ => trivial
  have h : Seg Tryz.prog (fun _ => Value.bool true) w w.heap.size 2 [] (.code (bodyOf Tryz.prog 28)) { tmps := #[] ++ Array.replicate (37 - 0) undef, defers := [] } (baseWorld 2 tabA) .ret (mkA Rbl24) (mkW Rbh24) :=
    (Seg.seqP (by rfl) (Rbp0 hσ) (Seg.seqP (by rfl) (Rbp1 hσ) (Seg.seqP (by rfl) (Rbp2 hσ) (Seg.seqP (by rfl) (Rbp3 hσ) (Seg.seqP (by rfl) (Seg.loopP (by rfl) (Seg.loopNext (Rbp4 hσ) (Seg.loopNext (Rbp5 hσ) (Seg.loopNext (Rbp6 hσ) (Seg.loopNext (Rbp7 hσ) (Seg.loopNext (Rbp8 hσ) (Seg.loopNext (Rbp9 hσ) (Seg.loopNext (Rbp10 hσ) (Seg.loopNext (Rbp11 hσ) (Seg.loopNext (Rbp12 hσ) (Seg.loopNext (Rbp13 hσ) (Seg.loopNext (Rbp14 hσ) (Seg.loopNext (Rbp15 hσ) (Seg.loopNext (Rbp16 hσ) (Seg.loopNext (Rbp17 hσ) (Seg.loopNext (Rbp18 hσ) (Seg.loopNext (Rbp19 hσ) (Seg.loopNext (Rbp20 hσ) (Seg.loopNext (Rbp21 hσ) (Seg.loopExit (Rbp22 hσ))))))))))))))))))))) (Seg.seqP (by rfl) (Rbp23 hσ) (Rbp24 hσ)))))))
  exact calls_of_seg hσ hG hT Tryz.func28 rfl h (by first | exact .inl rfl | exact .inr rfl) (v := .bool true) (retTrue_eq (by decide +kernel)) rfl
end Go.Proofs.YtickhjoakbldpaaGreatDoor
