/- dustpan/dustpanlaw24.awake returns true: its pieces, one behind the other (printed by gen_run.py). -/
import Derived.Test.YtickhjoakbldpaaGreatDoorRaP0
import Derived.Test.YtickhjoakbldpaaGreatDoorRaP1
import Derived.Test.YtickhjoakbldpaaGreatDoorRaP2
import Derived.Test.YtickhjoakbldpaaGreatDoorRaP3
import Derived.Test.YtickhjoakbldpaaGreatDoorRaP4
namespace Go.Proofs.YtickhjoakbldpaaGreatDoor
open Go.RowKit
set_option linter.unusedVariables false
set_option maxRecDepth 100000
theorem Ra_any (w : World) (hT : TabR w tabB) (hG : 2 ≤ w.heap.size) : Calls Tryz.prog 19 #[] w fun e w' => e = .returned (.bool true) ∧ Ext w w' := by
  have hσ : ∀ j, OneC ((fun _ => Value.bool true : Nat → Value) j) := fun _ => trivial
  have h : Seg Tryz.prog (fun _ => Value.bool true) w w.heap.size 2 [] (.code (bodyOf Tryz.prog 19)) { tmps := #[] ++ Array.replicate (50 - 0) undef, defers := [] } (baseWorld 2 tabB) .ret (mkA Ral16) (mkW Rah16) :=
    (Seg.seqP (by rfl) (Rap0 hσ) (Seg.seqP (by rfl) (Rap1 hσ) (Seg.seqP (by rfl) (Rap2 hσ) (Seg.seqP (by rfl) (Rap3 hσ) (Seg.seqP (by rfl) (Seg.loopP (by rfl) (Seg.loopNext (Rap4 hσ) (Seg.loopNext (Rap5 hσ) (Seg.loopNext (Rap6 hσ) (Seg.loopNext (Rap7 hσ) (Seg.loopNext (Rap8 hσ) (Seg.loopNext (Rap9 hσ) (Seg.loopNext (Rap10 hσ) (Seg.loopNext (Rap11 hσ) (Seg.loopNext (Rap12 hσ) (Seg.loopExit (Rap13 hσ)))))))))))) (Seg.seqP (by rfl) (Rap14 hσ) (Seg.seqP (by rfl) (Rap15 hσ) (Rap16 hσ))))))))
  exact calls_of_seg hσ hG hT Tryz.func19 rfl h (by first | exact .inl rfl | exact .inr rfl) (v := .bool true) (retTrue_eq (by decide +kernel)) rfl
end Go.Proofs.YtickhjoakbldpaaGreatDoor
