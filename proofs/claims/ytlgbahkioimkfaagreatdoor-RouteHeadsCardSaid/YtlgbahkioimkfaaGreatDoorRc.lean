/- dustpan/dustpanlaw18.awake returns true: its pieces, one behind the other (printed by gen_run4.py). -/
import Derived.Test.YtlgbahkioimkfaaGreatDoorRcP0
import Derived.Test.YtlgbahkioimkfaaGreatDoorRcP1
import Derived.Test.YtlgbahkioimkfaaGreatDoorRcP2
import Derived.Test.YtlgbahkioimkfaaGreatDoorRcP3
import Derived.Test.YtlgbahkioimkfaaGreatDoorRcP4
import Derived.Test.YtlgbahkioimkfaaGreatDoorRcP5
import Derived.Test.YtlgbahkioimkfaaGreatDoorRcP6
import Derived.Test.YtlgbahkioimkfaaGreatDoorRcPc
namespace Go.Proofs.YtlgbahkioimkfaaGreatDoor
open Go.RowKit
set_option linter.unusedVariables false
set_option maxRecDepth 100000
theorem Rc_any (w : World) (hT : TabR w tabA) (hG : 2 ≤ w.heap.size) : Calls Tryz.prog 12 #[] w fun e w' => e = .returned (.bool true) ∧ Ext w w' := by
  have hσ : ∀ j, OneC ((fun _ => Value.bool true : Nat → Value) j) := fun _ => trivial
  have h : Seg0 Tryz.prog (fun _ => Value.bool true) w w.heap.size 2 (.code (bodyOf Tryz.prog 12)) { tmps := #[] ++ Array.replicate (60 - 0) undef, defers := [] } (baseWorld 2 tabA) .ret (mkA Rcl99) (mkW Rch100) :=
    (show Seg1 _ _ _ _ _ #[] _ _ _ _ #[] _ _ from (Seg1.seqP (by rfl) (Rcp0 hσ) (Seg1.seqP (by rfl) (Rcp1 hσ) (Seg1.seqP (by rfl) (Rcp2 hσ) (Seg1.seqP (by rfl) (Seg1.seqP (by rfl) (Rcp3 hσ) (Rcp4 hσ)) (Seg1.seqP (by rfl) (Seg1.regionCall hσ (i := 2) (n := 0) (by rfl) (by decide +kernel) (Rcp5 hσ) Rcc0 (by decide) (by decide) (Seg1.seqP (by rfl) (Rcp6 hσ) (Seg1.seqP (by rfl) (Rcp7 hσ) (Seg1.seqP (by rfl) (Rcp8 hσ) (Seg1.seqP (by rfl) (Seg1.seqP (by rfl) (Rcp9 hσ) (Rcp10 hσ)) (Seg1.seqP (by rfl) (Seg1.seqP (by rfl) (Rcp11 hσ) (Rcp12 hσ)) (Seg1.seqP (by rfl) (Rcp13 hσ) (Seg1.seqP (by rfl) (Rcp14 hσ) (Seg1.seqP (by rfl) (Seg1.seqP (by rfl) (Rcp15 hσ) (Seg1.loopP (by rfl) (Seg1.loopNext (Rcp16 hσ) (Seg1.loopExit (Rcp17 hσ))))) (Seg1.seqP (by rfl) (Seg1.seqP (by rfl) (Rcp18 hσ) (Seg1.loopP (by rfl) (Seg1.loopNext (Rcp19 hσ) (Seg1.loopNext (Rcp20 hσ) (Seg1.loopExit (Rcp21 hσ)))))) (Seg1.seqP (by rfl) (Rcp22 hσ) (Seg1.seqP (by rfl) (Rcp23 hσ) (Seg1.seqP (by rfl) (Rcp24 hσ) (Seg1.seqP (by rfl) (Rcp25 hσ) (Rcp26 hσ)))))))))))))) (by first | exact .inl rfl | exact .inr rfl) Rcc1 (Rcp27 hσ)) (Seg1.seqP (by rfl) (Rcp28 hσ) (Seg1.seqP (by rfl) (Rcp29 hσ) (Seg1.seqP (by rfl) (Seg1.loopP (by rfl) (Seg1.loopNext (Rcp30 hσ) (Seg1.loopNext (Rcp31 hσ) (Seg1.loopNext (Rcp32 hσ) (Seg1.loopNext (Rcp33 hσ) (Seg1.loopNext (Rcp34 hσ) (Seg1.loopNext (Rcp35 hσ) (Seg1.loopExit (Rcp36 hσ))))))))) (Seg1.seqP (by rfl) (Rcp37 hσ) (Rcp38 hσ))))))))))).zero
  exact calls_of_seg0 hσ hG hT Tryz.func12 rfl h (by first | exact .inl rfl | exact .inr rfl) (v := .bool true) (retTrue_eq (by decide +kernel)) rfl
end Go.Proofs.YtlgbahkioimkfaaGreatDoor
