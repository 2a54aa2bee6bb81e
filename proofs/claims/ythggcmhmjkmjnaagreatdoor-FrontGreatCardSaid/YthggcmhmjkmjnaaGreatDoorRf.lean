/- dustpan/dustpanlaw21.awake returns true: its pieces, one behind the other (printed by gen_run4.py). -/
import Derived.Test.YthggcmhmjkmjnaaGreatDoorRfP0
import Derived.Test.YthggcmhmjkmjnaaGreatDoorRfP1
import Derived.Test.YthggcmhmjkmjnaaGreatDoorRfP2
import Derived.Test.YthggcmhmjkmjnaaGreatDoorRfP3
import Derived.Test.YthggcmhmjkmjnaaGreatDoorRfP4
import Derived.Test.YthggcmhmjkmjnaaGreatDoorRfP5
import Derived.Test.YthggcmhmjkmjnaaGreatDoorRfP6
import Derived.Test.YthggcmhmjkmjnaaGreatDoorRfPc
namespace Go.Proofs.YthggcmhmjkmjnaaGreatDoor
open Go.RowKit
set_option linter.unusedVariables false
set_option maxRecDepth 100000
theorem Rf_any (w : World) (hT : TabR w tabA) (hG : 2 ≤ w.heap.size) : Calls Tryz.prog 7 #[] w fun e w' => e = .returned (.bool true) ∧ Ext w w' := by
  have hσ : ∀ j, OneC ((fun _ => Value.bool true : Nat → Value) j) := fun _ => trivial
  have h : Seg0 Tryz.prog (fun _ => Value.bool true) w w.heap.size 2 (.code (bodyOf Tryz.prog 7)) { tmps := #[] ++ Array.replicate (50 - 0) undef, defers := [] } (baseWorld 2 tabA) .ret (mkA Rfl159) (mkW Rfh160) :=
    (show Seg1 _ _ _ _ _ #[] _ _ _ _ #[] _ _ from (Seg1.seqP (by rfl) (Rfp0 hσ) (Seg1.seqP (by rfl) (Rfp1 hσ) (Seg1.seqP (by rfl) (Rfp2 hσ) (Seg1.seqP (by rfl) (Seg1.seqP (by rfl) (Rfp3 hσ) (Rfp4 hσ)) (Seg1.seqP (by rfl) (Seg1.regionCall hσ (i := 2) (n := 0) (by rfl) (by decide +kernel) (Rfp5 hσ) Rfc0 (by decide) (by decide) (Seg1.seqP (by rfl) (Rfp6 hσ) (Seg1.seqP (by rfl) (Rfp7 hσ) (Seg1.seqP (by rfl) (Rfp8 hσ) (Seg1.seqP (by rfl) (Seg1.loopP (by rfl) (Seg1.loopNext (Rfp9 hσ) (Seg1.loopNext (Rfp10 hσ) (Seg1.loopNext (Rfp11 hσ) (Seg1.loopNext (Rfp12 hσ) (Seg1.loopNext (Rfp13 hσ) (Seg1.loopNext (Rfp14 hσ) (Seg1.loopNext (Rfp15 hσ) (Seg1.loopNext (Rfp16 hσ) (Seg1.loopNext (Rfp17 hσ) (Seg1.loopNext (Rfp18 hσ) (Seg1.loopNext (Rfp19 hσ) (Seg1.loopNext (Rfp20 hσ) (Seg1.loopNext (Rfp21 hσ) (Seg1.loopNext (Rfp22 hσ) (Seg1.loopNext (Rfp23 hσ) (Seg1.loopNext (Rfp24 hσ) (Seg1.loopNext (Rfp25 hσ) (Seg1.loopNext (Rfp26 hσ) (Seg1.loopNext (Rfp27 hσ) (Seg1.loopNext (Rfp28 hσ) (Seg1.loopNext (Rfp29 hσ) (Seg1.loopNext (Rfp30 hσ) (Seg1.loopNext (Rfp31 hσ) (Seg1.loopNext (Rfp32 hσ) (Seg1.loopExit (Rfp33 hσ))))))))))))))))))))))))))) (Seg1.seqP (by rfl) (Rfp34 hσ) (Seg1.seqP (by rfl) (Rfp35 hσ) (Rfp36 hσ))))))) (by first | exact .inl rfl | exact .inr rfl) Rfc1 (Rfp37 hσ)) (Seg1.seqP (by rfl) (Seg1.regionCall hσ (i := 2) (n := 0) (by rfl) (by decide +kernel) (Rfp38 hσ) Rfc2 (by decide) (by decide) (Seg1.seqP (by rfl) (Rfp39 hσ) (Seg1.seqP (by rfl) (Rfp40 hσ) (Seg1.seqP (by rfl) (Rfp41 hσ) (Seg1.seqP (by rfl) (Seg1.loopP (by rfl) (Seg1.loopNext (Rfp42 hσ) (Seg1.loopNext (Rfp43 hσ) (Seg1.loopNext (Rfp44 hσ) (Seg1.loopNext (Rfp45 hσ) (Seg1.loopNext (Rfp46 hσ) (Seg1.loopNext (Rfp47 hσ) (Seg1.loopNext (Rfp48 hσ) (Seg1.loopExit (Rfp49 hσ)))))))))) (Seg1.seqP (by rfl) (Rfp50 hσ) (Seg1.seqP (by rfl) (Rfp51 hσ) (Rfp52 hσ))))))) (by first | exact .inl rfl | exact .inr rfl) Rfc3 (Rfp53 hσ)) (Seg1.seqP (by rfl) (Rfp54 hσ) (Rfp55 hσ))))))))).zero
  exact calls_of_seg0 hσ hG hT Tryz.func7 rfl h (by first | exact .inl rfl | exact .inr rfl) (v := .bool true) (retTrue_eq (by decide +kernel)) rfl
end Go.Proofs.YthggcmhmjkmjnaaGreatDoor
