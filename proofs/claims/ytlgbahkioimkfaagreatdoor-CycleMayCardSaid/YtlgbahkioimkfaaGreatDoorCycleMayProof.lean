/-
  PROVED: dustpan/dustpanlaw25.CycleMay returns true at every input, and leaves its arguments as they were.
  CONDITIONS: the tables that the row lists, tied to the program's text by the card.
-/
import Derived.Test.YtlgbahkioimkfaaGreatDoorCycleMayOver
import Derived.Test.YtlgbahkioimkfaaGreatDoorCycleMayLast
import Derived.Test.YtlgbahkioimkfaaGreatDoorTie
import Derived.Test.YtlgbahkioimkfaaGreatDoorCards
import Derived.SevenTiedAt
namespace Go.Proofs.YtlgbahkioimkfaaGreatDoor.cycleMay
open Go.ChangeShapes Go.WideShapes Go.ChangeAt Go.RowKit
set_option linter.unusedVariables false
set_option maxRecDepth 100000
theorem proved : Rows.CycleMayCardSaid :=
  Claim7.holds_tied_plain_at .later [] [.data, .data] true (true, "53a79e9b0b4331409544bc9d850a92209d88559f80a0ba129cb3bb329b1613da") false
    over (fun _ h => by cases h) wfF (fun _ h => by cases h) cycleMay_row_tie rfl ⟨rfl, rfl⟩ (by kernel_rfl) rfl
    (fun f fn hf hfn => by
      obtain rfl : f = 5 := Option.some.inj ((show Tryz.prog.funcNamed "dustpan/dustpanlaw25.CycleMay" = some 5 by kernel_rfl).symm.trans hf) |>.symm
      obtain rfl : fn = Tryz.f5 := (Option.some.inj (Tryz.func5.symm.trans hfn)).symm
      exact ⟨looksF, fun j t ht => by
        rw [Tryz.params5] at ht
        rcases j with _ | _ | _ | _ | j
        all_goals simp at ht
        all_goals (subst ht; kernel_rfl)⟩)
    goesF
#print axioms proved
end Go.Proofs.YtlgbahkioimkfaaGreatDoor.cycleMay
