/-
  PROVED: dustpan/dustpanlaw21.FrontMay returns true at every input, and leaves its arguments as they were.
  CONDITIONS: the tables that the row lists, tied to the program's text by the card.
-/
import Derived.Test.YtlgbahkioimkfaaGreatDoorFrontMayOver
import Derived.Test.YtlgbahkioimkfaaGreatDoorFrontMayLast
import Derived.Test.YtlgbahkioimkfaaGreatDoorTie
import Derived.Test.YtlgbahkioimkfaaGreatDoorCards
import Derived.SevenTiedAt
namespace Go.Proofs.YtlgbahkioimkfaaGreatDoor.frontMay
open Go.ChangeShapes Go.WideShapes Go.ChangeAt Go.RowKit
set_option linter.unusedVariables false
set_option maxRecDepth 100000
theorem proved : Rows.FrontMayCardSaid :=
  Claim7.holds_tied_plain_at .later [] [.data, .data] true (true, "53a79e9b0b4331409544bc9d850a92209d88559f80a0ba129cb3bb329b1613da") false
    over (fun _ h => by cases h) wfF (fun _ h => by cases h) frontMay_row_tie rfl ⟨rfl, rfl⟩ (by kernel_rfl) rfl
    (fun f fn hf hfn => by
      obtain rfl : f = 7 := Option.some.inj ((show Tryz.prog.funcNamed "dustpan/dustpanlaw21.FrontMay" = some 7 by kernel_rfl).symm.trans hf) |>.symm
      obtain rfl : fn = Tryz.f7 := (Option.some.inj (Tryz.func7.symm.trans hfn)).symm
      exact ⟨looksF, fun j t ht => by
        rw [Tryz.params7] at ht
        rcases j with _ | _ | _ | j
        all_goals simp at ht
        all_goals (subst ht; kernel_rfl)⟩)
    goesF
#print axioms proved
end Go.Proofs.YtlgbahkioimkfaaGreatDoor.frontMay
