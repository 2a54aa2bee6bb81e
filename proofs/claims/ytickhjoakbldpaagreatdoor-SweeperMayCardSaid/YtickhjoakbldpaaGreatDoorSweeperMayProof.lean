/-
  PROVED: dustpan/dustpanlaw23.SweeperMay returns true at every input, and leaves its arguments as they were.
  CONDITIONS: the tables that the row lists, tied to the program's text by the card.
-/
import Derived.Test.YtickhjoakbldpaaGreatDoorSweeperMayOver
import Derived.Test.YtickhjoakbldpaaGreatDoorSweeperMayLast
import Derived.Test.YtickhjoakbldpaaGreatDoorTie
import Derived.Test.YtickhjoakbldpaaGreatDoorCards
import Derived.SevenTiedAt
namespace Go.Proofs.YtickhjoakbldpaaGreatDoor.sweeperMay
open Go.ChangeShapes Go.WideShapes Go.ChangeAt Go.RowKit
set_option linter.unusedVariables false
set_option maxRecDepth 100000
theorem proved : Rows.SweeperMayCardSaid :=
  Claim7.holds_tied_plain_at .later [] [.data, .data] true (true, "768ce2de60bd3ce9650bc393f3fb8431b221a68943fef9c0bb0b34a57d2f92ab") false
    over (fun _ h => by cases h) wfF (fun _ h => by cases h) sweeperMay_row_tie rfl ⟨rfl, rfl⟩ (by kernel_rfl) rfl
    (fun f fn hf hfn => by
      obtain rfl : f = 6 := Option.some.inj ((show Tryz.prog.funcNamed "dustpan/dustpanlaw23.SweeperMay" = some 6 by kernel_rfl).symm.trans hf) |>.symm
      obtain rfl : fn = Tryz.f6 := (Option.some.inj (Tryz.func6.symm.trans hfn)).symm
      exact ⟨looksF, fun j t ht => by
        rw [Tryz.params6] at ht
        rcases j with _ | _ | _ | j
        all_goals simp at ht
        all_goals (subst ht; kernel_rfl)⟩)
    goesF
#print axioms proved
end Go.Proofs.YtickhjoakbldpaaGreatDoor.sweeperMay
