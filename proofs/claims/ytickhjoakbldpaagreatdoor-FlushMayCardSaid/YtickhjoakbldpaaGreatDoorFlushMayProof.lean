/-
  PROVED: dustpan/dustpanlaw22.FlushMay returns true at every input, and leaves its arguments as they were.
  CONDITIONS: the tables that the row lists, tied to the program's text by the card.
-/
import Derived.Test.YtickhjoakbldpaaGreatDoorFlushMayOver
import Derived.Test.YtickhjoakbldpaaGreatDoorFlushMayLast
import Derived.Test.YtickhjoakbldpaaGreatDoorTie
import Derived.Test.YtickhjoakbldpaaGreatDoorCards
import Derived.SevenTiedAt
namespace Go.Proofs.YtickhjoakbldpaaGreatDoor.flushMay
open Go.ChangeShapes Go.WideShapes Go.ChangeAt Go.RowKit
set_option linter.unusedVariables false
set_option maxRecDepth 100000
theorem proved : Rows.FlushMayCardSaid :=
  Claim7.holds_tied_plain_at .later [] [.data, .data] true (true, "768ce2de60bd3ce9650bc393f3fb8431b221a68943fef9c0bb0b34a57d2f92ab") false
    over (fun _ h => by cases h) wfF (fun _ h => by cases h) flushMay_row_tie rfl ⟨rfl, rfl⟩ (by kernel_rfl) rfl
    (fun f fn hf hfn => by
      obtain rfl : f = 5 := Option.some.inj ((show Tryz.prog.funcNamed "dustpan/dustpanlaw22.FlushMay" = some 5 by kernel_rfl).symm.trans hf) |>.symm
      obtain rfl : fn = Tryz.f5 := (Option.some.inj (Tryz.func5.symm.trans hfn)).symm
      exact ⟨looksF, fun j t ht => by
        rw [Tryz.params5] at ht
        rcases j with _ | _ | j
        all_goals simp at ht
        all_goals (subst ht; kernel_rfl)⟩)
    goesF
#print axioms proved
end Go.Proofs.YtickhjoakbldpaaGreatDoor.flushMay
