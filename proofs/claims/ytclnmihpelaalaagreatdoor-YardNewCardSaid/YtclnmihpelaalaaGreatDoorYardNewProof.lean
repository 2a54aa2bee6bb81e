/-
  PROVED: dustpan/dustpanlaw27.YardNew returns true at every input, and leaves its arguments as they were.
  CONDITIONS: the tables that the row lists, tied to the program's text by the card.
-/
import Derived.Test.YtclnmihpelaalaaGreatDoorYardNewOver
import Derived.Test.YtclnmihpelaalaaGreatDoorYardNewLast
import Derived.Test.YtclnmihpelaalaaGreatDoorTie
import Derived.Test.YtclnmihpelaalaaGreatDoorCards
import Derived.SevenTiedAt
namespace Go.Proofs.YtclnmihpelaalaaGreatDoor.yardNew
open Go.ChangeShapes Go.WideShapes Go.ChangeAt Go.RowKit
set_option linter.unusedVariables false
set_option maxRecDepth 100000
theorem proved : Rows.YardNewCardSaid :=
  Claim7.holds_tied_plain_at .later [] [.data, .data] true (true, "31f1e5e6f4042ff5552ba29b25c5433ff879fecea47a203a5e62ccac34efe354") true
    over (fun _ h => by cases h) wfF (fun _ h => by cases h) yardNew_row_tie rfl ⟨rfl, rfl⟩ (by kernel_rfl) rfl
    (fun f fn hf hfn => by
      obtain rfl : f = 3 := Option.some.inj ((show Tryz.prog.funcNamed "dustpan/dustpanlaw27.YardNew" = some 3 by kernel_rfl).symm.trans hf) |>.symm
      obtain rfl : fn = Tryz.f3 := (Option.some.inj (Tryz.func3.symm.trans hfn)).symm
      exact ⟨looksF, fun j t ht => by
        rw [Tryz.params3] at ht
        rcases j with _ | _ | _ | j
        all_goals simp at ht
        all_goals (subst ht; kernel_rfl)⟩)
    goesF
#print axioms proved
end Go.Proofs.YtclnmihpelaalaaGreatDoor.yardNew
