/-
  PROVED: dustpan/dustpanlaw21.FrontGreat returns true at every input, and leaves its arguments as they were.
  CONDITIONS: the tables that the row lists, tied to the program's text by the card.
-/
import Derived.Test.YthggcmhmjkmjnaaGreatDoorFrontGreatOver
import Derived.Test.YthggcmhmjkmjnaaGreatDoorFrontGreatLast
import Derived.Test.YthggcmhmjkmjnaaGreatDoorTie
import Derived.Test.YthggcmhmjkmjnaaGreatDoorCards
import Derived.SevenTiedAt
namespace Go.Proofs.YthggcmhmjkmjnaaGreatDoor.frontGreat
open Go.ChangeShapes Go.WideShapes Go.ChangeAt Go.RowKit
set_option linter.unusedVariables false
set_option maxRecDepth 100000
theorem proved : Rows.FrontGreatCardSaid :=
  Claim7.holds_tied_plain_at .later [] [.data, .data] true (true, "3a3e334ac81b55ad5ba36cfbf298204b4554ccc378f4ac2121a48dbb1d7ad0a8") false
    over (fun _ h => by cases h) wfF (fun _ h => by cases h) frontGreat_row_tie rfl ⟨rfl, rfl⟩ (by kernel_rfl) rfl
    (fun f fn hf hfn => by
      obtain rfl : f = 3 := Option.some.inj ((show Tryz.prog.funcNamed "dustpan/dustpanlaw21.FrontGreat" = some 3 by kernel_rfl).symm.trans hf) |>.symm
      obtain rfl : fn = Tryz.f3 := (Option.some.inj (Tryz.func3.symm.trans hfn)).symm
      exact ⟨looksF, fun j t ht => by
        rw [Tryz.params3] at ht
        rcases j with _ | _ | _ | j
        all_goals simp at ht
        all_goals (subst ht; kernel_rfl)⟩)
    goesF
#print axioms proved
end Go.Proofs.YthggcmhmjkmjnaaGreatDoor.frontGreat
