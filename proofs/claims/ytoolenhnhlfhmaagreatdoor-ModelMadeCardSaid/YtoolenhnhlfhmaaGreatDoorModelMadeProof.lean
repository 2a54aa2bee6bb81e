/-
 PROVED: dustpan/dustpanlaw28.ModelMade returns true at every input, and leaves its arguments as they were.
 CONDITIONS: the tables that the row lists, tied to the program's text by the card.
-/
import Derived.Test.YtoolenhnhlfhmaaGreatDoorModelMadeOver
import Derived.Test.YtoolenhnhlfhmaaGreatDoorModelMadeLast
import Derived.Test.YtoolenhnhlfhmaaGreatDoorTie
import Derived.Test.YtoolenhnhlfhmaaGreatDoorCards
import Derived.SevenTiedAt
namespace Go.Proofs.YtoolenhnhlfhmaaGreatDoor.modelMade
open Go.ChangeShapes Go.WideShapes Go.ChangeAt Go.RowKit
set_option linter.unusedVariables false
set_option maxRecDepth 100000
theorem proved : Rows.ModelMadeCardSaid :=
 Claim7.holds_tied_plain_at .later [] [.data,.data] true (true,"9ec734f50a618031749036bf97933c922f14fc03590008df89992ac953659c0a") false
  over (fun _ h=>by cases h) wfF (fun _ h=>by cases h) modelMade_row_tie rfl ⟨rfl,rfl⟩ (by kernel_rfl) rfl
  (fun f fn hf hfn=>by
   obtain rfl : f=5:=Option.some.inj ((show Tryz.prog.funcNamed "dustpan/dustpanlaw28.ModelMade"=some 5 by kernel_rfl).symm.trans hf) |>.symm
   obtain rfl : fn=Tryz.f5:=(Option.some.inj (Tryz.func5.symm.trans hfn)).symm
   exact ⟨looksF,fun j t ht=>by
    rw [Tryz.params5] at ht
    rcases j with _ | _ | _ | _ | _ | _ | _ | j
    all_goals simp at ht
    all_goals (subst ht; kernel_rfl)⟩)
  goesF
#print axioms proved
end Go.Proofs.YtoolenhnhlfhmaaGreatDoor.modelMade
