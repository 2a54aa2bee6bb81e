/- Walks: law 31's awake. -/
import Derived.Test.YtmpiodlkhjjbfaaRows
import Derived.Test.YtmpiodlkhjjbfaaFair2
namespace Go.Proofs.Ytmpiodlkhjjbfaa
open Go.RowKit
set_option linter.unusedVariables false
set_option linter.unusedSimpArgs false

set_option maxHeartbeats 1000000 in
/-- The document's examples. -/
theorem awake31_any (w : World) : Calls Try.prog 15 #[] w fun e w' => e = .returned (.bool true) ∧ Ext w w' := by
  have hst : stepsC 1 1 = 218 := by
    unfold stepsC; rw [if_pos (B_yes ⟨by omega, by omega, by omega, by omega⟩)]; rfl
  have steps1 := fun W D hD => hst ▸ steps_any 1 1 D W hD
  have HST := Lib.hid steps1
  clear hst steps1
  have H1 := Lib.hid (B_yes fair_01)
  have H2 := Lib.hid (B_no fair_11)
  go_enter Try.func15, Try.ntmps15
  go_wp2_with (first
    | (go_at_call 22; refine (free_11 _).mono ?_; rintro e w1 ⟨rfl, rfl⟩)
    | (go_at_call 20; refine (HST.out _ _ ⟨_, _, _, rfl⟩).mono ?_; rintro e w2 ⟨rfl, hE2⟩)
    | (go_at_call 14; have _t := H1; refine (fair_b _ 1 1 _ _ 1 _ true H1.out (by omega) ?h1 ?h2 (by omega)).mono ?_; (case h1 => exact one_pick _ _ rfl 0 1 _); (case h2 => intro i; omega); clear H1; rintro e w3 ⟨rfl, hE3⟩)
    | (go_at_call 14; have _t := H2; refine (fair_b _ 1 1 _ _ 1 _ false H2.out (by omega) ?h1 ?h2 (by omega)).mono ?_; (case h1 => exact one_pick _ _ rfl 1 1 _); (case h2 => intro i; omega); clear H2; rintro e w4 ⟨rfl, hE4⟩))
  go_ret
  exact ⟨rfl, ((Ext.refl _).alloc _).trans (hE2.trans (((Ext.refl _).alloc _).trans (hE3.trans (((Ext.refl _).alloc _).trans hE4))))⟩
end Go.Proofs.Ytmpiodlkhjjbfaa
