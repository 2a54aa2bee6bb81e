/- Walks: the document's May and Right of scripts. -/
import Derived.Test.YtclnmihpelaalaaGreatDoorRows
import Derived.Test.YtclnmihpelaalaaGreatDoorRef26
namespace Go.Proofs.YtclnmihpelaalaaGreatDoor
open Go.RowKit
set_option linter.unusedVariables false
set_option linter.unusedSimpArgs false

set_option maxHeartbeats 2000000 in
set_option maxRecDepth 100000 in
theorem may26_any (k a : Int) (l : List Int) (A : Option Addr) (cap : Nat) (w : World) (hn : l.length ≤ maxLen) (hl : IntsR w A l) : Calls Tryz.prog 17 #[.agg #[.int .i64 k, .int .i64 a, .slice A l.length cap]] w fun e w' =>
    e = .returned (.bool (B (MayOk ⟨k, a, l⟩))) ∧ Ext w w' := by
  have hn' : l.length ≤ 9223372036854775807 := hn
  by_cases h4 : k = 4
  · subst h4; exact may26_four a l A cap w hn hl
  · clear hl
    have hfar : (k ≠ 1 ∧ k ≠ 2 ∧ k ≠ 3 ∧ k ≠ 5) → ¬ MayOk ⟨k, a, l⟩ := by
      intro hk
      unfold MayOk
      dsimp only
      rintro (h | ⟨_, _, h⟩)
      · exact h4 h.1
      · omega
    have f4 : (k == 4) = false := by simp [h4]
    by_cases h0 : l.length = 0
    · have HI := Lib.hid (may_iff (k := k) (a := a) h4 h0)
      have e0 : ((l.length : Int) == 0) = true := by rw [beq_iff_eq]; omega
      have HF := Lib.hid hfar
      clear hfar
      by_cases ha : a = 0
      · subst ha
        rcases (show k = 1 ∨ k = 2 ∨ k = 3 ∨ k = 5 ∨ (k ≠ 1 ∧ k ≠ 2 ∧ k ≠ 3 ∧ k ≠ 5) by omega) with rfl | rfl | rfl | rfl | ⟨e1, e2, e3, e5⟩
        all_goals clear h4
        all_goals try have f1 : (k == 1) = false := by simp [e1]
        all_goals try have f2 : (k == 2) = false := by simp [e2]
        all_goals try have f3 : (k == 3) = false := by simp [e3]
        all_goals try have f5 : (k == 5) = false := by simp [e5]
        all_goals
          go_enter Tryz.func17, Tryz.ntmps17
          go_wp2
          all_goals go_ret
          all_goals exact ⟨ret_B (by first | (rw [HI.out]; simp; done) | (rw [HI.out]; simp; omega) | (simp; exact HF.out ⟨by assumption, by assumption, by assumption, by assumption⟩)), (Ext.refl _).alloc _⟩
      · have a0 : (a == 0) = false := by simp [ha]
        rcases (show k = 1 ∨ k = 2 ∨ k = 3 ∨ k = 5 ∨ (k ≠ 1 ∧ k ≠ 2 ∧ k ≠ 3 ∧ k ≠ 5) by omega) with rfl | rfl | rfl | rfl | ⟨e1, e2, e3, e5⟩
        all_goals clear h4
        all_goals try have f1 : (k == 1) = false := by simp [e1]
        all_goals try have f2 : (k == 2) = false := by simp [e2]
        all_goals try have f3 : (k == 3) = false := by simp [e3]
        all_goals try have f5 : (k == 5) = false := by simp [e5]
        all_goals
          go_enter Tryz.func17, Tryz.ntmps17
          go_wp2
          all_goals go_ret
          all_goals exact ⟨ret_B (by first | (rw [HI.out]; simp; done) | (rw [HI.out]; simp; omega) | (simp; exact HF.out ⟨by assumption, by assumption, by assumption, by assumption⟩)), (Ext.refl _).alloc _⟩
    · have HI := Lib.hid (may_no (k := k) (a := a) (l := l) (.inr (.inr (.inr (.inl ⟨h4, by omega⟩)))))
      have e0 : ((l.length : Int) == 0) = false := by rw [beq_eq_false_iff_ne]; omega
      clear hfar
      by_cases ha : a = 0
      · subst ha
        rcases (show k = 1 ∨ k = 2 ∨ k = 3 ∨ k = 5 ∨ (k ≠ 1 ∧ k ≠ 2 ∧ k ≠ 3 ∧ k ≠ 5) by omega) with rfl | rfl | rfl | rfl | ⟨e1, e2, e3, e5⟩
        all_goals clear h4
        all_goals try have f1 : (k == 1) = false := by simp [e1]
        all_goals try have f2 : (k == 2) = false := by simp [e2]
        all_goals try have f3 : (k == 3) = false := by simp [e3]
        all_goals try have f5 : (k == 5) = false := by simp [e5]
        all_goals
          go_enter Tryz.func17, Tryz.ntmps17
          go_wp2
          all_goals go_ret
          all_goals exact ⟨ret_B (by simp; exact HI.out), (Ext.refl _).alloc _⟩
      · have a0 : (a == 0) = false := by simp [ha]
        rcases (show k = 1 ∨ k = 2 ∨ k = 3 ∨ k = 5 ∨ (k ≠ 1 ∧ k ≠ 2 ∧ k ≠ 3 ∧ k ≠ 5) by omega) with rfl | rfl | rfl | rfl | ⟨e1, e2, e3, e5⟩
        all_goals clear h4
        all_goals try have f1 : (k == 1) = false := by simp [e1]
        all_goals try have f2 : (k == 2) = false := by simp [e2]
        all_goals try have f3 : (k == 3) = false := by simp [e3]
        all_goals try have f5 : (k == 5) = false := by simp [e5]
        all_goals
          go_enter Tryz.func17, Tryz.ntmps17
          go_wp2
          all_goals go_ret
          all_goals exact ⟨ret_B (by simp; exact HI.out), (Ext.refl _).alloc _⟩

end Go.Proofs.YtclnmihpelaalaaGreatDoor
