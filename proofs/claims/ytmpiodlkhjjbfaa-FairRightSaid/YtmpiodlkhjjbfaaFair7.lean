/- Walks: the document's Steps; Free, both. -/
import Derived.Test.YtmpiodlkhjjbfaaRows
import Derived.Test.YtmpiodlkhjjbfaaFair6
namespace Go.Proofs.Ytmpiodlkhjjbfaa
open Go.RowKit Go.Sort
set_option linter.unusedVariables false
set_option linter.unusedSimpArgs false

set_option maxHeartbeats 1000000 in
theorem steps30_any (p t : Int) (D : Value) (w : World) (hD : ∃ A n c, D = .slice A n c) :
    Calls Try.prog 26 #[.agg #[.int .i64 p, .int .i64 t, D]] w fun e w' => e = .returned (.int .i64 (stepsC p t)) ∧ Ext w w' := by
  obtain ⟨DA, Dn, Dc, rfl⟩ := hD
  by_cases hL : LayMay p t
  · have hs : stepsC p t = 4 * p + 14 * t + 200 := if_pos (B_yes hL)
    have HS := Lib.hid hs
    have HB := Lib.hid (B_yes hL)
    obtain ⟨l1, l2, l3, l4⟩ := hL
    clear hs
    go_enter Try.func26, Try.ntmps26
    go_wp2_with (go_at_call 36; refine (r6May_any _ _ _).mono ?_; rintro e w1 ⟨rfl, hE1⟩; rw [HB.out]; obtain ⟨bc1, bf1⟩ := hE1.bcell)
    go_ret
    exact ⟨ret_int (by rw [HS.out]), ((Ext.refl _).alloc _).trans hE1⟩
  · have hs : stepsC p t = 0 := if_neg (by simp [B_no hL])
    have HS := Lib.hid hs
    have HB := Lib.hid (B_no hL)
    clear hs hL
    go_enter Try.func26, Try.ntmps26
    go_wp2_with (go_at_call 36; refine (r6May_any _ _ _).mono ?_; rintro e w1 ⟨rfl, hE1⟩; rw [HB.out]; obtain ⟨bc1, bf1⟩ := hE1.bcell)
    go_ret
    exact ⟨ret_int (by rw [HS.out]), ((Ext.refl _).alloc _).trans hE1⟩

noncomputable def freeC (a b : Int) : Int := if B (LayMay b a) then 100 * (a + 1) * (a + b + 1) else 0
theorem free_bd {a b : Int} (h : LayMay b a) : 0 ≤ 100 * (a + 1) * (a + b + 1) ∧ 100 * (a + 1) * (a + b + 1) ≤ 6500 * 4161 := by
  obtain ⟨h1, h2, h3, h4⟩ := h
  exact mul_bd (by omega) (by omega) (by omega) (by omega)

set_option maxHeartbeats 400000 in
theorem free_any (a b : Int) (w : World) : Calls Try.prog 22 #[.int .i64 a, .int .i64 b] w fun e w' => e = .returned (.int .i64 (freeC a b)) ∧ w = w' := by
  by_cases hL : LayMay b a
  · have hs : freeC a b = 100 * (a + 1) * (a + b + 1) := if_pos (B_yes hL)
    have HS := Lib.hid hs
    obtain ⟨m1, m2⟩ := free_bd hL
    obtain ⟨l1, l2, l3, l4⟩ := hL
    clear hs
    go_enter Try.func22, Try.ntmps22
    go_wp2
    go_ret
    exact ⟨ret_int (by rw [HS.out]), rfl⟩
  · have hs : freeC a b = 0 := if_neg (by simp [B_no hL])
    have HS := Lib.hid hs
    have hL2 : a < 1 ∨ 64 < a ∨ b < 1 ∨ 4096 < b := by unfold LayMay at hL; omega
    clear hs hL
    rcases (show a < 1 ∨ (1 ≤ a ∧ 64 < a) ∨ (1 ≤ a ∧ a ≤ 64 ∧ b < 1) ∨ (1 ≤ a ∧ a ≤ 64 ∧ 1 ≤ b ∧ 4096 < b) by omega) with h | ⟨h, h1⟩ | ⟨h, h1, h2⟩ | ⟨h, h1, h2, h3⟩
    all_goals clear hL2
    all_goals
      go_enter Try.func22, Try.ntmps22
      go_wp2
      go_ret
      exact ⟨ret_int (by rw [HS.out]), rfl⟩
set_option maxHeartbeats 400000 in
theorem free30_any (a b : Int) (w : World) : Calls Try.prog 29 #[.int .i64 a, .int .i64 b] w fun e w' => e = .returned (.int .i64 (freeC a b)) ∧ Ext w w' := by
  by_cases hL : LayMay b a
  · have hs : freeC a b = 100 * (a + 1) * (a + b + 1) := if_pos (B_yes hL)
    have HS := Lib.hid hs
    have HB := Lib.hid (B_yes hL)
    obtain ⟨m1, m2⟩ := free_bd hL
    obtain ⟨l1, l2, l3, l4⟩ := hL
    clear hs
    go_enter Try.func29, Try.ntmps29
    go_wp2_with (go_at_call 36; refine (r6May_any _ _ _).mono ?_; rintro e w1 ⟨rfl, hE1⟩; rw [HB.out])
    go_ret
    exact ⟨ret_int (by rw [HS.out]), hE1⟩
  · have hs : freeC a b = 0 := if_neg (by simp [B_no hL])
    have HS := Lib.hid hs
    have HB := Lib.hid (B_no hL)
    clear hs hL
    go_enter Try.func29, Try.ntmps29
    go_wp2_with (go_at_call 36; refine (r6May_any _ _ _).mono ?_; rintro e w1 ⟨rfl, hE1⟩; rw [HB.out])
    go_ret
    exact ⟨ret_int (by rw [HS.out]), hE1⟩
end Go.Proofs.Ytmpiodlkhjjbfaa
