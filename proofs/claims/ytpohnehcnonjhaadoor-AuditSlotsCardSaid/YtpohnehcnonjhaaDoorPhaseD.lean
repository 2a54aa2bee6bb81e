/- Walks: states of spans: the document's State, MayState, Phase, Gen, Swept; phase.cycle, Make, split, Swept. -/
import Derived.Test.YtpohnehcnonjhaaDoorWordD
namespace Go.Proofs.YtpohnehcnonjhaaDoor
open Go.RowKit
set_option linter.unusedVariables false
set_option linter.unusedSimpArgs false

def StP (g p : Int) : Prop := 1 ≤ g ∧ g ≤ 2147483648 ∧ 1 ≤ p ∧ p ≤ 6
noncomputable def stN (g p : Int) : Nat := if B (StP g p) then (8 * g + p).toNat else 0
theorem stN_yes {g p : Int} (h : StP g p) : ((stN g p : Nat) : Int) = 8 * g + p := by
  unfold stN; rw [if_pos (B_yes h)]; obtain ⟨h1, h2, h3, h4⟩ := h; omega
theorem stN_no {g p : Int} (h : ¬ StP g p) : stN g p = 0 := by unfold stN; rw [if_neg (by rw [B_no h]; simp)]
theorem stN_lt (g p : Int) : stN g p < 18446744073709551616 := by
  by_cases h : StP g p
  · have := stN_yes h; obtain ⟨h1, h2, h3, h4⟩ := h; omega
  · rw [stN_no h]; omega
/-- 7.1: a word that is a state, or 0. -/
def MaySt (w : Nat) : Prop := w = 0 ∨ (1 ≤ w / 8 ∧ w / 8 ≤ 2147483648 ∧ 1 ≤ w % 8 ∧ w % 8 ≤ 6)
noncomputable def phN (w : Nat) : Nat := if B (MaySt w) then w % 8 else 0
noncomputable def gnN (w : Nat) : Nat := if B (MaySt w) then w / 8 else 0
/-- 7.2. -/
def SwP (w : Nat) (g : Int) : Prop := (gnN w : Int) = g ∧ (phN w = 1 ∨ phN w = 2 ∨ phN w = 3 ∨ phN w = 5)

set_option maxHeartbeats 1000000 in
theorem state_any (g p : Int) (w : World) : Calls Tryd.prog 4 #[.int .i64 g, .int .i64 p] w fun e w' =>
    e = .returned (.tuple #[.int .u64 (stN g p : Nat), .bool (B (StP g p))]) ∧ w = w' := by
  by_cases h : StP g p
  · have HE := Lib.hid (And.intro (stN_yes h) (B_yes h))
    obtain ⟨h1, h2, h3, h4⟩ := h
    have W1 : IntKind.u64.wrap (8 * g + p) = 8 * g + p := by
      have e : IntKind.u64.wrap (8 * g + p) = (8 * g + p) % 18446744073709551616 := by simp [IntKind.wrap, IntKind.bits, IntKind.signed]
      rw [e]; omega
    go_enter Tryd.func4, Tryd.ntmps4
    go_wp2_with fail
    go_ret2
    exact ⟨by rw [HE.out.1, HE.out.2]; rfl, rfl⟩
  · have HE := Lib.hid (And.intro (stN_no h) (B_no h))
    have hc : g < 1 ∨ (1 ≤ g ∧ 2147483648 < g) ∨ (1 ≤ g ∧ g ≤ 2147483648 ∧ p < 1) ∨ (1 ≤ g ∧ g ≤ 2147483648 ∧ 1 ≤ p ∧ 6 < p) := by unfold StP at h; omega
    clear h
    rcases hc with hc | ⟨g1, hc⟩ | ⟨g1, g2, hc⟩ | ⟨g1, g2, g3, hc⟩
    all_goals
      go_enter Tryd.func4, Tryd.ntmps4
      go_wp2_with fail
      go_ret2
      exact ⟨by rw [HE.out.1, HE.out.2]; rfl, rfl⟩

set_option maxHeartbeats 1000000 in
theorem mayState_any (x : Nat) (w : World) (hx : x < 18446744073709551616) : Calls Tryd.prog 25 #[.int .u64 x] w fun e w' => e = .returned (.bool (B (MaySt x))) ∧ w = w' := by
  by_cases h0 : x = 0
  · subst h0
    have HB := Lib.hid (B_yes (show MaySt 0 from .inl rfl))
    go_enter Tryd.func25, Tryd.ntmps25
    go_wp2_with fail
    go_ret
    exact ⟨by rw [HB.out]; rfl, rfl⟩
  · have e0 : ((x : Int) == 0) = false := by simpa using h0
    clear h0
    have HX := Lib.hid (show MaySt x ↔ (1 ≤ x / 8 ∧ x / 8 ≤ 2147483648 ∧ 1 ≤ x % 8 ∧ x % 8 ≤ 6) from ⟨fun h => h.resolve_left (by intro hh; subst hh; simp at e0), .inr⟩)
    go_enter Tryd.func25, Tryd.ntmps25
    go_wp2
    all_goals go_ret
    all_goals exact ⟨ret_B (by rw [HX.out]; (try simp) <;> omega), rfl⟩

set_option maxHeartbeats 1000000 in
theorem phase6_any (x : Nat) (w : World) (hx : x < 18446744073709551616) : Calls Tryd.prog 15 #[.int .u64 x] w fun e w' => e = .returned (.int .i64 (phN x : Nat)) ∧ w = w' := by
  by_cases h : MaySt x
  · have hB := B_yes h
    have HE := Lib.hid (show phN x = x % 8 from if_pos hB)
    clear h
    go_enter Tryd.func15, Tryd.ntmps15
    go_wp2_with (go_at_call 25; refine (mayState_any x _ hx).mono ?_; rintro e w' ⟨rfl, rfl⟩)
    go_ret
    exact ⟨by rw [HE.out]; simp, rfl⟩
  · have hB := B_no h
    have HE := Lib.hid (show phN x = 0 from if_neg (by rw [hB]; simp))
    clear h
    go_enter Tryd.func15, Tryd.ntmps15
    go_wp2_with (go_at_call 25; refine (mayState_any x _ hx).mono ?_; rintro e w' ⟨rfl, rfl⟩)
    go_ret
    exact ⟨by rw [HE.out]; simp, rfl⟩
set_option maxHeartbeats 1000000 in
theorem gen6_any (x : Nat) (w : World) (hx : x < 18446744073709551616) : Calls Tryd.prog 16 #[.int .u64 x] w fun e w' => e = .returned (.int .i64 (gnN x : Nat)) ∧ w = w' := by
  by_cases h : MaySt x
  · have hB := B_yes h
    have HE := Lib.hid (show gnN x = x / 8 from if_pos hB)
    clear h
    go_enter Tryd.func16, Tryd.ntmps16
    go_wp2_with (go_at_call 25; refine (mayState_any x _ hx).mono ?_; rintro e w' ⟨rfl, rfl⟩)
    go_ret
    exact ⟨by rw [HE.out]; simp, rfl⟩
  · have hB := B_no h
    have HE := Lib.hid (show gnN x = 0 from if_neg (by rw [hB]; simp))
    clear h
    go_enter Tryd.func16, Tryd.ntmps16
    go_wp2_with (go_at_call 25; refine (mayState_any x _ hx).mono ?_; rintro e w' ⟨rfl, rfl⟩)
    go_ret
    exact ⟨by rw [HE.out]; simp, rfl⟩

set_option maxHeartbeats 2000000 in
theorem swept6_any (x : Nat) (g : Int) (w : World) (hx : x < 18446744073709551616) : Calls Tryd.prog 8 #[.int .u64 x, .int .i64 g] w fun e w' => e = .returned (.bool (B (SwP x g))) ∧ w = w' := by
  have hp := fun w => phase6_any x w hx
  have hg := fun w => gen6_any x w hx
  have HX := Lib.hid (show ∀ a b : Nat, phN x = a → gnN x = b → (SwP x g ↔ (b : Int) = g ∧ (a = 1 ∨ a = 2 ∨ a = 3 ∨ a = 5)) from fun a b ha hb => by unfold SwP; rw [ha, hb])
  generalize phN x = a at hp HX
  generalize gnN x = b at hg HX
  have HP := Lib.hid (And.intro hp (And.intro hg (HX.out a b rfl rfl)))
  clear hp hg HX
  go_enter Tryd.func8, Tryd.ntmps8
  go_wp2_with (first | (go_at_call 15; refine (HP.out.1 _).mono ?_; rintro e w' ⟨rfl, rfl⟩) | (go_at_call 16; refine (HP.out.2.1 _).mono ?_; rintro e w' ⟨rfl, rfl⟩))
  all_goals go_ret
  all_goals exact ⟨ret_B (by rw [HP.out.2.2]; (try simp) <;> omega), rfl⟩
end Go.Proofs.YtpohnehcnonjhaaDoor
