/- Walks: layout.May, script.some, names, May, Right. -/
import Derived.Test.YtclnmihpelaalaaGreatDoorRows
import Derived.Test.YtclnmihpelaalaaGreatDoorBase
namespace Go.Proofs.YtclnmihpelaalaaGreatDoor
open Go.RowKit
set_option linter.unusedVariables false
set_option linter.unusedSimpArgs false

def LayMay (p t : Int) : Prop := 1 ≤ p ∧ p ≤ 4096 ∧ 1 ≤ t ∧ t ≤ 64

set_option maxHeartbeats 400000 in
theorem layMay_any (p t : Int) (w : World) : Calls Tryz.prog 24 #[.agg #[.int .i64 p, .int .i64 t]] w fun e w' =>
    e = .returned (.bool (B (LayMay p t))) ∧ Ext w w' := by
  go_enter Tryz.func24, Tryz.ntmps24
  go_wp2
  all_goals go_ret
  all_goals exact ⟨ret_B (by unfold LayMay; (try simp) <;> omega), (Ext.refl _).alloc _⟩

set_option maxHeartbeats 400000 in
theorem some_any (p : Int) (w : World) : Calls Tryz.prog 48 #[.int .i64 p] w fun e w' =>
    e = .returned (.bool (B (1 ≤ p ∧ p ≤ 4096))) ∧ w = w' := by
  go_enter Tryz.func48, Tryz.ntmps48
  go_wp2
  all_goals go_ret
  all_goals exact ⟨ret_B (by simp; omega), rfl⟩

def NamesTo (xs : List Int) (k : Nat) : Prop := ∀ i, i < k → 0 ≤ ix 0 xs i ∧ (0 < i → ix 0 xs (i - 1) < ix 0 xs i)
def NamesOk (xs : List Int) : Prop := NamesTo xs xs.length ∧ xs.length ≤ 8
theorem names_no {xs : List Int} {i : Nat} (hi : i < xs.length) (h : ix 0 xs i < 0 ∨ 0 < i ∧ ix 0 xs i ≤ ix 0 xs (i - 1)) : ¬ NamesOk xs := by
  intro h2
  have := h2.1 i hi
  omega
theorem namesTo_succ {xs : List Int} {i : Nat} (h : NamesTo xs i) (h1 : 0 ≤ ix 0 xs i) (h2 : 0 < i → ix 0 xs (i - 1) < ix 0 xs i) : NamesTo xs (i + 1) := by
  intro j hj
  by_cases e : j = i
  · subst e; exact ⟨h1, h2⟩
  · exact h j (by omega)

set_option maxHeartbeats 400000 in
theorem names_any (A : Option Addr) (xs : List Int) (c : Nat) (w : World) (hn : xs.length ≤ maxLen) (hl : IntsR w A xs) : Calls Tryz.prog 47 #[.slice A xs.length c] w fun e w' =>
    e = .returned (.bool (B (NamesOk xs))) ∧ w = w' := by
  unfold maxLen at hn
  go_enter Tryz.func47, Tryz.ntmps47
  go_wp2
  go_loopg [7] xs.length (fun q i wr => ∃ i' : Nat, i' ≤ xs.length ∧ q = xs.length - i' ∧ i = .int .i64 i' ∧ wr = w ∧ NamesTo xs i')
  case atStart => exact ⟨0, Nat.zero_le _, rfl, rfl, rfl, fun i hi => absurd hi (by omega)⟩
  case round =>
    obtain ⟨i, hi, rfl, rfl, rfl, hok⟩ := hrel
    by_cases hlt : i < xs.length
    · obtain ⟨b, off, rfl, hc⟩ := hl (by omega)
      have c0 := hc i (by omega)
      by_cases h0 : 0 < i
      · have c1 := hc (i - 1) (by omega)
        have hi1 : (↑i - 1 : Int).toNat = i - 1 := by omega
        clear hc hl
        go_wp2
        · go_ret
          exact ⟨ret_B (by simp; exact names_no hlt (by omega)), rfl⟩
        · go_roundg (xs.length - (i + 1))
          case measure => go_light; omega
          case rel => exact ⟨i + 1, by omega, rfl, by go_num, rfl, namesTo_succ hok (by omega) (by omega)⟩
        · go_ret
          exact ⟨ret_B (by simp; exact names_no hlt (by omega)), rfl⟩
      · obtain rfl : i = 0 := by omega
        rw [Nat.add_zero] at c0
        clear hc hl
        go_wp2
        · go_roundg (xs.length - (0 + 1))
          case measure => go_light; omega
          case rel => exact ⟨0 + 1, by omega, rfl, by go_num, rfl, namesTo_succ hok (by omega) (by omega)⟩
        · go_ret
          exact ⟨ret_B (by simp; exact names_no hlt (by omega)), rfl⟩
    · obtain rfl : i = xs.length := by omega
      go_wp2
      go_ret
      exact ⟨ret_B (by simp only [decide_eq_true_eq]; unfold NamesOk; simp [hok]; omega), rfl⟩

def MayOk (c : CallD) : Prop := (c.kind = 4 ∧ (c.a = 0 ∨ c.a = 1) ∧ NamesOk c.l) ∨ (c.kind ≠ 4 ∧ c.l.length = 0 ∧ ((c.kind = 1 ∧ 0 ≤ c.a) ∨ (c.kind = 2 ∧ c.a = 0) ∨ ((c.kind = 3 ∨ c.kind = 5) ∧ 1 ≤ c.a ∧ c.a ≤ 4096)))


theorem may_no {k a : Int} {l : List Int} (h : k < 1 ∨ 5 < k ∨ (k = 4 ∧ ¬ (a = 0 ∨ a = 1)) ∨ (k ≠ 4 ∧ 0 < l.length) ∨ (k = 1 ∧ a < 0) ∨ (k = 2 ∧ a ≠ 0) ∨ ((k = 3 ∨ k = 5) ∧ ¬ (1 ≤ a ∧ a ≤ 4096))) : ¬ MayOk ⟨k, a, l⟩ := by
  unfold MayOk; dsimp only; omega

theorem may_iff {k a : Int} {l : List Int} (h4 : k ≠ 4) (hl : l.length = 0) : MayOk ⟨k, a, l⟩ ↔ ((k = 1 ∧ 0 ≤ a) ∨ (k = 2 ∧ a = 0) ∨ ((k = 3 ∨ k = 5) ∧ 1 ≤ a ∧ a ≤ 4096)) := by
  unfold MayOk
  simp only [h4, hl, false_and, false_or, ne_eq, not_false_eq_true, true_and]

set_option maxHeartbeats 1000000 in
theorem may_any (k a : Int) (l : List Int) (A : Option Addr) (cap : Nat) (w : World) (hn : l.length ≤ maxLen) (hl : IntsR w A l) : Calls Tryz.prog 28 #[.agg #[.int .i64 k, .int .i64 a, .slice A l.length cap]] w fun e w' =>
    e = .returned (.bool (B (MayOk ⟨k, a, l⟩))) ∧ Ext w w' := by
  have hn' : l.length ≤ 9223372036854775807 := hn
  by_cases h4 : k = 4
  · subst h4
    have HN : B (MayOk ⟨4, a, l⟩) = true ↔ (a = 0 ∨ a = 1) ∧ NamesOk l := by rw [B_iff]; unfold MayOk; simp
    have HN2 := Lib.hid HN
    clear HN
    go_enter Tryz.func28, Tryz.ntmps28
    go_wp2_with (go_at_call 47; refine (names_any _ _ _ _ hn ?h1).mono ?_; (case h1 => exact hl.ext ((Ext.refl _).alloc _)); rintro e w1 ⟨rfl, rfl⟩)
    all_goals go_ret
    all_goals refine ⟨ret_bool (by rw [Bool.eq_iff_iff, HN2.out]; first | (rw [B_iff]; simp; intro _; omega) | (simp; omega)), (Ext.refl _).alloc _⟩
  · have k4 : (k == 4) = false := by simp [h4]
    by_cases hl0 : 0 < l.length
    · go_enter Tryz.func28, Tryz.ntmps28
      go_wp2
      go_ret
      exact ⟨ret_B (by simp; exact may_no (by omega)), (Ext.refl _).alloc _⟩
    · have hl1 : l.length = 0 := by omega
      have k1 : ∀ j : Int, k ≠ j → (k == j) = false := fun j h => by simp [h]
      rcases (show k = 1 ∨ k = 2 ∨ k = 3 ∨ k = 5 ∨ (k ≠ 1 ∧ k ≠ 2 ∧ k ≠ 3 ∧ k ≠ 5) by omega) with rfl | rfl | rfl | rfl | ⟨e1, e2, e3, e5⟩
      all_goals
        go_enter Tryz.func28, Tryz.ntmps28
        go_wp2_with (go_at_call 48; refine (some_any _ _).mono ?_; rintro e w1 ⟨rfl, rfl⟩)
        all_goals go_ret
        all_goals refine ⟨?_, (Ext.refl _).alloc _⟩
      all_goals first
        | exact ret_bool (B_congr (by rw [may_iff (by omega) hl1]; omega))
        | exact ret_B (by rw [may_iff (by omega) hl1]; simp; omega)
        | exact ret_B (by rw [may_iff (by omega) hl1]; simp)
end Go.Proofs.YtclnmihpelaalaaGreatDoor
