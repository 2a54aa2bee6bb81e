/- Walks: word.Ones, within, Field. -/
import Derived.Test.YtpohnehcnonjhaaDoorRows
import Derived.Test.YtpohnehcnonjhaaDoorBlk
import Derived.Laws.Bits64b
namespace Go.Proofs.YtpohnehcnonjhaaDoor
open Go.RowKit
set_option linter.unusedVariables false
set_option linter.unusedSimpArgs false

theorem ones_val (n : Nat) (hn : n ≤ 64) : IntKind.u64.wrap (IntKind.u64.wrap ((2 : Int) ^ n) - 1) = ((2 ^ n - 1 : Nat) : Int) := by
  have h1 : 2 ^ n ≤ 2 ^ 64 := Nat.pow_le_pow_right (by decide) hn
  have h2 : 0 < 2 ^ n := Nat.two_pow_pos n
  have e : ((2 : Int) ^ n) = ((2 ^ n : Nat) : Int) := by simp
  rw [e, IntKind.wrap_u64, IntKind.wrap_u64]
  generalize 2 ^ n = q at h1 h2
  omega
set_option maxHeartbeats 1000000 in
theorem ones_any (n : Nat) (w : World) (hn : n ≤ 64) : Calls Tryd.prog 62 #[.int .i64 n] w fun e w' => e = .returned (.int .u64 ((2 ^ n - 1 : Nat) : Int)) ∧ w = w' := by
  go_enter Tryd.func62, Tryd.ntmps62
  go_wp2
  go_ret
  exact ⟨congrArg (fun v => Ending.returned (Value.int .u64 v)) (ones_val n hn), rfl⟩

def WithinP (a n : Int) : Prop := 0 ≤ a ∧ 0 ≤ n ∧ a ≤ 64 ∧ n ≤ 64 - a
set_option maxHeartbeats 400000 in
theorem within_any (a n : Int) (w : World) : Calls Tryd.prog 61 #[.int .i64 a, .int .i64 n] w fun e w' => e = .returned (.bool (B (WithinP a n))) ∧ w = w' := by
  go_enter Tryd.func61, Tryd.ntmps61
  go_wp2
  all_goals go_ret
  all_goals exact ⟨ret_B (by unfold WithinP; (try simp) <;> omega), rfl⟩

set_option maxHeartbeats 1000000 in
theorem field_any (x a n : Nat) (w : World) (hx : x < 18446744073709551616) (h : a + n ≤ 64) : Calls Tryd.prog 54 #[.int .u64 x, .int .i64 a, .int .i64 n] w fun e w' => e = .returned (.int .u64 ((x / 2 ^ a % 2 ^ n : Nat) : Int)) ∧ Ext w w' := by
  have hB := B_yes (show WithinP a n from ⟨by omega, by omega, by omega, by omega⟩)
  go_enter Tryd.func54, Tryd.ntmps54
  go_wp2_with (go_at_call 61; refine (within_any _ _ _).mono ?_; rintro e w' ⟨rfl, rfl⟩)
  have hp : x / 2 ^ a < 18446744073709551616 := Nat.lt_of_le_of_lt (Nat.div_le_self _ _) hx
  have hq : 2 ^ n - 1 < 18446744073709551616 := by
    have h1 : 2 ^ n ≤ 2 ^ 64 := Nat.pow_le_pow_right (by decide) (by omega)
    have h2 : (2 : Nat) ^ 64 = 18446744073709551616 := by decide
    omega
  have hv : bits .and .u64 ((x / 2 ^ a : Nat) : Int) ((2 ^ n - 1 : Nat) : Int) = ((x / 2 ^ a % 2 ^ n : Nat) : Int) := by
    rw [bits_and_u64_nat _ _ hp hq, Nat.and_two_pow_sub_one_eq_mod]
  have hs : ((x : Int) / 2 ^ a) = ((x / 2 ^ a : Nat) : Int) := by simp
  have ho := fun w => ones_any n w (by omega)
  generalize x / 2 ^ a = q at hv hs hp
  generalize 2 ^ n - 1 = m at hv ho hq
  have HV := Lib.hid hv
  clear hv
  have HO := Lib.hid ho
  clear ho hB
  have a0 : (0 : Int) ≤ (a : Int) := by omega
  have a1 : (a : Int) ≤ 64 := by omega
  have a2 : ¬ (a : Int) < 0 := by omega
  have a3 : decide ((a : Int) < 0) = false := by simp
  go_quiet ((go_at_call 62; exact Calls.quiet_of_same ((HO.out _).mono fun _ _ h => ⟨h.1, h.2.symm⟩)))
  go_wp2
  go_ret
  exact ⟨congrArg (fun v => Ending.returned (Value.int .u64 v)) (HV.out.trans (by simp)), (Ext.refl _).drewN _⟩
end Go.Proofs.YtpohnehcnonjhaaDoor
