/- word.set, Places: the bits that are set, one behind the other. -/
import Derived.Test.YtpohnehcnonjhaaDoorRows
import Derived.Test.YtpohnehcnonjhaaDoorRangeR
import Derived.Lib.TrailingZeros
import Derived.Laws.Bits64b
namespace Go.Proofs.YtpohnehcnonjhaaDoor
open Go.RowKit
set_option linter.unusedVariables false
set_option linter.unusedSimpArgs false
attribute [local go_sem] Oper.semAt_some

/-! bits -/
def places (x : Nat) : List Nat := (List.range 64).filter (fun i => x.testBit i)
theorem places_zero : places 0 = [] := by unfold places; simp
theorem range_cut {k : Nat} (h : k < 64) : List.range 64 = List.range k ++ (k :: List.range' (k + 1) (63 - k)) := by
  rw [List.range_eq_range', List.range_eq_range', show 64 = k + (1 + (63 - k)) by omega, ← List.range'_append_1]
  rw [Nat.add_comm 1, List.range'_succ]
  simp
theorem low_and {x m k : Nat} (hx : x = 2 ^ k * (2 * m + 1)) : ∀ i, (x &&& (x - 1)).testBit i = (x.testBit i && decide (i ≠ k)) := by
  intro i
  have hp : 0 < 2 ^ k := Nat.two_pow_pos k
  have h1 : x - 1 = 2 ^ k * (2 * m) + (2 ^ k - 1) := by rw [hx, Nat.mul_add, Nat.mul_one]; omega
  have e1 : x.testBit i = if i < k then (0 : Nat).testBit i else (2 * m + 1).testBit (i - k) := by
    have t := Nat.testBit_two_pow_mul_add (2 * m + 1) (b := 0) (i := k) hp i
    rw [Nat.add_zero] at t
    rw [hx]; exact t
  have e2 : (x - 1).testBit i = if i < k then (2 ^ k - 1).testBit i else (2 * m).testBit (i - k) := by
    rw [h1]; exact Nat.testBit_two_pow_mul_add (2 * m) (b := 2 ^ k - 1) (i := k) (by omega) i
  rw [Nat.testBit_and, e1, e2]
  by_cases hi : i < k
  · simp [hi]
  · rw [if_neg hi, if_neg hi]
    by_cases he : i = k
    · subst he; simp [Nat.testBit_zero]
    · obtain ⟨j, rfl⟩ : ∃ j, i = k + (j + 1) := ⟨i - k - 1, by omega⟩
      rw [show k + (j + 1) - k = j + 1 by omega, Nat.testBit_succ, Nat.testBit_succ, show (2 * m + 1) / 2 = m by omega, show 2 * m / 2 = m by omega]
      cases m.testBit j <;> simp
theorem low_bits {x m k : Nat} (hx : x = 2 ^ k * (2 * m + 1)) : x.testBit k = true ∧ ∀ i, i < k → x.testBit i = false := by
  have e1 : ∀ i, x.testBit i = if i < k then (0 : Nat).testBit i else (2 * m + 1).testBit (i - k) := fun i => by
    have t := Nat.testBit_two_pow_mul_add (2 * m + 1) (b := 0) (i := k) (Nat.two_pow_pos k) i
    rw [Nat.add_zero] at t
    rw [hx]; exact t
  refine ⟨?_, fun i hi => ?_⟩
  · rw [e1, if_neg (by omega)]; simp [Nat.testBit_zero]
  · rw [e1, if_pos hi]; simp
theorem places_step {x : Nat} (h0 : x ≠ 0) (h : x < 18446744073709551616) : places x = Lib.ctz 64 x :: places (x &&& (x - 1)) ∧ Lib.ctz 64 x < 64 ∧ (x &&& (x - 1)) < x := by
  obtain ⟨m, hm, hk⟩ := Lib.ctzFrom_spec 64 x (by omega) h
  have e : Lib.ctz 64 x = Lib.ctzFrom 64 x := by simp [Lib.ctz, h0]
  rw [e]
  generalize Lib.ctzFrom 64 x = k at hm hk
  obtain ⟨b1, b2⟩ := low_bits hm
  have b3 := low_and hm
  refine ⟨?_, hk, Nat.lt_of_le_of_lt Nat.and_le_right (by omega)⟩
  have f1 : (List.range k).filter (fun i => x.testBit i) = [] := by
    rw [List.filter_eq_nil_iff]; intro i hi; rw [b2 i (List.mem_range.1 hi)]; simp
  have f2 : (List.range k).filter (fun i => (x &&& (x - 1)).testBit i) = [] := by
    rw [List.filter_eq_nil_iff]; intro i hi; rw [b3, b2 i (List.mem_range.1 hi)]; simp
  have f3 : (List.range' (k + 1) (63 - k)).filter (fun i => (x &&& (x - 1)).testBit i) = (List.range' (k + 1) (63 - k)).filter (fun i => x.testBit i) := by
    apply List.filter_congr
    intro i hi
    have := (List.mem_range'_1.1 hi).1
    rw [b3, decide_eq_true (by omega), Bool.and_true]
  have f4 : (x &&& (x - 1)).testBit k = false := by rw [b3]; simp
  unfold places
  rw [range_cut hk, List.filter_append, List.filter_append, f1, f2, List.filter_cons, if_pos b1, List.filter_cons, if_neg (by rw [f4]; simp), f3]
  rfl
theorem places_len (x : Nat) : (places x).length ≤ 64 := by unfold places; exact Nat.le_trans (List.length_filter_le _ _) (by simp)
theorem places_lt {x i : Nat} (h : i ∈ places x) : i < 64 ∧ x.testBit i = true := by
  unfold places at h
  exact ⟨List.mem_range.1 (List.mem_filter.1 h).1, (List.mem_filter.1 h).2⟩

/-- The table of math/bits. -/
def TabB (w : World) : Prop := ∀ j, j < Lib.deBruijn64tab.length → w.cell? ⟨1, j, none⟩ = some (.int .u8 (Lib.deBruijn64tab.getD j 0 : Nat))
theorem TabB.keep {w w' : World} (h : TabB w) (hk : ∀ p : Addr, p.block < w.heap.size → w'.cell? p = w.cell? p) : TabB w' := fun j hj => (hk _ (World.block_lt_of_cell? _ _ (h j hj))).trans (h j hj)
theorem TabB.ext {w w' : World} (h : TabB w) (hE : Ext w w') : TabB w' := h.keep fun p hp => Below.cell hE hp
theorem TabB.lt {w : World} (h : TabB w) : 1 < w.heap.size := World.block_lt_of_cell? _ _ (h 0 (by decide))
theorem TabB.below {n₀ : Nat} {w w' : World} (h : TabB w) (hn : 1 < n₀) (hb : Below n₀ w w') : TabB w' := fun j hj => (hb.cell (p := ⟨_, j, none⟩) hn).trans (h j hj)

theorem tz_key (x a : Nat) (hx : x < 18446744073709551616) (hx0 : x ≠ 0) (hlow : x &&& (18446744073709551616 - x) = a) :
    IntKind.u64.wrap (bits BinOp.and IntKind.u64 (x : Int) (IntKind.u64.wrap (-(x : Int))) * 285870213051353865) / 288230376151711744 = ((a * 285870213051353865 % 18446744073709551616 / 288230376151711744 : Nat) : Int) := by
  have e1 : IntKind.u64.wrap (-(x : Int)) = ((18446744073709551616 - x : Nat) : Int) := by rw [IntKind.wrap_u64]; omega
  rw [e1, bits_and_u64_nat x _ hx (by omega), hlow, IntKind.wrap_u64]
  omega
set_option maxHeartbeats 1000000 in
theorem tz_core (x k idx : Nat) (w : World) (hx0 : ((x : Int) == 0) = false)
    (key : IntKind.u64.wrap (bits BinOp.and IntKind.u64 (x : Int) (IntKind.u64.wrap (-(x : Int))) * 285870213051353865) / 288230376151711744 = (idx : Int))
    (hi : idx < 64) (hk : k < 64) (hcell : w.cell? ⟨1, idx, none⟩ = some (.int .u8 k)) :
    Calls Tryd.prog 41 #[.int .u64 x] w fun e w' => e = .returned (.int .i64 k) ∧ w' = w := by
  go_enter Tryd.func41, Tryd.ntmps41
  go_wp2_with (simp only [key])
  go_ret
  exact ⟨rfl, rfl⟩
theorem tz_any (x : Nat) (hx : x < 18446744073709551616) (hx0 : x ≠ 0) (w : World) (hT : TabB w) :
    Calls Tryd.prog 41 #[.int .u64 x] w fun e w' => e = .returned (.int .i64 (Lib.ctz 64 x : Nat)) ∧ w' = w := by
  obtain ⟨hlow, hk⟩ := Lib.lowest_bit 64 x hx0 hx
  obtain ⟨hi, htab⟩ := Lib.deBruijn64_at _ hk
  have hcell := hT _ hi
  rw [htab] at hcell
  exact tz_core x _ _ w (by simp; omega) (tz_key x _ hx hx0 hlow) hi hk hcell
end Go.Proofs.YtpohnehcnonjhaaDoor
