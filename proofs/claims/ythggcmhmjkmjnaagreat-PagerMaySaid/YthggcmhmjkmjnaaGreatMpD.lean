/- PagerMay: what is asked of the heads (printed by gen_pager.py). -/
import Derived.Test.YthggcmhmjkmjnaaGreatMpH
namespace Go.Proofs.YthggcmhmjkmjnaaGreat
open Go.RowKit Go.IntWalk
set_option linter.unusedVariables false
set_option linter.unusedSimpArgs false
set_option maxRecDepth 100000
/-- The heads that are given, as they lie in the caller's memory. -/
def HR (w : World) (nb : Option Addr) (nn : Nat) (z : Nat → Int) : Prop := nn = 0 ∨ ∃ b off, nb = some ⟨b, off, none⟩ ∧ b < w.heap.size ∧ ∀ i, i < nn → w.cell? ⟨b, off + i, none⟩ = some (.int .i64 (z i))
theorem HR.keep {w w' : World} {nb : Option Addr} {nn : Nat} {z : Nat → Int} (h : HR w nb nn z) (hw : Below w.heap.size w w') : HR w' nb nn z := by
  rcases h with h | ⟨b, off, h1, h2, h3⟩
  · exact .inl h
  · exact .inr ⟨b, off, h1, Nat.lt_of_lt_of_le h2 hw.size, fun i hi => by rw [hw.cell (p := ⟨b, off + i, none⟩) h2]; exact h3 i hi⟩
theorem HR.get {w : World} {nb : Option Addr} {nn : Nat} {z : Nat → Int} (h : HR w nb nn z) (hn : 0 < nn) : ∃ b off, nb = some ⟨b, off, none⟩ ∧ b < w.heap.size ∧ ∀ i, i < nn → w.cell? ⟨b, off + i, none⟩ = some (.int .i64 (z i)) := by
  rcases h with h | h
  · omega
  · exact h
def Good (x : Int) : Prop := 8 ≤ x ∧ x < 68
def MayL (P T : Int) : Prop := 1 ≤ P ∧ P ≤ 4096 ∧ 1 ≤ T ∧ T ≤ 64
theorem headA {P T h : Int} {w : World} (hG : 0 ≤ w.heap.size) (hL : MayL P T) (hh : Good h) : Calls Tryz.prog 32 #[.agg #[.int .i64 P, .int .i64 T], .int .i64 h] w fun e w' => e = .returned (.bool true) ∧ Ext w w' := by
  have := MpHa P T h w hG hL.1 hL.2.1 hL.2.2.1 hL.2.2.2
  rwa [decide_eq_true (show 8 ≤ h ∧ h < 68 from hh)] at this
theorem headA0 {P T h : Int} {w : World} (hG : 0 ≤ w.heap.size) (hL : MayL P T) (hh : ¬ Good h) : Calls Tryz.prog 32 #[.agg #[.int .i64 P, .int .i64 T], .int .i64 h] w fun e w' => e = .returned (.bool false) ∧ Ext w w' := by
  have := MpHa P T h w hG hL.1 hL.2.1 hL.2.2.1 hL.2.2.2
  rwa [decide_eq_false (show ¬ (8 ≤ h ∧ h < 68) from hh)] at this
theorem headB {P T h : Int} {w : World} (hG : 0 ≤ w.heap.size) (hL : MayL P T) (hh : Good h) : Calls Tryz.prog 54 #[.agg #[.int .i64 P, .int .i64 T], .int .i64 h] w fun e w' => e = .returned (.bool true) ∧ Ext w w' := by
  have := MpHb P T h w hG hL.1 hL.2.1 hL.2.2.1 hL.2.2.2
  rwa [decide_eq_true (show 8 ≤ h ∧ h < 68 from hh)] at this
theorem headB0 {P T h : Int} {w : World} (hG : 0 ≤ w.heap.size) (hL : MayL P T) (hh : ¬ Good h) : Calls Tryz.prog 54 #[.agg #[.int .i64 P, .int .i64 T], .int .i64 h] w fun e w' => e = .returned (.bool false) ∧ Ext w w' := by
  have := MpHb P T h w hG hL.1 hL.2.1 hL.2.2.1 hL.2.2.2
  rwa [decide_eq_false (show ¬ (8 ≤ h ∧ h < 68) from hh)] at this
theorem heads_cases (nn : Nat) (z : Nat → Int) : 4 < nn ∨ (nn = 0) ∨ (nn = 1 ∧ Good (z 0)) ∨ (nn = 2 ∧ Good (z 0) ∧ Good (z 1)) ∨ (nn = 3 ∧ Good (z 0) ∧ Good (z 1) ∧ Good (z 2)) ∨ (nn = 4 ∧ Good (z 0) ∧ Good (z 1) ∧ Good (z 2) ∧ Good (z 3)) ∨
    (nn = 1 ∧ ¬ Good (z 0)) ∨ (nn = 2 ∧ ¬ Good (z 0)) ∨ (nn = 2 ∧ Good (z 0) ∧ ¬ Good (z 1)) ∨ (nn = 3 ∧ ¬ Good (z 0)) ∨ (nn = 3 ∧ Good (z 0) ∧ ¬ Good (z 1)) ∨ (nn = 3 ∧ Good (z 0) ∧ Good (z 1) ∧ ¬ Good (z 2)) ∨
    (nn = 4 ∧ ¬ Good (z 0)) ∨ (nn = 4 ∧ Good (z 0) ∧ ¬ Good (z 1)) ∨ (nn = 4 ∧ Good (z 0) ∧ Good (z 1) ∧ ¬ Good (z 2)) ∨ (nn = 4 ∧ Good (z 0) ∧ Good (z 1) ∧ Good (z 2) ∧ ¬ Good (z 3)) := by
  by_cases h0 : Good (z 0) <;> by_cases h1 : Good (z 1) <;> by_cases h2 : Good (z 2) <;> by_cases h3 : Good (z 3) <;> simp only [h0, h1, h2, h3, not_true_eq_false, not_false_eq_true, and_true, and_false, or_false, true_and, false_and] <;> omega
def OKG (P T t n : Int) (nn : Nat) (z : Nat → Int) : Prop := MayL P T ∧ (0 ≤ t ∧ t < T) ∧ (1 ≤ n ∧ n ≤ 4096) ∧ nn ≤ 4 ∧ ∀ i, i < nn → Good (z i)
def OKB (P T t p n : Int) : Prop := MayL P T ∧ (0 ≤ t ∧ t < T) ∧ (0 ≤ p ∧ p < P) ∧ (1 ≤ n ∧ n ≤ P - p)
end Go.Proofs.YthggcmhmjkmjnaaGreat
