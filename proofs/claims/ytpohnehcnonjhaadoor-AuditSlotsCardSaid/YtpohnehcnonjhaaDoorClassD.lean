/- Walks: the document's Slots, Size, Begin; class.small, Slots, Size; slot.there, Begin. -/
import Derived.Test.YtpohnehcnonjhaaDoorClass1
namespace Go.Proofs.YtpohnehcnonjhaaDoor
open Go.RowKit
set_option linter.unusedVariables false
set_option linter.unusedSimpArgs false

theorem ix3_0 (a b c : Int) : ∀ w, (Instr.index 39 (.agg #[.int .i64 a, .int .i64 b, .int .i64 c]) (.int .i64 0)).run Tryd.prog w = .ok (.int .i64 a) w := fun _ => by kernel_rfl
theorem ix3_2 (a b c : Int) : ∀ w, (Instr.index 39 (.agg #[.int .i64 a, .int .i64 b, .int .i64 c]) (.int .i64 2)).run Tryd.prog w = .ok (.int .i64 c) w := fun _ => by kernel_rfl
set_option maxHeartbeats 400000 in
theorem slots1_any (c : Int) (w : World) : Calls Tryd.prog 5 #[.int .i64 c] w fun e w' => e = .returned (.int .i64 (clsS c)) ∧ Ext w w' := by
  have h3 := ix3_2 (clsB c) (clsP c) (clsS c)
  go_enter Tryd.func5, Tryd.ntmps5
  go_wp2_with (go_at_call 13; refine (row_any _ _).mono ?_; rintro e w' ⟨rfl, hE⟩)
  go_ret
  exact ⟨rfl, hE⟩
set_option maxHeartbeats 400000 in
theorem size1_any (c : Int) (w : World) : Calls Tryd.prog 14 #[.int .i64 c] w fun e w' => e = .returned (.int .i64 (clsB c)) ∧ Ext w w' := by
  have h3 := ix3_0 (clsB c) (clsP c) (clsS c)
  go_enter Tryd.func14, Tryd.ntmps14
  go_wp2_with (go_at_call 13; refine (row_any _ _).mono ?_; rintro e w' ⟨rfl, hE⟩)
  go_ret
  exact ⟨rfl, hE⟩

/-- 5.1: where a slot begins. -/
def BegP (p c i : Int) : Prop := 0 ≤ p ∧ p < 4096 ∧ 0 ≤ c ∧ c ≤ 14 ∧ 0 ≤ i ∧ i < clsS c
noncomputable def begC (p c i : Int) : Int := if B (BegP p c i) then p * 8192 + i * clsB c else 0
theorem mul_bd' {a b A B : Int} (h1 : 0 ≤ a) (h2 : a ≤ A) (h3 : 0 ≤ b) (h4 : b ≤ B) : 0 ≤ a * b ∧ a * b ≤ A * B :=
  ⟨Int.mul_nonneg h1 h3, Int.mul_le_mul h2 h4 h3 (Int.le_trans h1 h2)⟩
theorem BegP.bd {p c i : Int} (h : BegP p c i) : 0 ≤ i * clsB c ∧ i * clsB c ≤ 64 * 12288 := by
  obtain ⟨h1, h2, h3, h4, h5, h6⟩ := h
  have := clsS_bd c
  have hb := clsB_bd c
  exact mul_bd' h5 (by omega) hb.1 hb.2

set_option maxHeartbeats 1000000 in
theorem begin1_any (p c i : Int) (w : World) : Calls Tryd.prog 6 #[.int .i64 p, .int .i64 c, .int .i64 i] w fun e w' =>
    e = .returned (.tuple #[.int .i64 (begC p c i), .bool (B (BegP p c i))]) ∧ Ext w w' := by
  by_cases h : 0 ≤ p ∧ p < 4096 ∧ 0 ≤ c ∧ c ≤ 14 ∧ 0 ≤ i
  · obtain ⟨h1, h2, h3, h4, h5⟩ := h
    have hS := clsS_bd c
    by_cases h6 : i < clsS c
    · have hB : BegP p c i := ⟨h1, h2, h3, h4, h5, h6⟩
      have e : begC p c i = p * 8192 + i * clsB c := if_pos (B_yes hB)
      have HE := Lib.hid (And.intro e (B_yes hB))
      obtain ⟨b1, b2⟩ := hB.bd
      have d6 : decide (clsS c ≤ i) = false := by simp; omega
      clear e hB
      go_enter Tryd.func6, Tryd.ntmps6
      go_wp2_with (first | (go_at_call 5; refine (slots1_any _ _).mono ?_; rintro e w1 ⟨rfl, hE1⟩) | (go_at_call 14; refine (size1_any _ _).mono ?_; rintro e w2 ⟨rfl, hE2⟩))
      go_ret2
      exact ⟨by rw [HE.out.1, HE.out.2]; rfl, hE1.trans hE2⟩
    · have HN := Lib.hid (show B (BegP p c i) = false from B_no (fun hh => h6 hh.2.2.2.2.2))
      have e : begC p c i = 0 := if_neg (by rw [HN.out]; simp)
      have HE := Lib.hid e
      have d6 : decide (clsS c ≤ i) = true := by simp; omega
      clear e
      go_enter Tryd.func6, Tryd.ntmps6
      go_wp2_with (first | (go_at_call 5; refine (slots1_any _ _).mono ?_; rintro e w1 ⟨rfl, hE1⟩))
      go_ret2
      exact ⟨by rw [HE.out, HN.out]; rfl, hE1⟩
  · have HN := Lib.hid (show B (BegP p c i) = false from B_no (fun hh => h ⟨hh.1, hh.2.1, hh.2.2.1, hh.2.2.2.1, hh.2.2.2.2.1⟩))
    have e : begC p c i = 0 := if_neg (by rw [HN.out]; simp)
    have HE := Lib.hid e
    clear e
    have hc : p < 0 ∨ (0 ≤ p ∧ 4096 ≤ p) ∨ (0 ≤ p ∧ p < 4096 ∧ c < 0) ∨ (0 ≤ p ∧ p < 4096 ∧ 0 ≤ c ∧ 14 < c) ∨ (0 ≤ p ∧ p < 4096 ∧ 0 ≤ c ∧ c ≤ 14 ∧ i < 0) := by omega
    clear h
    rcases hc with hc | ⟨g1, hc⟩ | ⟨g1, g2, hc⟩ | ⟨g1, g2, g3, hc⟩ | ⟨g1, g2, g3, g4, hc⟩
    all_goals
      go_enter Tryd.func6, Tryd.ntmps6
      go_wp2_with fail
      go_ret2
      exact ⟨by rw [HE.out, HN.out]; rfl, Ext.refl _⟩

/-- The table of classes. -/
def Tab (w : World) : Prop := ∀ c : Nat, c < 14 → w.cell? ⟨0, c * 2, none⟩ = some (.int .i64 (clsB c)) ∧ w.cell? ⟨0, c * 2 + 1, none⟩ = some (.int .i64 (clsP c))
theorem Tab.ext {w w' : World} (h : Tab w) (hE : Ext w w') : Tab w' := fun c hc => ⟨hE.cell (h c hc).1, hE.cell (h c hc).2⟩
theorem cls_quo {c : Int} (h0 : 0 ≤ c) (h1 : c < 14) : 1 ≤ clsB c ∧ clsP c * 8192 / clsB c = clsS c := by
  have h := cls_cases h0 (by omega)
  rcases h with rfl | rfl | rfl | rfl | rfl | rfl | rfl | rfl | rfl | rfl | rfl | rfl | rfl | rfl | rfl <;> first | decide | omega
theorem clsP_bd2 {c : Int} (h0 : 0 ≤ c) (h1 : c < 14) : 1 ≤ clsP c ∧ clsP c ≤ 3 := clsP_bd h0 h1

def SmallP (c : Int) : Prop := 0 ≤ c ∧ c < 14
def sizC (c : Int) : Int := if 0 ≤ c ∧ c < 14 then clsB c else 0
set_option maxHeartbeats 400000 in
theorem small_any (c : Int) (w : World) : Calls Tryd.prog 26 #[.int .i64 c] w fun e w' => e = .returned (.bool (B (SmallP c))) ∧ w = w' := by
  go_enter Tryd.func26, Tryd.ntmps26
  go_wp2
  all_goals go_ret
  all_goals exact ⟨ret_B (by unfold SmallP; (try simp) <;> omega), rfl⟩

set_option maxHeartbeats 1000000 in
theorem size_c_any (c : Int) (w : World) (hT : Tab w) : Calls Tryd.prog 32 #[.int .i64 c] w fun e w' => e = .returned (.int .i64 (sizC c)) ∧ w = w' := by
  by_cases h : 0 ≤ c ∧ c < 14
  · have hB := B_yes (show SmallP c from h)
    have HI := Lib.hid (show sizC c = clsB c from if_pos h)
    obtain ⟨h0, h1⟩ := h
    obtain ⟨k, rfl⟩ := Int.eq_ofNat_of_zero_le h0
    have hc := (hT k (by omega)).1
    go_enter Tryd.func32, Tryd.ntmps32
    go_wp2_with (go_at_call 26; refine (small_any _ _).mono ?_; rintro e w' ⟨rfl, rfl⟩)
    go_ret
    exact ⟨by rw [HI.out]; rfl, rfl⟩
  · have hB := B_no (show ¬ SmallP c from h)
    have HI := Lib.hid (show sizC c = 0 from if_neg h)
    clear h
    go_enter Tryd.func32, Tryd.ntmps32
    go_wp2_with (go_at_call 26; refine (small_any _ _).mono ?_; rintro e w' ⟨rfl, rfl⟩)
    go_ret
    exact ⟨by rw [HI.out]; rfl, rfl⟩

set_option maxHeartbeats 1000000 in
theorem slots_c_any (c : Int) (w : World) (hT : Tab w) : Calls Tryd.prog 17 #[.int .i64 c] w fun e w' => e = .returned (.int .i64 (clsS c)) ∧ Ext w w' := by
  by_cases h14 : c = 14
  · subst h14
    go_enter Tryd.func17, Tryd.ntmps17
    go_wp2
    go_ret
    exact ⟨rfl, Ext.refl _⟩
  have e14 : (c == 14) = false := by simpa using h14
  by_cases h : 0 ≤ c ∧ c < 14
  · have hB := B_yes (show SmallP c from h)
    obtain ⟨h0, h1⟩ := h
    have hq := cls_quo h0 h1
    have hp := clsP_bd2 h0 h1
    obtain ⟨k, rfl⟩ := Int.eq_ofNat_of_zero_le h0
    have hc0 := (hT k (by omega)).1
    have hc1 := (hT k (by omega)).2
    have HQ := Lib.hid hq.2
    have hq1 := hq.1
    clear hq h14
    have W1 : IntKind.i64.wrap (clsP k * 8192) = clsP k * 8192 := IntWalk.i64_in _ (by omega)
    have g0 : (0 : Int) ≤ (k : Int) := by omega
    have n0 : ¬ clsB k = 0 := by omega
    have n1 : (clsB k == 0) = false := by simp; omega
    have n2 : 0 ≤ clsP k * 8192 := by omega
    go_enter Tryd.func17, Tryd.ntmps17
    go_wp2_with (go_at_call 26; refine (small_any _ _).mono ?_; rintro e w' ⟨rfl, rfl⟩)
    go_quiet (fail)
    go_wp2
    go_ret
    exact ⟨by rw [← HQ.out]; rfl, (Ext.refl _).drewN _⟩
  · have hB := B_no (show ¬ SmallP c from h)
    have e := (cls_out (c := c) (by omega)).2.2
    have HE := Lib.hid e
    clear h e h14
    go_enter Tryd.func17, Tryd.ntmps17
    go_wp2_with (go_at_call 26; refine (small_any _ _).mono ?_; rintro e w' ⟨rfl, rfl⟩)
    go_ret
    exact ⟨by rw [HE.out]; rfl, Ext.refl _⟩

def ThereP (p c : Int) : Prop := 0 ≤ p ∧ p < 4096 ∧ 0 ≤ c ∧ c ≤ 14
set_option maxHeartbeats 400000 in
theorem there_any (p c : Int) (w : World) : Calls Tryd.prog 31 #[.int .i64 p, .int .i64 c] w fun e w' => e = .returned (.bool (B (ThereP p c))) ∧ w = w' := by
  go_enter Tryd.func31, Tryd.ntmps31
  go_wp2
  all_goals go_ret
  all_goals exact ⟨ret_B (by unfold ThereP; (try simp) <;> omega), rfl⟩
theorem sizC_14 {c : Int} (h0 : 0 ≤ c) (h1 : c ≤ 14) : sizC c = clsB c := by
  unfold sizC
  by_cases h : c < 14
  · rw [if_pos ⟨h0, h⟩]
  · obtain rfl : c = 14 := by omega
    rw [if_neg (by omega)]; rfl

set_option maxHeartbeats 1000000 in
theorem begin_s_any (p c i : Int) (w : World) (hT : Tab w) : Calls Tryd.prog 20 #[.int .i64 p, .int .i64 c, .int .i64 i] w fun e w' =>
    e = .returned (.tuple #[.int .i64 (begC p c i), .bool (B (BegP p c i))]) ∧ Ext w w' := by
  have HT := Lib.hid hT
  clear hT
  by_cases h : ThereP p c
  · have hB1 := B_yes h
    obtain ⟨h1, h2, h3, h4⟩ := h
    have hS := clsS_bd c
    have hz := sizC_14 h3 h4
    by_cases h5 : i < 0
    · have HN := Lib.hid (show B (BegP p c i) = false from B_no (fun hh => by have := hh.2.2.2.2.1; omega))
      have e : begC p c i = 0 := if_neg (by rw [HN.out]; simp)
      have HE := Lib.hid e
      have d5 : decide (i < 0) = true := by simpa using h5
      clear e hz
      go_enter Tryd.func20, Tryd.ntmps20
      go_wp2_with (first | (go_at_call 31; refine (there_any _ _ _).mono ?_; rintro e w1 ⟨rfl, rfl⟩))
      go_ret2
      exact ⟨by rw [HE.out, HN.out]; rfl, Ext.refl _⟩
    have d5 : decide (i < 0) = false := by simpa using h5
    by_cases h6 : i < clsS c
    · have hB : BegP p c i := ⟨h1, h2, h3, h4, by omega, h6⟩
      have e : begC p c i = p * 8192 + i * clsB c := if_pos (B_yes hB)
      have HE := Lib.hid (And.intro e (B_yes hB))
      obtain ⟨b1, b2⟩ := hB.bd
      have d6 : decide (clsS c ≤ i) = false := by simp; omega
      have HZ := Lib.hid hz
      clear e hB hz
      go_enter Tryd.func20, Tryd.ntmps20
      go_wp2_with (first | (go_at_call 31; refine (there_any _ _ _).mono ?_; rintro e w1 ⟨rfl, rfl⟩) | (go_at_call 17; refine (slots_c_any _ _ HT.out).mono ?_; rintro e w1 ⟨rfl, hE1⟩) | (go_at_call 32; refine (size_c_any _ _ (HT.out.ext hE1)).mono ?_; rintro e w2 ⟨rfl, rfl⟩; rw [HZ.out]))
      go_ret2
      exact ⟨by rw [HE.out.1, HE.out.2]; rfl, hE1⟩
    · have HN := Lib.hid (show B (BegP p c i) = false from B_no (fun hh => h6 hh.2.2.2.2.2))
      have e : begC p c i = 0 := if_neg (by rw [HN.out]; simp)
      have HE := Lib.hid e
      have d6 : decide (clsS c ≤ i) = true := by simp; omega
      clear e hz
      go_enter Tryd.func20, Tryd.ntmps20
      go_wp2_with (first | (go_at_call 31; refine (there_any _ _ _).mono ?_; rintro e w1 ⟨rfl, rfl⟩) | (go_at_call 17; refine (slots_c_any _ _ HT.out).mono ?_; rintro e w1 ⟨rfl, hE1⟩))
      go_ret2
      exact ⟨by rw [HE.out, HN.out]; rfl, hE1⟩
  · have hB1 := B_no h
    have HN := Lib.hid (show B (BegP p c i) = false from B_no (fun hh => h ⟨hh.1, hh.2.1, hh.2.2.1, hh.2.2.2.1⟩))
    have e : begC p c i = 0 := if_neg (by rw [HN.out]; simp)
    have HE := Lib.hid e
    clear e h
    go_enter Tryd.func20, Tryd.ntmps20
    go_wp2_with (first | (go_at_call 31; refine (there_any _ _ _).mono ?_; rintro e w1 ⟨rfl, rfl⟩))
    go_ret2
    exact ⟨by rw [HE.out, HN.out]; rfl, Ext.refl _⟩
end Go.Proofs.YtpohnehcnonjhaaDoor
