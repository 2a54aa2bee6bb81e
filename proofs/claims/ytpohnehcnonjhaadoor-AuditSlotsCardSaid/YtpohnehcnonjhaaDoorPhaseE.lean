/- Walks: phase.cycle, Make, split, Swept. -/
import Derived.Test.YtpohnehcnonjhaaDoorPhaseD
namespace Go.Proofs.YtpohnehcnonjhaaDoor
open Go.RowKit
set_option linter.unusedVariables false
set_option linter.unusedSimpArgs false

def CyP (g : Int) : Prop := 1 ≤ g ∧ g ≤ 2147483648
set_option maxHeartbeats 400000 in
theorem cycle_any (g : Int) (w : World) : Calls Tryd.prog 37 #[.int .i64 g] w fun e w' => e = .returned (.bool (B (CyP g))) ∧ w = w' := by
  go_enter Tryd.func37, Tryd.ntmps37
  go_wp2
  all_goals go_ret
  all_goals exact ⟨ret_B (by unfold CyP; (try simp) <;> omega), rfl⟩

theorem or_state (g p : Nat) (hg : g ≤ 2147483648) (hp : p < 8) : bits .or .u64 ((g : Int) * 8) (p : Int) = 8 * (g : Int) + p := by
  have e : ((g : Int) * 8) = ((2 ^ 3 * g : Nat) : Int) := by simp; omega
  rw [e, bits_or_u64_nat _ _ (by omega) (by omega), ← Nat.two_pow_add_eq_or_of_lt (by omega)]
  simp
set_option maxHeartbeats 1000000 in
theorem make_any (g p : Int) (w : World) : Calls Tryd.prog 27 #[.int .i64 g, .int .i64 p] w fun e w' =>
    e = .returned (.tuple #[.int .u64 (stN g p : Nat), .bool (B (StP g p))]) ∧ w = w' := by
  by_cases h : StP g p
  · have HE := Lib.hid (And.intro (stN_yes h) (B_yes h))
    obtain ⟨h1, h2, h3, h4⟩ := h
    have hB := B_yes (show CyP g from ⟨h1, h2⟩)
    obtain ⟨G, rfl⟩ := Int.eq_ofNat_of_zero_le (show 0 ≤ g by omega)
    obtain ⟨q, rfl⟩ := Int.eq_ofNat_of_zero_le (show 0 ≤ p by omega)
    have ho := or_state G q (by omega) (by omega)
    go_enter Tryd.func27, Tryd.ntmps27
    go_wp2_with (go_at_call 37; refine (cycle_any _ _).mono ?_; rintro e w' ⟨rfl, rfl⟩)
    go_ret2
    exact ⟨by rw [HE.out.1, HE.out.2]; rfl, rfl⟩
  · have HE := Lib.hid (And.intro (stN_no h) (B_no h))
    by_cases hC : CyP g
    · have hB := B_yes hC
      have hc : p < 1 ∨ (1 ≤ p ∧ 6 < p) := by unfold StP at h; obtain ⟨c1, c2⟩ := hC; omega
      clear h hC
      rcases hc with hc | ⟨g1, hc⟩
      all_goals
        go_enter Tryd.func27, Tryd.ntmps27
        go_wp2_with (go_at_call 37; refine (cycle_any _ _).mono ?_; rintro e w' ⟨rfl, rfl⟩)
        go_ret2
        exact ⟨by rw [HE.out.1, HE.out.2]; rfl, rfl⟩
    · have hB := B_no hC
      clear h hC
      go_enter Tryd.func27, Tryd.ntmps27
      go_wp2_with (go_at_call 37; refine (cycle_any _ _).mono ?_; rintro e w' ⟨rfl, rfl⟩)
      go_ret2
      exact ⟨by rw [HE.out.1, HE.out.2]; rfl, rfl⟩

def OkSt (x : Nat) : Prop := MaySt x ∧ x ≠ 0
def gnF (x : Nat) : Nat := x / 8 % 1152921504606846976
theorem okSt_iff {x : Nat} (hx : x < 18446744073709551616) : (StP (gnF x : Nat) (x % 8 : Nat) ∧ stN (gnF x : Nat) (x % 8 : Nat) = x) ↔ OkSt x := by
  constructor
  · rintro ⟨h1, h2⟩
    have h3 := stN_yes h1
    rw [h2] at h3
    obtain ⟨a1, a2, a3, a4⟩ := h1
    generalize gnF x = g at *
    exact ⟨.inr ⟨by omega, by omega, by omega, by omega⟩, by omega⟩
  · rintro ⟨h1 | ⟨a1, a2, a3, a4⟩, h0⟩
    · exact absurd h1 h0
    · have e : gnF x = x / 8 := Nat.mod_eq_of_lt (by omega)
      rw [e]
      have hs : StP ((x / 8 : Nat) : Int) ((x % 8 : Nat) : Int) := ⟨by omega, by omega, by omega, by omega⟩
      refine ⟨hs, ?_⟩
      have := stN_yes hs
      omega
theorem okSt_val {x : Nat} (hx : x < 18446744073709551616) (h : OkSt x) : gnF x = gnN x ∧ x % 8 = phN x := by
  obtain ⟨h1, h0⟩ := h
  have hB := B_yes h1
  rcases h1 with h1 | ⟨a1, a2, a3, a4⟩
  · exact absurd h1 h0
  · unfold gnN phN
    rw [if_pos hB, if_pos hB]
    exact ⟨Nat.mod_eq_of_lt (by omega), rfl⟩
theorem okSt_no {x : Nat} (h : ¬ OkSt x) (g : Int) : ¬ SwP x g := by
  intro hs
  have hp : phN x = 0 := by
    unfold phN
    by_cases hm : MaySt x
    · rw [if_pos (B_yes hm)]
      have : x = 0 := by
        by_cases h0 : x = 0
        · exact h0
        · exact absurd ⟨hm, h0⟩ h
      rw [this]
    · rw [if_neg (by rw [B_no hm]; simp)]
  have := hs.2
  omega

set_option maxHeartbeats 2000000 in
theorem split_any (x : Nat) (w : World) (hx : x < 18446744073709551616) : Calls Tryd.prog 38 #[.int .u64 x] w fun e w' =>
    e = .returned (.tuple #[.int .i64 (gnF x : Nat), .int .i64 (x % 8 : Nat), .bool (B (OkSt x))]) ∧ Ext w w' := by
  have f1 := fun w => field_any x 3 60 w hx (by omega)
  have f2 := fun w => field_any x 0 3 w hx (by omega)
  have hk := okSt_iff hx
  have e1 : x / 2 ^ 3 % 2 ^ 60 = gnF x := rfl
  have e2 : x / 2 ^ 0 % 2 ^ 3 = x % 8 := by simp
  rw [e1] at f1
  rw [e2] at f2
  have l1 : gnF x < 1152921504606846976 := Nat.mod_lt _ (by decide)
  have l2 : x % 8 < 8 := Nat.mod_lt _ (by decide)
  obtain ⟨a, ha⟩ : ∃ a, gnF x = a := ⟨_, rfl⟩
  obtain ⟨b, hb⟩ : ∃ b, x % 8 = b := ⟨_, rfl⟩
  rw [ha] at f1 hk l1
  rw [hb] at f2 hk l2
  have HF := Lib.hid (And.intro f1 (And.intro f2 (And.intro hk (And.intro ha hb))))
  clear f1 f2 hk e1 e2 ha hb
  go_enter Tryd.func38, Tryd.ntmps38
  go_wp2_with fail
  go_at_call 54
  refine (HF.out.1 _).mono ?_
  rintro e w1 ⟨rfl, hE1⟩
  go_wp2_with fail
  go_at_call 54
  refine (HF.out.2.1 _).mono ?_
  rintro e w2 ⟨rfl, hE2⟩
  go_wp2_with fail
  go_at_call 27
  refine (make_any _ _ _).mono ?_
  rintro e w3 ⟨rfl, rfl⟩
  obtain ⟨hk, ha, hb⟩ := HF.out.2.2
  have hE := hE1.trans hE2
  by_cases hS : StP (a : Int) (b : Int)
  · rw [B_yes hS]
    by_cases hE' : stN (a : Int) (b : Int) = x
    · have HO := Lib.hid (show B (OkSt x) = true from B_yes (hk.1 ⟨hS, hE'⟩))
      rw [hE']
      clear hk hS hE' HF
      go_wp2_with fail
      go_ret3
      exact ⟨by rw [HO.out, ha, hb]; rfl, hE⟩
    · have HO := Lib.hid (show B (OkSt x) = false from B_no (fun hc => hE' (hk.2 hc).2))
      have hne : ¬ ((stN (a : Int) (b : Int) : Int) = (x : Int)) := by omega
      replace HO := Lib.hid (show B (OkSt x) = ((stN (a : Int) (b : Int) : Int) == (x : Int)) by rw [HO.out]; symm; simpa using hne)
      generalize (stN (a : Int) (b : Int)) = y at hne HO ⊢
      clear hk hS hE' HF
      go_wp2_with fail
      go_ret3
      exact ⟨by rw [HO.out, ha, hb]; rfl, hE⟩
  · rw [B_no hS]
    have HO := Lib.hid (show B (OkSt x) = false from B_no (fun hc => hS (hk.2 hc).1))
    generalize (stN (a : Int) (b : Int)) = y
    clear hk hS HF
    go_wp2_with fail
    go_ret3
    exact ⟨by rw [HO.out, ha, hb]; rfl, hE⟩

set_option maxHeartbeats 1000000 in
theorem swept_any (x : Nat) (g : Int) (w : World) (hx : x < 18446744073709551616) : Calls Tryd.prog 28 #[.int .u64 x, .int .i64 g] w fun e w' =>
    e = .returned (.bool (B (SwP x g))) ∧ Ext w w' := by
  have hs := fun w => split_any x w hx
  by_cases hO : OkSt x
  · rw [B_yes hO] at hs
    obtain ⟨e1, e2⟩ := okSt_val hx hO
    rw [e1, e2] at hs
    have HX := Lib.hid (show ∀ a b : Nat, phN x = a → gnN x = b → (SwP x g ↔ (b : Int) = g ∧ (a = 1 ∨ a = 2 ∨ a = 3 ∨ a = 5)) from fun a b ha hb => by unfold SwP; rw [ha, hb])
    generalize phN x = a at hs HX
    generalize gnN x = b at hs HX
    have HP := Lib.hid (And.intro hs (HX.out a b rfl rfl))
    clear hs HX hO e1 e2
    go_enter Tryd.func28, Tryd.ntmps28
    go_wp2_with fail
    go_at_call 38
    refine (HP.out.1 _).mono ?_
    rintro e w1 ⟨rfl, hE1⟩
    go_wp2_with fail
    all_goals go_ret
    all_goals exact ⟨ret_B (by rw [HP.out.2]; (try simp only [bne_eq_false_iff_eq, bne_iff_ne, ne_eq] at *) <;> (try simp) <;> omega), hE1⟩
  · rw [B_no hO] at hs
    have HP := Lib.hid (And.intro hs (B_no (okSt_no hO g)))
    clear hs hO
    generalize gnF x = a at HP
    generalize x % 8 = b at HP
    go_enter Tryd.func28, Tryd.ntmps28
    go_wp2_with fail
    go_at_call 38
    refine (HP.out.1 _).mono ?_
    rintro e w1 ⟨rfl, hE1⟩
    go_wp2_with fail
    all_goals go_ret
    all_goals exact ⟨by rw [HP.out.2]; rfl, hE1⟩
end Go.Proofs.YtpohnehcnonjhaaDoor
