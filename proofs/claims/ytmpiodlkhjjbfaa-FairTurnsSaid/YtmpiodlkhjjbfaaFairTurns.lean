/- FairTurns: the walk and the plain law. -/
import Derived.Test.YtmpiodlkhjjbfaaRows
import Derived.Test.YtmpiodlkhjjbfaaFairMore
namespace Go.Proofs.Ytmpiodlkhjjbfaa
open Go.RowKit
set_option linter.unusedVariables false
set_option linter.unusedSimpArgs false

/-! the plain law -/
def tf (n i : Nat) : Int := ((i % n : Nat) : Int)
def tg (n : Nat) (_i : Nat) : Nat := 2 ^ n - 1
def turn (n t i : Nat) : Nat := if i ≤ t then i else (i - 1 - t) % n
theorem tg_bit (n i t : Nat) : (tg n i).testBit t = decide (t < n) := by unfold tg; exact Nat.testBit_two_pow_sub_one n t
theorem cnt_turn (n t : Nat) (ht : t < n) : ∀ i, cnt (tf n) (tg n) t i = turn n t i
  | 0 => by simp [cnt, turn]
  | i + 1 => by
    have ih := cnt_turn n t ht i
    simp only [cnt, tg_bit, ht, decide_true, Bool.true_eq_false, false_or, ih]
    unfold turn tf
    by_cases e : i % n = t
    · rw [if_pos (by omega)]
      have h1 : t ≤ i := by rw [← e]; exact Nat.mod_le _ _
      have h2 : (i - t) % n = 0 := by
        have := Nat.div_add_mod i n
        rw [show i - t = n * (i / n) by omega]
        exact Nat.mul_mod_right _ _
      rw [if_neg (by omega), show i + 1 - 1 - t = i - t by omega, h2]
    · rw [if_neg (by omega)]
      by_cases h1 : i < t
      · rw [if_pos (by omega), if_pos (by omega)]
      · have h2 : t < i := by
          rcases Nat.lt_or_ge t i with h | h
          · exact h
          · have : i = t := by omega
            subst this
            exact absurd (Nat.mod_eq_of_lt ht) e
        rw [if_neg (by omega), if_neg (by omega), show i + 1 - 1 - t = (i - 1 - t) + 1 by omega]
        rw [Nat.add_mod]
        by_cases hn : n = 1
        · subst hn; omega
        · rw [Nat.mod_eq_of_lt (show 1 < n by omega)]
          have h3 : (i - 1 - t) % n + 1 ≠ n := by
            intro h
            apply e
            have h4 : (i - t) % n = 0 := by
              rw [show i - t = (i - 1 - t) + 1 by omega, Nat.add_mod, Nat.mod_eq_of_lt (show 1 < n by omega), h, Nat.mod_self]
            have h5 := Nat.div_add_mod (i - t) n
            rw [h4] at h5
            rw [show i = t + n * ((i - t) / n) by omega, Nat.add_mul_mod_self_left, Nat.mod_eq_of_lt ht]
          have h6 := Nat.mod_lt (i - 1 - t) (show 0 < n by omega)
          rw [Nat.mod_eq_of_lt (show (i - 1 - t) % n + 1 < n by omega)]
theorem turns_fair (n M : Nat) (h0 : 0 < n) : FairOk (tf n) (tg n) M n := by
  refine ⟨by omega, fun i _ t _ => ?_⟩
  by_cases ht : t < n
  · rw [cnt_turn n t ht]
    unfold turn
    split
    · omega
    · have := Nat.mod_lt (i + 1 - 1 - t) h0; omega
  · have h : cnt (tf n) (tg n) t (i + 1) = 0 := by simp [cnt, tg_bit, ht]
    rw [h]; omega
theorem turns_not (n M : Nat) (h1 : 1 < n) (h2 : n ≤ M) (h3 : n ≤ 64) : ¬ FairOk (tf n) (tg n) M ((n : Int) - 1) := by
  intro h
  have := h.2 (n - 2) (by omega) (n - 1) (by omega)
  rw [cnt_turn n (n - 1) (by omega)] at this
  unfold turn at this
  rw [if_pos (by omega)] at this
  omega
/-- Fairness looks at the picks that there are alone. -/
theorem cnt_congr {f f' : Nat → Int} {g g' : Nat → Nat} (t : Nat) : ∀ i, (∀ j, j < i → f j = f' j ∧ g j = g' j) → cnt f g t i = cnt f' g' t i
  | 0, _ => rfl
  | i + 1, h => by
    have ih := cnt_congr t i (fun j hj => h j (by omega))
    obtain ⟨h1, h2⟩ := h i (by omega)
    simp only [cnt, ih, h1, h2]

/-- Left, as it is drawn. -/
def tl (n left : Nat) (_i : Nat) : Nat := left ||| (2 ^ n - 1)
def tgl (n left i j : Nat) : Nat := if j < i then 2 ^ n - 1 else left ||| (2 ^ n - 1)

theorem two_pow_le (n : Nat) (h : n ≤ 20) : 2 ^ n ≤ 1048576 := Nat.pow_le_pow_right (n := 2) (by omega) h
theorem mask_eq (n : Nat) (h : n ≤ 20) : IntKind.u64.wrap (IntKind.u64.wrap (2 ^ n) - 1) = ((2 ^ n - 1 : Nat) : Int) := by
  have h1 := two_pow_le n h
  have h2 : 1 ≤ 2 ^ n := Nat.one_le_two_pow
  rw [IntKind.wrap_u64, IntKind.wrap_u64]
  have e : ((2 : Int) ^ n) = ((2 ^ n : Nat) : Int) := by simp
  rw [e]
  omega
theorem or_eq (n left : Nat) (h : n ≤ 20) (hl : left < 18446744073709551616) : bits .or .u64 (left : Int) (IntKind.u64.wrap (IntKind.u64.wrap (2 ^ n) - 1)) = ((left ||| (2 ^ n - 1) : Nat) : Int) := by
  have h1 := two_pow_le n h
  rw [mask_eq n h]
  exact u64_or_nat _ _ hl (by omega)
theorem and_eq (n left : Nat) (h : n ≤ 20) (hl : left < 18446744073709551616) : bits .and .u64 ((left ||| (2 ^ n - 1) : Nat) : Int) (IntKind.u64.wrap (IntKind.u64.wrap (2 ^ n) - 1)) = ((2 ^ n - 1 : Nat) : Int) := by
  have h1 := two_pow_le n h
  rw [mask_eq n h]
  have h2 : left ||| (2 ^ n - 1) < 2 ^ 64 := Nat.or_lt_two_pow (by omega) (by omega)
  rw [u64_and_nat _ _ (by omega) (by omega)]
  congr 1
  apply Nat.eq_of_testBit_eq
  intro i
  simp only [Nat.testBit_and, Nat.testBit_or, Nat.testBit_two_pow_sub_one]
  by_cases hi : i < n <;> simp [hi]

theorem tg_lt (n : Nat) (h : n ≤ 20) : ∀ i, tg n i < 18446744073709551616 := fun i => by
  have h1 := two_pow_le n h
  unfold tg
  omega
theorem tgl_step (n left i : Nat) (f : Nat → Int) (j : Nat) : (if j = i * 2 + 1 then Value.int .u64 ((2 ^ n - 1 : Nat) : Int) else pkv f (tgl n left i) j) = pkv f (tgl n left (i + 1)) j := by
  by_cases e : j = i * 2 + 1
  · subst e
    rw [if_pos rfl, pkv1]
    simp [tgl]
  · rw [if_neg e]
    unfold pkv
    by_cases h2 : j % 2 = 0
    · rw [if_pos h2, if_pos h2]
    · rw [if_neg h2, if_neg h2]
      unfold tgl
      by_cases h3 : j / 2 < i
      · rw [if_pos h3, if_pos (by omega)]
      · rw [if_neg h3, if_neg (by omega)]
theorem tgl_all (n left i : Nat) (f : Nat → Int) : ∀ j, j < i * 2 → pkv f (tgl n left i) j = pkv f (tg n) j := by
  intro j hj
  unfold pkv tgl tg
  by_cases h2 : j % 2 = 0
  · rw [if_pos h2, if_pos h2]
  · rw [if_neg h2, if_neg h2, if_pos (by omega)]

set_option maxHeartbeats 2000000 in
set_option maxRecDepth 100000 in
theorem fairTurns_any (th m left : Nat) (w : World) (h1 : th < 256) (h2 : m < 65536) (h3 : left < 18446744073709551616) :
    Calls Try.prog 5 #[.int .u8 th, .int .u16 m, .int .u64 left] w fun e w' => e = .returned (.bool true) ∧ Ext w w' := by
  obtain ⟨n, hn⟩ : ∃ n, 1 + th % 20 = n := ⟨_, rfl⟩
  obtain ⟨M, hM⟩ : ∃ M, n + m % 200 = M := ⟨_, rfl⟩
  have en : 1 + (th : Int) % 20 = (n : Int) := by omega
  have eM : (n : Int) + (m : Int) % 200 = (M : Int) := by omega
  have n1 : 1 ≤ n := by omega
  have n0 : ¬ n = 0 := by omega
  have n2 : n ≤ 20 := by omega
  have M1 : n ≤ M := by omega
  have M2 : M ≤ 220 := by omega
  clear hn hM
  obtain ⟨i0, hi, hz0, hz1, hz2⟩ := info_parts Try.infoPick
  have HI := Lib.hid (And.intro hi (And.intro hz0 (And.intro hz1 hz2)))
  clear hi hz0 hz1 hz2
  have HOR := Lib.hid (or_eq n left n2 h3)
  have HAND := Lib.hid (and_eq n left n2 h3)
  go_enter Try.func5, Try.ntmps5
  go_wp2
  go_loopg [8, 9] M (fun q v i wr => ∃ k : Nat, k ≤ M ∧ q = M - k ∧ i = .int .i64 k ∧ Ext w wr ∧ OwnS wr w.heap.size 41 2 v k (pkv (tf n) (tl n left)))
  case atStart => exact ⟨0, Nat.zero_le _, rfl, rfl, Ext.refl _, OwnS.nil _ _ _ _ _⟩
  case round =>
    obtain ⟨k, hk, rfl, rfl, hE, hO⟩ := hrel
    obtain ⟨Av, cv, rfl, hcv, hvr⟩ := hO.form
    have HO := Lib.hid hO
    have HV := Lib.hid hvr
    clear hO hvr hcv
    by_cases hlt : k < M
    · go_wp2_with fail
      go_region_held3 (fun _ => True) (trivial)
        (first
          | (refine step_push (by rfl) _ _ 36 (by rfl) w.heap.size 41 i0 (.agg #[.int .i64 0, .int .u64 0]) 2 16 Try.underlying36 HI.out.1 HI.out.2.1 HI.out.2.2.1 HI.out.2.2.2 (by rfl) (by omega) (.slice Av k cv) k (pkv (tf n) (tl n left)) (by rfl) (HO.out.ext ((Ext.refl _).alloc _).drew)
              ⟨wr.heap.size, 0, none⟩ 1 (fun j => pkv (tf n) (tl n left) (k * 2 + j)) (by rfl) (new_pick _ _ () () (by rfl) HOR.out) (pk_one _ _ _) (by unfold maxLen; omega) (by omega) (by have := hE.size; simp; omega) _ rfl (pkv (tf n) (tl n left)) (fun _ _ => rfl) (fun _ _ => rfl) ?_
             intro g cap w' hO' hgrow hExt hor hg))
      have hEE := hExt w (hE.trans ((Ext.refl _).alloc _).drew) (Nat.le_refl _)
      go_wp2
      go_roundg (M - (k + 1))
      case measure => go_light; omega
      case rel => exact ⟨k + 1, by omega, rfl, by go_num, hEE, hO'⟩
    · obtain rfl : k = M := by omega
      go_wp2_with fail
      have hO := HO.out
      obtain ⟨g3, _, e3⟩ := hO.form' (by omega)
      cases e3
      have hb := hO.base_le
      go_loopg [10] k (fun q i wx => ∃ j : Nat, j ≤ k ∧ q = k - j ∧ i = .int .i64 j ∧ Ext w wx ∧ OwnS wx w.heap.size 41 2 (.slice (some ⟨g3, 0, none⟩) k cv) k (pkv (tf n) (tgl n left j)))
      case atStart => exact ⟨0, Nat.zero_le _, rfl, rfl, hE, hO.congr (fun j _ => by simp [pkv, tgl, tl])⟩
      case round =>
        obtain ⟨j, hj, rfl, rfl, hX, hOw⟩ := hrel
        by_cases hlt2 : j < k
        · have c1 : wr.cell? ⟨g3, j * 2 + 1, none⟩ = some (.int .u64 ((left ||| (2 ^ n - 1) : Nat) : Int)) := by
            rw [hOw.cellAt (by omega), pkv1]; simp [tgl]
          have fz := hOw.frozenAt (j * 2 + 1)
          have q0 : (0 : Int) ≤ (j : Int) := by omega
          have q1 : (j : Int) < (k : Int) := by omega
          have hA := HAND.out
          go_wp2_with fail
          go_region
          all_goals go_wp2
          go_roundg (k - (j + 1))
          case measure => go_light; omega
          case rel => exact ⟨j + 1, by omega, rfl, by go_num, (hX.setCell hb _).drew, ((hOw.set (j * 2 + 1) _).congr (fun i _ => tgl_step _ _ _ _ i))⟩
        · obtain rfl : j = k := by omega
          obtain ⟨_, _, e3, _, hSl⟩ := hOw.form
          cases e3
          have hS := hSl.congr (tgl_all n left j _)
          have hS2 := Lib.hid hS
          clear hS hSl
          have HF := Lib.hid (B_yes (turns_fair n j (by omega)))
          by_cases hn1 : n = 1
          · subst hn1
            go_wp2_with (first
              | (go_at_call 14; have _t := HF; refine (fair_z _ j _ _ _ _ _ true HF.out (by omega) ?h1 (tg_lt _ (by omega)) (by omega)).mono ?_; (case h1 => exact hS2.out); clear HF; rintro e w4 ⟨rfl, hE4⟩)
              | (go_at_call 15; refine (awake31_any _).mono ?_; rintro e w8 ⟨rfl, hE8⟩))
            go_ret
            exact ⟨rfl, hX.trans (hE4.trans hE8)⟩
          · have HN := Lib.hid (B_no (turns_not n j (by omega) M1 (by omega)))
            have hn1' : ((n : Int) == 1) = false := by rw [beq_eq_false_iff_ne]; omega
            go_wp2_with (first
              | (go_at_call 14; have _t := HF; refine (fair_z _ j _ _ _ _ _ true HF.out (by omega) ?h1 (tg_lt _ (by omega)) (by omega)).mono ?_; (case h1 => exact hS2.out); clear HF; rintro e w4 ⟨rfl, hE4⟩)
              | (go_at_call 14; have _t := HN; refine (fair_z _ j _ _ _ _ _ false HN.out (by omega) ?h1 (tg_lt _ (by omega)) (by omega)).mono ?_; (case h1 => exact hS2.out.ext hE4); clear HN; rintro e w5 ⟨rfl, hE5⟩)
              | (go_at_call 15; refine (awake31_any _).mono ?_; rintro e w8 ⟨rfl, hE8⟩))
            go_ret
            exact ⟨rfl, hX.trans (hE4.trans (hE5.trans hE8))⟩
end Go.Proofs.Ytmpiodlkhjjbfaa
