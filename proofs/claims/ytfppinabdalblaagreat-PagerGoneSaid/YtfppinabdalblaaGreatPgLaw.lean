/- PagerGone: the law: which pages are released behind, bit by bit. -/
import Derived.Test.YtfppinabdalblaaGreatPgM
namespace Go.Proofs.YtfppinabdalblaaGreat
open Go.RowKit
set_option linter.unusedVariables false
set_option linter.unusedSimpArgs false

theorem pg_all {x : Nat} (h : x < 18446744073709551616) : x = x &&& 18446744073709551615 := by
  have := Nat.and_two_pow_sub_one_eq_mod x 64
  rw [show (2 ^ 64 - 1 : Nat) = 18446744073709551615 from rfl] at this
  rw [this]
  omega
theorem pg_low {x k : Nat} : x &&& (2 ^ k - 1) ≤ x := Nat.and_le_left
theorem pg_self (x k : Nat) : x &&& (2 ^ k - 1) = x &&& (2 ^ k - 1) &&& (2 ^ k - 1) := by
  rw [Nat.and_assoc, Nat.and_self]
/-- What is left of a word when its first k bits are gone. -/
theorem pg_bits {x k v r : Nat} (hv : v = x &&& (2 ^ k - 1)) (hr : r + v = x) (i : Nat) : r.testBit i = (decide (k ≤ i) && x.testBit i) := by
  rw [Nat.and_two_pow_sub_one_eq_mod] at hv
  have hr2 : r = 2 ^ k * (x / 2 ^ k) := by
    have := Nat.div_add_mod x (2 ^ k)
    omega
  rw [hr2, Nat.testBit_two_pow_mul, Nat.testBit_div_two_pow]
  by_cases h : k ≤ i
  · rw [decide_eq_true h, show i - k + k = i by omega]
  · rw [decide_eq_false h, Bool.false_and, Bool.false_and]
theorem pg_bits0 {x k v : Nat} (hv : v = x &&& (2 ^ k - 1)) (h0 : v = 0) (i : Nat) : x.testBit i = (decide (k ≤ i) && x.testBit i) := pg_bits (r := x) hv (by omega) i
theorem pg_lt {x k : Nat} (h : x < 18446744073709551616) : x &&& (2 ^ k - 1) < 18446744073709551616 := Nat.lt_of_le_of_lt pg_low h
theorem pg_pow {k : Nat} (h : k ≤ 64) : 2 ^ k - 1 < 18446744073709551616 := by
  have : 2 ^ k ≤ 2 ^ 64 := Nat.pow_le_pow_right (by decide) h
  have h2 : 0 < 2 ^ k := Nat.two_pow_pos k
  omega
theorem pg_dec {a b : Prop} [Decidable a] [Decidable b] (h : a ↔ b) : decide a = decide b := by
  by_cases ha : a
  · rw [decide_eq_true ha, decide_eq_true (h.1 ha)]
  · rw [decide_eq_false ha, decide_eq_false (fun hb => ha (h.2 hb))]
set_option maxHeartbeats 2000000 in
theorem Pg_any (pg kk : Int) (mk mo : Nat) (w : World) (hpg : 0 ≤ pg ∧ pg < 256) (hkk : 0 ≤ kk ∧ kk < 256) (hmk : mk < 18446744073709551616) (hmo : mo < 18446744073709551616) : Calls Tryz.prog 3 #[.int .u8 pg, .int .u8 kk, .int .u64 (mk : Int), .int .u64 (mo : Int)] w fun e w' => e = .returned (.bool true) ∧ Ext w w' := by
  obtain ⟨r, hr⟩ : ∃ z, Int.tmod pg 128 = z := ⟨_, rfl⟩
  have hr2 : 0 ≤ r ∧ r < 128 := by rw [← hr]; exact ⟨Int.tmod_nonneg _ hpg.1, Int.tmod_lt_of_pos _ (by omega)⟩
  obtain ⟨q, hq⟩ : ∃ z, Int.tmod kk (1 + r) = z := ⟨_, rfl⟩
  have hq3 : 0 ≤ q ∧ q < 1 + r := by rw [← hq]; exact ⟨Int.tmod_nonneg _ hkk.1, Int.tmod_lt_of_pos _ (by omega)⟩
  by_cases hm : r < 64
  · obtain ⟨o0, ho0⟩ : ∃ z, z = 2 ^ (min (1 + r : Int).toNat 64) - 1 := ⟨_, rfl⟩
    have bo0 : o0 < 18446744073709551616 := by rw [ho0]; exact pg_pow (by omega)
    obtain ⟨w0, hw0⟩ : ∃ z, z = mk &&& o0 := ⟨_, rfl⟩
    have bw0 : w0 < 18446744073709551616 := by rw [hw0]; exact Nat.lt_of_le_of_lt Nat.and_le_left hmk
    by_cases hqr : q < r
    · obtain ⟨q0, hq0⟩ : ∃ z, z = 2 ^ (min (1 + q : Int).toNat 64) - 1 := ⟨_, rfl⟩
      have bq0 : q0 < 18446744073709551616 := by rw [hq0]; exact pg_pow (by omega)
      obtain ⟨v0, hv0⟩ : ∃ z, z = w0 &&& q0 := ⟨_, rfl⟩
      have lv0 : v0 ≤ w0 := by rw [hv0]; exact Nat.and_le_left
      by_cases hz : v0 = 0
      · exact Pgb_any r q pg kk mk mo o0 q0 w0 v0 w hpg hkk hr hq hr2 ⟨hq3.1, by omega⟩ (by omega) (by omega) (by omega) (by omega) (by omega) (by omega) (by omega) ho0 hq0 hw0 hv0 hz (fun i hi hP => by have hk := pg_bits0 (k := min (1 + q : Int).toNat 64) (hq0 ▸ hv0) hz i; rw [hk]; congr 1; exact pg_dec (by omega))
      · obtain ⟨x0, hx0⟩ : ∃ z, z + v0 = 18446744073709551616 := ⟨18446744073709551616 - v0, by omega⟩
        obtain ⟨r0, hr0⟩ : ∃ z, z + v0 = w0 := ⟨w0 - v0, by omega⟩
        exact Pga_any r q pg kk mk mo o0 q0 w0 v0 x0 r0 w hpg hkk hr hq hr2 ⟨hq3.1, by omega⟩ (by omega) (by omega) (by omega) (by omega) (by omega) (by omega) (by omega) (by omega) (by omega) ho0 hq0 hw0 hv0 hz hx0 hr0 (fun i hi hP => by have hk := pg_bits (k := min (1 + q : Int).toNat 64) (hq0 ▸ hv0) hr0 i; rw [hk]; congr 1; exact pg_dec (by omega))
    · obtain rfl : q = r := by omega
      have hww : w0 = w0 &&& o0 := by rw [hw0, Nat.and_assoc, Nat.and_self]
      by_cases hz : w0 = 0
      · exact Pgd_any q pg kk mk mo o0 w0 (w0 &&& o0) w hpg hkk hr hq hr2 (by omega) (by omega) (by omega) (by omega) (by omega) (by rw [← hww]; exact bw0) ho0 hw0 rfl (by rw [← hww]; exact hz) (fun i hi hP => by rw [show w0 = 0 by omega, decide_eq_false (by omega)]; simp)
      · obtain ⟨x0, hx0⟩ : ∃ z, z + w0 = 18446744073709551616 := ⟨18446744073709551616 - w0, by omega⟩
        exact Pgc_any q pg kk mk mo o0 w0 x0 0 w hpg hkk hr hq hr2 (by omega) (by omega) (by omega) (by omega) (by omega) (by omega) (by omega) ho0 hw0 hww hz hx0 (Nat.zero_add _) (fun i hi hP => by rw [decide_eq_false (by omega)]; simp)
  · obtain ⟨o1, ho1⟩ : ∃ z, z = 2 ^ (min (1 + r - 64 : Int).toNat 64) - 1 := ⟨_, rfl⟩
    have bo1 : o1 < 18446744073709551616 := by rw [ho1]; exact pg_pow (by omega)
    obtain ⟨w1, hw1⟩ : ∃ z, z = mo &&& o1 := ⟨_, rfl⟩
    have bw1 : w1 < 18446744073709551616 := by rw [hw1]; exact Nat.lt_of_le_of_lt Nat.and_le_left hmo
    have hal := pg_all hmk
    obtain ⟨x0, hx0⟩ : ∃ z, mk ≠ 0 → z + mk = 18446744073709551616 ∧ z < 18446744073709551616 := ⟨18446744073709551616 - mk, fun h => by omega⟩
    by_cases hn : 1 + q ≤ 64
    · obtain ⟨q0, hq0⟩ : ∃ z, z = 2 ^ (min (1 + q : Int).toNat 64) - 1 := ⟨_, rfl⟩
      have bq0 : q0 < 18446744073709551616 := by rw [hq0]; exact pg_pow (by omega)
      obtain ⟨v0, hv0⟩ : ∃ z, z = mk &&& q0 := ⟨_, rfl⟩
      have lv0 : v0 ≤ mk := by rw [hv0]; exact Nat.and_le_left
      by_cases hz : v0 = 0
      · exact Pgf_any r q pg kk mk mo o1 q0 w1 v0 w hpg hkk hr hq hr2 ⟨hq3.1, by omega⟩ (by omega) (by omega) (by omega) (by omega) (by omega) (by omega) (by omega) (by omega) ho1 hq0 hal hw1 hv0 hz (fun i hi hP => by have hk := pg_bits0 (k := min (1 + q : Int).toNat 64) (hq0 ▸ hv0) hz i; rw [hk]; congr 1; exact pg_dec (by omega)) (fun i hi hP => by rw [decide_eq_true (by omega), Bool.true_and])
      · obtain ⟨x0, hx0⟩ : ∃ z, z + v0 = 18446744073709551616 := ⟨18446744073709551616 - v0, by omega⟩
        obtain ⟨r0, hr0⟩ : ∃ z, z + v0 = mk := ⟨mk - v0, by omega⟩
        exact Pge_any r q pg kk mk mo o1 q0 w1 v0 x0 r0 w hpg hkk hr hq hr2 ⟨hq3.1, by omega⟩ (by omega) (by omega) (by omega) (by omega) (by omega) (by omega) (by omega) (by omega) (by omega) (by omega) ho1 hq0 hal hw1 hv0 hz hx0 hr0 (fun i hi hP => by have hk := pg_bits (k := min (1 + q : Int).toNat 64) (hq0 ▸ hv0) hr0 i; rw [hk]; congr 1; exact pg_dec (by omega)) (fun i hi hP => by rw [decide_eq_true (by omega), Bool.true_and])
    · have hn2 : 64 < 1 + q := by omega
      by_cases hqr : q < r
      · obtain ⟨q1, hq1⟩ : ∃ z, z = 2 ^ (min (1 + q - 64 : Int).toNat 64) - 1 := ⟨_, rfl⟩
        have bq1 : q1 < 18446744073709551616 := by rw [hq1]; exact pg_pow (by omega)
        obtain ⟨v1, hv1⟩ : ∃ z, z = w1 &&& q1 := ⟨_, rfl⟩
        have lv1 : v1 ≤ w1 := by rw [hv1]; exact Nat.and_le_left
        by_cases hz : v1 = 0
        · by_cases hk : mk = 0
          · exact Pgj_any r q pg kk mk mo o1 q1 mk w1 mk v1 w hpg hkk hr hq hr2 ⟨hq3.1, by omega⟩ (by omega) (by omega) (by omega) (by omega) (by omega) (by omega) (by omega) (by omega) (by omega) (by omega) ho1 hq1 hal hw1 hal hk hv1 hz (fun i hi hP => by rw [hk]; simp) (fun i hi hP => by have hk := pg_bits0 (k := min (1 + q - 64 : Int).toNat 64) (hq1 ▸ hv1) hz i; rw [hk]; congr 1; exact pg_dec (by omega))
          · obtain ⟨hx1, hx2⟩ := hx0 hk
            exact Pgh_any r q pg kk mk mo o1 q1 w1 v1 x0 0 w hpg hkk hr hq hr2 ⟨hq3.1, by omega⟩ (by omega) (by omega) (by omega) (by omega) (by omega) (by omega) (by omega) (by omega) (by omega) (by omega) ho1 hq1 hal hw1 hal hk hx1 (Nat.zero_add _) hv1 hz (fun i hi hP => by rw [decide_eq_false (by omega)]; simp) (fun i hi hP => by have hk := pg_bits0 (k := min (1 + q - 64 : Int).toNat 64) (hq1 ▸ hv1) hz i; rw [hk]; congr 1; exact pg_dec (by omega))
        · obtain ⟨x1, hx1⟩ : ∃ z, z + v1 = 18446744073709551616 := ⟨18446744073709551616 - v1, by omega⟩
          obtain ⟨r1, hr1⟩ : ∃ z, z + v1 = w1 := ⟨w1 - v1, by omega⟩
          by_cases hk : mk = 0
          · exact Pgi_any r q pg kk mk mo o1 q1 mk w1 mk v1 x1 r1 w hpg hkk hr hq hr2 ⟨hq3.1, by omega⟩ (by omega) (by omega) (by omega) (by omega) (by omega) (by omega) (by omega) (by omega) (by omega) (by omega) (by omega) (by omega) ho1 hq1 hal hw1 hal hk hv1 hz hx1 hr1 (fun i hi hP => by rw [hk]; simp) (fun i hi hP => by have hk := pg_bits (k := min (1 + q - 64 : Int).toNat 64) (hq1 ▸ hv1) hr1 i; rw [hk]; congr 1; exact pg_dec (by omega))
          · obtain ⟨hx2, hx3⟩ := hx0 hk
            exact Pgg_any r q pg kk mk mo o1 q1 w1 v1 x0 x1 0 r1 w hpg hkk hr hq hr2 ⟨hq3.1, by omega⟩ (by omega) (by omega) (by omega) (by omega) (by omega) (by omega) (by omega) (by omega) (by omega) (by omega) (by omega) (by omega) ho1 hq1 hal hw1 hal hk hx2 (Nat.zero_add _) hv1 hz hx1 hr1 (fun i hi hP => by rw [decide_eq_false (by omega)]; simp) (fun i hi hP => by have hk := pg_bits (k := min (1 + q - 64 : Int).toNat 64) (hq1 ▸ hv1) hr1 i; rw [hk]; congr 1; exact pg_dec (by omega))
      · obtain rfl : q = r := by omega
        have hww : w1 = w1 &&& o1 := by rw [hw1, Nat.and_assoc, Nat.and_self]
        have bv1 : w1 &&& o1 < 18446744073709551616 := by rw [← hww]; exact bw1
        by_cases hz : w1 = 0
        · have hz2 : w1 &&& o1 = 0 := by rw [← hww]; exact hz
          by_cases hk : mk = 0
          · exact Pgn_any q pg kk mk mo o1 mk w1 mk (w1 &&& o1) w hpg hkk hr hq hr2 (by omega) (by omega) (by omega) (by omega) (by omega) (by omega) (by omega) (by omega) ho1 hal hw1 hal hk rfl hz2 (fun i hi hP => by rw [hk]; simp) (fun i hi hP => by rw [hz]; simp)
          · obtain ⟨hx2, hx3⟩ := hx0 hk
            exact Pgl_any q pg kk mk mo o1 w1 (w1 &&& o1) x0 0 w hpg hkk hr hq hr2 (by omega) (by omega) (by omega) (by omega) (by omega) (by omega) (by omega) (by omega) ho1 hal hw1 hal hk hx2 (Nat.zero_add _) rfl hz2 (fun i hi hP => by rw [decide_eq_false (by omega)]; simp) (fun i hi hP => by rw [hz]; simp)
        · obtain ⟨x1, hx1⟩ : ∃ z, z + w1 = 18446744073709551616 := ⟨18446744073709551616 - w1, by omega⟩
          by_cases hk : mk = 0
          · exact Pgm_any q pg kk mk mo o1 mk w1 mk x1 0 w hpg hkk hr hq hr2 (by omega) (by omega) (by omega) (by omega) (by omega) (by omega) (by omega) (by omega) (by omega) ho1 hal hw1 hal hk hww hz hx1 (Nat.zero_add _) (fun i hi hP => by rw [hk]; simp) (fun i hi hP => by rw [decide_eq_false (by omega)]; simp)
          · obtain ⟨hx2, hx3⟩ := hx0 hk
            exact Pgk_any q pg kk mk mo o1 w1 x0 x1 0 0 w hpg hkk hr hq hr2 (by omega) (by omega) (by omega) (by omega) (by omega) (by omega) (by omega) (by omega) (by omega) ho1 hal hw1 hal hk hx2 (Nat.zero_add _) hww hz hx1 (Nat.zero_add _) (fun i hi hP => by rw [decide_eq_false (by omega)]; simp) (fun i hi hP => by rw [decide_eq_false (by omega)]; simp)
end Go.Proofs.YtfppinabdalblaaGreat
