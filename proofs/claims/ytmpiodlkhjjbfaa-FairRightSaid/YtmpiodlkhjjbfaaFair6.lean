/- Walks: the document's Fair, Bit, Turns, Steps, Total, Bound, Free. -/
import Derived.Test.YtmpiodlkhjjbfaaRows
import Derived.Test.YtmpiodlkhjjbfaaRef26c
import Derived.Test.YtmpiodlkhjjbfaaFair5
namespace Go.Proofs.Ytmpiodlkhjjbfaa
open Go.RowKit Go.Sort
set_option linter.unusedVariables false
set_option linter.unusedSimpArgs false

def bitC (x : Nat) (t : Int) : Bool := decide (0 ≤ t ∧ t < 64) && x.testBit t.toNat

set_option maxHeartbeats 400000 in
theorem bit_any (x : Nat) (t : Int) (w : World) (hx : x < 18446744073709551616) : Calls Try.prog 38 #[.int .u64 x, .int .i64 t] w fun e w' =>
    e = .returned (.bool (bitC x t)) ∧ w = w' := by
  by_cases h : 0 ≤ t ∧ t < 64
  · obtain ⟨h0, h1⟩ := h
    obtain ⟨n, rfl⟩ := Int.eq_ofNat_of_zero_le h0
    have hb := shr_and_one x n hx
    have e : bitC x (n : Int) = x.testBit n := by unfold bitC; simp; try omega
    have HE := Lib.hid e
    clear e
    cases ht : x.testBit n
    all_goals
      rw [ht] at hb HE
      simp only [if_true, if_false, Bool.false_eq_true] at hb
      clear ht
      go_enter Try.func38, Try.ntmps38
      go_wp2
      go_ret
      exact ⟨ret_bool (by rw [HE.out]; try simp), rfl⟩
  · have e : bitC x t = false := by unfold bitC; simp; try omega
    have HE := Lib.hid e
    clear e
    by_cases h0 : t < 0
    · clear h
      go_enter Try.func38, Try.ntmps38
      go_wp2
      go_ret
      exact ⟨ret_bool (by rw [HE.out]), rfl⟩
    · have h1 : 64 ≤ t := by omega
      clear h
      go_enter Try.func38, Try.ntmps38
      go_wp2
      go_ret
      exact ⟨ret_bool (by rw [HE.out]), rfl⟩

theorem pkv0' (f : Nat → Int) (g : Nat → Nat) (k : Nat) : pkv f g (k * 2) = .int .i64 (f k) := by simp [pkv]
theorem pkv1' (f : Nat → Int) (g : Nat → Nat) (k : Nat) : pkv f g (k * 2 + 1) = .int .u64 (g k) := by
  simp [pkv, show (k * 2 + 1) / 2 = k by omega]
theorem lt_step {c : Nat → Nat} {k : Int} {i : Nat} (h : ∀ j, j < i → (c (j + 1) : Int) < k) (h2 : (c (i + 1) : Int) < k) : ∀ j, j < i + 1 → (c (j + 1) : Int) < k := by
  intro j hj
  by_cases e : j = i
  · subst e; exact h2
  · exact h j (by omega)

set_option maxHeartbeats 1000000 in
set_option maxRecDepth 100000 in
theorem fair30_any (A : Option Addr) (n c : Nat) (f : Nat → Int) (g : Nat → Nat) (k : Int) (w : World) (hn : n ≤ 1000000) (hl : SlR w A n 2 (pkv f g)) (hg : ∀ i, g i < 18446744073709551616) (hk2 : k ≤ 9223372036854775807) :
    Calls Try.prog 23 #[.slice A n c, .int .i64 k] w fun e w' => e = .returned (.bool (B (FairOk f g n k))) ∧ w = w' := by
  by_cases hk : 1 ≤ k
  rotate_left
  · have hd : decide (k < 1) = true := by simp; omega
    go_enter Try.func23, Try.ntmps23
    go_wp2
    go_ret
    exact ⟨ret_B (by simp; intro h; have := h.1; omega), rfl⟩
  have HL := Lib.hid hl
  have HG := Lib.hid hg
  clear hl hg
  go_enter Try.func23, Try.ntmps23
  go_wp2
  go_loopg [5] 64 (fun q t wr => ∃ t' : Nat, t' ≤ 64 ∧ q = 64 - t' ∧ t = .int .i64 t' ∧ wr = w ∧ ∀ s, s < t' → ∀ i, i < n → (cnt f g s (i + 1) : Int) < k)
  case atStart => exact ⟨0, Nat.zero_le _, rfl, rfl, rfl, fun s hs => absurd hs (by omega)⟩
  case round =>
    obtain ⟨t, ht, rfl, rfl, rfl, hok⟩ := hrel
    have HOK := Lib.hid hok
    clear hok
    by_cases htt : t < 64
    · have dt : decide ((t : Int) < 64) = true := by rw [decide_eq_true_eq]; omega
      go_wp2
      go_loopg [6, 7] n (fun q m i wx => ∃ i' : Nat, i' ≤ n ∧ q = n - i' ∧ i = .int .i64 i' ∧ m = .int .i64 (cnt f g t i') ∧ wx = wr ∧ ∀ i, i < i' → (cnt f g t (i + 1) : Int) < k)
      case atStart => exact ⟨0, Nat.zero_le _, rfl, rfl, rfl, rfl, fun s hs => absurd hs (by omega)⟩
      case round =>
        obtain ⟨i, hi, rfl, rfl, rfl, rfl, hok2⟩ := hrel
        have HOK2 := Lib.hid hok2
        clear hok2
        by_cases hlt : i < n
        · obtain ⟨b, off, rfl, hc⟩ := HL.out (by omega)
          have c0 := hc (i * 2) (by omega)
          have c1 := hc (i * 2 + 1) (by omega)
          rw [pkv0'] at c0
          rw [pkv1', ← Nat.add_assoc] at c1
          have hcl := cnt_le f g t i
          have hgi := HG.out i
          clear hc
          by_cases h2 : f i = t
          · have h2' : (f i == (t : Int)) = true := by simp [h2]
            have hs : cnt f g t (i + 1) = 0 := by simp [cnt, h2]
            have HS := Lib.hid hs
            clear hs h2
            go_wp2
            go_roundg (n - (i + 1))
            case measure => go_light; omega
            case rel => exact ⟨i + 1, by omega, rfl, by go_num, by rw [HS.out]; rfl, rfl, lt_step HOK2.out (by rw [HS.out]; omega)⟩
          · have h2' : (f i == (t : Int)) = false := by simp [h2]
            by_cases h1 : (g i).testBit t = true
            · have hs : cnt f g t (i + 1) = cnt f g t i + 1 := by simp [cnt, h2, h1]
              have hb : bitC (g i) t = true := by unfold bitC; simp [h1]; omega
              have HS := Lib.hid hs
              have HB := Lib.hid hb
              clear hs h2 h1 hb
              go_wp2_with (go_at_call 38; refine (bit_any _ _ _ hgi).mono ?_; rintro e w1 ⟨rfl, rfl⟩; rw [HB.out])
              · go_ret
                exact ⟨ret_B (by simp only [Bool.false_eq_true, false_iff]; intro hh; exact absurd (hh.2 i hlt t htt) (by rw [HS.out]; omega)), rfl⟩
              · go_roundg (n - (i + 1))
                case measure => go_light; omega
                case rel => exact ⟨i + 1, by omega, rfl, by go_num, by rw [HS.out]; go_num, rfl, lt_step HOK2.out (by rw [HS.out]; omega)⟩
            · have h1' : (g i).testBit t = false := by simpa using h1
              have hs : cnt f g t (i + 1) = 0 := by simp [cnt, h1']
              have hb : bitC (g i) t = false := by unfold bitC; simp [h1']
              have HS := Lib.hid hs
              have HB := Lib.hid hb
              clear hs h2 h1 h1' hb
              go_wp2_with (go_at_call 38; refine (bit_any _ _ _ hgi).mono ?_; rintro e w1 ⟨rfl, rfl⟩; rw [HB.out])
              go_roundg (n - (i + 1))
              case measure => go_light; omega
              case rel => exact ⟨i + 1, by omega, rfl, by go_num, by rw [HS.out]; rfl, rfl, lt_step HOK2.out (by rw [HS.out]; omega)⟩
        · obtain rfl : i = n := by omega
          go_wp2
          go_roundg (64 - (t + 1))
          case measure => go_light; omega
          case rel =>
            refine ⟨t + 1, by omega, rfl, by go_num, rfl, fun s hs => ?_⟩
            by_cases e : s = t
            · subst e; exact HOK2.out
            · exact HOK.out s (by omega)
    · obtain rfl : t = 64 := by omega
      go_wp2
      go_ret
      exact ⟨ret_B (by simp only [true_iff]; exact ⟨hk, fun i hi t ht => HOK.out t ht i hi⟩), rfl⟩

def TurnsP (k : Int) (o n : Nat) : Prop := k = 6 ∨ o ≠ n

set_option maxHeartbeats 400000 in
theorem turns_any (k a : Int) (o n : Nat) (w : World) : Calls Try.prog 24 #[.agg #[.int .i64 k, .int .i64 a, .int .u64 o, .int .u64 n]] w fun e w' =>
    e = .returned (.bool (B (TurnsP k o n))) ∧ Ext w w' := by
  go_enter Try.func24, Try.ntmps24
  go_wp2
  all_goals go_ret
  all_goals exact ⟨ret_B (by unfold TurnsP; simp; try omega), (Ext.refl _).alloc _⟩
set_option maxHeartbeats 400000 in
theorem turns30_any (k a : Int) (o n : Nat) (w : World) : Calls Try.prog 25 #[.agg #[.int .i64 k, .int .i64 a, .int .u64 o, .int .u64 n]] w fun e w' =>
    e = .returned (.bool (B (TurnsP k o n))) ∧ Ext w w' := by
  go_enter Try.func25, Try.ntmps25
  go_wp2
  all_goals go_ret
  all_goals exact ⟨ret_B (by unfold TurnsP; simp; try omega), (Ext.refl _).alloc _⟩
end Go.Proofs.Ytmpiodlkhjjbfaa
