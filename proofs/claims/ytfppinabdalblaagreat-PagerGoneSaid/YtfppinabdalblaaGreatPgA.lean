/- Walks: words of ones, of both sides; the document's Bit; a word of the arena read. -/
import Derived.Test.YtfppinabdalblaaGreatRefl25
import Derived.Test.YtfppinabdalblaaGreatProg
import Derived.Lib.Walk
import Derived.Lib.SliceRun
namespace Go.Proofs.YtfppinabdalblaaGreat
open Go.RowKit
set_option linter.unusedVariables false
set_option linter.unusedSimpArgs false

theorem pg_ones_val (n : Nat) (hn : n ≤ 64) : IntKind.u64.wrap (IntKind.u64.wrap ((2 : Int) ^ n) - 1) = ((2 ^ n - 1 : Nat) : Int) := by
  have h1 : 2 ^ n ≤ 2 ^ 64 := Nat.pow_le_pow_right (by decide) hn
  have h2 : 0 < 2 ^ n := Nat.two_pow_pos n
  have e : ((2 : Int) ^ n) = ((2 ^ n : Nat) : Int) := by simp
  rw [e, IntKind.wrap_u64, IntKind.wrap_u64]
  generalize 2 ^ n = q at h1 h2
  omega
set_option maxHeartbeats 1000000 in
theorem pg_onesW (n : Int) (w : World) (h0 : 1 ≤ n) (h1 : n ≤ 1000) : Calls Tryz.prog 106 #[.int .i64 n] w fun e w' => e = .returned (.int .u64 ((2 ^ (min n.toNat 64) - 1 : Nat) : Int)) ∧ Ext w w' := by
  obtain ⟨m, rfl⟩ := Int.eq_ofNat_of_zero_le (by omega : (0 : Int) ≤ n)
  have HE := Lib.hid (show (min (m : Int) 64).toNat = min m 64 by omega)
  go_enter Tryz.func106, Tryz.ntmps106
  go_wp2
  go_ret
  refine ⟨?_, Ext.refl _⟩
  show Ending.returned (Value.int .u64 (IntKind.u64.wrap (IntKind.u64.wrap (2 ^ (min (m : Int) 64).toNat) - 1))) = _
  rw [HE.out]
  exact congrArg (fun v => Ending.returned (Value.int .u64 v)) (pg_ones_val (min m 64) (by omega))
theorem pg_or_ones (j : Nat) (hj : j < 64) : bits .or .u64 ((2 ^ j - 1 : Nat) : Int) ((2 ^ j : Nat) : Int) = ((2 ^ (j + 1) - 1 : Nat) : Int) := by
  have h0 : 0 < 2 ^ j := Nat.two_pow_pos j
  have h1 : 2 ^ j ≤ 2 ^ 63 := Nat.pow_le_pow_right (by decide) (by omega)
  rw [u64_or_nat _ _ (by omega) (by omega)]
  have h2 := Nat.two_pow_add_eq_or_of_lt (i := j) (b := 2 ^ j - 1) (by omega) 1
  rw [Nat.mul_one] at h2
  rw [Nat.or_comm, ← h2, Nat.pow_succ]
  congr 1
  omega
theorem pg_wrap_pow (j : Nat) (hj : j < 64) : IntKind.u64.wrap ((2 : Int) ^ j) = ((2 ^ j : Nat) : Int) := by
  have h1 : 2 ^ j ≤ 2 ^ 63 := Nat.pow_le_pow_right (by decide) (by omega)
  have e : ((2 : Int) ^ j) = ((2 ^ j : Nat) : Int) := by simp
  rw [e, IntKind.wrap_u64]
  generalize 2 ^ j = q at h1
  omega
set_option maxHeartbeats 400000 in
theorem pg_hold (n : Int) (w : World) (h0 : 1 ≤ n) (h1 : n ≤ 1000) : Calls Tryz.prog 19 #[.int .i64 n, .int .i64 64] w fun e w' => e = .returned (.int .i64 ((min n.toNat 64 : Nat) : Int)) ∧ w = w' := by
  go_enter Tryz.func19, Tryz.ntmps19
  go_wp2
  all_goals
    go_ret
    refine ⟨ret_int ?_, rfl⟩
    omega
set_option maxHeartbeats 1000000 in
theorem pg_onesR (n : Int) (w : World) (h0 : 1 ≤ n) (h1 : n ≤ 1000) : Calls Tryz.prog 5 #[.int .i64 n] w fun e w' => e = .returned (.int .u64 ((2 ^ (min n.toNat 64) - 1 : Nat) : Int)) ∧ Ext w w' := by
  obtain ⟨m, hm⟩ : ∃ m, min n.toNat 64 = m := ⟨_, rfl⟩
  have hm2 : m ≤ 64 := by omega
  have HH := Lib.hid (fun w => pg_hold n w h0 h1)
  rw [hm]
  have HM := Lib.hid hm
  clear hm
  go_enter Tryz.func5, Tryz.ntmps5
  go_wp2
  go_loopg [3, 4] m (fun q x i wr => ∃ j : Nat, j ≤ m ∧ q = m - j ∧ x = .int .u64 ((2 ^ j - 1 : Nat) : Int) ∧ i = .int .i64 (j : Int) ∧ Ext w wr)
  case atStart => exact ⟨0, Nat.zero_le _, rfl, by simp, rfl, Ext.refl _⟩
  case round =>
    obtain ⟨j, hj, rfl, rfl, rfl, hE⟩ := hrel
    by_cases hlt : j < m
    · have r1 : (j : Int) < (m : Int) := by omega
      go_wp2_with (go_at_call 19; refine (HH.out _).mono ?_; rintro e w1 ⟨rfl, rfl⟩; rw [HM.out])
      go_roundg (m - (j + 1))
      case measure => go_light; omega
      case rel => exact ⟨j + 1, by omega, rfl, by rw [pg_wrap_pow j (by omega), pg_or_ones j (by omega)], by go_num, hE⟩
    · obtain rfl : j = m := by omega
      go_wp2_with (go_at_call 19; refine (HH.out _).mono ?_; rintro e w1 ⟨rfl, rfl⟩; rw [HM.out])
      all_goals (go_ret; exact ⟨rfl, hE⟩)
set_option maxHeartbeats 400000 in
theorem pg_bit (x n : Nat) (w : World) (hx : x < 18446744073709551616) (hn : n < 64) : Calls Tryz.prog 12 #[.int .u64 x, .int .i64 n] w fun e w' => e = .returned (.bool (x.testBit n)) ∧ Ext w w' := by
  have hb := shr_and_one x n hx
  cases ht : x.testBit n
  all_goals
    rw [ht] at hb
    simp only [if_true, if_false, Bool.false_eq_true] at hb
    clear ht
    go_enter Tryz.func12, Tryz.ntmps12
    go_wp2
    go_ret
    exact ⟨rfl, Ext.refl _⟩

set_option maxHeartbeats 2000000 in
set_option maxRecDepth 100000 in
theorem pg_clone (b n c : Nat) (F : Nat → Value) (w : World) (hn : n ≤ 1000000) (hc : ∀ j, j < n → w.cell? ⟨b, j, none⟩ = some (F j)) (h1 : ∀ j, j < n → OneC (F j)) :
    Calls Tryz.prog 62 #[.slice (some ⟨b, 0, none⟩) n c] w fun e w' => ∃ v', e = .returned v' ∧ w'.ownsRow w.heap.size 22 1 v' n ((List.range n).map F) ∧ Ext w w' := by
  have q22 : ∀ (w : World) (a : Option Addr) (n c n' c' : Nat), (binOp .eql 31 (.slice a n c) (.slice none n' c')).run Tryz.prog w = .ok (.bool a.isNone) w := fun w a n c n' c' => Lib.run_eql_slice_nil w _ _ a n c n' c' Tryz.underlying31
  obtain ⟨i0, hi, hz0, hz1, hz2⟩ := info_parts (show (Tryz.prog.info? 22).map (fun i => (i.zero, i.size, i.bytes)) = some (some (.int .u64 0), 1, 8) by kernel_rfl)
  have HA := Lib.hid (And.intro hc h1)
  clear hc h1
  go_enter Tryz.func62, Tryz.ntmps62
  go_wp2_with (at_builtin; refine wpList_append_own _ rfl _ _ 31 rfl w.heap.size 22 i0 (.int .u64 0) 1 8 Tryz.underlying31 hi hz0 hz1 hz2 rfl (by decide) _ _ _ rfl (World.ownsRow_made w #[] 0 (Nat.le_refl _) (Nat.zero_le _) rfl) ⟨b, 0, none⟩ n c ((List.range n).map F) rfl ?qc1 ?qc2 ?qc3 ?qc4 ?qc5 ?qc6 ?_)
  case qc1 => simp
  case qc2 =>
    intro j u hj
    have hjn : j < n := by
      have := (List.getElem?_eq_some_iff.1 hj).1
      simpa using this
    rw [List.getElem?_map, List.getElem?_range hjn] at hj
    cases hj
    rw [Addr.add_lit]
    refine Lib.cell?_alloc_some _ ?_
    rw [Nat.zero_add]
    exact HA.out.1 j hjn
  case qc3 =>
    intro u hu
    obtain ⟨x, hx, rfl⟩ := List.mem_map.1 hu
    have := HA.out.2 x (by simpa using hx)
    generalize F x = z at this
    cases z <;> first | rfl | exact this.elim
  case qc4 => unfold maxLen; omega
  case qc5 => omega
  case qc6 => simp
  intro v' w1 hown hgrow hnil
  go_wp2
  go_ret
  refine ⟨v', rfl, by simpa using hown, ?_⟩
  exact ((Below.refl _ w).alloc (Nat.le_refl _) _).grown hgrow (by simp) (by intro k hk; simp [Value.ownBlock] at hk; omega)

theorem pg_clone2 (b n c : Nat) (F : Nat → Value) (w : World) (h0 : 0 < n) (hn : n ≤ 1000000) (hc : ∀ j, j < n → w.cell? ⟨b, j, none⟩ = some (F j)) (h1 : ∀ j, j < n → OneC (F j)) :
    Calls Tryz.prog 62 #[.slice (some ⟨b, 0, none⟩) n c] w fun e w' => ∃ g cap, e = .returned (.slice (some ⟨g, 0, none⟩) n cap) ∧ (∀ j, j < n → w'.cell? ⟨g, j, none⟩ = some (F j)) ∧ Ext w w' := by
  refine (pg_clone b n c F w hn hc h1).mono ?_
  rintro e w1 ⟨v1, rfl, hown, hE1⟩
  rcases hown.2 with ⟨_, h9⟩ | ⟨g, cap, cur, rfl, _, _, _⟩
  · omega
  · refine ⟨g, cap, rfl, fun j hj => ?_, hE1⟩
    have hcell := World.ownsRow.cellAt hown j (by simpa using hj)
    rw [List.getElem?_map, List.getElem?_range hj] at hcell
    exact hcell
set_option maxHeartbeats 1000000 in
set_option maxRecDepth 100000 in
theorem pg_read {ab sb wb L c at_ : Nat} (F : Nat → Value) (w : World) (h0 : w.cell? ⟨ab, 2, none⟩ = some (.pointer (some ⟨sb, 0, none⟩))) (h1 : w.cell? ⟨sb, 0, none⟩ = some (.slice (some ⟨wb, 0, none⟩) L c)) (hF : ∀ j, j < L → w.cell? ⟨wb, j, none⟩ = some (F j)) (hO : ∀ j, j < L → OneC (F j)) (hL : L ≤ 1000000) (hat : at_ < L) :
    Calls Tryz.prog 13 #[.pointer (some ⟨ab, 0, none⟩), .int .i64 (at_ : Int)] w fun e w' => e = .returned (F at_) ∧ Ext w w' := by
  have HC := Lib.hid (fun (w' : World) (hE : Ext w w') => pg_clone2 wb L c F w' (by omega) hL (fun j hj => hE.cell (hF j hj)) hO)
  clear hF hO
  have k0 : (0 : Int) ≤ (at_ : Int) := by omega
  have k1 : (at_ : Int) < (L : Int) := by omega
  go_enter Tryz.func13, Tryz.ntmps13
  go_wp2_with (first | (go_at_call 62; refine (HC.out _ (Ext.refl _)).mono ?_; rintro e w1 ⟨g, cap, rfl, hcl, hE1⟩; have hcell := hcl at_ hat; clear hcl) | go_in)
  go_ret
  exact ⟨rfl, hE1⟩
end Go.Proofs.YtfppinabdalblaaGreat
