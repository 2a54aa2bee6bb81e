/- FrontGreat: words held against one another; words copied; what the evaluation knows of that. -/
import Derived.Test.YthggcmhmjkmjnaaGreatDoorRefl22
import Derived.Test.YthggcmhmjkmjnaaGreatDoorProg
import Derived.Lib.Hide
import Derived.Lib.SliceRun
import Derived.Deep.QuietTactic
import Derived.BigQuiet
namespace Go.Proofs.YthggcmhmjkmjnaaGreatDoor
open Go.RowKit
set_option linter.unusedVariables false
set_option linter.unusedSimpArgs false

set_option maxHeartbeats 1000000 in
theorem sameW_any (n : Nat) (f : Nat → Int) (b b' a c : Nat) (w : World) (hn : n ≤ 9223372036854775807) (hA : ∀ j, j < n → w.cell? ⟨b, j, none⟩ = some (.int .u64 (f j))) (hC : ∀ j, j < n → w.cell? ⟨b', j, none⟩ = some (.int .u64 (f j))) :
    Calls Tryz.prog 11 #[.slice (some ⟨b, 0, none⟩) n a, .slice (some ⟨b', 0, none⟩) n c] w fun e w' => e = .returned (.bool true) ∧ Ext w w' := by
  have HH := Lib.hid (And.intro hA hC)
  clear hA hC
  have e1 : ((n : Int) != (n : Int)) = false := by simp
  go_enter Tryz.func11, Tryz.ntmps11
  go_wp2_with fail
  go_loopg [5] n (fun q i wr => ∃ k : Nat, k ≤ n ∧ q = n - k ∧ i = .int .i64 k ∧ Ext w wr)
  case atStart => exact ⟨0, Nat.zero_le _, rfl, rfl, Ext.refl _⟩
  case round =>
    obtain ⟨k, hk, rfl, rfl, hE⟩ := hrel
    by_cases hlt : k < n
    · have c0 := hE.cell (HH.out.1 k hlt)
      have c1 := hE.cell (HH.out.2 k hlt)
      generalize f k = x at c0 c1
      have e2 : (x != x) = false := by simp
      go_wp2_with fail
      go_quiet (fail)
      go_wp2_with fail
      go_roundg (n - (k + 1))
      case measure => go_light; omega
      exact ⟨k + 1, by omega, rfl, by simp, hE.drewN _⟩
    · go_wp2_with fail
      go_ret
      exact ⟨rfl, hE⟩

theorem Tryz.infoU64C : (Tryz.prog.info? 50).map (fun i => (i.zero, i.size, i.bytes)) = some (some (.int .u64 0), 1, 8) := by kernel_rfl
set_option maxHeartbeats 1000000 in
set_option maxRecDepth 100000 in
theorem clone64_any (n : Nat) (f : Nat → Int) (b c : Nat) (w : World) (hn : n ≤ 1000000) (hA : ∀ j, j < n → w.cell? ⟨b, j, none⟩ = some (.int .u64 (f j))) :
    Calls Tryz.prog 18 #[.slice (some ⟨b, 0, none⟩) n c] w fun e w' => ∃ v', e = .returned v' ∧ w'.ownsRow w.heap.size 50 1 v' n ((List.range n).map fun j => Value.int .u64 (f j)) ∧ v' ≠ .slice none 0 0 ∧ Ext w w' := by
  obtain ⟨i0, hi, hz0, hz1, hz2⟩ : ∃ i0, Tryz.prog.info? 50 = some i0 ∧ i0.zero = some (.int .u64 0) ∧ i0.size = 1 ∧ i0.bytes = 8 := by
    have h := Tryz.infoU64C
    cases hx : Tryz.prog.info? 50 with
    | none => rw [hx] at h; cases h
    | some i =>
      rw [hx] at h
      simp only [Option.map_some, Option.some.injEq, Prod.mk.injEq] at h
      exact ⟨i, rfl, h.1, h.2.1, h.2.2⟩
  have HI := Lib.hid (And.intro hi (And.intro hz0 (And.intro hz1 hz2)))
  have HA := Lib.hid hA
  have q22 : ∀ (w : World) (a : Option Addr) (n c n' c' : Nat), (binOp .eql 31 (.slice a n c) (.slice none n' c')).run Tryz.prog w = .ok (.bool a.isNone) w := fun w a n c n' c' => Lib.run_eql_slice_nil w _ _ a n c n' c' Tryz.underlying31
  clear hi hz0 hz1 hz2 hA
  go_enter Tryz.func18, Tryz.ntmps18
  go_wp2_with (at_builtin; refine wpList_append_own _ rfl _ _ 31 rfl w.heap.size 50 i0 (.int .u64 0) 1 8 Tryz.underlying31 HI.out.1 HI.out.2.1 HI.out.2.2.1 HI.out.2.2.2 rfl (by decide) _ _ _ rfl (World.ownsRow_made w #[] 0 (Nat.le_refl _) (Nat.zero_le _) (by simp)) ⟨b, 0, none⟩ n c ((List.range n).map fun j => Value.int .u64 (f j)) rfl ?qc1 ?qc2 ?qc3 ?qc4 ?qc5 ?qc6 ?_)
  case qc1 => simp
  case qc2 =>
    intro j u hj
    rw [Addr.add_lit, Nat.zero_add]
    have hjn : j < n := by
      rcases Nat.lt_or_ge j n with h1 | h1
      · exact h1
      · rw [List.getElem?_eq_none (by simpa using h1)] at hj; cases hj
    rw [List.getElem?_map, List.getElem?_range hjn] at hj
    cases hj
    exact Lib.cell?_alloc_some _ (HA.out j hjn)
  case qc3 =>
    intro u hu
    obtain ⟨j, _, rfl⟩ := List.mem_map.1 hu
    rfl
  case qc4 => rw [Nat.zero_add]; unfold maxLen; omega
  case qc5 => rw [Nat.zero_add]; omega
  case qc6 => simp
  intro v' w1 hown hgrow hnil
  go_wp2
  go_ret
  refine ⟨v', rfl, by simpa using hown, ?_, ?_⟩
  · exact hnil
  · exact ((Below.refl _ w).alloc (Nat.le_refl _) _).grown hgrow (by simp) (by intro k hk; simp [Value.ownBlock] at hk; omega)
end Go.Proofs.YthggcmhmjkmjnaaGreatDoor
