/- Walks: the document's May and Right of scripts. -/
import Derived.Test.YtclnmihpelaalaaGreatDoorRows
import Derived.Test.YtclnmihpelaalaaGreatDoorScript2
namespace Go.Proofs.YtclnmihpelaalaaGreatDoor
open Go.RowKit
set_option linter.unusedVariables false
set_option linter.unusedSimpArgs false

set_option maxHeartbeats 400000 in
theorem r6May_any (p t : Int) (w : World) : Calls Tryz.prog 16 #[.agg #[.int .i64 p, .int .i64 t]] w fun e w' =>
    e = .returned (.bool (B (LayMay p t))) ∧ Ext w w' := by
  go_enter Tryz.func16, Tryz.ntmps16
  go_wp2
  all_goals go_ret
  all_goals exact ⟨ret_B (by unfold LayMay; (try simp) <;> omega), (Ext.refl _).alloc _⟩

theorem may4_iff {a : Int} {l : List Int} : MayOk ⟨4, a, l⟩ ↔ (a = 0 ∨ a = 1) ∧ NamesOk l := by
  unfold MayOk; simp

set_option maxHeartbeats 2000000 in
set_option maxRecDepth 100000 in
theorem may26_four (a : Int) (l : List Int) (A : Option Addr) (cap : Nat) (w : World) (hn : l.length ≤ maxLen) (hl : IntsR w A l) : Calls Tryz.prog 17 #[.agg #[.int .i64 4, .int .i64 a, .slice A l.length cap]] w fun e w' =>
    e = .returned (.bool (B (MayOk ⟨4, a, l⟩))) ∧ Ext w w' := by
  have hn' : l.length ≤ 9223372036854775807 := hn
  have HL := Lib.hid hl
  clear hl
  by_cases ha : 0 ≤ a ∧ a ≤ 1 ∧ l.length ≤ 8
  · obtain ⟨a0, a1, l8⟩ := ha
    have ha : a = 0 ∨ a = 1 := by omega
    rcases ha with rfl | rfl
    all_goals
      go_enter Tryz.func17, Tryz.ntmps17
      go_wp2
      have hb0 := cell_new w #[.int .i64 4, .int .i64 0, .slice A l.length cap] 44 2 _ rfl
      have hb1 := cell_new w #[.int .i64 4, .int .i64 1, .slice A l.length cap] 44 2 _ rfl
      go_loopg [4] l.length (fun q i wr => ∃ i' : Nat, i' ≤ l.length ∧ q = l.length - i' ∧ i = .int .i64 i' ∧ Ext w wr ∧ wr.cell? ⟨w.heap.size, 2, none⟩ = some (.slice A l.length cap) ∧ NamesTo l i')
      case atStart => exact ⟨0, Nat.zero_le _, rfl, rfl, (Ext.refl _).alloc _, by first | exact hb0 | exact hb1, fun i hi => absurd hi (by omega)⟩
      case round =>
        obtain ⟨i, hi, rfl, rfl, hE, hbox, hok⟩ := hrel
        clear hb0 hb1
        by_cases hlt : i < l.length
        · obtain ⟨b, off, rfl, hc⟩ := HL.out (by omega)
          have c0 := hE.cell (hc i (by omega))
          have q0 : (0 : Int) ≤ (i : Int) := by omega
          have q1 : (i : Int) < (l.length : Int) := by omega
          by_cases hneg : ix 0 l i < 0
          · have d1 : decide (ix 0 l i < 0) = true := by simpa using hneg
            have HNo := Lib.hid (names_no hlt (.inl hneg))
            clear hc hneg
            go_wp2_with fail
            go_quiet (fail)
            go_wp2
            go_ret
            exact ⟨ret_B (by simp; rw [may4_iff]; exact fun h => HNo.out h.2), hE.drewN _⟩
          · have d1 : decide (ix 0 l i < 0) = false := by simpa using hneg
            by_cases h0 : 0 < i
            · have d2 : decide ((0 : Int) < (i : Int)) = true := by simpa using h0
              have c1 := hE.cell (hc (i - 1) (by omega))
              have hi1 : (↑i - 1 : Int).toNat = i - 1 := by omega
              have q2 : (0 : Int) ≤ (i : Int) - 1 := by omega
              have q3 : (i : Int) - 1 < (l.length : Int) := by omega
              have W1 : IntKind.i64.wrap ((i : Int) - 1) = (i : Int) - 1 := IntWalk.i64_in _ (by omega)
              by_cases hle : ix 0 l i ≤ ix 0 l (i - 1)
              · have d3 : decide (ix 0 l i ≤ ix 0 l (i - 1)) = true := by simpa using hle
                have HNo := Lib.hid (names_no hlt (.inr ⟨h0, hle⟩))
                clear hc hneg hle
                go_wp2_with fail
                go_quiet (fail)
                go_wp2
                go_ret
                exact ⟨ret_B (by simp; rw [may4_iff]; exact fun h => HNo.out h.2), hE.drewN _⟩
              · have d3 : decide (ix 0 l i ≤ ix 0 l (i - 1)) = false := by simpa using hle
                have HOk := Lib.hid (namesTo_succ hok (by omega) (fun _ => by omega))
                clear hc hneg hle
                go_wp2_with fail
                go_quiet (fail)
                go_wp2
                go_roundg (l.length - (i + 1))
                case measure => go_light; omega
                case rel => exact ⟨i + 1, by omega, rfl, by go_num, hE.drewN _, hbox, HOk.out⟩
            · obtain rfl : i = 0 := by omega
              have d2 : decide ((0 : Int) < ((0 : Nat) : Int)) = false := by simp
              rw [Nat.add_zero] at c0
              have HOk := Lib.hid (namesTo_succ hok (by omega) (fun h => absurd h (by omega)))
              clear hc hneg q0
              go_wp2_with fail
              go_quiet (fail)
              go_wp2
              go_roundg (l.length - (0 + 1))
              case measure => go_light; omega
              case rel => exact ⟨0 + 1, by omega, rfl, by go_num, hE.drewN _, hbox, HOk.out⟩
        · obtain rfl : i = l.length := by omega
          go_wp2
          go_ret
          exact ⟨ret_B (by simp only [true_iff]; rw [may4_iff]; exact ⟨by omega, hok, l8⟩), hE⟩
  · have HNo : ¬ MayOk ⟨4, a, l⟩ := by
      rw [may4_iff]
      intro h
      have := h.2.2
      omega
    have HNo2 := Lib.hid HNo
    clear HNo
    by_cases h1 : a < 0
    · clear ha
      go_enter Tryz.func17, Tryz.ntmps17
      go_wp2
      go_ret
      exact ⟨ret_B (by simp; exact HNo2.out), (Ext.refl _).alloc _⟩
    by_cases h2 : 1 < a
    · clear ha
      go_enter Tryz.func17, Tryz.ntmps17
      go_wp2
      all_goals go_ret
      all_goals exact ⟨ret_B (by simp; exact HNo2.out), (Ext.refl _).alloc _⟩
    have h3 : 8 < l.length := by omega
    clear ha
    go_enter Tryz.func17, Tryz.ntmps17
    go_wp2
    all_goals go_ret
    all_goals exact ⟨ret_B (by simp; exact HNo2.out), (Ext.refl _).alloc _⟩
end Go.Proofs.YtclnmihpelaalaaGreatDoor
