/- Walk: audit.Quiet. -/
import Derived.Test.YtmpiodlkhjjbfaaDoorWhole
namespace Go.Proofs.YtmpiodlkhjjbfaaDoor
open Go.RowKit
set_option linter.unusedVariables false
set_option linter.unusedSimpArgs false

/-- 30.3: at rest. -/
def SpanQ (gen : Int) (x : SpanD) : Prop := x.phase = 1 ∧ x.gen = gen ∧ x.alloc ≠ 0
def QuietP (P gen : Int) (fr : List RunD) (sp : List SpanD) (hd : List HandD) : Prop :=
  WholeP P (pcs fr sp hd) ∧ hd.length = 0 ∧ (∀ i, i < sp.length → SpanQ gen (ix noSpan sp i)) ∧ ∀ i, 1 ≤ i → i < fr.length → (ix noRun fr (i - 1)).a + (ix noRun fr (i - 1)).n < (ix noRun fr i).a

theorem whole_any (fr : List RunD) (sp : List SpanD) (hd : List HandD) (fA sA hA : Option Addr) (fc sc hc : Nat) (P : Int) (w : World) (hfl : fr.length ≤ maxLen) (hsl : sp.length ≤ maxLen) (hhl : hd.length ≤ maxLen)
    (hF : RunsR w fA fr) (hS : SpansR w sA sp) (hH : HandsR w hA hd) :
    Calls Tryd.prog 16 #[.int .i64 P, .slice fA fr.length fc, .slice sA sp.length sc, .slice hA hd.length hc] w fun e w' =>
      e = .returned (.bool (B (WholeP P (pcs fr sp hd)))) ∧ Ext w w' := by
  by_cases h : 1 ≤ P ∧ P ≤ 4096
  · obtain ⟨Q, rfl⟩ := Int.eq_ofNat_of_zero_le (show 0 ≤ P by omega)
    exact whole_yes fr sp hd fA sA hA fc sc hc Q w hfl hsl hhl (by omega) (by omega) hF hS hH
  · rw [B_no (fun hw : WholeP P (pcs fr sp hd) => h ⟨hw.1, hw.2.1⟩)]
    exact whole_no fA sA hA _ fc _ sc _ hc P w (by omega)
theorem whole_run {P : Int} {fr : List RunD} {sp : List SpanD} {hd : List HandD} (h : WholeP P (pcs fr sp hd)) {i : Nat} (hi : i < fr.length) : 0 ≤ (ix noRun fr i).a ∧ (ix noRun fr i).a < 4096 ∧ 1 ≤ (ix noRun fr i).n ∧ (ix noRun fr i).n ≤ 4096 := by
  have hm := h.2.2.1.1 ⟨1, (ix noRun fr i).a, (ix noRun fr i).n⟩ (by
    unfold pcs
    exact List.mem_append.2 (.inl (List.mem_map.2 ⟨ix noRun fr i, ix_mem hi, rfl⟩)))
  exact hm.1

set_option maxRecDepth 100000 in
set_option maxHeartbeats 2000000 in
theorem quiet_any (fr : List RunD) (sp : List SpanD) (hd : List HandD) (fA sA hA : Option Addr) (fc sc hc : Nat) (P gen : Int) (w : World) (hfl : fr.length ≤ maxLen) (hsl : sp.length ≤ maxLen) (hhl : hd.length ≤ maxLen)
    (hF : RunsR w fA fr) (hS : SpansR w sA sp) (hH : HandsR w hA hd) :
    Calls Tryd.prog 18 #[.int .i64 P, .int .i64 gen, .slice fA fr.length fc, .slice sA sp.length sc, .slice hA hd.length hc] w fun e w' =>
      e = .returned (.bool (B (QuietP P gen fr sp hd))) ∧ Ext w w' := by
  have hfl' : fr.length ≤ 9223372036854775807 := hfl
  have hsl' : sp.length ≤ 9223372036854775807 := hsl
  have hhl' : hd.length ≤ 9223372036854775807 := hhl
  have HL := Lib.hid (And.intro hF (And.intro hS hH))
  clear hF hS hH
  go_enter Tryd.func18, Tryd.ntmps18
  go_wp2_with fail
  refine (whole_any fr sp hd fA sA hA fc sc hc P _ hfl hsl hhl HL.out.1 HL.out.2.1 HL.out.2.2).mono ?_
  rintro e w1 ⟨rfl, hE1⟩
  have HLE := Lib.hid (And.intro (SlR.ext HL.out.1 hE1) (SlR.ext HL.out.2.1 hE1))
  by_cases hW : WholeP P (pcs fr sp hd)
  rotate_left
  · have hB : B (WholeP P (pcs fr sp hd)) = false := B_no hW
    have HN := Lib.hid (show B (QuietP P gen fr sp hd) = false from B_no (fun h => hW h.1))
    clear hW
    go_wp2_with fail
    go_ret
    exact ⟨by rw [HN.out]; rfl, hE1⟩
  have hB : B (WholeP P (pcs fr sp hd)) = true := B_yes hW
  have HW := Lib.hid hW
  clear hW
  by_cases hh : 0 < hd.length
  · have d1 : decide ((0 : Int) < (hd.length : Int)) = true := by simp; omega
    have HN := Lib.hid (show B (QuietP P gen fr sp hd) = false from B_no (fun h => by have := h.2.1; omega))
    go_wp2_with fail
    go_ret
    exact ⟨by rw [HN.out]; rfl, hE1⟩
  have d1 : decide ((0 : Int) < (hd.length : Int)) = false := decide_eq_false (by omega)
  go_wp2_with fail
  go_loopg [27] sp.length (fun q i wr => ∃ k : Nat, k ≤ sp.length ∧ q = sp.length - k ∧ i = .int .i64 k ∧ Ext w1 wr ∧ ∀ j, j < k → SpanQ gen (ix noSpan sp j))
  case atStart => exact ⟨0, Nat.zero_le _, rfl, rfl, Ext.refl _, fun j hj => absurd hj (by omega)⟩
  case round =>
    obtain ⟨k, hk, rfl, rfl, hE, hall⟩ := hrel
    have HA := Lib.hid hall
    clear hall
    by_cases hlt : k < sp.length
    · obtain ⟨b, off, rfl, hc⟩ := HLE.out.2 (by omega)
      have c0 := hE.cell (hc (k * 7) (by omega))
      have c1 := hE.cell (hc (k * 7 + 1) (by omega))
      have c2 := hE.cell (hc (k * 7 + 2) (by omega))
      have c3 := hE.cell (hc (k * 7 + 3) (by omega))
      have c4 := hE.cell (hc (k * 7 + 4) (by omega))
      have c5 := hE.cell (hc (k * 7 + 5) (by omega))
      have c6 := hE.cell (hc (k * 7 + 6) (by omega))
      rw [spanv0] at c0
      rw [spanv1, ← Nat.add_assoc] at c1
      rw [spanv2, ← Nat.add_assoc] at c2
      rw [spanv3, ← Nat.add_assoc] at c3
      rw [spanv4, ← Nat.add_assoc] at c4
      rw [spanv5, ← Nat.add_assoc] at c5
      rw [spanv6, ← Nat.add_assoc] at c6
      clear hc
      generalize hx : ix noSpan sp k = x at c0 c1 c2 c3 c4 c5 c6
      have HX := Lib.hid hx
      clear hx
      by_cases hq : SpanQ gen x
      · obtain ⟨q1, q2, q3⟩ := hq
        have e1 : (x.phase != 1) = false := by simpa using q1
        have e2 : (x.gen != gen) = false := by simpa using q2
        have e3 : ((x.alloc : Int) == 0) = false := by simpa using q3
        have HQ := Lib.hid (And.intro q1 (And.intro q2 q3))
        clear q1 q2 q3
        go_wp2_with fail
        go_roundg (sp.length - (k + 1))
        case measure => go_light; omega
        exact ⟨k + 1, by omega, rfl, by simp, hE.alloc _, fun j hj => by
          by_cases e : j = k
          · subst e; rw [HX.out]; exact HQ.out
          · exact HA.out j (by omega)⟩
      · have HN := Lib.hid (show B (QuietP P gen fr sp hd) = false from B_no (fun h => hq (by have := h.2.2.1 k hlt; rwa [HX.out] at this)))
        have hq2 : ¬ x.phase = 1 ∨ (x.phase = 1 ∧ ¬ x.gen = gen) ∨ (x.phase = 1 ∧ x.gen = gen ∧ x.alloc = 0) := by
          unfold SpanQ at hq
          by_cases a : x.phase = 1
          · by_cases b : x.gen = gen
            · right; right; refine ⟨a, b, ?_⟩
              by_cases c : x.alloc = 0
              · exact c
              · exact absurd ⟨a, b, c⟩ hq
            · right; left; exact ⟨a, b⟩
          · left; exact a
        clear hq
        rcases hq2 with a | ⟨a, b⟩ | ⟨a, b, c⟩
        · have e1 : (x.phase != 1) = true := by simpa using a
          clear a
          go_wp2_with fail
          go_ret
          exact ⟨by rw [HN.out]; rfl, hE1.trans (hE.alloc _)⟩
        · have e1 : (x.phase != 1) = false := by simpa using a
          have e2 : (x.gen != gen) = true := by simpa using b
          clear a b
          go_wp2_with fail
          go_ret
          exact ⟨by rw [HN.out]; rfl, hE1.trans (hE.alloc _)⟩
        · have e1 : (x.phase != 1) = false := by simpa using a
          have e2 : (x.gen != gen) = false := by simpa using b
          have e3 : ((x.alloc : Int) == 0) = true := by simpa using c
          clear a b c
          go_wp2_with fail
          go_ret
          exact ⟨by rw [HN.out]; rfl, hE1.trans (hE.alloc _)⟩
    · obtain rfl : k = sp.length := by omega
      go_wp2_with fail
      go_loopg [13] (fr.length - 1) (fun q i wx => ∃ k : Nat, 1 ≤ k ∧ (k ≤ fr.length ∨ k = 1) ∧ q = fr.length - k ∧ i = .int .i64 k ∧ Ext w1 wx ∧ ∀ j, 1 ≤ j → j < k → (ix noRun fr (j - 1)).a + (ix noRun fr (j - 1)).n < (ix noRun fr j).a)
      case atStart => exact ⟨1, Nat.le_refl _, .inr rfl, rfl, rfl, hE, fun j h1 h2 => absurd h2 (by omega)⟩
      case round =>
        obtain ⟨k, hk1, hk2, rfl, rfl, hE2, hall2⟩ := hrel
        have HA2 := Lib.hid hall2
        clear hall2
        by_cases hlt2 : k < fr.length
        · obtain ⟨m, rfl⟩ : ∃ m, k = m + 1 := ⟨k - 1, by omega⟩
          obtain ⟨b, off, rfl, hc⟩ := HLE.out.1 (by omega)
          have c0 := hE2.cell (hc ((m + 1) * 2) (by omega))
          have c2 := hE2.cell (hc (m * 2) (by omega))
          have c3 := hE2.cell (hc (m * 2 + 1) (by omega))
          rw [runv0] at c0
          rw [runv0] at c2
          rw [runv1, ← Nat.add_assoc] at c3
          obtain ⟨w1a, w1b, w1c, w1d⟩ := whole_run HW.out (i := m) (by omega)
          have g0 : (0 : Int) ≤ ((m + 1 : Nat) : Int) := by omega
          have g1 : ((m + 1 : Nat) : Int) < (fr.length : Int) := by omega
          have g2 : ((m + 1 : Nat) : Int) - 1 = (m : Int) := by omega
          have g3 : (0 : Int) ≤ (m : Int) := by omega
          have g4 : (m : Int) < (fr.length : Int) := by omega
          generalize hx : ix noRun fr (m + 1) = x at c0
          generalize hy : ix noRun fr m = y at c2 c3 w1a w1b w1c w1d
          have HX := Lib.hid (And.intro hx hy)
          clear hx hy hc
          by_cases hd2 : x.a ≤ y.a + y.n
          · have e1 : decide (x.a ≤ y.a + y.n) = true := by simpa using hd2
            have HN := Lib.hid (show B (QuietP P gen fr sp hd) = false from B_no (fun h => by have := h.2.2.2 (m + 1) (by omega) hlt2; rw [Nat.add_sub_cancel, HX.out.1, HX.out.2] at this; omega))
            go_wp2_with fail
            go_quiet (fail)
            go_wp2_with fail
            go_ret
            exact ⟨by rw [HN.out]; rfl, hE1.trans (hE2.drewN _)⟩
          · have e1 : decide (x.a ≤ y.a + y.n) = false := by simpa using hd2
            go_wp2_with fail
            go_quiet (fail)
            go_wp2_with fail
            go_roundg (fr.length - (m + 1 + 1))
            case measure => go_light; omega
            exact ⟨m + 1 + 1, by omega, .inl (by omega), rfl, by simp, hE2.drewN _, fun j h1 h2 => by
              by_cases e : j = m + 1
              · subst e; rw [Nat.add_sub_cancel, HX.out.1, HX.out.2]; omega
              · exact HA2.out j h1 (by omega)⟩
        · have HY := Lib.hid (show B (QuietP P gen fr sp hd) = true from B_yes ⟨HW.out, by omega, fun i hi => HA.out i hi, fun i h1 h2 => HA2.out i h1 (by omega)⟩)
          go_wp2_with fail
          go_ret
          exact ⟨by rw [HY.out]; rfl, hE1.trans hE2⟩
end Go.Proofs.YtmpiodlkhjjbfaaDoor
