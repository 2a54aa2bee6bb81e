/- Walks: the document's Whole, Quiet. -/
import Derived.Test.YtmpiodlkhjjbfaaDoorRef30b
import Derived.Test.YtmpiodlkhjjbfaaDoorQuiet
namespace Go.Proofs.YtmpiodlkhjjbfaaDoor
open Go.RowKit
set_option linter.unusedVariables false
set_option linter.unusedSimpArgs false

theorem whole_ix {P : Int} {xs : List Pc} : WholeP P xs ↔ 1 ≤ P ∧ P ≤ 4096 ∧ (∀ j, j < xs.length → MayPc (ix noPc xs j)) ∧ ∀ p : Nat, p < 8192 → whoN xs p = if (p : Int) < P then 1 else 0 := by
  rw [whole_iff]
  constructor
  · rintro ⟨h1, h2, h3, h4⟩
    exact ⟨h1, h2, fun j hj => h3 _ (ix_mem hj), fun p hp => by rw [who_cnt h3]; exact h4 p hp⟩
  · rintro ⟨h1, h2, h3, h4⟩
    have h5 : ∀ x ∈ xs, MayPc x := fun x hx => by
      obtain ⟨i, hi, rfl⟩ := List.getElem_of_mem hx
      rw [← ix_lt (d := noPc) hi]
      exact h3 i hi
    exact ⟨h1, h2, h5, fun p hp => by rw [← who_cnt h5]; exact h4 p hp⟩

set_option maxRecDepth 100000 in
set_option maxHeartbeats 4000000 in
theorem whole30_any (fr : List RunD) (sp : List SpanD) (hd : List HandD) (fA sA hA : Option Addr) (fc sc hc : Nat) (P : Int) (w : World) (hs : fr.length + sp.length + hd.length ≤ 9223372036854775807)
    (hF : RunsR w fA fr) (hS : SpansR w sA sp) (hH : HandsR w hA hd) :
    Calls Tryd.prog 17 #[.int .i64 P, .slice fA fr.length fc, .slice sA sp.length sc, .slice hA hd.length hc] w fun e w' =>
      e = .returned (.bool (B (WholeP P (pcs fr sp hd)))) ∧ Ext w w' := by
  by_cases hP : ¬ (1 ≤ P ∧ P ≤ 4096)
  · have HN := Lib.hid (show B (WholeP P (pcs fr sp hd)) = false from B_no (fun h => hP ⟨h.1, h.2.1⟩))
    by_cases hP1 : P < 1
    · clear hP
      go_enter Tryd.func17, Tryd.ntmps17
      go_wp2_with fail
      go_ret
      exact ⟨by rw [HN.out]; rfl, Ext.refl _⟩
    · have hP2 : 4096 < P := by omega
      clear hP
      go_enter Tryd.func17, Tryd.ntmps17
      go_wp2_with fail
      go_ret
      exact ⟨by rw [HN.out]; rfl, Ext.refl _⟩
  have hP' : 1 ≤ P ∧ P ≤ 4096 := by omega
  obtain ⟨hP1, hP2⟩ := hP'
  clear hP
  have HS := Lib.hid (And.intro hF (And.intro hS hH))
  have HW := Lib.hid (fun p w hp hF hS hH => who30_any fr sp hd fA sA hA fc sc hc p w hp hs hF hS hH)
  have hpl := pcs_len fr sp hd
  have HL := Lib.hid hpl
  have HI := Lib.hid (And.intro (fun k h => @pc_run fr sp hd k h) (And.intro (fun k h => @pc_span fr sp hd k h) (fun k h => @pc_hand fr sp hd k h)))
  clear hF hS hH hpl
  generalize hxs : pcs fr sp hd = xs at HL HI HW ⊢
  clear hxs
  have HB := Lib.hid (And.intro (fun j => show j < xs.length → ¬ MayPc (ix noPc xs j) → B (WholeP P xs) = false from fun h1 h2 => B_no (fun h => h2 ((whole_ix.1 h).2.2.1 j h1))) (And.intro (fun p : Nat => show p < 8192 → whoN xs p ≠ (if (p : Int) < P then 1 else 0) → B (WholeP P xs) = false from fun h1 h2 => B_no (fun h => h2 ((whole_ix.1 h).2.2.2 p h1))) (show (∀ j, j < xs.length → MayPc (ix noPc xs j)) → (∀ p : Nat, p < 8192 → whoN xs p = if (p : Int) < P then 1 else 0) → B (WholeP P xs) = true from fun h1 h2 => B_yes (whole_ix.2 ⟨hP1, hP2, h1, h2⟩))))
  go_enter Tryd.func17, Tryd.ntmps17
  go_wp2_with fail
  go_loopg [9] fr.length (fun q i wr => ∃ (k : Nat), k ≤ fr.length ∧ q = fr.length - k ∧ i = .int .i64 k ∧ Ext w wr ∧ ∀ j, j < k → MayPc (ix noPc xs j))
  case atStart => exact ⟨0, Nat.zero_le _, rfl, rfl, Ext.refl _, fun j hj => absurd hj (by omega)⟩
  case round =>
    obtain ⟨k, hk, rfl, rfl, hE, hall⟩ := hrel
    have HA := Lib.hid hall
    clear hall
    by_cases hlt : k < fr.length
    · obtain ⟨b, off, rfl, hc⟩ := HS.out.1 (by omega)
      have c0 := hE.cell (hc (k * 2) (by omega))
      have c1 := hE.cell (hc (k * 2 + 1) (by omega))
      rw [runv0] at c0
      rw [runv1, ← Nat.add_assoc] at c1
      have hx := HI.out.1 k hlt
      generalize ix noRun fr k = x at c0 c1 hx
      have HX := Lib.hid hx
      generalize x.a = a at c0 HX
      generalize x.n = m at c1 HX
      clear hx hc
      by_cases hq : MayR a m
      · have hB := B_yes hq
        have HQ := Lib.hid hq
        clear hq
        go_wp2_with fail
        go_quiet ((go_at_call 35; exact Calls.quiet_of_same ((may30_any _ _ _).mono fun _ _ h => ⟨h.1, h.2.symm⟩)))
        go_wp2_with fail
        go_roundg (fr.length - (k + 1))
        case measure => go_light; omega
        exact ⟨k + 1, by omega, rfl, by simp, hE.drewN _, fun j hj => by
          by_cases e : j = k
          · subst e; rw [HX.out]; exact HQ.out
          · exact HA.out j (by omega)⟩
      · have hB := B_no hq
        have HN := Lib.hid (HB.out.1 k (by rw [HL.out]; omega) (by rw [HX.out]; exact hq))
        clear hq
        go_wp2_with fail
        go_quiet ((go_at_call 35; exact Calls.quiet_of_same ((may30_any _ _ _).mono fun _ _ h => ⟨h.1, h.2.symm⟩)))
        go_wp2_with fail
        go_ret
        exact ⟨by rw [HN.out]; rfl, hE.drewN _⟩
    · obtain rfl : k = fr.length := by omega
      go_wp2_with fail
      go_loopg [10] sp.length (fun q i wr => ∃ (k : Nat), k ≤ sp.length ∧ q = sp.length - k ∧ i = .int .i64 k ∧ Ext w wr ∧ ∀ j, j < fr.length + k → MayPc (ix noPc xs j))
      case atStart => exact ⟨0, Nat.zero_le _, rfl, rfl, hE, HA.out⟩
      case round =>
        obtain ⟨k, hk, rfl, rfl, hE, hall⟩ := hrel
        have HA := Lib.hid hall
        clear hall
        by_cases hlt : k < sp.length
        · obtain ⟨b, off, rfl, hc⟩ := HS.out.2.1 (by omega)
          have c0 := hE.cell (hc (k * 7) (by omega))
          have c1 := hE.cell (hc (k * 7 + 1) (by omega))
          rw [spanv0] at c0
          rw [spanv1, ← Nat.add_assoc] at c1
          have hx := HI.out.2.1 k hlt
          generalize ix noSpan sp k = x at c0 c1 hx
          have HX := Lib.hid hx
          generalize x.page = a at c0 HX
          generalize x.pages = m at c1 HX
          clear hx hc
          by_cases hq : MayR a m
          · have hB := B_yes hq
            have HQ := Lib.hid hq
            clear hq
            go_wp2_with fail
            go_quiet ((go_at_call 35; exact Calls.quiet_of_same ((may30_any _ _ _).mono fun _ _ h => ⟨h.1, h.2.symm⟩)))
            go_wp2_with fail
            go_roundg (sp.length - (k + 1))
            case measure => go_light; omega
            exact ⟨k + 1, by omega, rfl, by simp, hE.drewN _, fun j hj => by
              by_cases e : j = fr.length + k
              · subst e; rw [HX.out]; exact HQ.out
              · exact HA.out j (by omega)⟩
          · have hB := B_no hq
            have HN := Lib.hid (HB.out.1 (fr.length + k) (by rw [HL.out]; omega) (by rw [HX.out]; exact hq))
            clear hq
            go_wp2_with fail
            go_quiet ((go_at_call 35; exact Calls.quiet_of_same ((may30_any _ _ _).mono fun _ _ h => ⟨h.1, h.2.symm⟩)))
            go_wp2_with fail
            go_ret
            exact ⟨by rw [HN.out]; rfl, hE.drewN _⟩
        · obtain rfl : k = sp.length := by omega
          go_wp2_with fail
          go_loopg [11] hd.length (fun q i wr => ∃ (k : Nat), k ≤ hd.length ∧ q = hd.length - k ∧ i = .int .i64 k ∧ Ext w wr ∧ ∀ j, j < fr.length + sp.length + k → MayPc (ix noPc xs j))
          case atStart => exact ⟨0, Nat.zero_le _, rfl, rfl, hE, HA.out⟩
          case round =>
            obtain ⟨k, hk, rfl, rfl, hE, hall⟩ := hrel
            have HA := Lib.hid hall
            clear hall
            by_cases hlt : k < hd.length
            · obtain ⟨b, off, rfl, hc⟩ := HS.out.2.2 (by omega)
              have c0 := hE.cell (hc (k * 3 + 1) (by omega))
              have c1 := hE.cell (hc (k * 3 + 2) (by omega))
              rw [handv1, ← Nat.add_assoc] at c0
              rw [handv2, ← Nat.add_assoc] at c1
              have hx := HI.out.2.2 k hlt
              generalize ix noHand hd k = x at c0 c1 hx
              have HX := Lib.hid hx
              generalize x.a = a at c0 HX
              generalize x.n = m at c1 HX
              clear hx hc
              by_cases hq : MayR a m
              · have hB := B_yes hq
                have HQ := Lib.hid hq
                clear hq
                go_wp2_with fail
                go_quiet ((go_at_call 35; exact Calls.quiet_of_same ((may30_any _ _ _).mono fun _ _ h => ⟨h.1, h.2.symm⟩)))
                go_wp2_with fail
                go_roundg (hd.length - (k + 1))
                case measure => go_light; omega
                exact ⟨k + 1, by omega, rfl, by simp, hE.drewN _, fun j hj => by
                  by_cases e : j = fr.length + sp.length + k
                  · subst e; rw [HX.out]; exact HQ.out
                  · exact HA.out j (by omega)⟩
              · have hB := B_no hq
                have HN := Lib.hid (HB.out.1 (fr.length + sp.length + k) (by rw [HL.out]; omega) (by rw [HX.out]; exact hq))
                clear hq
                go_wp2_with fail
                go_quiet ((go_at_call 35; exact Calls.quiet_of_same ((may30_any _ _ _).mono fun _ _ h => ⟨h.1, h.2.symm⟩)))
                go_wp2_with fail
                go_ret
                exact ⟨by rw [HN.out]; rfl, hE.drewN _⟩
            · obtain rfl : k = hd.length := by omega
              go_wp2_with fail
              have HM := Lib.hid (show ∀ j, j < xs.length → MayPc (ix noPc xs j) from fun j hj => HA.out j (by have := HL.out; omega))
              clear HA
              go_loopg [12] 8192 (fun q i wr => ∃ (k : Nat), k ≤ 8192 ∧ q = 8192 - k ∧ i = .int .i64 k ∧ Ext w wr ∧ ∀ p : Nat, p < k → whoN xs p = if (p : Int) < P then 1 else 0)
              case atStart => exact ⟨0, Nat.zero_le _, rfl, rfl, hE, fun j hj => absurd hj (by omega)⟩
              case round =>
                clear hE
                obtain ⟨k, hk, rfl, rfl, hE, hall⟩ := hrel
                have HA := Lib.hid hall
                clear hall
                by_cases hlt : k < 8192
                · go_wp2_with fail
                  go_at_call 15
                  refine (HW.out (k : Int) _ (by omega) (SlR.ext HS.out.1 hE) (SlR.ext HS.out.2.1 hE) (SlR.ext HS.out.2.2 hE)).mono ?_
                  rintro e w1 ⟨rfl, hE1⟩
                  have hEE := hE.trans hE1
                  have HK := Lib.hid (HB.out.2.1 k hlt)
                  have HZ := Lib.hid (show whoN xs k = (if (k : Int) < P then 1 else 0) → ∀ p : Nat, p < k + 1 → whoN xs p = if (p : Int) < P then 1 else 0 from fun h p hp => by
                    by_cases e : p = k
                    · subst e; exact h
                    · exact HA.out p (by omega))
                  generalize whoN xs (k : Int) = N at HK HZ ⊢
                  generalize whoK xs (k : Int) = K
                  by_cases hlt2 : (k : Int) < P
                  · by_cases hN : N = 1
                    · have HZ2 := Lib.hid (HZ.out (by rw [if_pos hlt2]; exact hN))
                      subst hN
                      clear HZ HK
                      go_wp2_with fail
                      go_roundg (8192 - (k + 1))
                      case measure => go_light; omega
                      exact ⟨k + 1, by omega, rfl, by simp, hEE, HZ2.out⟩
                    · have HN := Lib.hid (HK.out (by rw [if_pos hlt2]; exact hN))
                      have e1 : ((N : Int) != 1) = true := by simp; omega
                      clear HZ HK
                      go_wp2_with fail
                      go_ret
                      exact ⟨by rw [HN.out]; rfl, hEE⟩
                  · by_cases hN : N = 0
                    · have HZ2 := Lib.hid (HZ.out (by rw [if_neg hlt2]; exact hN))
                      subst hN
                      have d1 : decide (P ≤ (k : Int)) = true := by simp; omega
                      clear HZ HK
                      go_wp2_with fail
                      go_roundg (8192 - (k + 1))
                      case measure => go_light; omega
                      exact ⟨k + 1, by omega, rfl, by simp, hEE, HZ2.out⟩
                    · have HN := Lib.hid (HK.out (by rw [if_neg hlt2]; exact hN))
                      have e1 : ((N : Int) != 0) = true := by simp; omega
                      have d1 : decide (P ≤ (k : Int)) = true := by simp; omega
                      clear HZ HK
                      go_wp2_with fail
                      go_ret
                      exact ⟨by rw [HN.out]; rfl, hEE⟩
                · obtain rfl : k = 8192 := by omega
                  have HY := Lib.hid (HB.out.2.2 HM.out HA.out)
                  go_wp2_with fail
                  go_ret
                  exact ⟨by rw [HY.out]; rfl, hE⟩

set_option maxRecDepth 100000 in
set_option maxHeartbeats 2000000 in
theorem quiet30_any (fr : List RunD) (sp : List SpanD) (hd : List HandD) (fA sA hA : Option Addr) (fc sc hc : Nat) (P gen : Int) (w : World) (hs : fr.length + sp.length + hd.length ≤ 9223372036854775807)
    (hF : RunsR w fA fr) (hS : SpansR w sA sp) (hH : HandsR w hA hd) :
    Calls Tryd.prog 19 #[.int .i64 P, .int .i64 gen, .slice fA fr.length fc, .slice sA sp.length sc, .slice hA hd.length hc] w fun e w' =>
      e = .returned (.bool (B (QuietP P gen fr sp hd))) ∧ Ext w w' := by
  have HL := Lib.hid (And.intro hF (And.intro hS hH))
  clear hF hS hH
  go_enter Tryd.func19, Tryd.ntmps19
  go_wp2_with fail
  go_at_call 17
  refine (whole30_any fr sp hd fA sA hA fc sc hc P _ hs HL.out.1 HL.out.2.1 HL.out.2.2).mono ?_
  rintro e w1 ⟨rfl, hE1⟩
  have HLE := Lib.hid (And.intro (SlR.ext HL.out.1 hE1) (SlR.ext HL.out.2.1 hE1))
  by_cases hW : WholeP P (pcs fr sp hd)
  rotate_left
  · have hB : B (WholeP P (pcs fr sp hd)) = false := B_no hW
    have HN := Lib.hid (show B (QuietP P gen fr sp hd) = false from B_no (fun h => hW h.1))
    clear hW
    go_wp2_with fail
    go_ret
    exact ⟨by rw [HN.out]; rfl, hE1⟩
  have hB : B (WholeP P (pcs fr sp hd)) = true := B_yes hW
  have HW := Lib.hid hW
  clear hW
  by_cases hh : 0 < hd.length
  · have d1 : decide ((0 : Int) < (hd.length : Int)) = true := by simp; omega
    have HN := Lib.hid (show B (QuietP P gen fr sp hd) = false from B_no (fun h => by have := h.2.1; omega))
    go_wp2_with fail
    go_ret
    exact ⟨by rw [HN.out]; rfl, hE1⟩
  have d1 : decide ((0 : Int) < (hd.length : Int)) = false := decide_eq_false (by omega)
  go_wp2_with fail
  go_loopg [11] sp.length (fun q i wr => ∃ k : Nat, k ≤ sp.length ∧ q = sp.length - k ∧ i = .int .i64 k ∧ Ext w1 wr ∧ ∀ j, j < k → SpanQ gen (ix noSpan sp j))
  case atStart => exact ⟨0, Nat.zero_le _, rfl, rfl, Ext.refl _, fun j hj => absurd hj (by omega)⟩
  case round =>
    obtain ⟨k, hk, rfl, rfl, hE, hall⟩ := hrel
    have HA := Lib.hid hall
    clear hall
    by_cases hlt : k < sp.length
    · obtain ⟨b, off, rfl, hc⟩ := HLE.out.2 (by omega)
      have c0 := hE.cell (hc (k * 7) (by omega))
      have c1 := hE.cell (hc (k * 7 + 1) (by omega))
      have c2 := hE.cell (hc (k * 7 + 2) (by omega))
      have c3 := hE.cell (hc (k * 7 + 3) (by omega))
      have c4 := hE.cell (hc (k * 7 + 4) (by omega))
      have c5 := hE.cell (hc (k * 7 + 5) (by omega))
      have c6 := hE.cell (hc (k * 7 + 6) (by omega))
      rw [spanv0] at c0
      rw [spanv1, ← Nat.add_assoc] at c1
      rw [spanv2, ← Nat.add_assoc] at c2
      rw [spanv3, ← Nat.add_assoc] at c3
      rw [spanv4, ← Nat.add_assoc] at c4
      rw [spanv5, ← Nat.add_assoc] at c5
      rw [spanv6, ← Nat.add_assoc] at c6
      clear hc
      generalize hx : ix noSpan sp k = x at c0 c1 c2 c3 c4 c5 c6
      have HX := Lib.hid hx
      clear hx
      by_cases hq : SpanQ gen x
      · obtain ⟨q1, q2, q3⟩ := hq
        have e1 : (x.phase != 1) = false := by simpa using q1
        have e2 : (x.gen != gen) = false := by simpa using q2
        have e3 : ((x.alloc : Int) == 0) = false := by simpa using q3
        have HQ := Lib.hid (And.intro q1 (And.intro q2 q3))
        clear q1 q2 q3
        go_wp2_with fail
        go_roundg (sp.length - (k + 1))
        case measure => go_light; omega
        exact ⟨k + 1, by omega, rfl, by simp, hE, fun j hj => by
          by_cases e : j = k
          · subst e; rw [HX.out]; exact HQ.out
          · exact HA.out j (by omega)⟩
      · have HN := Lib.hid (show B (QuietP P gen fr sp hd) = false from B_no (fun h => hq (by have := h.2.2.1 k hlt; rwa [HX.out] at this)))
        have hq2 : ¬ x.phase = 1 ∨ (x.phase = 1 ∧ ¬ x.gen = gen) ∨ (x.phase = 1 ∧ x.gen = gen ∧ x.alloc = 0) := by
          unfold SpanQ at hq
          by_cases a : x.phase = 1
          · by_cases b : x.gen = gen
            · right; right; refine ⟨a, b, ?_⟩
              by_cases c : x.alloc = 0
              · exact c
              · exact absurd ⟨a, b, c⟩ hq
            · right; left; exact ⟨a, b⟩
          · left; exact a
        clear hq
        rcases hq2 with a | ⟨a, b⟩ | ⟨a, b, c⟩
        · have e1 : (x.phase != 1) = true := by simpa using a
          clear a
          go_wp2_with fail
          go_ret
          exact ⟨by rw [HN.out]; rfl, hE1.trans (hE)⟩
        · have e1 : (x.phase != 1) = false := by simpa using a
          have e2 : (x.gen != gen) = true := by simpa using b
          clear a b
          go_wp2_with fail
          go_ret
          exact ⟨by rw [HN.out]; rfl, hE1.trans (hE)⟩
        · have e1 : (x.phase != 1) = false := by simpa using a
          have e2 : (x.gen != gen) = false := by simpa using b
          have e3 : ((x.alloc : Int) == 0) = true := by simpa using c
          clear a b c
          go_wp2_with fail
          go_ret
          exact ⟨by rw [HN.out]; rfl, hE1.trans (hE)⟩
    · obtain rfl : k = sp.length := by omega
      go_wp2_with fail
      go_loopg [12] (fr.length - 1) (fun q i wx => ∃ k : Nat, 1 ≤ k ∧ (k ≤ fr.length ∨ k = 1) ∧ q = fr.length - k ∧ i = .int .i64 k ∧ Ext w1 wx ∧ ∀ j, 1 ≤ j → j < k → (ix noRun fr (j - 1)).a + (ix noRun fr (j - 1)).n < (ix noRun fr j).a)
      case atStart => exact ⟨1, Nat.le_refl _, .inr rfl, rfl, rfl, hE, fun j h1 h2 => absurd h2 (by omega)⟩
      case round =>
        obtain ⟨k, hk1, hk2, rfl, rfl, hE2, hall2⟩ := hrel
        have HA2 := Lib.hid hall2
        clear hall2
        by_cases hlt2 : k < fr.length
        · obtain ⟨m, rfl⟩ : ∃ m, k = m + 1 := ⟨k - 1, by omega⟩
          obtain ⟨b, off, rfl, hc⟩ := HLE.out.1 (by omega)
          have c0 := hE2.cell (hc ((m + 1) * 2) (by omega))
          have c2 := hE2.cell (hc (m * 2) (by omega))
          have c3 := hE2.cell (hc (m * 2 + 1) (by omega))
          rw [runv0] at c0
          rw [runv0] at c2
          rw [runv1, ← Nat.add_assoc] at c3
          obtain ⟨w1a, w1b, w1c, w1d⟩ := whole_run HW.out (i := m) (by omega)
          have g0 : (0 : Int) ≤ ((m + 1 : Nat) : Int) := by omega
          have g1 : ((m + 1 : Nat) : Int) < (fr.length : Int) := by omega
          have g2 : ((m + 1 : Nat) : Int) - 1 = (m : Int) := by omega
          have g3 : (0 : Int) ≤ (m : Int) := by omega
          have g4 : (m : Int) < (fr.length : Int) := by omega
          generalize hx : ix noRun fr (m + 1) = x at c0
          generalize hy : ix noRun fr m = y at c2 c3 w1a w1b w1c w1d
          have HX := Lib.hid (And.intro hx hy)
          clear hx hy hc
          by_cases hd2 : x.a ≤ y.a + y.n
          · have e1 : decide (x.a ≤ y.a + y.n) = true := by simpa using hd2
            have HN := Lib.hid (show B (QuietP P gen fr sp hd) = false from B_no (fun h => by have := h.2.2.2 (m + 1) (by omega) hlt2; rw [Nat.add_sub_cancel, HX.out.1, HX.out.2] at this; omega))
            go_wp2_with fail
            go_quiet (fail)
            go_wp2_with fail
            go_ret
            exact ⟨by rw [HN.out]; rfl, hE1.trans (hE2.drewN _)⟩
          · have e1 : decide (x.a ≤ y.a + y.n) = false := by simpa using hd2
            go_wp2_with fail
            go_quiet (fail)
            go_wp2_with fail
            go_roundg (fr.length - (m + 1 + 1))
            case measure => go_light; omega
            exact ⟨m + 1 + 1, by omega, .inl (by omega), rfl, by simp, hE2.drewN _, fun j h1 h2 => by
              by_cases e : j = m + 1
              · subst e; rw [Nat.add_sub_cancel, HX.out.1, HX.out.2]; omega
              · exact HA2.out j h1 (by omega)⟩
        · have HY := Lib.hid (show B (QuietP P gen fr sp hd) = true from B_yes ⟨HW.out, by omega, fun i hi => HA.out i hi, fun i h1 h2 => HA2.out i h1 (by omega)⟩)
          go_wp2_with fail
          go_ret
          exact ⟨by rw [HY.out]; rfl, hE1.trans hE2⟩
end Go.Proofs.YtmpiodlkhjjbfaaDoor
