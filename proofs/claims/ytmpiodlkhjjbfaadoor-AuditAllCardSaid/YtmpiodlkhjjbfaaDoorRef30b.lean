/- Walk: the document's Who of pages. -/
import Derived.Test.YtmpiodlkhjjbfaaDoorRef30a
namespace Go.Proofs.YtmpiodlkhjjbfaaDoor
open Go.RowKit
set_option linter.unusedVariables false
set_option linter.unusedSimpArgs false

/-- What has been counted so far. -/
def WhoS (xs : List Pc) (p : Int) (k : Nat) (kd : Int) (n : Nat) : Prop := whoK (xs.take k) p = kd ∧ whoN (xs.take k) p = n ∧ n ≤ k
theorem WhoS.yes {xs : List Pc} {p kd a n c : Int} {k N : Nat} (h : WhoS xs p k kd N) (hk : k < xs.length) (e : ix noPc xs k = ⟨c, a, n⟩) (hp : HasR a n p) : WhoS xs p (k + 1) (if N = 0 then c else kd) (N + 1) := by
  obtain ⟨h1, h2, h3⟩ := h
  have := who_take_yes hk e hp
  rw [h1, h2] at this
  exact ⟨this.2, this.1, by omega⟩
theorem WhoS.no {xs : List Pc} {p kd a n c : Int} {k N : Nat} (h : WhoS xs p k kd N) (hk : k < xs.length) (e : ix noPc xs k = ⟨c, a, n⟩) (hp : ¬ HasR a n p) : WhoS xs p (k + 1) kd N := by
  obtain ⟨h1, h2, h3⟩ := h
  have := who_take_no hk e hp
  rw [h1, h2] at this
  exact ⟨this.2, this.1, by omega⟩

set_option maxRecDepth 100000 in
set_option maxHeartbeats 4000000 in
theorem who30_any (fr : List RunD) (sp : List SpanD) (hd : List HandD) (fA sA hA : Option Addr) (fc sc hc : Nat) (p : Int) (w : World) (hp : p ≤ 9223372036854775807) (hs : fr.length + sp.length + hd.length ≤ 9223372036854775807)
    (hF : RunsR w fA fr) (hS : SpansR w sA sp) (hH : HandsR w hA hd) :
    Calls Tryd.prog 15 #[.slice fA fr.length fc, .slice sA sp.length sc, .slice hA hd.length hc, .int .i64 p] w fun e w' =>
      e = .returned (.tuple #[.int .i64 (whoK (pcs fr sp hd) p), .int .i64 (whoN (pcs fr sp hd) p)]) ∧ Ext w w' := by
  have HS := Lib.hid (And.intro hF (And.intro hS hH))
  have HP := Lib.hid (fun a n w => has30_any a n p w hp)
  have hpl := pcs_len fr sp hd
  have HL := Lib.hid hpl
  have HI := Lib.hid (And.intro (fun k h => @pc_run fr sp hd k h) (And.intro (fun k h => @pc_span fr sp hd k h) (fun k h => @pc_hand fr sp hd k h)))
  clear hF hS hH hp hpl
  generalize hxs : pcs fr sp hd = xs at HL HI ⊢
  clear hxs
  go_enter Tryd.func15, Tryd.ntmps15
  go_wp2_with fail
  go_loopg [10, 11, 12] fr.length (fun q kd n i wr => ∃ (k : Nat) (K : Int) (N : Nat), k ≤ fr.length ∧ q = fr.length - k ∧ i = .int .i64 k ∧ kd = .int .i64 K ∧ n = .int .i64 N ∧ Ext w wr ∧ (N ≠ 0 → K = 1) ∧ WhoS xs p k K N ∧ N ≤ k)
  case atStart => exact ⟨0, 0, 0, Nat.zero_le _, rfl, rfl, rfl, rfl, Ext.refl _, fun h => absurd rfl h, ⟨rfl, rfl, Nat.le_refl _⟩, Nat.le_refl _⟩
  case round =>
    obtain ⟨k, K, N, hk, rfl, rfl, rfl, rfl, hE, hK1, hW, hNk⟩ := hrel
    have HW := Lib.hid (And.intro hK1 hW)
    clear hK1 hW
    by_cases hlt : k < fr.length
    · obtain ⟨b, off, rfl, hc⟩ := HS.out.1 (by omega)
      have c0 := hE.cell (hc (k * 2) (by omega))
      have c1 := hE.cell (hc (k * 2 + 1) (by omega))
      rw [runv0] at c0
      rw [runv1, ← Nat.add_assoc] at c1
      have hx := HI.out.1 k hlt
      generalize ix noRun fr k = x at c0 c1 hx
      obtain ⟨a, m⟩ := x
      have HX := Lib.hid hx
      clear hx hc
      dsimp only at c0 c1
      by_cases hq : HasR a m p
      · have HB := Lib.hid (fun w => HP.out a m w)
        rw [B_yes hq] at HB
        have HQ := Lib.hid hq
        clear hq
        go_wp2_with fail
        go_quiet ((go_at_call 34; exact Calls.quiet_of_same ((HB.out _).mono fun _ _ h => ⟨h.1, h.2.symm⟩)))
        go_wp2_with fail
        go_roundg (fr.length - (k + 1))
        case measure => go_light; omega
        have hy := HW.out.2.yes (by rw [HL.out]; omega) HX.out HQ.out
        have hk1 := HW.out.1
        refine ⟨k + 1, 1, N + 1, by omega, rfl, by simp, rfl, by simp, hE.drewN _, fun _ => rfl, ?_, by omega⟩
        by_cases h0 : N = 0
        · rwa [if_pos h0] at hy
        · rwa [if_neg h0, hk1 h0] at hy
      · have HB := Lib.hid (fun w => HP.out a m w)
        rw [B_no hq] at HB
        have HQ := Lib.hid hq
        clear hq
        go_wp2_with fail
        go_quiet ((go_at_call 34; exact Calls.quiet_of_same ((HB.out _).mono fun _ _ h => ⟨h.1, h.2.symm⟩)))
        go_wp2_with fail
        go_roundg (fr.length - (k + 1))
        case measure => go_light; omega
        have hy := HW.out.2.no (by rw [HL.out]; omega) HX.out HQ.out
        exact ⟨k + 1, K, N, by omega, rfl, by simp, rfl, rfl, hE.drewN _, HW.out.1, hy, by omega⟩
    · obtain rfl : k = fr.length := by omega
      replace HW := Lib.hid HW.out.2
      go_wp2_with fail
      clear hNk
      go_loopg [10, 11, 13] sp.length (fun q kd n i wr => ∃ (k : Nat) (K : Int) (N : Nat), k ≤ sp.length ∧ q = sp.length - k ∧ i = .int .i64 k ∧ kd = .int .i64 K ∧ n = .int .i64 N ∧ Ext w wr ∧ WhoS xs p (fr.length + k) K N ∧ N ≤ fr.length + k)
      case atStart => exact ⟨0, K, N, Nat.zero_le _, rfl, rfl, rfl, rfl, hE, HW.out, by have := HW.out.2.2; omega⟩
      case round =>
        clear hE HW
        clear K N
        obtain ⟨k, K, N, hk, rfl, rfl, rfl, rfl, hE, hW, hNk⟩ := hrel
        have HW := Lib.hid hW
        clear hW
        by_cases hlt : k < sp.length
        · obtain ⟨b, off, rfl, hc⟩ := HS.out.2.1 (by omega)
          have c0 := hE.cell (hc (k * 7) (by omega))
          have c1 := hE.cell (hc (k * 7 + 1) (by omega))
          rw [spanv0] at c0
          rw [spanv1, ← Nat.add_assoc] at c1
          have hx := HI.out.2.1 k hlt
          generalize ix noSpan sp k = x at c0 c1 hx
          have HX := Lib.hid hx
          generalize x.page = a at c0 HX
          generalize x.pages = m at c1 HX
          clear hx hc
          by_cases hq : HasR a m p
          · have HB := Lib.hid (fun w => HP.out a m w)
            rw [B_yes hq] at HB
            have HQ := Lib.hid hq
            clear hq
            by_cases h0 : N = 0
            · subst h0
              go_wp2_with fail
              go_quiet ((go_at_call 34; exact Calls.quiet_of_same ((HB.out _).mono fun _ _ h => ⟨h.1, h.2.symm⟩)))
              go_wp2_with fail
              go_roundg (sp.length - (k + 1))
              case measure => go_light; omega
              have hy := HW.out.yes (by rw [HL.out]; omega) HX.out HQ.out
              rw [if_pos rfl, Nat.add_assoc] at hy
              exact ⟨k + 1, 2, 0 + 1, by omega, rfl, by simp, rfl, by simp, hE.drewN _, hy, by omega⟩
            · go_wp2_with fail
              go_quiet ((go_at_call 34; exact Calls.quiet_of_same ((HB.out _).mono fun _ _ h => ⟨h.1, h.2.symm⟩)))
              go_wp2_with fail
              go_roundg (sp.length - (k + 1))
              case measure => go_light; omega
              have hy := HW.out.yes (by rw [HL.out]; omega) HX.out HQ.out
              rw [if_neg h0, Nat.add_assoc] at hy
              exact ⟨k + 1, K, N + 1, by omega, rfl, by simp, rfl, by simp, hE.drewN _, hy, by omega⟩
          · have HB := Lib.hid (fun w => HP.out a m w)
            rw [B_no hq] at HB
            have HQ := Lib.hid hq
            clear hq
            go_wp2_with fail
            go_quiet ((go_at_call 34; exact Calls.quiet_of_same ((HB.out _).mono fun _ _ h => ⟨h.1, h.2.symm⟩)))
            go_wp2_with fail
            go_roundg (sp.length - (k + 1))
            case measure => go_light; omega
            have hy := HW.out.no (by rw [HL.out]; omega) HX.out HQ.out
            rw [Nat.add_assoc] at hy
            exact ⟨k + 1, K, N, by omega, rfl, by simp, rfl, rfl, hE.drewN _, hy, by omega⟩
        · obtain rfl : k = sp.length := by omega
          go_wp2_with fail
          clear hNk
          go_loopg [10, 11, 14] hd.length (fun q kd n i wr => ∃ (k : Nat) (K : Int) (N : Nat), k ≤ hd.length ∧ q = hd.length - k ∧ i = .int .i64 k ∧ kd = .int .i64 K ∧ n = .int .i64 N ∧ Ext w wr ∧ WhoS xs p (fr.length + sp.length + k) K N ∧ N ≤ fr.length + sp.length + k)
          case atStart => exact ⟨0, K, N, Nat.zero_le _, rfl, rfl, rfl, rfl, hE, HW.out, by have := HW.out.2.2; omega⟩
          case round =>
            clear hE HW
            clear K N
            obtain ⟨k, K, N, hk, rfl, rfl, rfl, rfl, hE, hW, hNk⟩ := hrel
            have HW := Lib.hid hW
            clear hW
            by_cases hlt : k < hd.length
            · obtain ⟨b, off, rfl, hc⟩ := HS.out.2.2 (by omega)
              have c0 := hE.cell (hc (k * 3 + 1) (by omega))
              have c1 := hE.cell (hc (k * 3 + 2) (by omega))
              rw [handv1, ← Nat.add_assoc] at c0
              rw [handv2, ← Nat.add_assoc] at c1
              have hx := HI.out.2.2 k hlt
              generalize ix noHand hd k = x at c0 c1 hx
              have HX := Lib.hid hx
              generalize x.a = a at c0 HX
              generalize x.n = m at c1 HX
              clear hx hc
              by_cases hq : HasR a m p
              · have HB := Lib.hid (fun w => HP.out a m w)
                rw [B_yes hq] at HB
                have HQ := Lib.hid hq
                clear hq
                by_cases h0 : N = 0
                · subst h0
                  go_wp2_with fail
                  go_quiet ((go_at_call 34; exact Calls.quiet_of_same ((HB.out _).mono fun _ _ h => ⟨h.1, h.2.symm⟩)))
                  go_wp2_with fail
                  go_roundg (hd.length - (k + 1))
                  case measure => go_light; omega
                  have hy := HW.out.yes (by rw [HL.out]; omega) HX.out HQ.out
                  rw [if_pos rfl, Nat.add_assoc] at hy
                  exact ⟨k + 1, 3, 0 + 1, by omega, rfl, by simp, rfl, by simp, hE.drewN _, hy, by omega⟩
                · go_wp2_with fail
                  go_quiet ((go_at_call 34; exact Calls.quiet_of_same ((HB.out _).mono fun _ _ h => ⟨h.1, h.2.symm⟩)))
                  go_wp2_with fail
                  go_roundg (hd.length - (k + 1))
                  case measure => go_light; omega
                  have hy := HW.out.yes (by rw [HL.out]; omega) HX.out HQ.out
                  rw [if_neg h0, Nat.add_assoc] at hy
                  exact ⟨k + 1, K, N + 1, by omega, rfl, by simp, rfl, by simp, hE.drewN _, hy, by omega⟩
              · have HB := Lib.hid (fun w => HP.out a m w)
                rw [B_no hq] at HB
                have HQ := Lib.hid hq
                clear hq
                go_wp2_with fail
                go_quiet ((go_at_call 34; exact Calls.quiet_of_same ((HB.out _).mono fun _ _ h => ⟨h.1, h.2.symm⟩)))
                go_wp2_with fail
                go_roundg (hd.length - (k + 1))
                case measure => go_light; omega
                have hy := HW.out.no (by rw [HL.out]; omega) HX.out HQ.out
                rw [Nat.add_assoc] at hy
                exact ⟨k + 1, K, N, by omega, rfl, by simp, rfl, rfl, hE.drewN _, hy, by omega⟩
            · obtain rfl : k = hd.length := by omega
              go_wp2_with fail
              have hh := HW.out
              have ht : xs.take (fr.length + sp.length + hd.length) = xs := List.take_of_length_le (by rw [HL.out]; omega)
              obtain ⟨q1, q2, q3⟩ := hh
              rw [ht] at q1 q2
              go_ret2
              exact ⟨by rw [q1, q2]; rfl, hE⟩
end Go.Proofs.YtmpiodlkhjjbfaaDoor
