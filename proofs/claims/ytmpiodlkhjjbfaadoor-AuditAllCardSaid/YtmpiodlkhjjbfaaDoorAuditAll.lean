/- The law AuditAll of package dustpanlaw30: its walk. -/
import Derived.Test.YtmpiodlkhjjbfaaDoorLiveLaw
import Derived.Test.YtmpiodlkhjjbfaaDoorRef30c
import Derived.Test.YtmpiodlkhjjbfaaDoorAwake30
import Derived.Lib.QuietBelow
namespace Go.Proofs.YtmpiodlkhjjbfaaDoor
open Go.RowKit Go.Sort
set_option linter.unusedVariables false
set_option linter.unusedSimpArgs false

theorem b_self (x : Bool) : (x != x) = false := by simp
set_option maxRecDepth 100000 in
set_option maxHeartbeats 4000000 in
theorem auditAll_any (fr : List RunD) (sp : List SpanD) (hd : List HandD) (fA sA hA : Option Addr) (fc sc hc : Nat) (P p g i : Int) (w : World) (hp : p ≤ 9223372036854775807) (hs : fr.length + sp.length + hd.length ≤ 9223372036854775807)
    (hF : RunsR w fA fr) (hS : SpansR w sA sp) (hH : HandsR w hA hd) (hb : ∀ i, i < sp.length → SpBd (ix noSpan sp i)) (hT : Tab w) (hTB : TabB w) :
    Calls Tryd.prog 4 #[.slice fA fr.length fc, .slice sA sp.length sc, .slice hA hd.length hc, .int .i64 P, .int .i64 p, .int .i64 g, .int .i64 i] w fun e w' =>
      e = .returned (.bool true) ∧ Ext w w' := by
  have W1 : IntKind.i64.wrap ((fr.length : Int) + (sp.length : Int)) = (fr.length : Int) + (sp.length : Int) := IntWalk.i64_in _ (by omega)
  have W2 : IntKind.i64.wrap ((fr.length : Int) + (sp.length : Int) + (hd.length : Int)) = (fr.length : Int) + (sp.length : Int) + (hd.length : Int) := IntWalk.i64_in _ (by omega)
  have HS := Lib.hid (And.intro hF (And.intro hS (And.intro hH (And.intro hb (And.intro hT hTB)))))
  clear hF hS hH hb hT hTB
  by_cases hbig : 30 < fr.length + sp.length + hd.length
  · go_enter Tryd.func4, Tryd.ntmps4
    have d1 : decide ((30 : Int) < (fr.length : Int) + (sp.length : Int) + (hd.length : Int)) = true := by simp; omega
    go_wp2_with fail
    go_at_call 13
    refine (awake30_any _).mono ?_
    rintro e w1 ⟨rfl, hE1⟩
    go_wp2_with fail
    go_ret
    exact ⟨rfl, hE1⟩
  have d1 : decide ((30 : Int) < (fr.length : Int) + (sp.length : Int) + (hd.length : Int)) = false := by simp; omega
  have m0 : fr.length ≤ maxLen ∧ sp.length ≤ maxLen ∧ hd.length ≤ maxLen := by unfold maxLen; omega
  have hpl := pcs_len fr sp hd
  obtain ⟨m1, m2, m3⟩ := m0
  have HWho := Lib.hid (And.intro (fun w => who_any fr sp hd fA sA hA fc sc hc p w m1 m2 m3 (by omega)) (fun w => who30_any fr sp hd fA sA hA fc sc hc p w hp hs))
  have HWhole := Lib.hid (And.intro (fun w => whole_any fr sp hd fA sA hA fc sc hc P w m1 m2 m3) (fun w => whole30_any fr sp hd fA sA hA fc sc hc P w hs))
  have HQuiet := Lib.hid (And.intro (fun w => quiet_any fr sp hd fA sA hA fc sc hc P g w m1 m2 m3) (fun w => quiet30_any fr sp hd fA sA hA fc sc hc P g w hs))
  clear hpl
  generalize whoK (pcs fr sp hd) p = K at HWho
  generalize whoN (pcs fr sp hd) p = N at HWho
  generalize B (WholeP P (pcs fr sp hd)) = bW at HWhole
  generalize B (QuietP P g fr sp hd) = bQ at HQuiet
  have b1 := b_self bW
  have b2 := b_self bQ
  go_enter Tryd.func4, Tryd.ntmps4
  go_wp2_with fail
  go_at_call 14
  refine (HWho.out.1 _ HS.out.1 HS.out.2.1 HS.out.2.2.1).mono ?_
  rintro e w1 ⟨rfl, hE1⟩
  go_wp2_with fail
  go_at_call 15
  refine (HWho.out.2 _ (HS.out.1.ext hE1) (HS.out.2.1.ext hE1) (HS.out.2.2.1.ext hE1)).mono ?_
  rintro e w2 ⟨rfl, hE2⟩
  replace hE2 := hE1.trans hE2
  clear hE1
  go_wp2_with fail
  go_at_call 16
  refine (HWhole.out.1 _ (HS.out.1.ext hE2) (HS.out.2.1.ext hE2) (HS.out.2.2.1.ext hE2)).mono ?_
  rintro e w3 ⟨rfl, hE3⟩
  replace hE3 := hE2.trans hE3
  clear hE2
  go_wp2_with fail
  go_at_call 17
  refine (HWhole.out.2 _ (HS.out.1.ext hE3) (HS.out.2.1.ext hE3) (HS.out.2.2.1.ext hE3)).mono ?_
  rintro e w4 ⟨rfl, hE4⟩
  replace hE4 := hE3.trans hE4
  clear hE3
  go_wp2_with fail
  go_at_call 18
  refine (HQuiet.out.1 _ (HS.out.1.ext hE4) (HS.out.2.1.ext hE4) (HS.out.2.2.1.ext hE4)).mono ?_
  rintro e w5 ⟨rfl, hE5⟩
  replace hE5 := hE4.trans hE5
  clear hE4
  go_wp2_with fail
  go_at_call 19
  refine (HQuiet.out.2 _ (HS.out.1.ext hE5) (HS.out.2.1.ext hE5) (HS.out.2.2.1.ext hE5)).mono ?_
  rintro e w6 ⟨rfl, hE6⟩
  replace hE6 := hE5.trans hE6
  clear hE5
  go_wp2_with fail
  go_loopg [19] sp.length (fun q v wr => ∃ k : Nat, k ≤ sp.length ∧ q = sp.length - k ∧ v = .int .i64 k ∧ Ext w wr)
  case atStart => exact ⟨0, Nat.zero_le _, rfl, rfl, hE6⟩
  case round =>
    clear hE6
    obtain ⟨k, hk, rfl, rfl, hE⟩ := hrel
    by_cases hlt : k < sp.length
    · have HB := Lib.hid (HS.out.2.2.2.1 k hlt)
      obtain ⟨b, off, rfl, hc⟩ := HS.out.2.1 (by omega)
      have h0 := hE.cell (hc (k * 7) (by omega))
      have h1 := hE.cell (hc (k * 7 + 1) (by omega))
      have h2 := hE.cell (hc (k * 7 + 2) (by omega))
      have h3 := hE.cell (hc (k * 7 + 3) (by omega))
      have h4 := hE.cell (hc (k * 7 + 4) (by omega))
      have h5 := hE.cell (hc (k * 7 + 5) (by omega))
      have h6 := hE.cell (hc (k * 7 + 6) (by omega))
      rw [spanv0] at h0
      rw [spanv1, ← Nat.add_assoc] at h1
      rw [spanv2, ← Nat.add_assoc] at h2
      rw [spanv3, ← Nat.add_assoc] at h3
      rw [spanv4, ← Nat.add_assoc] at h4
      rw [spanv5, ← Nat.add_assoc] at h5
      rw [spanv6, ← Nat.add_assoc] at h6
      clear hc
      generalize ix noSpan sp k = x at h0 h1 h2 h3 h4 h5 h6 HB
      have l0 := fun d os => cell_regrown h0 d os
      have l1 := fun d os => cell_regrown h1 d os
      have l2 := fun d os => cell_regrown h2 d os
      have l3 := fun d os => cell_regrown h3 d os
      have l4 := fun d os => cell_regrown h4 d os
      have l5 := fun d os => cell_regrown h5 d os
      have l6 := fun d os => cell_regrown h6 d os
      have HTw := Lib.hid (HS.out.2.2.2.2.1.ext hE)
      have HSl := Lib.hid (And.intro (fun w => slot_any x g i w HB.out) (fun w => slot30_any x g i w HB.out))
      have b3 : (slotC x g i != slotC x g i) = false := by simp
      generalize slotC x g i = S at HSl b3
      clear h0 h1 h2 h3 h4 h5 h6
      go_wp2_with fail
      refine wp_region_quiet_below (by kernel_rfl) (by kernel_rfl) ?_
      repeat (go_big_quiet_step ((first
        | (go_at_call 10; exact Calls.regrown_of (HSl.out.1 _ (HTw.out.ext (below_regrown _ _ _))))
        | (go_at_call 20; exact Calls.regrown_of (HSl.out.2 _)))))
      refine wpQuiet_nil ?_
      intro _ hw'
      obtain ⟨⟨dq, osq⟩, hw''⟩ := hw'
      subst hw''
      go_wp2_with fail
      go_roundg (sp.length - (k + 1))
      case measure => go_light; omega
      exact ⟨k + 1, by omega, rfl, by simp, hE.trans (below_regrown _ dq osq)⟩
    · obtain rfl : k = sp.length := by omega
      go_wp2_with fail
      go_at_call 12
      refine (live_any sp sA sc g _ (by omega) HS.out.2.2.2.1 (HS.out.2.1.ext hE) (HS.out.2.2.2.2.1.ext hE) (HS.out.2.2.2.2.2.ext hE)).mono ?_
      rintro e w7 ⟨⟨A7, c7, rfl, hR7⟩, hE7⟩
      rw [live_same] at hR7 ⊢
      have hEE := hE.trans hE7
      go_wp2_with fail
      go_at_call 21
      refine (live30_any sp sA sc g _ (by omega) HS.out.2.2.2.1 (HS.out.2.1.ext hEE)).mono ?_
      rintro e w8 ⟨⟨v8, rfl, hO8⟩, hE8⟩
      obtain ⟨A8, c8, rfl, _, hR8⟩ := hO8.form
      have hln := liveTo_len sp g sp.length
      have hEE8 := hEE.trans hE8
      have HR := Lib.hid (And.intro (hR7.ext hE8) hR8)
      clear hR7 hR8 hO8 hE7 hE8 hEE hE
      have hsame := fun w a b (h1 : SlR w A7 (liveTo sp g sp.length).length 1 (intv (liveTo sp g sp.length))) h2 => same_any (liveTo sp g sp.length) (liveTo sp g sp.length) A7 A8 a b w (by omega) (by omega) h1 h2
      rw [B_yes rfl] at hsame
      have HSame := Lib.hid hsame
      clear hsame
      generalize (liveTo sp g sp.length) = L at HR HSame hln ⊢
      go_wp2_with fail
      go_at_call 11
      refine (HSame.out _ _ _ HR.out.1 HR.out.2).mono ?_
      rintro e w9 ⟨rfl, hE9⟩
      go_wp2_with fail
      go_at_call 13
      refine (awake30_any _).mono ?_
      rintro e w10 ⟨rfl, hE10⟩
      go_wp2_with fail
      go_ret
      exact ⟨rfl, (hEE8.trans hE9).trans hE10⟩
end Go.Proofs.YtmpiodlkhjjbfaaDoor
