/- Walk: the document's Live. -/
import Derived.Test.YtmpiodlkhjjbfaaDoorPut
import Derived.Test.YtmpiodlkhjjbfaaDoorSlotD
namespace Go.Proofs.YtmpiodlkhjjbfaaDoor
open Go.RowKit
set_option linter.unusedVariables false
set_option linter.unusedSimpArgs false

def LivP (x : SpanD) (g : Int) (k : Nat) : Prop := BegP x.page x.cls k ∧ slotC x g k = 2
/-- The first k slots of a span, each that lives put in its place. -/
noncomputable def slotsTo (x : SpanD) (g : Int) (acc : List Int) : Nat → List Int
  | 0 => acc
  | k + 1 => if B (LivP x g k) then putL (slotsTo x g acc k) (begC x.page x.cls k) else slotsTo x g acc k
noncomputable def liveTo (sp : List SpanD) (g : Int) : Nat → List Int
  | 0 => []
  | i + 1 => slotsTo (ix noSpan sp i) g (liveTo sp g i) (clsS (ix noSpan sp i).cls).toNat
theorem putL_len : ∀ (l : List Int) (x : Int), (putL l x).length ≤ l.length + 1
  | [], x => by simp [putL]
  | y :: ys, x => by
    have := putL_len ys x
    unfold putL
    split
    · simp; omega
    · split <;> simp
theorem slotsTo_len (x : SpanD) (g : Int) (acc : List Int) : ∀ k, (slotsTo x g acc k).length ≤ acc.length + k
  | 0 => Nat.le_refl _
  | k + 1 => by
    have h := slotsTo_len x g acc k
    have := putL_len (slotsTo x g acc k) (begC x.page x.cls k)
    unfold slotsTo
    split <;> omega
theorem slotsTo_yes {x : SpanD} {g : Int} {acc : List Int} {k : Nat} (h : LivP x g k) : slotsTo x g acc (k + 1) = putL (slotsTo x g acc k) (begC x.page x.cls k) := if_pos (B_yes h)
theorem slotsTo_no {x : SpanD} {g : Int} {acc : List Int} {k : Nat} (h : ¬ LivP x g k) : slotsTo x g acc (k + 1) = slotsTo x g acc k := if_neg (by rw [B_no h]; simp)
theorem liveTo_len (sp : List SpanD) (g : Int) : ∀ i, (liveTo sp g i).length ≤ 64 * i
  | 0 => Nat.le_refl _
  | i + 1 => by
    have h := liveTo_len sp g i
    have h2 := slotsTo_len (ix noSpan sp i) g (liveTo sp g i) (clsS (ix noSpan sp i).cls).toNat
    have h3 := clsS_bd (ix noSpan sp i).cls
    unfold liveTo
    omega

set_option maxRecDepth 100000 in
set_option maxHeartbeats 4000000 in
theorem live30_any (sp : List SpanD) (sA : Option Addr) (sc : Nat) (g : Int) (w : World) (hl : sp.length ≤ 10000) (hb : ∀ i, i < sp.length → SpBd (ix noSpan sp i)) (hS : SpansR w sA sp) :
    Calls Tryd.prog 21 #[.slice sA sp.length sc, .int .i64 g] w (PutOut w w.heap.size (liveTo sp g sp.length)) := by
  have HS := Lib.hid (And.intro hS hb)
  clear hS hb
  go_enter Tryd.func21, Tryd.ntmps21
  go_wp2_with fail
  go_loopg [5, 6] sp.length (fun q v i wr => ∃ k : Nat, k ≤ sp.length ∧ q = sp.length - k ∧ i = .int .i64 k ∧ Ext w wr ∧ OwnS wr w.heap.size 3 1 v (liveTo sp g k).length (intv (liveTo sp g k)))
  case atStart => exact ⟨0, Nat.zero_le _, rfl, rfl, Ext.refl _, OwnS.nil _ _ _ _ _⟩
  case round =>
    obtain ⟨k, hk, rfl, rfl, hE, hO⟩ := hrel
    by_cases hlt : k < sp.length
    · have HB := Lib.hid (HS.out.2 k hlt)
      have HL := Lib.hid (show slotsTo (ix noSpan sp k) g (liveTo sp g k) (clsS (ix noSpan sp k).cls).toNat = liveTo sp g (k + 1) from rfl)
      have HC := Lib.hid (liveTo_len sp g k)
      obtain ⟨b, off, rfl, hc⟩ := HS.out.1 (by omega)
      have h0 := hc (k * 7) (by omega)
      have h1 := hc (k * 7 + 1) (by omega)
      have h2 := hc (k * 7 + 2) (by omega)
      have h3 := hc (k * 7 + 3) (by omega)
      have h4 := hc (k * 7 + 4) (by omega)
      have h5 := hc (k * 7 + 5) (by omega)
      have h6 := hc (k * 7 + 6) (by omega)
      rw [spanv0] at h0
      rw [spanv1, ← Nat.add_assoc] at h1
      rw [spanv2, ← Nat.add_assoc] at h2
      rw [spanv3, ← Nat.add_assoc] at h3
      rw [spanv4, ← Nat.add_assoc] at h4
      rw [spanv5, ← Nat.add_assoc] at h5
      rw [spanv6, ← Nat.add_assoc] at h6
      clear hc
      generalize ix noSpan sp k = x at h0 h1 h2 h3 h4 h5 h6 HB HL
      generalize liveTo sp g k = acc at HL HC hO
      have HH := Lib.hid (And.intro h0 (And.intro h1 (And.intro h2 (And.intro h3 (And.intro h4 (And.intro h5 h6))))))
      have hcb := clsS_bd x.cls
      obtain ⟨N, hN⟩ := Int.eq_ofNat_of_zero_le hcb.1
      have HN := Lib.hid hN
      clear h0 h1 h2 h3 h4 h5 h6 
      rw [hN] at hcb
      clear hN
      go_wp2_with fail
      go_loopg [5, 7] N (fun q v i wy => ∃ j : Nat, j ≤ N ∧ q = N - j ∧ i = .int .i64 j ∧ Ext w wy ∧ OwnS wy w.heap.size 3 1 v (slotsTo x g acc j).length (intv (slotsTo x g acc j)))
      case atStart => exact ⟨0, Nat.zero_le _, rfl, rfl, hE, hO⟩
      case round =>
        clear hE hO
        obtain ⟨j, hj, rfl, rfl, hE, hO⟩ := hrel
        have HO := Lib.hid hO
        clear hO
        have c0 := hE.cell HH.out.1
        have c2 := hE.cell HH.out.2.2.1
        go_wp2_with fail
        go_at_call 6
        refine (slots1_any _ _).mono ?_
        rintro e w1 ⟨rfl, hE1⟩
        rw [HN.out]
        by_cases hlt2 : j < N
        · have d0 := hE1.cell c0
          have d2 := hE1.cell c2
          go_wp2_with fail
          have hEE := hE.trans hE1
          by_cases hP : BegP x.page x.cls j
          · have HP := Lib.hid hP
            have hB := B_yes hP
            clear hP
            have HT := Lib.hid (fun w => slot30_any x g j w HB.out)
            go_region_with (go_at_call 7; refine (begin1_any _ _ _ _).mono ?_; rintro e w2 ⟨rfl, hE2⟩; rw [hB]; replace hEE := hEE.trans ((Ext.refl w1).drew.trans hE2); have f0 := hEE.cell HH.out.1; have f1 := hEE.cell HH.out.2.1; have f2 := hEE.cell HH.out.2.2.1; have f3 := hEE.cell HH.out.2.2.2.1; have f4 := hEE.cell HH.out.2.2.2.2.1; have f5 := hEE.cell HH.out.2.2.2.2.2.1; have f6 := hEE.cell HH.out.2.2.2.2.2.2)
            all_goals
              go_wp2_with fail
              go_at_call 20
              refine (HT.out _).mono ?_
              rintro e w3 ⟨rfl, hE3⟩
              replace hEE := hEE.trans hE3
              by_cases h2 : slotC x g j = 2
              · have HY := Lib.hid (slotsTo_yes (x := x) (g := g) (acc := acc) (k := j) ⟨HP.out, h2⟩)
                have e2 : (slotC x g j == 2) = true := by simpa using h2
                clear h2 HT
                go_wp2_with fail
                go_at_call 36
                refine (put_any (slotsTo x g acc j) _ w.heap.size _ _ hEE.size ?hlen ?hown).mono ?_
                case hlen => have := slotsTo_len x g acc j; have := HC.out; omega
                case hown => exact ((HO.out.ext hE1).ext (Ext.refl w1).drew).ext (hE2.trans hE3)
                rintro e w4 ⟨⟨v4, rfl, hO4⟩, hE4⟩
                go_wp2_with fail
                go_roundg (N - (j + 1))
                case measure => go_light; omega
                exact ⟨j + 1, by omega, rfl, by simp, hEE.trans hE4, by rw [HY.out]; exact hO4⟩
              · have HY := Lib.hid (slotsTo_no (x := x) (g := g) (acc := acc) (k := j) (fun h => h2 h.2))
                have e2 : (slotC x g j == 2) = false := by simpa using h2
                clear h2 HT
                go_wp2_with fail
                go_roundg (N - (j + 1))
                case measure => go_light; omega
                exact ⟨j + 1, by omega, rfl, by simp, hEE, by rw [HY.out]; exact ((HO.out.ext hE1).ext (Ext.refl w1).drew).ext (hE2.trans hE3)⟩
          · have HY := Lib.hid (slotsTo_no (x := x) (g := g) (acc := acc) (k := j) (fun h => hP h.1))
            have hB := B_no hP
            clear hP
            go_region_with (go_at_call 7; refine (begin1_any _ _ _ _).mono ?_; rintro e w2 ⟨rfl, hE2⟩; rw [hB]; replace hEE := hEE.trans ((Ext.refl w1).drew.trans hE2))
            all_goals
              go_wp2_with fail
              go_roundg (N - (j + 1))
              case measure => go_light; omega
              exact ⟨j + 1, by omega, rfl, by simp, hEE, by rw [HY.out]; exact ((HO.out.ext hE1).ext (Ext.refl w1).drew).ext hE2⟩
        · obtain rfl : j = N := by omega
          have hx : (clsS x.cls).toNat = j := by rw [HN.out]; rfl
          have HZ := HL.out
          rw [hx] at HZ
          go_wp2_with fail
          go_roundg (sp.length - (k + 1))
          case measure => go_light; omega
          exact ⟨k + 1, by omega, rfl, by simp, hE.trans hE1, by rw [← HZ]; exact HO.out.ext hE1⟩
    · obtain rfl : k = sp.length := by omega
      go_wp2_with fail
      go_ret
      exact ⟨⟨_, rfl, hO⟩, hE⟩
end Go.Proofs.YtmpiodlkhjjbfaaDoor
