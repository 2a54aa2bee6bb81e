/- Walks: the document's Bit; audit.swept, Slot, the document's Slot. -/
import Derived.Test.YtpohnehcnonjhaaDoorPhaseE
import Derived.Test.YtpohnehcnonjhaaDoorClassD
import Derived.Test.YtpohnehcnonjhaaDoorQuiet
namespace Go.Proofs.YtpohnehcnonjhaaDoor
open Go.RowKit
set_option linter.unusedVariables false
set_option linter.unusedSimpArgs false

def bitC (x : Nat) (t : Int) : Bool := decide (0 ≤ t ∧ t < 64) && x.testBit t.toNat

set_option maxHeartbeats 400000 in
theorem bit_any (x : Nat) (t : Int) (w : World) (hx : x < 18446744073709551616) : Calls Tryd.prog 7 #[.int .u64 x, .int .i64 t] w fun e w' =>
    e = .returned (.bool (bitC x t)) ∧ w = w' := by
  by_cases h : 0 ≤ t ∧ t < 64
  · obtain ⟨h0, h1⟩ := h
    obtain ⟨n, rfl⟩ := Int.eq_ofNat_of_zero_le h0
    have hb := shr_and_one x n hx
    have e : bitC x (n : Int) = x.testBit n := by unfold bitC; simp; try omega
    have HE := Lib.hid e
    clear e
    cases ht : x.testBit n
    all_goals
      rw [ht] at hb HE
      simp only [if_true, if_false, Bool.false_eq_true] at hb
      clear ht
      go_enter Tryd.func7, Tryd.ntmps7
      go_wp2
      go_ret
      exact ⟨ret_bool (by rw [HE.out]; try simp), rfl⟩
  · have e : bitC x t = false := by unfold bitC; simp; try omega
    have HE := Lib.hid e
    clear e
    by_cases h0 : t < 0
    · clear h
      go_enter Tryd.func7, Tryd.ntmps7
      go_wp2
      go_ret
      exact ⟨ret_bool (by rw [HE.out]), rfl⟩
    · have h1 : 64 ≤ t := by omega
      clear h
      go_enter Tryd.func7, Tryd.ntmps7
      go_wp2
      go_ret
      exact ⟨ret_bool (by rw [HE.out]), rfl⟩


def spanV (x : SpanD) : Value := .agg #[.int .i64 x.page, .int .i64 x.pages, .int .i64 x.cls, .int .i64 x.gen, .int .i64 x.phase, .int .u64 x.alloc, .int .u64 x.mark]
def SpBd (x : SpanD) : Prop := x.alloc < 18446744073709551616 ∧ x.mark < 18446744073709551616
theorem swp_zero (g : Int) : ¬ SwP 0 g := by
  intro h
  have hp : phN 0 = 0 := by unfold phN; split <;> rfl
  have := h.2
  rw [hp] at this
  omega

set_option maxHeartbeats 1000000 in
theorem swept_span (x : SpanD) (g : Int) (w : World) : Calls Tryd.prog 18 #[spanV x, .int .i64 g] w fun e w' =>
    e = .returned (.bool (B (SwP (stN x.gen x.phase) g))) ∧ Ext w w' := by
  obtain ⟨a0, a1, a2, a3, a4, a5, a6⟩ := x
  unfold spanV
  dsimp only
  by_cases hS : StP a3 a4
  · have HM := Lib.hid (fun w => make_any a3 a4 w)
    rw [B_yes hS] at HM
    have HW := Lib.hid (fun w => swept_any (stN a3 a4) g w (stN_lt _ _))
    clear hS
    go_enter Tryd.func18, Tryd.ntmps18
    go_wp2_with fail
    go_at_call 27
    refine (HM.out _).mono ?_
    rintro e w1 ⟨rfl, rfl⟩
    go_wp2_with fail
    go_at_call 28
    refine (HW.out _).mono ?_
    rintro e w2 ⟨rfl, hE2⟩
    go_wp2_with fail
    go_ret
    exact ⟨rfl, ((Ext.refl _).alloc _).trans hE2⟩
  · have HM := Lib.hid (fun w => make_any a3 a4 w)
    rw [B_no hS] at HM
    have HN := Lib.hid (show B (SwP (stN a3 a4) g) = false by rw [stN_no hS]; exact B_no (swp_zero g))
    clear hS
    go_enter Tryd.func18, Tryd.ntmps18
    go_wp2_with fail
    go_at_call 27
    refine (HM.out _).mono ?_
    rintro e w1 ⟨rfl, rfl⟩
    go_wp2_with fail
    go_ret
    exact ⟨by rw [HN.out]; rfl, (Ext.refl _).alloc _⟩

def InP (x : SpanD) (i : Int) : Prop := 0 ≤ i ∧ i < clsS x.cls
noncomputable def slotC (x : SpanD) (g i : Int) : Int :=
  if B (InP x i) = false then 0 else if x.alloc.testBit i.toNat = false then 1 else if B (SwP (stN x.gen x.phase) g) = true then 2 else if x.mark.testBit i.toNat = true then 2 else 3
theorem slotC_out {x : SpanD} {g i : Int} (h : ¬ InP x i) : slotC x g i = 0 := if_pos (B_no h)
theorem slotC_free {x : SpanD} {g i : Int} (h : InP x i) (h1 : x.alloc.testBit i.toNat = false) : slotC x g i = 1 := by
  unfold slotC; rw [B_yes h, h1]; rfl
theorem slotC_swept {x : SpanD} {g i : Int} (h : InP x i) (h1 : x.alloc.testBit i.toNat = true) (h2 : B (SwP (stN x.gen x.phase) g) = true) : slotC x g i = 2 := by
  unfold slotC; rw [B_yes h, h1, h2]; rfl
theorem slotC_mark {x : SpanD} {g i : Int} (h : InP x i) (h1 : x.alloc.testBit i.toNat = true) (h2 : B (SwP (stN x.gen x.phase) g) = false) (h3 : x.mark.testBit i.toNat = true) : slotC x g i = 2 := by
  unfold slotC; rw [B_yes h, h1, h2, h3]; rfl
theorem slotC_wait {x : SpanD} {g i : Int} (h : InP x i) (h1 : x.alloc.testBit i.toNat = true) (h2 : B (SwP (stN x.gen x.phase) g) = false) (h3 : x.mark.testBit i.toNat = false) : slotC x g i = 3 := by
  unfold slotC; rw [B_yes h, h1, h2, h3]; rfl

set_option maxHeartbeats 2000000 in
theorem slot_any (x : SpanD) (g i : Int) (w : World) (hb : SpBd x) (hT : Tab w) : Calls Tryd.prog 9 #[spanV x, .int .i64 g, .int .i64 i] w fun e w' =>
    e = .returned (.int .i64 (slotC x g i)) ∧ Ext w w' := by
  by_cases h0 : i < 0
  · have HN := Lib.hid (show slotC x g i = 0 from slotC_out (fun h => by have := h.1; omega))
    obtain ⟨a0, a1, a2, a3, a4, a5, a6⟩ := x
    unfold spanV
    dsimp only
    clear hb hT
    go_enter Tryd.func9, Tryd.ntmps9
    go_wp2_with fail
    go_ret
    exact ⟨by rw [HN.out]; rfl, (Ext.refl _).alloc _⟩
  by_cases h1 : clsS x.cls ≤ i
  · have HN := Lib.hid (show slotC x g i = 0 from slotC_out (fun h => by have := h.2; omega))
    obtain ⟨a0, a1, a2, a3, a4, a5, a6⟩ := x
    unfold spanV
    dsimp only at h1 ⊢
    have d1 : decide (clsS a2 ≤ i) = true := by simpa using h1
    have HT := Lib.hid hT
    clear hb hT h1
    go_enter Tryd.func9, Tryd.ntmps9
    go_wp2_with fail
    go_at_call 17
    refine (slots_c_any _ _ (HT.out.ext ((Ext.refl _).alloc _))).mono ?_
    rintro e w1 ⟨rfl, hE1⟩
    go_wp2_with fail
    go_ret
    exact ⟨by rw [HN.out]; rfl, ((Ext.refl _).alloc _).trans hE1⟩
  have hI : InP x i := ⟨by omega, by omega⟩
  obtain ⟨n, rfl⟩ := Int.eq_ofNat_of_zero_le hI.1
  have hn : n < 64 := by have := hI.2; have := (clsS_bd x.cls).2; omega
  have HW := Lib.hid (fun w => swept_span x g w)
  have f1 := @slotC_free x g n hI
  have f2 := @slotC_swept x g n hI
  have f3 := @slotC_mark x g n hI
  have f4 := @slotC_wait x g n hI
  rw [show ((n : Int).toNat) = n from rfl] at f1 f2 f3 f4
  have s1 := shr_and_one x.alloc n hb.1
  have s2 := shr_and_one x.mark n hb.2
  clear hI hb h0
  cases ha : x.alloc.testBit n
  · have HE := Lib.hid (f1 ha)
    rw [ha] at s1
    simp only [if_true, if_false, Bool.false_eq_true] at s1
    clear f1 f2 f3 f4 s2 ha HW
    obtain ⟨a0, a1, a2, a3, a4, a5, a6⟩ := x
    unfold spanV
    dsimp only at h1 s1 ⊢
    have d1 : decide (clsS a2 ≤ (n : Int)) = false := by simpa using h1
    have HT := Lib.hid hT
    clear hT h1
    go_enter Tryd.func9, Tryd.ntmps9
    go_wp2_with fail
    go_at_call 17
    refine (slots_c_any _ _ (HT.out.ext ((Ext.refl _).alloc _))).mono ?_
    rintro e w1 ⟨rfl, hE1⟩
    have c5 := hE1.cell (cell_new w _ 25 5 _ rfl)
    go_wp2_with fail
    go_ret
    exact ⟨by rw [HE.out]; rfl, ((Ext.refl _).alloc _).trans hE1⟩
  cases hs : B (SwP (stN x.gen x.phase) g)
  · rw [hs] at HW
    cases hm : x.mark.testBit n
    · have HE := Lib.hid (f4 ha hs hm)
      rw [ha] at s1
      rw [hm] at s2
      simp only [if_true, if_false, Bool.false_eq_true] at s1 s2
      clear f1 f2 f3 f4 ha hm hs
      obtain ⟨a0, a1, a2, a3, a4, a5, a6⟩ := x
      unfold spanV at HW ⊢
      dsimp only at h1 s1 HW ⊢
      have d1 : decide (clsS a2 ≤ (n : Int)) = false := by simpa using h1
      have HT := Lib.hid hT
      clear hT h1
      go_enter Tryd.func9, Tryd.ntmps9
      go_wp2_with fail
      go_at_call 17
      refine (slots_c_any _ _ (HT.out.ext ((Ext.refl _).alloc _))).mono ?_
      rintro e w1 ⟨rfl, hE1⟩
      have c0 := hE1.cell (cell_new w _ 25 0 _ rfl)
      have c1 := hE1.cell (cell_new w _ 25 1 _ rfl)
      have c2 := hE1.cell (cell_new w _ 25 2 _ rfl)
      have c3 := hE1.cell (cell_new w _ 25 3 _ rfl)
      have c4 := hE1.cell (cell_new w _ 25 4 _ rfl)
      have c5 := hE1.cell (cell_new w _ 25 5 _ rfl)
      have c6 := hE1.cell (cell_new w _ 25 6 _ rfl)
      go_wp2_with fail
      go_at_call 18
      refine (HW.out _).mono ?_
      rintro e w2 ⟨rfl, hE2⟩
      have e6 := hE2.cell c6
      go_wp2_with fail
      go_ret
      exact ⟨by rw [HE.out]; rfl, (((Ext.refl _).alloc _).trans hE1).trans hE2⟩
    · have HE := Lib.hid (f3 ha hs hm)
      rw [ha] at s1
      rw [hm] at s2
      simp only [if_true, if_false, Bool.false_eq_true] at s1 s2
      clear f1 f2 f3 f4 ha hm hs
      obtain ⟨a0, a1, a2, a3, a4, a5, a6⟩ := x
      unfold spanV at HW ⊢
      dsimp only at h1 s1 HW ⊢
      have d1 : decide (clsS a2 ≤ (n : Int)) = false := by simpa using h1
      have HT := Lib.hid hT
      clear hT h1
      go_enter Tryd.func9, Tryd.ntmps9
      go_wp2_with fail
      go_at_call 17
      refine (slots_c_any _ _ (HT.out.ext ((Ext.refl _).alloc _))).mono ?_
      rintro e w1 ⟨rfl, hE1⟩
      have c0 := hE1.cell (cell_new w _ 25 0 _ rfl)
      have c1 := hE1.cell (cell_new w _ 25 1 _ rfl)
      have c2 := hE1.cell (cell_new w _ 25 2 _ rfl)
      have c3 := hE1.cell (cell_new w _ 25 3 _ rfl)
      have c4 := hE1.cell (cell_new w _ 25 4 _ rfl)
      have c5 := hE1.cell (cell_new w _ 25 5 _ rfl)
      have c6 := hE1.cell (cell_new w _ 25 6 _ rfl)
      go_wp2_with fail
      go_at_call 18
      refine (HW.out _).mono ?_
      rintro e w2 ⟨rfl, hE2⟩
      have e6 := hE2.cell c6
      go_wp2_with fail
      go_ret
      exact ⟨by rw [HE.out]; rfl, (((Ext.refl _).alloc _).trans hE1).trans hE2⟩
  · rw [hs] at HW
    have HE := Lib.hid (f2 ha hs)
    rw [ha] at s1
    simp only [if_true, if_false, Bool.false_eq_true] at s1
    clear f1 f2 f3 f4 ha hs s2
    obtain ⟨a0, a1, a2, a3, a4, a5, a6⟩ := x
    unfold spanV at HW ⊢
    dsimp only at h1 s1 HW ⊢
    have d1 : decide (clsS a2 ≤ (n : Int)) = false := by simpa using h1
    have HT := Lib.hid hT
    clear hT h1
    go_enter Tryd.func9, Tryd.ntmps9
    go_wp2_with fail
    go_at_call 17
    refine (slots_c_any _ _ (HT.out.ext ((Ext.refl _).alloc _))).mono ?_
    rintro e w1 ⟨rfl, hE1⟩
    have c0 := hE1.cell (cell_new w _ 25 0 _ rfl)
    have c1 := hE1.cell (cell_new w _ 25 1 _ rfl)
    have c2 := hE1.cell (cell_new w _ 25 2 _ rfl)
    have c3 := hE1.cell (cell_new w _ 25 3 _ rfl)
    have c4 := hE1.cell (cell_new w _ 25 4 _ rfl)
    have c5 := hE1.cell (cell_new w _ 25 5 _ rfl)
    have c6 := hE1.cell (cell_new w _ 25 6 _ rfl)
    go_wp2_with fail
    go_at_call 18
    refine (HW.out _).mono ?_
    rintro e w2 ⟨rfl, hE2⟩
    have e6 := hE2.cell c6
    go_wp2_with fail
    go_ret
    exact ⟨by rw [HE.out]; rfl, (((Ext.refl _).alloc _).trans hE1).trans hE2⟩

theorem bitC_nat (x n : Nat) (hn : n < 64) : bitC x (n : Int) = x.testBit n := by
  unfold bitC
  rw [show decide ((0 : Int) ≤ (n : Int) ∧ (n : Int) < 64) = true by simp; omega, show ((n : Int).toNat) = n from rfl, Bool.true_and]

end Go.Proofs.YtpohnehcnonjhaaDoor
