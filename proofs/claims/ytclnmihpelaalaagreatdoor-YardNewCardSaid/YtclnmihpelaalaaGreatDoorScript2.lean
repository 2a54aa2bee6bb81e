/- Walks: script.Right and what it calls. -/
import Derived.Test.YtclnmihpelaalaaGreatDoorRows
import Derived.Test.YtclnmihpelaalaaGreatDoorBase
import Derived.Test.YtclnmihpelaalaaGreatDoorScript
namespace Go.Proofs.YtclnmihpelaalaaGreatDoor
open Go.RowKit
set_option linter.unusedVariables false
set_option linter.unusedSimpArgs false

set_option maxHeartbeats 400000 in
theorem notMay_any (k a : Int) (l : List Int) (A : Option Addr) (cap : Nat) (w : World) (hn : l.length ≤ maxLen) (hl : IntsR w A l) : Calls Tryz.prog 27 #[.agg #[.int .i64 k, .int .i64 a, .slice A l.length cap]] w fun e w' =>
    e = .returned (.bool (!B (MayOk ⟨k, a, l⟩))) ∧ Ext w w' := by
  go_enter Tryz.func27, Tryz.ntmps27
  go_wp2_with (go_at_call 28; refine (may_any _ _ _ _ _ _ hn ?h1).mono ?_; (case h1 => exact hl.ext ((Ext.refl _).alloc _)); rintro e w1 ⟨rfl, hE⟩)
  go_ret
  exact ⟨rfl, ((Ext.refl _).alloc _).trans hE⟩

def SomeIdx (P : Prop) (w : World) (e : Ending) (w' : World) : Prop := ∃ r : Int, e = .returned (.int .i64 r) ∧ (0 ≤ r ↔ P) ∧ Ext w w'

set_option maxHeartbeats 400000 in
theorem idxCalls_any (cs : List CallD) (A : Option Addr) (cap : Nat) (w : World) (hn : cs.length ≤ maxLen) (hl : CallsR w A cs) :
    Calls Tryz.prog 46 #[.slice A cs.length cap, .func (.func 27) #[] #[]] w (SomeIdx (∃ i, i < cs.length ∧ ¬ MayOk (ix noCall cs i)) w) := by
  have hn' : cs.length ≤ 9223372036854775807 := hn
  go_enter Tryz.func46, Tryz.ntmps46
  go_wp2
  go_loopg [8] cs.length (fun q i wr => ∃ i' : Nat, i' ≤ cs.length ∧ q = cs.length - i' ∧ i = .int .i64 i' ∧ Ext w wr ∧ ∀ j, j < i' → MayOk (ix noCall cs j))
  case atStart => exact ⟨0, Nat.zero_le _, rfl, rfl, Ext.refl _, fun i hi => absurd hi (by omega)⟩
  case round =>
    obtain ⟨i, hi, rfl, rfl, hE, hok⟩ := hrel
    by_cases hlt : i < cs.length
    · obtain ⟨LA, LC, hl1, hl2⟩ := hl
      obtain ⟨b, off, rfl, hc⟩ := hl1 (by omega)
      have c0 := hE.cell (hc (i * 3) (by omega))
      have c1 := hE.cell (hc (i * 3 + 1) (by omega))
      have c2 := hE.cell (hc (i * 3 + 2) (by omega))
      rw [callv0] at c0
      rw [callv1, ← Nat.add_assoc] at c1
      rw [callv2, ← Nat.add_assoc] at c2
      obtain ⟨hl3, hl4⟩ := hl2 i hlt
      clear hl1 hl2 hc
      go_wp2_with (go_at_call 27; refine (notMay_any _ _ _ _ _ _ hl4 ?h1).mono ?_; (case h1 => exact hl3.ext hE); rintro e w1 ⟨rfl, hE2⟩)
      · have ht : (!B (MayOk (ix noCall cs i))) = true := by assumption
        go_ret
        rw [B_not, B_iff] at ht
        exact ⟨i, rfl, ⟨fun _ => ⟨i, hlt, ht⟩, fun _ => by omega⟩, hE.trans hE2⟩
      · have ht : (!B (MayOk (ix noCall cs i))) = false := by assumption
        rw [Bool.not_eq_false', B_iff] at ht
        go_roundg (cs.length - (i + 1))
        case measure => go_light; omega
        case rel =>
          refine ⟨i + 1, by omega, rfl, by go_num, hE.trans hE2, fun j hj => ?_⟩
          by_cases e : j = i
          · subst e; exact ht
          · exact hok j (by omega)
    · obtain rfl : i = cs.length := by omega
      clear hl
      go_wp2
      go_ret
      exact ⟨-1, rfl, ⟨fun h => absurd h (by omega), fun ⟨j, hj, h⟩ => absurd (hok j hj) h⟩, hE⟩

set_option maxHeartbeats 400000 in
theorem contCalls_any (cs : List CallD) (A : Option Addr) (cap : Nat) (w : World) (hn : cs.length ≤ maxLen) (hl : CallsR w A cs) :
    Calls Tryz.prog 26 #[.slice A cs.length cap, .func (.func 27) #[] #[]] w fun e w' => e = .returned (.bool (B (∃ i, i < cs.length ∧ ¬ MayOk (ix noCall cs i)))) ∧ Ext w w' := by
  go_enter Tryz.func26, Tryz.ntmps26
  go_wp2_with (go_at_call 46; refine (idxCalls_any _ _ _ _ hn ?h1).mono ?_; (case h1 => exact hl); rintro e w1 ⟨r, rfl, hr, hE⟩)
  go_ret
  exact ⟨ret_B (by simp [hr]), hE⟩

/-- A thread's calls may not be. -/
def BadCalls (cs : List CallD) : Prop := 40 < cs.length ∨ ∃ i, i < cs.length ∧ ¬ MayOk (ix noCall cs i)

set_option maxHeartbeats 400000 in
theorem bad_any (cs : List CallD) (A : Option Addr) (cap : Nat) (w : World) (hn : cs.length ≤ maxLen) (hl : CallsR w A cs) :
    Calls Tryz.prog 25 #[.slice A cs.length cap] w fun e w' => e = .returned (.bool (B (BadCalls cs))) ∧ Ext w w' := by
  have hn' : cs.length ≤ 9223372036854775807 := hn
  go_enter Tryz.func25, Tryz.ntmps25
  go_wp2_with (go_at_call 26; refine (contCalls_any _ _ _ _ hn ?h1).mono ?_; (case h1 => exact hl); rintro e w1 ⟨rfl, hE⟩)
  all_goals go_ret
  · exact ⟨ret_B (by rw [Bool.or_eq_true, B_iff, decide_eq_true_eq]; unfold BadCalls; rw [show (40 < (cs.length : Int)) ↔ 40 < cs.length by omega]), hE⟩
  · exact ⟨ret_B (by unfold BadCalls; simp; exact .inl (by omega)), Ext.refl _⟩

set_option maxHeartbeats 400000 in
theorem idxCallss_any (css : List (List CallD)) (A : Option Addr) (cap : Nat) (w : World) (hn : css.length ≤ maxLen) (hl : CallssR w A css) :
    Calls Tryz.prog 49 #[.slice A css.length cap, .func (.func 25) #[] #[]] w (SomeIdx (∃ i, i < css.length ∧ BadCalls (ix [] css i)) w) := by
  have hn' : css.length ≤ 9223372036854775807 := hn
  go_enter Tryz.func49, Tryz.ntmps49
  go_wp2
  go_loopg [8] css.length (fun q i wr => ∃ i' : Nat, i' ≤ css.length ∧ q = css.length - i' ∧ i = .int .i64 i' ∧ Ext w wr ∧ ∀ j, j < i' → ¬ BadCalls (ix [] css j))
  case atStart => exact ⟨0, Nat.zero_le _, rfl, rfl, Ext.refl _, fun i hi => absurd hi (by omega)⟩
  case round =>
    obtain ⟨i, hi, rfl, rfl, hE, hok⟩ := hrel
    by_cases hlt : i < css.length
    · obtain ⟨LA, LC, hl1, hl2⟩ := hl
      obtain ⟨b, off, rfl, hc⟩ := hl1 (by omega)
      have c0 := hE.cell (hc i (by omega))
      obtain ⟨hl3, hl4⟩ := hl2 i hlt
      clear hl1 hl2 hc
      go_wp2_with (go_at_call 25; refine (bad_any _ _ _ _ hl4 ?h1).mono ?_; (case h1 => exact hl3.ext hE); rintro e w1 ⟨rfl, hE2⟩)
      · have ht : B (BadCalls (ix [] css i)) = true := by assumption
        go_ret
        rw [B_iff] at ht
        exact ⟨i, rfl, ⟨fun _ => ⟨i, hlt, ht⟩, fun _ => by omega⟩, hE.trans hE2⟩
      · have ht : B (BadCalls (ix [] css i)) = false := by assumption
        rw [B_false] at ht
        go_roundg (css.length - (i + 1))
        case measure => go_light; omega
        case rel =>
          refine ⟨i + 1, by omega, rfl, by go_num, hE.trans hE2, fun j hj => ?_⟩
          by_cases e : j = i
          · subst e; exact ht
          · exact hok j (by omega)
    · obtain rfl : i = css.length := by omega
      clear hl
      go_wp2
      go_ret
      exact ⟨-1, rfl, ⟨fun h => absurd h (by omega), fun ⟨j, hj, h⟩ => absurd h (hok j hj)⟩, hE⟩

set_option maxHeartbeats 400000 in
theorem contCallss_any (css : List (List CallD)) (A : Option Addr) (cap : Nat) (w : World) (hn : css.length ≤ maxLen) (hl : CallssR w A css) :
    Calls Tryz.prog 29 #[.slice A css.length cap, .func (.func 25) #[] #[]] w fun e w' => e = .returned (.bool (B (∃ i, i < css.length ∧ BadCalls (ix [] css i)))) ∧ Ext w w' := by
  go_enter Tryz.func29, Tryz.ntmps29
  go_wp2_with (go_at_call 49; refine (idxCallss_any _ _ _ _ hn ?h1).mono ?_; (case h1 => exact hl); rintro e w1 ⟨r, rfl, hr, hE⟩)
  go_ret
  exact ⟨ret_B (by simp [hr]), hE⟩

/-- 26's Right, as a number: 0 OK, 1 ErrArg, 6 ErrForm. -/
noncomputable def rightC (p t : Int) (css : List (List CallD)) : Int :=
  if B (LayMay p t) then if B ((css.length : Int) ≠ t ∨ ∃ i, i < css.length ∧ BadCalls (ix [] css i)) then 6 else 0 else 1

set_option maxHeartbeats 1000000 in
theorem right_any (p t : Int) (D : Value) (css : List (List CallD)) (A : Option Addr) (cap : Nat) (w : World) (hn : css.length ≤ maxLen) (hl : CallssR w A css) (hD : ∃ A n c, D = .slice A n c) :
    Calls Tryz.prog 13 #[.agg #[.int .i64 p, .int .i64 t, D], .slice A css.length cap] w fun e w' => e = .returned (.int .i64 (rightC p t css)) ∧ Ext w w' := by
  obtain ⟨DA, Dn, Dc, rfl⟩ := hD
  have hn' : css.length ≤ 9223372036854775807 := hn
  by_cases h1 : LayMay p t
  · have hB := B_yes h1
    by_cases h2 : (css.length : Int) = t
    · subst h2
      have hR : rightC p css.length css = if B (∃ i, i < css.length ∧ BadCalls (ix [] css i)) then 6 else 0 := by
        unfold rightC; rw [if_pos hB]; simp
      have HR := Lib.hid hR
      clear hR h1
      go_enter Tryz.func13, Tryz.ntmps13
      go_wp2_with (first
        | (go_at_call 24; refine (layMay_any _ _ _).mono ?_; rintro e w1 ⟨rfl, hE1⟩; obtain ⟨bc1, bf1⟩ := hE1.bcell)
        | (go_at_call 29; refine (contCallss_any _ _ _ _ hn ?h1).mono ?_; (case h1 => exact hl.ext (((Ext.refl _).alloc _).trans hE1)); rintro e w2 ⟨rfl, hE2⟩))
      all_goals go_ret
      all_goals exact ⟨ret_int (by rw [HR.out]; simp [*]), ((Ext.refl _).alloc _).trans (hE1.trans hE2)⟩
    · have h2' : ((css.length : Int) == t) = false := by simp [h2]
      have h3' : ((css.length : Int) != t) = true := by simp [h2]
      have hR : rightC p t css = 6 := by
        unfold rightC; rw [if_pos hB, if_pos (B_yes (.inl h2))]
      have HR := Lib.hid hR
      clear hR h1 h2
      go_enter Tryz.func13, Tryz.ntmps13
      go_wp2_with (go_at_call 24; refine (layMay_any _ _ _).mono ?_; rintro e w1 ⟨rfl, hE1⟩; obtain ⟨bc1, bf1⟩ := hE1.bcell)
      all_goals go_ret
      all_goals exact ⟨ret_int (by rw [HR.out]), ((Ext.refl _).alloc _).trans hE1⟩
  · have hB := B_no h1
    have hR : rightC p t css = 1 := by
      unfold rightC; rw [if_neg (by simp [hB])]
    have HR := Lib.hid hR
    clear hR h1
    go_enter Tryz.func13, Tryz.ntmps13
    go_wp2_with (go_at_call 24; refine (layMay_any _ _ _).mono ?_; rintro e w1 ⟨rfl, hE1⟩)
    all_goals go_ret
    all_goals exact ⟨ret_int (by rw [HR.out]), ((Ext.refl _).alloc _).trans hE1⟩
end Go.Proofs.YtclnmihpelaalaaGreatDoor
