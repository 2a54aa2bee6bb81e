/- Walks: fair.Steps, many, Total, Bound, Free, Turns. -/
import Derived.Test.YtmpiodlkhjjbfaaRows
import Derived.Test.YtmpiodlkhjjbfaaBase
import Derived.Test.YtmpiodlkhjjbfaaScript2
import Derived.Test.YtmpiodlkhjjbfaaFair1
import Derived.Deep.RegionWith
import Derived.BigRegion
import Derived.BigQuiet
import Derived.Deep.QuietTactic
namespace Go.Proofs.Ytmpiodlkhjjbfaa
open Go.RowKit
set_option linter.unusedVariables false
set_option linter.unusedSimpArgs false

theorem Try.infoCalls : (Try.prog.info? 77).map (fun i => (i.zero, i.size, i.bytes)) = some (some (.slice none 0 0), 1, 24) := by kernel_rfl

theorem ix_rep {α : Type} (d : α) (n i : Nat) : ix d (List.replicate n d) i = d := by
  unfold ix
  rw [List.getD_eq_getElem?_getD, List.getElem?_replicate]
  split <;> rfl

/-- make([][]api.Call, n): n slices of no calls. -/
theorem calls_made (w : World) (n H : Nat) (hH : w.heap.size = H) : CallssR (w.alloc (.cells (madeCells #[.slice none 0 0] n) 77)) (some ⟨H, 0, none⟩) (List.replicate n []) := by
  subst hH
  have hr := World.rowIs_made w (.slice none 0 0) n 77
  refine ⟨fun _ => none, fun _ => 0, fun _ => ⟨_, _, rfl, fun j hj => ?_⟩, fun i hi => ?_⟩
  · rw [List.length_replicate] at hj
    rw [Nat.zero_add, hr.cell (by omega)]
    dsimp only
    rw [ix_rep]
    rfl
  · rw [ix_rep]
    exact ⟨⟨fun _ => none, fun _ => 0, SlR.nil, fun i hi => absurd hi (by simp)⟩, by simp [maxLen]⟩

theorem right_made (p : Int) (n : Nat) : rightC p n (List.replicate n []) = if B (LayMay p n) then 0 else 1 := by
  have e : ¬ (((List.replicate n ([] : List CallD)).length : Int) ≠ n ∨ ∃ i, i < (List.replicate n ([] : List CallD)).length ∧ BadCalls (ix [] (List.replicate n []) i)) := by
    rintro (h | ⟨i, hi, h⟩)
    · simp at h
    · rw [ix_rep] at h
      unfold BadCalls at h
      simp at h
  unfold rightC
  rw [B_no e]
  simp

theorem right_len (p t : Int) (D : Value) (css : List (List CallD)) (n : Nat) (h : css.length = n) (A : Option Addr) (cap : Nat) (w : World) (hn : n ≤ maxLen) (hl : CallssR w A css) (hD : ∃ A n c, D = .slice A n c) :
    Calls Try.prog 34 #[.agg #[.int .i64 p, .int .i64 t, D], .slice A n cap] w fun e w' => e = .returned (.int .i64 (rightC p t css)) ∧ Ext w w' := by
  subst h; exact right_any p t D css A cap w hn hl hD

noncomputable def stepsC (p t : Int) : Int := if B (LayMay p t) then 4 * p + 14 * t + 200 else 0

theorem right_steps (p : Int) (DA : Option Addr) (Dn Dc n : Nat) (A : Option Addr) (cap : Nat) (w : World) (z : Int) (hz : (if B (LayMay p n) then 0 else 1) = z) (hn : n ≤ maxLen) (hl : CallssR w A (List.replicate n [])) :
    Calls Try.prog 34 #[.agg #[.int .i64 p, .int .i64 n, .slice DA Dn Dc], .slice A n cap] w fun e w' => e = .returned (.int .i64 z) ∧ Ext w w' := by
  subst hz; rw [← right_made]; exact right_len p n _ _ n (List.length_replicate ..) A cap w hn hl ⟨_, _, _, rfl⟩

set_option maxHeartbeats 1000000 in
theorem steps_any (p t : Int) (D : Value) (w : World) (hD : ∃ A n c, D = .slice A n c) :
    Calls Try.prog 20 #[.agg #[.int .i64 p, .int .i64 t, D]] w fun e w' => e = .returned (.int .i64 (stepsC p t)) ∧ Ext w w' := by
  obtain ⟨DA, Dn, Dc, rfl⟩ := hD
  by_cases h1 : 1 ≤ t ∧ t ≤ 64
  · obtain ⟨h1, h2⟩ := h1
    obtain ⟨n, rfl⟩ := Int.eq_ofNat_of_zero_le (show 0 ≤ t by omega)
    have hmk := run_make_row' (P := Try.prog) 49 77 (.slice none 0 0) 24 Try.underlying49 Try.infoCalls rfl .i64 .i64 n (by omega) (by omega)
    have d1 : decide ((n : Int) < 1) = false := by simp; omega
    have d2 : decide ((64 : Int) < n) = false := by simp; omega
    by_cases hL : LayMay p n
    · have hz : (if B (LayMay p n) then (0 : Int) else 1) = 0 := if_pos (B_yes hL)
      have hs : stepsC p n = 4 * p + 14 * n + 200 := if_pos (B_yes hL)
      have HS := Lib.hid hs
      have HZ := Lib.hid hz
      have hL2 := hL.1
      have hL3 := hL.2.1
      clear hs hz hL
      go_enter Try.func20, Try.ntmps20
      go_wp2_with fail
      go_region_with (go_at_call 34; refine (right_steps p DA Dn Dc n _ n _ 0 HZ.out ?h1 ?h2).mono ?_; (case h1 => unfold maxLen; omega); (case h2 => exact (calls_made _ n _ (by simp)).ext (Ext.refl _).drew); rintro e w1 ⟨rfl, hE⟩; obtain ⟨bc1, bf1⟩ := hE.bcell)
      all_goals go_wp2
      all_goals go_ret
      all_goals exact ⟨ret_int (by rw [HS.out]), (((Ext.refl _).alloc _).alloc _).drew.trans hE⟩
    · have hz : (if B (LayMay p n) then (0 : Int) else 1) = 1 := if_neg (by simp [B_no hL])
      have hs : stepsC p n = 0 := if_neg (by simp [B_no hL])
      have HS := Lib.hid hs
      have HZ := Lib.hid hz
      clear hs hz hL
      go_enter Try.func20, Try.ntmps20
      go_wp2_with fail
      go_region_with (go_at_call 34; refine (right_steps p DA Dn Dc n _ n _ 1 HZ.out ?h1 ?h2).mono ?_; (case h1 => unfold maxLen; omega); (case h2 => exact (calls_made _ n _ (by simp)).ext (Ext.refl _).drew); rintro e w1 ⟨rfl, hE⟩; obtain ⟨bc1, bf1⟩ := hE.bcell)
      all_goals go_wp2
      all_goals go_ret
      all_goals exact ⟨ret_int (by rw [HS.out]), (((Ext.refl _).alloc _).alloc _).drew.trans hE⟩
  · have hs : stepsC p t = 0 := if_neg (by rw [B_iff]; unfold LayMay; omega)
    have HS := Lib.hid hs
    clear hs
    by_cases h2 : t < 1
    · have d1 : decide (t < 1) = true := by simpa using h2
      clear h1
      go_enter Try.func20, Try.ntmps20
      go_wp2_with fail
      go_region
      all_goals go_wp2
      all_goals go_ret
      all_goals exact ⟨ret_int (by rw [HS.out]), ((Ext.refl _).alloc _).drew⟩
    · have d1 : decide (t < 1) = false := by simpa using h2
      have d2 : decide (64 < t) = true := by simp; omega
      clear h1
      go_enter Try.func20, Try.ntmps20
      go_wp2_with fail
      go_region
      all_goals go_wp2
      all_goals go_ret
      all_goals exact ⟨ret_int (by rw [HS.out]), ((Ext.refl _).alloc _).drew⟩

/-- One pick, in memory of its own. -/
theorem one_pick (w : World) (H : Nat) (hH : w.heap.size = H) (th : Int) (l : Nat) (t : TypeId) : SlR (w.alloc (.cells #[.int .i64 th, .int .u64 l] t)) (some ⟨H, 0, none⟩) 1 2 (pkv (fun _ => th) (fun _ => l)) := by
  subst hH
  intro _
  refine ⟨_, _, rfl, fun j hj => ?_⟩
  have hj' : j = 0 ∨ j = 1 := by omega
  rcases hj' with rfl | rfl
  · exact cell_new _ _ _ 0 _ rfl
  · exact cell_new _ _ _ 1 _ rfl
theorem fair_01 : FairOk (fun _ => 0) (fun _ => 1) 1 1 := by
  refine ⟨by omega, fun i hi t ht => ?_⟩
  have : i = 0 := by omega
  subst this
  simp only [cnt]
  by_cases e : t = 0
  · subst e; simp
  · have : Nat.testBit 1 t = false := by
      rw [Nat.testBit_eq_decide_div_mod_eq, Nat.div_eq_of_lt (Nat.one_lt_two_pow e)]; rfl
    simp [this]
theorem fair_11 : ¬ FairOk (fun _ => 1) (fun _ => 1) 1 1 := by
  intro h
  have := h.2 0 (by omega) 0 (by omega)
  simp [cnt] at this

theorem fair_b (A : Option Addr) (n c : Nat) (f : Nat → Int) (g : Nat → Nat) (k : Int) (w : World) (z : Bool) (hz : B (FairOk f g n k) = z) (hn : n ≤ 1000000) (hl : SlR w A n 2 (pkv f g)) (hg : ∀ i, g i < 2 ^ 64) (hk2 : k ≤ 9223372036854775807) :
    Calls Try.prog 14 #[.slice A n c, .int .i64 k] w fun e w' => e = .returned (.bool z) ∧ Ext w w' := by
  subst hz; exact fair_any A n c f g k w hn hl hg hk2

end Go.Proofs.Ytmpiodlkhjjbfaa
