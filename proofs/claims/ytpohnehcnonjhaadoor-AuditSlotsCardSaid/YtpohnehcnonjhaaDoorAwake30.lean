/- Walk: dustpanlaw30.awake. -/
import Derived.Test.YtpohnehcnonjhaaDoorParts
namespace Go.Proofs.YtpohnehcnonjhaaDoor
open Go.RowKit
set_option linter.unusedVariables false
set_option linter.unusedSimpArgs false

def exF : List RunD := [⟨0, 2⟩]
def exS : List SpanD := [⟨2, 1, 0, 0, 0, 0, 0⟩]
theorem ex_may : ∀ x ∈ pcs exF exS [], MayPc x := by
  intro x hx
  simp [pcs, exF, exS] at hx
  rcases hx with rfl | rfl <;> unfold MayPc <;> dsimp only <;> omega
theorem ex_cnt (p : Nat) : cntP (pcs exF exS []) p = if (p : Int) < 3 then 1 else 0 := by
  have h : ∀ (k a n : Int), (if covB ⟨k, a, n⟩ (p : Int) = true then 1 else 0) = if a ≤ (p : Int) ∧ (p : Int) < a + n then 1 else (0 : Nat) := fun k a n => cov_eq
  simp only [pcs, exF, exS, List.map_cons, List.map_nil, List.append_nil, List.cons_append, List.nil_append, cntP_cons, cntP_nil, h]
  split <;> split <;> split <;> omega
theorem ex_whole : WholeP 3 (pcs exF exS []) := whole_iff.2 ⟨by omega, by omega, ex_may, fun p _ => ex_cnt p⟩
theorem ex_not : ¬ WholeP 4 (pcs exF exS []) := fun h => by have := h.2.2.2; simp [sumP, pcs, exF, exS] at this
theorem ex_who : whoN (pcs exF exS []) 2 = 1 ∧ whoK (pcs exF exS []) 2 = 2 := by
  have h1 : hasB ⟨1, 0, 2⟩ 2 = false := B_no (fun h => by have := h.2; dsimp only at this; omega)
  have h2 : hasB ⟨2, 2, 1⟩ 2 = true := B_yes ⟨⟨by decide, by decide, by decide, by decide⟩, by decide, by decide⟩
  unfold whoN whoK
  simp [pcs, exF, exS, List.filter_cons, h1, h2]

theorem slR_lit (w : World) (cs : Array Value) (t : TypeId) (n sz : Nat) (F : Nat → Value) (h : ∀ j, j < n * sz → cs[j]? = some (F j)) : SlR (w.alloc (.cells cs t)) (some ⟨w.heap.size, 0, none⟩) n sz F :=
  fun _ => ⟨_, 0, rfl, fun j hj => by rw [Nat.zero_add]; exact cell_new w cs t j _ (h j hj)⟩
theorem exF_at (w : World) (t : TypeId) : RunsR (w.alloc (.cells #[.int .i64 0, .int .i64 2] t)) (some ⟨w.heap.size, 0, none⟩) exF :=
  slR_lit w _ t _ _ _ (fun j hj => by
    have h : j < 2 := hj
    rcases (by omega : j = 0 ∨ j = 1) with rfl | rfl <;> rfl)
theorem exS_at (w : World) (t : TypeId) : SpansR (w.alloc (.cells #[.int .i64 2, .int .i64 1, .int .i64 0, .int .i64 0, .int .i64 0, .int .u64 0, .int .u64 0] t)) (some ⟨w.heap.size, 0, none⟩) exS :=
  slR_lit w _ t _ _ _ (fun j hj => by
    have h : j < 7 := hj
    rcases (by omega : j = 0 ∨ j = 1 ∨ j = 2 ∨ j = 3 ∨ j = 4 ∨ j = 5 ∨ j = 6) with rfl | rfl | rfl | rfl | rfl | rfl | rfl <;> rfl)
theorem none_at (w : World) : HandsR w none [] := SlR.nil

set_option maxHeartbeats 2000000 in
set_option maxRecDepth 100000 in
theorem awake30_any (w : World) : Calls Tryd.prog 12 #[] w fun e w' => e = .returned (.bool true) ∧ Ext w w' := by
  have hF := (exF_at w 47).ext ((Ext.refl _).alloc (.cells #[.int .i64 2, .int .i64 1, .int .i64 0, .int .i64 0, .int .i64 0, .int .u64 0, .int .u64 0] 25))
  have hS := exS_at (w.alloc (.cells #[.int .i64 0, .int .i64 2] 47)) 25
  have hE : Ext w ((w.alloc (.cells #[.int .i64 0, .int .i64 2] 47)).alloc (.cells #[.int .i64 2, .int .i64 1, .int .i64 0, .int .i64 0, .int .i64 0, .int .u64 0, .int .u64 0] 25)) := ((Ext.refl _).alloc _).alloc _
  rw [World.size_alloc] at hS
  have HH := Lib.hid (And.intro hF (And.intro hS hE))
  clear hF hS hE
  have b1 : B (WholeP 3 (pcs exF exS [])) = true := B_yes ex_whole
  have b2 : B (WholeP 4 (pcs exF exS [])) = false := B_no ex_not
  have HB := Lib.hid (And.intro b1 b2)
  clear b1 b2
  have m1 : exF.length ≤ maxLen := by decide
  have m2 : exS.length ≤ maxLen := by decide
  have m3 : ([] : List HandD).length ≤ maxLen := by decide
  go_enter Tryd.func12, Tryd.ntmps12
  go_wp2_with fail
  generalize (w.alloc (.cells #[.int .i64 0, .int .i64 2] 47)).alloc (.cells #[.int .i64 2, .int .i64 1, .int .i64 0, .int .i64 0, .int .i64 0, .int .u64 0, .int .u64 0] 25) = W at HH ⊢
  refine (who_any exF exS [] _ _ none 1 1 0 2 W m1 m2 m3 (by decide) HH.out.1 HH.out.2.1 (none_at _)).mono ?_
  rintro e w1 ⟨rfl, hE1⟩
  rw [ex_who.1, ex_who.2]
  go_wp2_with fail
  refine (whole_any exF exS [] _ _ none 1 1 0 3 w1 m1 m2 m3 (SlR.ext HH.out.1 hE1) (SlR.ext HH.out.2.1 hE1) (none_at _)).mono ?_
  rintro e w2 ⟨rfl, hE2⟩
  rw [HB.out.1]
  go_wp2_with fail
  refine (whole_any exF exS [] _ _ none 1 1 0 4 w2 m1 m2 m3 (SlR.ext HH.out.1 (hE1.trans hE2)) (SlR.ext HH.out.2.1 (hE1.trans hE2)) (none_at _)).mono ?_
  rintro e w3 ⟨rfl, hE3⟩
  rw [HB.out.2]
  go_wp2_with fail
  go_ret
  exact ⟨rfl, HH.out.2.2.trans ((hE1.trans hE2).trans hE3)⟩
end Go.Proofs.YtpohnehcnonjhaaDoor
