/- slices.Clone of a row of at most 4 heads. -/
import Derived.Test.YthggcmhmjkmjnaaGreatShelfC
import Derived.Test.YthggcmhmjkmjnaaGreatMpD
namespace Go.Proofs.YthggcmhmjkmjnaaGreat
open Go.RowKit
set_option linter.unusedVariables false
theorem own_one {w : World} {base : Nat} {e : TypeId} {size : Nat} {v : Value} {n : Nat} {l : List Value} (h : w.ownsRow base e size v n l) : OneC v := by
  rcases h.2 with ⟨rfl, _⟩ | ⟨g, cap, cur, rfl, _⟩ <;> trivial
theorem clone17_any (nb : Option Addr) (nn nc : Nat) (z : Nat → Int) (w : World) (hH : HR w nb nn z) (hn : nn ≤ 4) : Calls Tryz.prog 36 #[.slice nb nn nc] w fun e w' => ∃ v', e = .returned v' ∧ OneC v' ∧ Ext w w' := by
  cases nb with
  | none =>
    refine (Tryz.slices_Clone_int_nil nn nc w).mono ?_
    rintro e w' ⟨rfl, rfl⟩
    exact ⟨_, rfl, trivial, Ext.refl _⟩
  | some a =>
    rcases hH with rfl | ⟨b, off, hb, hl, hz⟩
    · refine (Tryz.slices_Clone_int_zero a nc w).mono ?_
      rintro e w' ⟨v', rfl, h1, _, h2⟩
      exact ⟨v', rfl, own_one h1, h2⟩
    · obtain rfl := Option.some.inj hb
      refine (Tryz.slices_Clone_int b off nn nc ((List.range nn).map z) w (by simp) (by omega) (fun j hj => ?_)).mono ?_
      · simp only [List.length_map, List.length_range] at hj
        rw [hz j hj, List.getD_eq_getElem?_getD, List.getElem?_map, List.getElem?_range hj]
        rfl
      · rintro e w' ⟨v', rfl, h1, _, h2⟩
        exact ⟨v', rfl, own_one h1, h2⟩
end Go.Proofs.YthggcmhmjkmjnaaGreat
