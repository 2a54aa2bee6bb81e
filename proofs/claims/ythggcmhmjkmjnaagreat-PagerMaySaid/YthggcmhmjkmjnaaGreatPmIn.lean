/- PagerMay: what comes in. -/
import Derived.Test.YthggcmhmjkmjnaaGreatMpL
import Derived.OpenShut
import Derived.Lay
import Derived.Below
import Derived.Lib.SmallJoins
namespace Go.Proofs.YthggcmhmjkmjnaaGreat
open Go.ChangeShapes Go.WideShapes Go.ChangeAt Go.RowKit
set_option linter.unusedVariables false
set_option maxRecDepth 100000
theorem in_layout {H : Type} {enc : TypeId × Value → H} {W : World} {b0 : Nat} {v : Value} {d : DataW H} {p : List MemPlace} (hv : Value.okWide Tryz.prog W .any b0 37 v) (h : DataW.Trod enc Tryz.prog W 0 (fun _ => true) true 37 v d p) :
    ∃ a b : Int, v = .agg #[.int .i64 a, .int .i64 b] := by
  obtain ⟨v0, v1, y0, y1, n, rfl, _, _, h0, h1⟩ := Go.Joins.open_agg2 Tryz.underlying37 (by kernel_rfl) (by kernel_rfl) hv h
  obtain ⟨k0, e0, _⟩ := DataW.trod_int Tryz.underlying3 h0
  obtain ⟨k1, e1, _⟩ := DataW.trod_int Tryz.underlying3 h1
  injection e0 with e0
  injection e1 with e1
  subst e0 e1
  exact ⟨k0, k1, rfl⟩
theorem in_ints {H : Type} {enc : TypeId × Value → H} {W : World} {b0 : Nat} {v : Value} {d : DataW H} {p : List MemPlace} (hv : Value.okWide Tryz.prog W .any b0 30 v) (h : DataW.Trod enc Tryz.prog W 0 (fun _ => true) true 30 v d p) :
    ∃ (nb : Option Addr) (nn nc : Nat) (z : Nat → Int), v = .slice nb nn nc ∧ HR W nb nn z := by
  obtain ⟨nb, nn, nc, rfl⟩ := okWide_slice Tryz.underlying30 hv
  obtain ⟨fuel, hf⟩ := h
  rcases open_ints Tryz.underlying30 Tryz.underlying3 (by kernel_rfl) hf with ⟨hcs, _⟩ | ⟨x, l, c, zs, hcs, _, hl, hm, hz, _, hcell, hwz⟩
  · simp [Value.cells] at hcs
    obtain ⟨rfl, rfl, rfl⟩ := hcs
    exact ⟨_, _, _, fun _ => 0, rfl, .inl rfl⟩
  · simp [Value.cells] at hcs
    obtain ⟨rfl, rfl, rfl⟩ := hcs
    refine ⟨_, _, _, fun i => zs.getD i 0, rfl, ?_⟩
    rcases Nat.eq_zero_or_pos nn with rfl | hp
    · exact .inl rfl
    · obtain ⟨b, off, rfl, hc⟩ := ints_at hcell (by simp at hz; omega)
      exact .inr ⟨b, off, rfl, World.block_lt_of_cell? W ⟨b, off + 0, none⟩ (hc 0 (by simp at hz; omega)), fun i hi => hc i (by simp at hz; omega)⟩
end Go.Proofs.YthggcmhmjkmjnaaGreat
