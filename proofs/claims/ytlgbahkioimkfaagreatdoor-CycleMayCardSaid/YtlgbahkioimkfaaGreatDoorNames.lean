/- slices.Clone of a row that came in. -/
import Derived.Test.YtlgbahkioimkfaaGreatDoorShelf6
import Derived.Test.YtlgbahkioimkfaaGreatDoorRefl20
import Derived.OpenShut
namespace Go.Proofs.YtlgbahkioimkfaaGreatDoor
open Go.RowKit Go.ChangeShapes Go.WideShapes
set_option linter.unusedVariables false
set_option linter.unusedSimpArgs false
/-- A slice of integers that came in: nil, or a row of cap cells. -/
def IsRow (k : IntKind) (w : World) (a : Option Addr) (len cap : Nat) (zs : List Int) : Prop :=
  (a = none ∧ len = 0 ∧ cap = 0 ∧ zs = []) ∨
  ∃ x, a = some x ∧ len ≤ cap ∧ cap ≤ maxLen ∧ zs.length = cap ∧ (∀ i, i < zs.length → w.cell? (x.add i) = some (.int k (zs.getD i 0))) ∧ ∀ n ∈ zs, (Lit.int k n).wf = true
theorem owns_one {w : World} {B : Nat} {e : TypeId} {v : Value} {n : Nat} {xs : List Value} (h : World.ownsRow w B e 1 v n xs) : OneC v := by
  obtain ⟨_, ⟨rfl, _⟩ | ⟨g, cap, cur, rfl, _⟩⟩ := h <;> trivial
theorem names_clone {W : World} {nb : Option Addr} {nn nc : Nat} {zs : List Int} (h : IsRow .i64 W nb nn nc zs) (hn : (nn : Int) ≤ 8) :
    ∀ w', Below W.heap.size W w' → Calls Tryz.prog 60 #[.slice nb nn nc] w' fun x w'' => ∃ v', x = .returned v' ∧ OneC v' ∧ Ext w' w'' := by
  intro w' hw'
  rcases h with ⟨rfl, rfl, rfl, rfl⟩ | ⟨x, rfl, hl, hm, hz, hcell, hwf⟩
  · exact (Tryz.slices_Clone_int_nil 0 0 w').mono fun e w'' ⟨h1, h2⟩ => ⟨_, h1, trivial, h2 ▸ Ext.refl _⟩
  · rcases Nat.eq_zero_or_pos nn with rfl | hp
    · exact (Tryz.slices_Clone_int_zero x nc w').mono fun e w'' ⟨v', h1, h2, _, h4⟩ => ⟨v', h1, owns_one h2, h4⟩
    · obtain ⟨b, off, rfl, hc⟩ := ints_at hcell (by omega)
      have hb : b < W.heap.size := World.block_lt_of_cell? W ⟨b, off + 0, none⟩ (hc 0 (by omega))
      refine (Tryz.slices_Clone_int b off nn nc zs w' (by omega) (by omega) fun j hj => ?_).mono fun e w'' ⟨v', h1, h2, _, h4⟩ => ⟨v', h1, owns_one h2, h4⟩
      rw [hw'.cell (p := ⟨b, off + j, none⟩) hb]
      exact hc j hj
end Go.Proofs.YtlgbahkioimkfaaGreatDoor
