/- Slices of the call's own, kept behind writes to others; lists that grow. -/
import Derived.Test.YtfppinabdalblaaGreatBlk
import Derived.Laws.OwnMore
namespace Go.Proofs.YtfppinabdalblaaGreat
open Go.RowKit
set_option linter.unusedVariables false
set_option linter.unusedSimpArgs false

theorem OwnS.grown {w w' : World} {base : Nat} {e : TypeId} {size : Nat} {v : Value} {n : Nat} {F : Nat → Value} {row : Option Nat} (h : OwnS w base e size v n F) (hg : w.grownBy w' row) (hne : v.ownBlock = none ∨ v.ownBlock ≠ row) : OwnS w' base e size v n F :=
  World.ownsRow.kept h hg hne

theorem own_types {w : World} {b1 b2 : Nat} {e1 e2 : TypeId} {s1 s2 : Nat} {v1 v2 : Value} {n1 n2 : Nat} {F1 F2 : Nat → Value} (h1 : OwnS w b1 e1 s1 v1 n1 F1) (h2 : OwnS w b2 e2 s2 v2 n2 F2) (he : e1 ≠ e2) : v1.ownBlock = none ∨ v1.ownBlock ≠ v2.ownBlock := by
  rcases h1.2 with ⟨rfl, rfl⟩ | ⟨g, cap, cur, rfl, hg, hh, r⟩
  · exact .inl rfl
  · refine .inr fun e => ?_
    rcases h2.2 with ⟨rfl, rfl⟩ | ⟨g', cap', cur', rfl, hg', hh', r'⟩
    · cases e
    · simp only [Value.ownBlock, Option.some.injEq] at e
      subst e
      rw [hh] at hh'
      simp at hh'
      exact he hh'.2

theorem OwnS.setOther {w : World} {base : Nat} {e : TypeId} {size : Nat} {v : Value} {n : Nat} {F : Nat → Value} (h : OwnS w base e size v n F) {p : Addr} (hp : v.ownBlock ≠ some p.block) (u : Value) : OwnS (w.setCell p u) base e size v n F := by
  refine ⟨h.1, ?_⟩
  rcases h.2 with h2 | ⟨g, cap, cur, rfl, hg, hh, r⟩
  · exact .inl h2
  · exact .inr ⟨g, cap, cur, rfl, hg, (Below.heap_setCell w p u g (fun e => hp (by simp [Value.ownBlock, e]))).trans hh, r⟩

theorem ix_app_lt {α : Type} (d : α) (xs : List α) (x : α) {i : Nat} (h : i < xs.length) : ix d (xs ++ [x]) i = ix d xs i := by
  rw [ix_lt (by simp; omega), ix_lt h, List.getElem_append_left h]
theorem ix_app_end {α : Type} (d : α) (xs : List α) (x : α) : ix d (xs ++ [x]) xs.length = x := by
  rw [ix_lt (by simp)]; simp

end Go.Proofs.YtfppinabdalblaaGreat
