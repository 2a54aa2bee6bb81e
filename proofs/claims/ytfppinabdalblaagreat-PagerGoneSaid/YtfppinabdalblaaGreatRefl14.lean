/- Reflection, 14: from a look at the evaluation to a contract. No program is named here. -/
import Derived.Test.YtfppinabdalblaaGreatRefl13
namespace Go.Proofs.YtfppinabdalblaaGreat
open Go.RowKit
set_option linter.unusedVariables false
set_option linter.unusedSimpArgs false

/-- A call's value is this one: true, false, no pointer. -/
def isTrue (r : Option (Value × World)) : Bool := match r with
  | some (.bool true, _) => true
  | _ => false
def isFalse (r : Option (Value × World)) : Bool := match r with
  | some (.bool false, _) => true
  | _ => false
def isNil (r : Option (Value × World)) : Bool := match r with
  | some (.pointer none, _) => true
  | _ => false
theorem isTrue_eq {r : Option (Value × World)} (h : isTrue r = true) : r.map (·.1) = some (.bool true) := by
  unfold isTrue at h
  split at h
  · rfl
  · cases h
theorem isFalse_eq {r : Option (Value × World)} (h : isFalse r = true) : r.map (·.1) = some (.bool false) := by
  unfold isFalse at h
  split at h
  · rfl
  · cases h
theorem isNil_eq {r : Option (Value × World)} (h : isNil r = true) : r.map (·.1) = some (.pointer none) := by
  unfold isNil at h
  split at h
  · rfl
  · cases h
section
variable {P : Program} {σ : Nat → Value} {O : Orc} {G : Nat}
theorem TabR.keep {w w' : World} {tabs : List (Nat × Array Value)} (h : TabR w tabs) (hE : Below w.heap.size w w') : TabR w' tabs := by
  intro p hp
  obtain ⟨h1, cs, e, fz, h2, h3⟩ := h p hp
  refine ⟨h1, cs, e, fz, ?_, h3⟩
  rw [hE.block p.1 (Array.getElem?_eq_some_iff.1 h2).1]
  exact h2
/-- A closed call, no argument. -/
theorem ev_true {w : World} {tabs : List (Nat × Array Value)} (hG : G ≤ w.heap.size) (hT : TabR w tabs) {n : Nat} {f : FuncId}
    (h : isTrue (evCall (ev P Orc.none G n) P Orc.none [] f #[] (baseWorld G tabs)) = true) : Calls P f #[] w fun e w' => e = .returned (.bool true) ∧ Ext w w' := by
  refine (ev_calls (σ := fun _ => .bool true) (fun _ => trivial) (OrcOK.none _ _ _ _) hG hT (isTrue_eq h) RAr.nil).mono ?_
  rintro e w' ⟨v', B, rfl, hv, hE⟩
  cases hv
  exact ⟨rfl, hE⟩
/-- A call with what is known ahead. -/
theorem ev_val (hσ : ∀ j, OneC (σ j)) {w : World} (hO : OrcOK P σ w w.heap.size O) {tabs : List (Nat × Array Value)} (hG : G ≤ w.heap.size) (hT : TabR w tabs) {n : Nat} {f : FuncId} {args : Array Value} {v : Value}
    (hc : closedN 8 v = true) (ha : args.toList.all (tokC 4) = true) (h : (evCall (ev P O G n) P O [] f args (baseWorld G tabs)).map (·.1) = some v) :
    Calls P f (args.toList.map (tokV σ 4)).toArray w fun e w' => e = .returned v ∧ Ext w w' := by
  have hrel : RAr σ ⟨id, (· < G), fun _ => False, fun _ _ _ => False⟩ args (args.toList.map (tokV σ 4)).toArray := by
    refine ⟨by simp, fun i u u' h1 h2 => ?_⟩
    have h3 : u' = tokV σ 4 u := by
      rw [List.getElem?_toArray, List.getElem?_map] at h2
      rw [← Array.getElem?_toList] at h1
      rw [h1] at h2
      simpa using h2.symm
    subst h3
    exact tok_rv (all_get ha h1)
  refine (ev_calls hσ hO hG hT h hrel).mono ?_
  rintro e w' ⟨v', B, rfl, hv, hE⟩
  rw [closed_eq hc hv]
  exact ⟨rfl, hE⟩
end
end Go.Proofs.YtfppinabdalblaaGreat
