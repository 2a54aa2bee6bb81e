/- CRows of calls that are put together: each its own slice. -/
import Derived.Test.YtmpiodlkhjjbfaaBlk
import Derived.Test.YtmpiodlkhjjbfaaScript2
import Derived.Laws.OwnMore
namespace Go.Proofs.Ytmpiodlkhjjbfaa
open Go.RowKit
set_option linter.unusedVariables false
set_option linter.unusedSimpArgs false

theorem OwnS.grown {w w' : World} {base : Nat} {e : TypeId} {size : Nat} {v : Value} {n : Nat} {F : Nat → Value} {row : Option Nat} (h : OwnS w base e size v n F) (hg : w.grownBy w' row) (hne : v.ownBlock = none ∨ v.ownBlock ≠ row) : OwnS w' base e size v n F :=
  World.ownsRow.kept h hg hne

theorem own_types {w : World} {b1 b2 : Nat} {e1 e2 : TypeId} {s1 s2 : Nat} {v1 v2 : Value} {n1 n2 : Nat} {F1 F2 : Nat → Value} (h1 : OwnS w b1 e1 s1 v1 n1 F1) (h2 : OwnS w b2 e2 s2 v2 n2 F2) (he : e1 ≠ e2) : v1.ownBlock = none ∨ v1.ownBlock ≠ v2.ownBlock := by
  rcases h1.2 with ⟨rfl, rfl⟩ | ⟨g, cap, cur, rfl, hg, hh, r⟩
  · exact .inl rfl
  · refine .inr fun e => ?_
    rcases h2.2 with ⟨rfl, rfl⟩ | ⟨g', cap', cur', rfl, hg', hh', r'⟩
    · cases e
    · simp only [Value.ownBlock, Option.some.injEq] at e
      subst e
      rw [hh] at hh'
      simp at hh'
      exact he hh'.2

theorem OwnS.setOther {w : World} {base : Nat} {e : TypeId} {size : Nat} {v : Value} {n : Nat} {F : Nat → Value} (h : OwnS w base e size v n F) {p : Addr} (hp : v.ownBlock ≠ some p.block) (u : Value) : OwnS (w.setCell p u) base e size v n F := by
  refine ⟨h.1, ?_⟩
  rcases h.2 with h2 | ⟨g, cap, cur, rfl, hg, hh, r⟩
  · exact .inl h2
  · exact .inr ⟨g, cap, cur, rfl, hg, (Below.heap_setCell w p u g (fun e => hp (by simp [Value.ownBlock, e]))).trans hh, r⟩

/-- A slice of names of the call's own. -/
def NameS (w : World) (base : Nat) (A : Option Addr) (c : Nat) (l : List Int) : Prop := OwnS w base 3 1 (.slice A l.length c) l.length (fun j => .int .i64 (ix 0 l j))

/-- A slice of calls of the call's own, that may be. -/
def Stash (w : World) (base : Nat) (v : Value) (cs : List CallD) : Prop :=
  ∃ (LA : Nat → Option Addr) (LC : Nat → Nat), OwnS w base 76 3 v cs.length (callv cs LA LC) ∧ ∀ i, i < cs.length → NameS w base (LA i) (LC i) (ix noCall cs i).l ∧ MayOk (ix noCall cs i)

theorem Stash.nil (w : World) (base : Nat) : Stash w base (.slice none 0 0) [] := ⟨fun _ => none, fun _ => 0, OwnS.nil _ _ _ _ _, fun i hi => absurd hi (by simp)⟩
theorem Stash.ext {w w' : World} {base : Nat} {v : Value} {cs : List CallD} (h : Stash w base v cs) (hE : Ext w w') : Stash w' base v cs := by
  obtain ⟨LA, LC, h1, h2⟩ := h
  exact ⟨LA, LC, h1.ext hE, fun i hi => ⟨(h2 i hi).1.ext hE, (h2 i hi).2⟩⟩
theorem Stash.far {w : World} {base : Nat} {v : Value} {cs : List CallD} (h : Stash w base v cs) {p : Addr} (hp : p.block < base) (u : Value) : Stash (w.setCell p u) base v cs := by
  obtain ⟨LA, LC, h1, h2⟩ := h
  exact ⟨LA, LC, h1.far hp u, fun i hi => ⟨(h2 i hi).1.far hp u, (h2 i hi).2⟩⟩
theorem Stash.grown {w w' : World} {base b2 s2 n2 : Nat} {v v2 : Value} {F2 : Nat → Value} {cs : List CallD} (h : Stash w base v cs) (h2 : OwnS w b2 76 s2 v2 n2 F2) (hg : w.grownBy w' v2.ownBlock) (hne : v.ownBlock = none ∨ v.ownBlock ≠ v2.ownBlock) : Stash w' base v cs := by
  obtain ⟨LA, LC, h1, h3⟩ := h
  exact ⟨LA, LC, h1.grown hg hne, fun i hi => ⟨OwnS.grown (h3 i hi).1 hg (own_types (h3 i hi).1 h2 (by decide)), (h3 i hi).2⟩⟩
theorem Stash.lt {w : World} {base : Nat} {v : Value} {cs : List CallD} (h : Stash w base v cs) {k : Nat} (hk : v.ownBlock = some k) : base ≤ k ∧ k < w.heap.size := by
  obtain ⟨LA, LC, h1, h2⟩ := h
  exact World.ownsRow.lt h1 k hk
theorem Stash.form {w : World} {base : Nat} {v : Value} {cs : List CallD} (h : Stash w base v cs) : ∃ A c, v = .slice A cs.length c := by
  obtain ⟨LA, LC, h1, h2⟩ := h
  obtain ⟨A, c, hv, _⟩ := h1.form
  exact ⟨A, c, hv⟩
theorem Stash.calls {w : World} {base : Nat} {A : Option Addr} {n c : Nat} {cs : List CallD} (h : Stash w base (.slice A n c) cs) : CallsR w A cs := by
  obtain ⟨LA, LC, h1, h2⟩ := h
  refine ⟨LA, LC, ?_, fun i hi => ?_⟩
  · obtain ⟨A', c', hv, _, hs⟩ := h1.form
    cases hv
    exact hs
  · have h3 := (h2 i hi).1
    unfold NameS at h3
    obtain ⟨A', c', hv, hc, hs⟩ := h3.form
    cases hv
    refine ⟨hs, ?_⟩
    rcases h3.2 with ⟨_, h0⟩ | ⟨g, cap, cur, _, _, _, hn, hm, _⟩
    · omega
    · omega

theorem ix_app_lt {α : Type} (d : α) (xs : List α) (x : α) {i : Nat} (h : i < xs.length) : ix d (xs ++ [x]) i = ix d xs i := by
  rw [ix_lt (by simp; omega), ix_lt h, List.getElem_append_left h]
theorem ix_app_end {α : Type} (d : α) (xs : List α) (x : α) : ix d (xs ++ [x]) xs.length = x := by
  rw [ix_lt (by simp)]; simp

/-- One call more. -/
theorem Stash.pushed {w w' : World} {base : Nat} {v v' : Value} {cs : List CallD} {c : CallD} {A : Option Addr} {lc : Nat} {F : Nat → Value} {b2 s2 n2 : Nat} {F2 : Nat → Value} (h : Stash w base v cs) (hL : NameS w base A lc c.l) (hc : MayOk c)
    (ho : OwnS w b2 76 s2 v n2 F2) (hg : w.grownBy w' v.ownBlock) (LA : Nat → Option Addr) (LC : Nat → Nat) (hLA : ∀ i, i < cs.length → NameS w base (LA i) (LC i) (ix noCall cs i).l ∧ MayOk (ix noCall cs i))
    (hO : OwnS w' base 76 3 v' (cs.length + 1) (fun j => if j < cs.length * 3 then callv cs LA LC j else if j = cs.length * 3 then .int .i64 c.kind else if j = cs.length * 3 + 1 then .int .i64 c.a else .slice A c.l.length lc)) :
    Stash w' base v' (cs ++ [c]) := by
  refine ⟨fun i => if i < cs.length then LA i else A, fun i => if i < cs.length then LC i else lc, ?_, fun i hi => ?_⟩
  · rw [List.length_append]
    refine hO.congr fun j hj => ?_
    by_cases h1 : j < cs.length * 3
    · rw [if_pos h1]
      have h2 : j / 3 < cs.length := by omega
      unfold callv
      dsimp only
      rw [ix_app_lt noCall cs c h2, if_pos h2, if_pos h2]
    · rw [if_neg h1]
      have h2 : j / 3 = cs.length := by omega
      unfold callv
      dsimp only
      rw [h2, ix_app_end, if_neg (Nat.lt_irrefl _), if_neg (Nat.lt_irrefl _)]
      by_cases e0 : j = cs.length * 3
      · rw [if_pos e0, if_pos (by omega)]
      · rw [if_neg e0]
        by_cases e1 : j = cs.length * 3 + 1
        · rw [if_pos e1, if_neg (by omega), if_pos (by omega)]
        · rw [if_neg e1, if_neg (by omega), if_neg (by omega)]
  · have hK : ∀ {A : Option Addr} {lc : Nat} {l : List Int}, NameS w base A lc l → NameS w' base A lc l := fun hn => OwnS.grown hn hg (own_types hn ho (by decide))
    by_cases h2 : i < cs.length
    · rw [ix_app_lt noCall cs c h2]; dsimp only; rw [if_pos h2, if_pos h2]
      exact ⟨hK (hLA i h2).1, (hLA i h2).2⟩
    · have h3 : i = cs.length := by rw [List.length_append] at hi; simp at hi; omega
      subst h3
      rw [ix_app_end]; dsimp only; rw [if_neg h2, if_neg h2]
      exact ⟨hK hL, hc⟩

/-- T rows, in block g. -/
def CRows (w : World) (g T : Nat) (V : Nat → Value) (R : Nat → List CallD) : Prop :=
  OwnS w g 77 1 (.slice (some ⟨g, 0, none⟩) T T) T V ∧ (∀ u, u < T → Stash w (g + 1) (V u) (R u)) ∧ ∀ u u', u < T → u' < T → u ≠ u' → (V u).ownBlock = none ∨ (V u).ownBlock ≠ (V u').ownBlock

theorem CRows.ext {w w' : World} {g T : Nat} {V : Nat → Value} {R : Nat → List CallD} (h : CRows w g T V R) (hE : Ext w w') : CRows w' g T V R :=
  ⟨h.1.ext hE, fun u hu => (h.2.1 u hu).ext hE, h.2.2⟩

theorem CRows.put {w w' : World} {g T u : Nat} {V : Nat → Value} {R : Nat → List CallD} {v' : Value} {cs : List CallD} (h : CRows w g T V R) (hu : u < T) (hg : w.grownBy w' (V u).ownBlock) (hS : Stash w' (g + 1) v' cs) (hor : v'.ownBlock = (V u).ownBlock ∨ v'.ownBlock = some w.heap.size) :
    CRows (w'.setCell ⟨g, u, none⟩ v') g T (fun k => if k = u then v' else V k) (fun k => if k = u then cs else R k) := by
  obtain ⟨LA, LC, hU, _⟩ := h.2.1 u hu
  have hne : some g ≠ (V u).ownBlock := own_ne hU (by omega)
  have h1 : OwnS w' g 77 1 (.slice (some ⟨g, 0, none⟩) T T) T V := h.1.grown hg (.inr (by simpa [Value.ownBlock] using hne))
  refine ⟨h1.set u v', fun k hk => ?_, fun k k' hk hk' hkk => ?_⟩
  · dsimp only
    by_cases e : k = u
    · rw [if_pos e, if_pos e]
      exact hS.far (by simp) _
    · rw [if_neg e, if_neg e]
      exact ((h.2.1 k hk).grown hU hg (h.2.2 k u hk hu e)).far (by simp) _
  · have hlt : ∀ {k b}, k < T → (V k).ownBlock = some b → b < w.heap.size := fun hk hb => ((h.2.1 _ hk).lt hb).2
    by_cases e : k = u
    · subst e
      dsimp only
      rw [if_pos rfl, if_neg (fun e => hkk e.symm)]
      rcases hor with h2 | h2
      · rw [h2]; exact h.2.2 k k' hk hk' hkk
      · rw [h2]; exact .inr fun e2 => by have := hlt hk' e2.symm; omega
    · dsimp only
      rw [if_neg e]
      by_cases e' : k' = u
      · subst e'
        rw [if_pos rfl]
        rcases hor with h2 | h2
        · rw [h2]; exact h.2.2 k k' hk hk' hkk
        · rw [h2]; exact .inr fun e2 => by have := hlt hk e2; omega
      · rw [if_neg e']
        exact h.2.2 k k' hk hk' hkk

theorem CRows.made {w w' : World} {T : Nat} (hT : T ≤ maxLen) (g : Nat) (hg : w.heap.size = g) : CRows (w.alloc (.cells (madeCells #[.slice none 0 0] T) 77)) g T (fun _ => .slice none 0 0) (fun _ => []) := by
  subst hg
  refine ⟨⟨by simp, .inr ⟨w.heap.size, T, _, rfl, Nat.le_refl _, Deep.blk_alloc_new w _, Nat.le_refl _, hT, ?_, ?_⟩⟩, fun u hu => Stash.nil _ _, fun u u' hu hu' hne => .inl rfl⟩
  · rw [size_madeCells]; omega
  · rw [toList_madeCells_one, Nat.mul_one, List.take_of_length_le (by simp)]; apply List.ext_getElem? ; intro k; by_cases hk : k < T <;> simp [hk]

theorem CRows.callss {w : World} {g T : Nat} {V : Nat → Value} {R : Nat → List CallD} (h : CRows w g T V R) (hm : ∀ u, u < T → (R u).length ≤ maxLen) : CallssR w (some ⟨g, 0, none⟩) ((List.range T).map R) := by
  have hx : ∀ u, u < T → ix [] ((List.range T).map R) u = R u := fun u hu => by rw [ix_lt (by simpa using hu)]; simp
  refine ⟨fun u => match V u with | .slice A _ _ => A | _ => none, fun u => match V u with | .slice _ _ c => c | _ => 0, ?_, fun i hi => ?_⟩
  · intro hT
    refine ⟨g, 0, rfl, fun j hj => ?_⟩
    rw [List.length_map, List.length_range, Nat.mul_one] at hj
    rw [Nat.zero_add, h.1.cellAt (by omega)]
    dsimp only
    rw [hx j hj]
    obtain ⟨A, c, hv⟩ := (h.2.1 j hj).form
    rw [hv]
  · rw [List.length_map, List.length_range] at hi
    rw [hx i hi]
    obtain ⟨A, c, hv⟩ := (h.2.1 i hi).form
    have h2 := h.2.1 i hi
    rw [hv] at h2
    dsimp only
    rw [hv]
    exact ⟨h2.calls, hm i hi⟩
end Go.Proofs.Ytmpiodlkhjjbfaa
