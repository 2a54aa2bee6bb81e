/- Reflection, 16: what is known ahead, put together. No program is named here. -/
import Derived.Test.YtfppinabdalblaaGreatRefl15
namespace Go.Proofs.YtfppinabdalblaaGreat
open Go.RowKit
set_option linter.unusedVariables false
set_option linter.unusedSimpArgs false

/-- Numbers that are not looked into. -/
def sgI (l : List (IntKind × Int)) (j : Nat) : Value := match l[j]? with
  | some p => .int p.1 p.2
  | none => .bool true
theorem sgI_one (l : List (IntKind × Int)) (j : Nat) : OneC (sgI l j) := by unfold sgI; split <;> trivial
theorem sgI_ne (l : List (IntKind × Int)) (j : Nat) : sgI l j ≠ .nilIface := by
  unfold sgI
  split
  · intro h; cases h
  · intro h; cases h
def kf (j : Nat) : Value := .float .f64 j
section
variable {P : Program} {σ : Nat → Value}
def AllOK (P : Program) (σ : Nat → Value) (l : List Ent) : Prop := ∀ e ∈ l, EntOK P σ e
theorem AllOK.nil : AllOK P σ [] := fun e he => by cases he
theorem AllOK.app {l k : List Ent} (h1 : AllOK P σ l) (h2 : AllOK P σ k) : AllOK P σ (l ++ k) := fun e he => by
  rcases List.mem_append.1 he with h | h
  · exact h1 e h
  · exact h2 e h
theorem AllOK.two {x y : Ent} (h1 : EntOK P σ x) (h2 : EntOK P σ y) : AllOK P σ [x, y] := fun e he => by
  simp at he
  rcases he with rfl | rfl
  · exact h1
  · exact h2
def eGe (t : TypeId) (x y : Value) : List Ent := [⟨.bin .lss t, [x, y], .bool false⟩, ⟨.bin .geq t, [x, y], .bool true⟩]
def eLe (t : TypeId) (x y : Value) : List Ent := [⟨.bin .gtr t, [x, y], .bool false⟩, ⟨.bin .leq t, [x, y], .bool true⟩]
def eLt (t : TypeId) (x y : Value) : List Ent := [⟨.bin .lss t, [x, y], .bool true⟩, ⟨.bin .geq t, [x, y], .bool false⟩]
def eGt (t : TypeId) (x y : Value) : List Ent := [⟨.bin .gtr t, [x, y], .bool true⟩, ⟨.bin .leq t, [x, y], .bool false⟩]
theorem okGe {t : TypeId} {x y : Value} {k : IntKind} {a c : Int} (h1 : tokV σ 4 x = .int k a) (h2 : tokV σ 4 y = .int k c) (h : c ≤ a) : AllOK P σ (eGe t x y) :=
  .two (ent_cmp h1 h2 (by show false = decide (a < c); simp; omega)) (ent_cmp h1 h2 (by show true = decide (c ≤ a); simp; omega))
theorem okLe {t : TypeId} {x y : Value} {k : IntKind} {a c : Int} (h1 : tokV σ 4 x = .int k a) (h2 : tokV σ 4 y = .int k c) (h : a ≤ c) : AllOK P σ (eLe t x y) :=
  .two (ent_cmp h1 h2 (by show false = decide (c < a); simp; omega)) (ent_cmp h1 h2 (by show true = decide (a ≤ c); simp; omega))
theorem okLt {t : TypeId} {x y : Value} {k : IntKind} {a c : Int} (h1 : tokV σ 4 x = .int k a) (h2 : tokV σ 4 y = .int k c) (h : a < c) : AllOK P σ (eLt t x y) :=
  .two (ent_cmp h1 h2 (by show true = decide (a < c); simp; omega)) (ent_cmp h1 h2 (by show false = decide (c ≤ a); simp; omega))
theorem okGt {t : TypeId} {x y : Value} {k : IntKind} {a c : Int} (h1 : tokV σ 4 x = .int k a) (h2 : tokV σ 4 y = .int k c) (h : c < a) : AllOK P σ (eGt t x y) :=
  .two (ent_cmp h1 h2 (by show true = decide (c < a); simp; omega)) (ent_cmp h1 h2 (by show false = decide (a ≤ c); simp; omega))
/-- One more. -/
theorem ent_add {t : TypeId} {x y r : Value} {k : IntKind} {a c : Int} (h1 : tokV σ 4 x = .int k a) (h2 : tokV σ 4 y = .int k c) (hr : tokV σ 4 r = .int k (k.wrap (a + c))) (hc : tokC 4 r = true) : EntOK P σ ⟨.bin .add t, [x, y], r⟩ := by
  refine ⟨_, fun w => ?_, fun A => tok_rv hc⟩
  simp only [List.map_cons, List.map_nil, h1, h2, hr, semK]
  have hg : ∀ (o1 o2 : Operand), eqGuard .add t o1 o2 (.int k a) (.int k c) = pure () := by
    intro o1 o2; unfold eqGuard; rfl
  rw [hg]
  simp [binOp, Op.intArith, go_sem]
/-- A number as one of another kind. -/
theorem ent_conv {s d : TypeId} {x r : Value} {k k' : IntKind} {a : Int} {u : TypeDesc} (hs : P.underlying s = some u) (hd : P.underlying d = some (.int k')) (h1 : tokV σ 4 x = .int k a) (hr : tokV σ 4 r = .int k' (k'.wrap a)) (hc : tokC 4 r = true) : EntOK P σ ⟨.conv s d, [x], r⟩ := by
  refine ⟨_, fun w => ?_, fun A => tok_rv hc⟩
  simp only [List.map_cons, List.map_nil, h1, hr, semK]
  simp [convert, run_underlying hs, run_underlying hd, Conv.intToInt, Sem.run_bind, Result.andThen]

structure FnEnt where
  f : FuncId
  args : List Value
  v : Value
def fsL (l : List FnEnt) (f : FuncId) (args : Array Value) : Option Value :=
  (l.find? fun e => e.f == f && beqL (beqV 4) args.toList e.args && e.args.all (tokC 4)).map (·.v)
def FnOK (P : Program) (σ : Nat → Value) (W0 : World) (H : Nat) (e : FnEnt) : Prop :=
  ∀ w', Below H W0 w' → Calls P e.f (e.args.map (tokV σ 4)).toArray w' fun x w'' => ∃ v', x = .returned v' ∧ (∀ A, RV σ A e.v v') ∧ Ext w' w''
/-- A call whose answer is a plain value. -/
theorem FnOK.mk {P : Program} {σ : Nat → Value} {W0 : World} {H : Nat} {e : FnEnt} (hc : closedN 8 e.v = true) (h : ∀ w', Below H W0 w' → Calls P e.f (e.args.map (tokV σ 4)).toArray w' fun x w'' => x = .returned e.v ∧ Ext w' w'') : FnOK P σ W0 H e :=
  fun w' hw' => (h w' hw').mono fun x w'' hx => ⟨e.v, hx.1, fun A => closed_rv hc, hx.2⟩
theorem fsL_ok {W0 : World} {H : Nat} {l : List FnEnt} (h : ∀ e ∈ l, FnOK P σ W0 H e) :
    ∀ (f : FuncId) (args args' : Array Value) (v : Value) (A : Ren), fsL l f args = some v → RAr σ A args args' → ∀ w', Below H W0 w' →
      Calls P f args' w' fun e w'' => ∃ v', e = .returned v' ∧ RV σ A v v' ∧ Ext w' w'' := by
  intro f args args' v A hf ha w' hw'
  unfold fsL at hf
  cases hx : l.find? fun e => e.f == f && beqL (beqV 4) args.toList e.args && e.args.all (tokC 4) with
  | none => rw [hx] at hf; cases hf
  | some e =>
    rw [hx] at hf
    cases hf
    have hm := List.mem_of_find?_eq_some hx
    have hp := List.find?_some hx
    simp only [Bool.and_eq_true] at hp
    obtain ⟨⟨p1, p2⟩, p3⟩ := hp
    have e1 := eq_of_beq p1
    have e2 := beqL_eq (fun x y hxy => beqV_eq hxy) p2
    have hcalls := h e hm
    have e3 : args' = (e.args.map (tokV σ 4)).toArray := by
      refine Array.ext (by rw [← ha.1, ← e2]; simp) fun i h1 h2 => ?_
      have h3 : i < args.size := by rw [ha.1]; exact h1
      have h4 := ha.2 i _ _ (Array.getElem?_eq_getElem h3) (Array.getElem?_eq_getElem h1)
      have h5 : args[i] ∈ e.args := by rw [← e2]; exact Array.mem_toList_iff.2 (Array.getElem_mem h3)
      rw [List.all_eq_true] at p3
      rw [tok_eq (p3 _ h5) h4]
      simp only [← e2, List.getElem_toArray, List.getElem_map, Array.getElem_toList]
    subst e1
    rw [e3]
    refine (hcalls w' hw').mono ?_
    rintro x w'' ⟨v', rfl, hv, hE⟩
    exact ⟨_, rfl, hv A, hE⟩
/-- A call with numbers that are not looked into. -/
theorem ev_tok {l : List (IntKind × Int)} {es : List Ent} {fs : List FnEnt} {w : World} (hes : AllOK P (sgI l) es) (hfs : ∀ e ∈ fs, FnOK P (sgI l) w w.heap.size e) {G : Nat} {tabs : List (Nat × Array Value)} (hG : G ≤ w.heap.size) (hT : TabR w tabs) {n : Nat} {f : FuncId} {args : Array Value} {v : Value}
    (hc : closedN 8 v = true) (ha : args.toList.all (tokC 4) = true) (h : (evCall (ev P (orcL es (fsL fs)) G n) P (orcL es (fsL fs)) [] f args (baseWorld G tabs)).map (·.1) = some v) :
    Calls P f (args.toList.map (tokV (sgI l) 4)).toArray w fun e w' => e = .returned v ∧ Ext w w' :=
  ev_val (sgI_one l) (orcL_ok hes (sgI_ne l) (fsL_ok hfs)) hG hT hc ha h
theorem tabR_nil (w : World) : TabR w [] := fun p hp => by cases hp
end
end Go.Proofs.YtfppinabdalblaaGreat
