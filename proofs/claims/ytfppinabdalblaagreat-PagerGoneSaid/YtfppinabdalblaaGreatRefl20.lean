/- Reflection, 20: reckoning with numbers that are not looked into. No program is named here. -/
import Derived.Test.YtfppinabdalblaaGreatRefl16
namespace Go.Proofs.YtfppinabdalblaaGreat
open Go.RowKit
set_option linter.unusedVariables false
set_option linter.unusedSimpArgs false
section
variable {P : Program} {σ : Nat → Value}
theorem AllOK.one {x : Ent} (h1 : EntOK P σ x) : AllOK P σ [x] := fun e he => by
  simp at he
  exact he ▸ h1
theorem AllOK.cons {x : Ent} {l : List Ent} (h1 : EntOK P σ x) (h2 : AllOK P σ l) : AllOK P σ (x :: l) := fun e he => by
  rcases List.mem_cons.1 he with h | h
  · exact h ▸ h1
  · exact h2 e h
theorem guard_int {op : BinOp} {t : TypeId} {k k' : IntKind} {a c : Int} (o1 o2 : Operand) : eqGuard op t o1 o2 (.int k a) (.int k' c) = pure () := by
  unfold eqGuard; split <;> rfl
theorem ent_sub {t : TypeId} {x y r : Value} {k : IntKind} {a c : Int} (h1 : tokV σ 4 x = .int k a) (h2 : tokV σ 4 y = .int k c) (hr : tokV σ 4 r = .int k (k.wrap (a - c))) (hc : tokC 4 r = true) : EntOK P σ ⟨.bin .sub t, [x, y], r⟩ := by
  refine ⟨_, fun w => ?_, fun A => tok_rv hc⟩
  simp only [List.map_cons, List.map_nil, h1, h2, hr, semK]
  rw [guard_int]
  simp [binOp, Op.intArith, go_sem]
theorem ent_mul {t : TypeId} {x y r : Value} {k : IntKind} {a c : Int} (h1 : tokV σ 4 x = .int k a) (h2 : tokV σ 4 y = .int k c) (hr : tokV σ 4 r = .int k (k.wrap (a * c))) (hc : tokC 4 r = true) : EntOK P σ ⟨.bin .mul t, [x, y], r⟩ := by
  refine ⟨_, fun w => ?_, fun A => tok_rv hc⟩
  simp only [List.map_cons, List.map_nil, h1, h2, hr, semK]
  rw [guard_int]
  simp [binOp, Op.intArith, go_sem]
theorem ent_quo {t : TypeId} {x y r : Value} {k : IntKind} {a c : Int} (h1 : tokV σ 4 x = .int k a) (h2 : tokV σ 4 y = .int k c) (h0 : c ≠ 0) (hr : tokV σ 4 r = .int k (k.wrap (a.tdiv c))) (hc : tokC 4 r = true) : EntOK P σ ⟨.bin .quo t, [x, y], r⟩ := by
  refine ⟨_, fun w => ?_, fun A => tok_rv hc⟩
  simp only [List.map_cons, List.map_nil, h1, h2, hr, semK]
  rw [guard_int]
  simp [binOp, Op.intDiv, go_sem, h0]
theorem ent_rem {t : TypeId} {x y r : Value} {k : IntKind} {a c : Int} (h1 : tokV σ 4 x = .int k a) (h2 : tokV σ 4 y = .int k c) (h0 : c ≠ 0) (hr : tokV σ 4 r = .int k (a.tmod c)) (hc : tokC 4 r = true) : EntOK P σ ⟨.bin .rem t, [x, y], r⟩ := by
  refine ⟨_, fun w => ?_, fun A => tok_rv hc⟩
  simp only [List.map_cons, List.map_nil, h1, h2, hr, semK]
  rw [guard_int]
  simp [binOp, Op.intDiv, go_sem, h0]
theorem ent_and {t : TypeId} {x y r : Value} {k : IntKind} {a c : Int} (h1 : tokV σ 4 x = .int k a) (h2 : tokV σ 4 y = .int k c) (hr : tokV σ 4 r = .int k (k.wrap ((BitVec.ofInt k.bits a &&& BitVec.ofInt k.bits c).toNat : Int))) (hc : tokC 4 r = true) : EntOK P σ ⟨.bin .and t, [x, y], r⟩ := by
  refine ⟨_, fun w => ?_, fun A => tok_rv hc⟩
  simp only [List.map_cons, List.map_nil, h1, h2, hr, semK]
  rw [guard_int]
  simp [binOp, Op.intBits, go_sem]
/-- A call whose answer holds numbers that are not looked into. -/
theorem FnOK.tok {W0 : World} {H : Nat} {e : FnEnt} {n : Nat} {vs vs' : List Value} (he : e.v = .tuple vs.toArray) (hc : vs.all (tokC n) = true) (hv : vs' = vs.map (tokV σ n))
    (h : ∀ w', Below H W0 w' → Calls P e.f (e.args.map (tokV σ 4)).toArray w' fun x w'' => x = .returned (.tuple vs'.toArray) ∧ Ext w' w'') : FnOK P σ W0 H e := by
  refine fun w' hw' => (h w' hw').mono fun x w'' hx => ⟨_, hx.1, fun A => ?_, hx.2⟩
  rw [he, hv]
  refine .tuple _ _ (by simp) fun i u u' hu hu' => ?_
  rw [List.getElem?_toArray] at hu hu'
  rw [List.getElem?_map, hu] at hu'
  cases hu'
  rw [List.all_eq_true] at hc
  exact tok_rv (hc _ (List.mem_of_getElem? hu))
def isTup (vs : List Value) (r : Option (Value × World)) : Bool := match r with
  | some (.tuple cs, _) => beqL (beqV 4) cs.toList vs
  | _ => false
theorem isTup_eq {vs : List Value} {r : Option (Value × World)} (h : isTup vs r = true) : r.map (·.1) = some (.tuple vs.toArray) := by
  unfold isTup at h
  split at h
  · have h2 := beqL_eq (fun x y hxy => beqV_eq hxy) h
    rename_i cs w
    show some (Value.tuple cs) = _
    rw [← h2]
  · cases h
/-- A call that answers several things, of numbers that are not looked into. -/
theorem ev_tup {l : List (IntKind × Int)} {es : List Ent} {fs : List FnEnt} {w : World} (hes : AllOK P (sgI l) es) (hfs : ∀ e ∈ fs, FnOK P (sgI l) w w.heap.size e) {G : Nat} {tabs : List (Nat × Array Value)} (hG : G ≤ w.heap.size) (hT : TabR w tabs) {n : Nat} {f : FuncId} {args : Array Value} {vs : List Value}
    (hc : vs.all (tokC 4) = true) (ha : args.toList.all (tokC 4) = true) (h : isTup vs (evCall (ev P (orcL es (fsL fs)) G n) P (orcL es (fsL fs)) [] f args (baseWorld G tabs)) = true) :
    Calls P f (args.toList.map (tokV (sgI l) 4)).toArray w fun e w' => e = .returned (.tuple (vs.map (tokV (sgI l) 4)).toArray) ∧ Ext w w' := by
  have hrel : RAr (sgI l) ⟨id, (· < G), fun _ => False, fun _ _ _ => False⟩ args (args.toList.map (tokV (sgI l) 4)).toArray := by
    refine ⟨by simp, fun i u u' h1 h2 => ?_⟩
    have h3 : u' = tokV (sgI l) 4 u := by
      rw [List.getElem?_toArray, List.getElem?_map] at h2
      rw [← Array.getElem?_toList] at h1
      rw [h1] at h2
      simpa using h2.symm
    subst h3
    exact tok_rv (all_get ha h1)
  refine (ev_calls (sgI_one l) (orcL_ok hes (sgI_ne l) (fsL_ok hfs)) hG hT (isTup_eq h) hrel).mono ?_
  rintro e w' ⟨v', B, rfl, hv, hE⟩
  refine ⟨?_, hE⟩
  cases hv with
  | tuple _ x' hs hx =>
    have h4 : x' = (vs.map (tokV (sgI l) 4)).toArray := by
      refine Array.ext (by rw [← hs]; simp) fun i h1 h2 => ?_
      have h3 : i < vs.length := by simpa using h2
      have h5 := hx i vs[i] x'[i] (by rw [List.getElem?_toArray, List.getElem?_eq_getElem h3]) (Array.getElem?_eq_getElem h1)
      rw [List.all_eq_true] at hc
      rw [tok_eq (hc _ (List.getElem_mem h3)) h5]
      simp
    rw [h4]
/-- Values that are not looked into. -/
def sgV (l : List Value) (j : Nat) : Value := l[j]?.getD (.bool true)
def TokL (l : List Value) : Prop := ∀ v ∈ l, OneC v ∧ v ≠ .nilIface
theorem TokL.nil : TokL [] := fun v h => by cases h
theorem TokL.cons {v : Value} {l : List Value} (h1 : OneC v) (h2 : v ≠ .nilIface) (h : TokL l) : TokL (v :: l) := fun u hu => by
  rcases List.mem_cons.1 hu with rfl | hu
  · exact ⟨h1, h2⟩
  · exact h u hu
theorem TokL.int {k : IntKind} {n : Int} {l : List Value} (h : TokL l) : TokL (.int k n :: l) := .cons trivial (fun h => by cases h) h
theorem TokL.bool {b : Bool} {l : List Value} (h : TokL l) : TokL (.bool b :: l) := .cons trivial (fun h => by cases h) h
theorem TokL.slice {b : Option Addr} {n c : Nat} {l : List Value} (h : TokL l) : TokL (.slice b n c :: l) := .cons trivial (fun h => by cases h) h
theorem sgV_one {l : List Value} (h : TokL l) (j : Nat) : OneC (sgV l j) := by
  unfold sgV
  cases hj : l[j]? with
  | none => trivial
  | some v => exact (h v (List.mem_of_getElem? hj)).1
theorem sgV_ne {l : List Value} (h : TokL l) (j : Nat) : sgV l j ≠ .nilIface := by
  unfold sgV
  cases hj : l[j]? with
  | none => intro e; cases e
  | some v => exact (h v (List.mem_of_getElem? hj)).2
/-- A call with values that are not looked into. -/
theorem ev_tokV {l : List Value} (hl : TokL l) {es : List Ent} {fs : List FnEnt} {w : World} (hes : AllOK P (sgV l) es) (hfs : ∀ e ∈ fs, FnOK P (sgV l) w w.heap.size e) {G : Nat} {tabs : List (Nat × Array Value)} (hG : G ≤ w.heap.size) (hT : TabR w tabs) {n : Nat} {f : FuncId} {args : Array Value} {v : Value}
    (hc : closedN 8 v = true) (ha : args.toList.all (tokC 4) = true) (h : (evCall (ev P (orcL es (fsL fs)) G n) P (orcL es (fsL fs)) [] f args (baseWorld G tabs)).map (·.1) = some v) :
    Calls P f (args.toList.map (tokV (sgV l) 4)).toArray w fun e w' => e = .returned v ∧ Ext w w' :=
  ev_val (sgV_one hl) (orcL_ok hes (sgV_ne hl) (fsL_ok hfs)) hG hT hc ha h
/-- How long a slice is. -/
theorem ent_len {t u : TypeId} {x r : Value} {b : Option Addr} {n c : Nat} (ht : P.underlying t = some (.slice u)) (h1 : tokV σ 4 x = .slice b n c) (hr : tokV σ 4 r = .int .i64 n) (hc : tokC 4 r = true) : EntOK P σ ⟨.len #[t], [x], r⟩ := by
  refine ⟨_, fun w => ?_, fun A => tok_rv hc⟩
  simp only [List.map_cons, List.map_nil, h1, hr, semK]
  simp [Builtin.len_, run_underlying ht, Sem.run_bind, Result.andThen, go_sem, goInt]
/-- A call whose answer nobody looks into. -/
theorem FnOK.any {W0 : World} {H : Nat} {e : FnEnt} {x y : Nat} (he : e.v = .complex .f64 x y)
    (h : ∀ w', Below H W0 w' → Calls P e.f (e.args.map (tokV σ 4)).toArray w' fun x w'' => ∃ v', x = .returned v' ∧ OneC v' ∧ Ext w' w'') : FnOK P σ W0 H e := by
  refine fun w' hw' => (h w' hw').mono fun x w'' ⟨v', h1, h2, h3⟩ => ⟨v', h1, fun A => ?_, h3⟩
  rw [he]
  exact .any _ _ _ h2
/-- A call known ahead by what its arguments point at. -/
structure FnW where
  f : FuncId
  chk : Array Value → World → Bool
  v : Value
def orcW (es : List Ent) (fs : FuncId → Array Value → Option Value) (ws : List FnW) : Orc :=
  { op := (orcL es fs).op, fn := fun f args w => match fs f args with | some v => some v | none => (ws.find? fun e => e.f == f && e.chk args w).map (·.v) }
def FnWOK (P : Program) (σ : Nat → Value) (W0 : World) (H : Nat) (e : FnW) : Prop :=
  ∀ (Γ : Gst) (A : Ren) (args args' : Array Value) (w w' : World), e.chk args w = true → RAr σ A args args' → WR σ W0 H Γ A w w' →
    Calls P e.f args' w' fun x w'' => ∃ v', x = .returned v' ∧ RV σ A e.v v' ∧ Ext w' w''
theorem orcW_ok {W0 : World} {H : Nat} {es : List Ent} {fs : FuncId → Array Value → Option Value} {ws : List FnW} (h : OrcOK P σ W0 H (orcL es fs)) (hw : ∀ e ∈ ws, FnWOK P σ W0 H e) : OrcOK P σ W0 H (orcW es fs ws) := by
  refine ⟨h.op, fun f args args' v Γ A w w' hf ha hr => ?_, fun h => (by cases h), fun f args args' cs e Γ A w w' h => (by cases h), fun f args args' cs e n Γ A w w' h => (by cases h)⟩
  simp only [orcW] at hf
  split at hf
  · rename_i u hu
    cases hf
    exact h.fn f args args' _ Γ A w w' hu ha hr
  · cases hx : ws.find? fun e => e.f == f && e.chk args w with
    | none => rw [hx] at hf; cases hf
    | some e =>
      rw [hx] at hf
      cases hf
      have hm := List.mem_of_find?_eq_some hx
      have hp := List.find?_some hx
      simp only [Bool.and_eq_true] at hp
      obtain ⟨p1, p2⟩ := hp
      have e1 := eq_of_beq p1
      subst e1
      exact hw e hm Γ A args args' w w' p2 ha hr
/-- A call with values that are not looked into, and calls known by what they are given to read. -/
theorem ev_tokW {l : List Value} (hl : TokL l) {es : List Ent} {fs : List FnEnt} {ws : List FnW} {w : World} (hes : AllOK P (sgV l) es) (hfs : ∀ e ∈ fs, FnOK P (sgV l) w w.heap.size e) (hws : ∀ e ∈ ws, FnWOK P (sgV l) w w.heap.size e) {G : Nat} {tabs : List (Nat × Array Value)} (hG : G ≤ w.heap.size) (hT : TabR w tabs) {n : Nat} {f : FuncId} {args : Array Value} {v : Value}
    (hc : closedN 8 v = true) (ha : args.toList.all (tokC 4) = true) (h : (evCall (ev P (orcW es (fsL fs) ws) G n) P (orcW es (fsL fs) ws) [] f args (baseWorld G tabs)).map (·.1) = some v) :
    Calls P f (args.toList.map (tokV (sgV l) 4)).toArray w fun e w' => e = .returned v ∧ Ext w w' :=
  ev_val (sgV_one hl) (orcW_ok (orcL_ok hes (sgV_ne hl) (fsL_ok hfs)) hws) hG hT hc ha h
end
end Go.Proofs.YtfppinabdalblaaGreat
