/- Reflection, 3: one operation. No program is named here. -/
import Derived.Test.YtfppinabdalblaaGreatRefl2
namespace Go.Proofs.YtfppinabdalblaaGreat
open Go.RowKit
set_option linter.unusedVariables false
set_option linter.unusedSimpArgs false

/-- A value without an address, and without one that stands for another. -/
def closedN : Nat → Value → Bool
  | 0, _ => false
  | n + 1, v => match v with
    | .bool _ | .int _ _ | .string _ | .pointer none | .nilFunc | .nilIface | .slice none _ _ | .map none => true
    | .iface _ v => closedN n v
    | .agg cs | .tuple cs => cs.toList.all (closedN n)
    | .func (.func _) x y => x.toList.all (closedN n) && y.toList.all (closedN n)
    | _ => false
/-- No address: a number that is not looked into, or a closed value. -/
def clT : Value → Bool
  | .float _ _ => true
  | v => closedN 8 v
section
variable {P : Program} {σ : Nat → Value} {A : Ren}
theorem all_get {p : Value → Bool} {x : Array Value} (h : x.toList.all p = true) {i : Nat} {v : Value} (hv : x[i]? = some v) : p v = true := by
  rw [List.all_eq_true] at h
  refine h v ?_
  rw [← Array.getElem?_toList] at hv
  exact List.mem_of_getElem? hv
theorem closed_rv : ∀ {n : Nat} {v : Value}, closedN n v = true → RV σ A v v
  | 0, v, h => by simp [closedN] at h
  | n + 1, v, h => by
    have key : ∀ {x : Array Value}, x.toList.all (closedN n) = true → ∀ (i : Nat) (v v' : Value), x[i]? = some v → x[i]? = some v' → RV σ A v v' := by
      intro x hx i v v' h1 h2
      rw [h1] at h2
      cases h2
      exact closed_rv (all_get hx h1)
    unfold closedN at h
    split at h
    · exact .bool _
    · exact .int _ _
    · exact .str _
    · exact .nilp
    · exact .nilFunc
    · exact .nilIface
    · exact .slice0 _ _
    · exact .nilMap
    · exact .iface _ _ _ (closed_rv h)
    · exact .agg _ _ rfl (key h)
    · exact .tuple _ _ rfl (key h)
    · rw [Bool.and_eq_true] at h
      exact .func _ _ _ _ _ rfl (key h.1) rfl (key h.2)
    · cases h
theorem closed_eq : ∀ {n : Nat} {v v' : Value}, closedN n v = true → RV σ A v v' → v' = v
  | 0, v, v', h, _ => by simp [closedN] at h
  | n + 1, v, v', h, hr => by
    have key : ∀ {x x' : Array Value}, x.toList.all (closedN n) = true → x.size = x'.size → (∀ (i : Nat) (v v' : Value), x[i]? = some v → x'[i]? = some v' → RV σ A v v') → x' = x := by
      intro x x' hx hs hi
      refine Array.ext hs.symm fun i h1 h2 => ?_
      exact closed_eq (all_get hx (Array.getElem?_eq_getElem h2)) (hi i _ _ (Array.getElem?_eq_getElem h2) (Array.getElem?_eq_getElem h1))
    unfold closedN at h
    split at h
    · cases hr; rfl
    · cases hr; rfl
    · cases hr; rfl
    · cases hr; rfl
    · cases hr; rfl
    · cases hr; rfl
    · cases hr; rfl
    · cases hr; rfl
    · cases hr with | iface t v v' h1 => rw [closed_eq h h1]
    · cases hr with | agg x x' h1 h2 => rw [key h h1 h2]
    · cases hr with | tuple x x' h1 h2 => rw [key h h1 h2]
    · rw [Bool.and_eq_true] at h
      cases hr with | func f x x' y y' h1 h2 h3 h4 => rw [key h.1 h1 h2, key h.2 h3 h4]
    · cases h

theorem clT_rv {v : Value} (h : clT v = true) : RV σ A v (tokV1 σ v) := by
  cases v <;> first | exact .tok _ _ | exact closed_rv (n := 8) h
theorem clT_eq {v v' : Value} (h : clT v = true) (hr : RV σ A v v') : v' = tokV1 σ v := by
  cases v <;> first | (cases hr; rfl; done) | exact closed_eq (n := 8) h hr
theorem clT_closed {v : Value} (h : closedN 8 v = true) : clT v = true ∧ tokV1 σ v = v := by
  cases v <;> first | (cases h; done) | exact ⟨h, rfl⟩
theorem tokA_closed {cs : Array Value} (h : cs.toList.all (closedN 8) = true) : cs.toList.all clT = true ∧ tokA σ cs = cs := by
  rw [List.all_eq_true] at h
  refine ⟨List.all_eq_true.2 fun v hv => (clT_closed (σ := σ) (h v hv)).1, ?_⟩
  unfold tokA
  refine Array.ext (by simp) fun i h1 h2 => ?_
  simp only [Array.getElem_map]
  exact (clT_closed (h _ (by simp))).2
theorem tokA_cr {cs : Array Value} (h : cs.toList.all clT = true) : RAr σ A cs (tokA σ cs) := by
  refine ⟨by simp [tokA], fun i v v' h1 h2 => ?_⟩
  unfold tokA at h2
  rw [Array.getElem?_map, h1] at h2
  cases h2
  exact clT_rv (all_get h h1)
theorem tokA_eq {cs cs' : Array Value} (h : cs.toList.all clT = true) (hr : RAr σ A cs cs') : cs' = tokA σ cs := by
  refine Array.ext (by simp [tokA, hr.1]) fun i h1 h2 => ?_
  have hi : i < cs.size := by rw [hr.1]; exact h1
  simp only [tokA, Array.getElem_map]
  exact clT_eq (all_get h (Array.getElem?_eq_getElem hi)) (hr.2 i _ _ (Array.getElem?_eq_getElem hi) (Array.getElem?_eq_getElem h1))
/-- A tree that asks the program alone. -/
def plainS (P : Program) {α : Type} : Sem α → Option α
  | .pure a => some a
  | .program k => plainS P (k P)
  | .mark _ k => plainS P k
  | _ => none
theorem plainS_run {α : Type} (s : Sem α) : ∀ {a : α} (w : World), plainS P s = some a → s.run P w = .ok a w := by
  induction s with
  | pure a => intro b w h; simp [plainS] at h; subst h; rfl
  | program k ih => intro b w h; exact ih P w h
  | mark m k ih => intro b w h; exact ih w h
  | _ => intro b w h; simp [plainS] at h

inductive RN (σ : Nat → Value) (A : Ren) : Next → Next → Prop
  | value (v v' : Value) : RV σ A v v' → RN σ A (.value v) (.value v')
  | skip : RN σ A .skip .skip
  | enter (f : FuncId) (x x' : Array Value) : RAr σ A x x' → RN σ A (.enter f x) (.enter f x')

/-- What the zero value of a type is like. -/
def zeroOk (P : Program) (t : TypeId) : Bool := match (P.info? t).bind (·.zero) with | some z => closedN 8 z | none => false
def elemZeroOk (P : Program) (t : TypeId) : Bool := match P.underlying t with | some (.slice e) => zeroOk P e | _ => false
def fieldOk (P : Program) (s : TypeId) (f : Nat) : Bool := match P.underlying s with
  | some (.struct fs) => match fs[f]? with | some g => (P.info? g.type).map (·.size) != some 0 | none => false
  | _ => false
def bodyOk (P : Program) (f : FuncId) : Bool := match P.funcs[f]? with | some fn => fn.body.isSome && !(fn.name == "runtime.NumGoroutine") | none => false
def methOk (P : Program) (t : TypeId) (name : String) : Bool := match P.info? t with
  | some i => match i.methods.find? (·.name == name) with
    | some m => m.path.isEmpty && (match m.func with | some (f, true) => bodyOk P f && (match P.underlying t with | some (.pointer _) => true | _ => false) | _ => false)
    | none => false
  | none => false
def isInt : Value → Bool | .int _ _ => true | _ => false
def sliceOk (x : Value) (lo mx : Option Value) : Bool := match x with
  | .slice none _ _ => true
  | .slice (some _) n c => mx.isSome || decide (n ≤ c)
  | _ => false
def nilCmp : Value → Value → Bool
  | .pointer (some _), .pointer none | .pointer none, .pointer (some _) | .func .., .nilFunc | .nilFunc, .func .. | .iface .., .nilIface | .nilIface, .iface .. | .slice (some _) .., .slice none .. | .slice none .., .slice (some _) .. => true
  | _, _ => false
def ptrCmp (P : Program) (t : TypeId) : Value → Value → Bool
  | .pointer (some a), .pointer (some b) => a.block == b.block && (match P.underlying t with | some (.pointer e) => (P.info? e).map (·.size) != some 0 | _ => false)
  | _, _ => false
def clearOk (P : Program) (ts : Array TypeId) (vs : Array Value) : Bool := match ts.toList, vs.toList with
  | [t], [.slice _ _ _] => elemZeroOk P t
  | _, _ => false
def appOk (P : Program) (ts : Array TypeId) (vs : Array Value) : Bool := match ts.toList, vs.toList with
  | [t, u], [.slice b n c, x] => elemZeroOk P t && (match P.underlying u with | some (.int _) => false | _ => true) &&
      (match x with | .slice _ m _ => decide (n + m ≤ c) || (b.isNone || (c == 0 && b.all fun a => a.spot.isNone)) | _ => false)
  | _, _ => false

def lenOk (vs : Array Value) : Bool := match (vs.toList.head? : Option Value) with
  | some (Value.map _) => false
  | _ => true
/-- No interface. -/
def plainT (P : Program) (t : TypeId) : Bool := match P.underlying t with | some (.interface _) => false | some _ => true | none => false
def isIf : Value → Bool | .iface _ _ => true | _ => false
/-- An empty slice at the end of another one: what lies behind it is not known. -/
def blur (x : Value) (mx : Option Value) (v : Value) : Value := match x, v with
  | .slice (some _) _ (_ + 1), .slice (some a) 0 0 => if mx.isNone then .slice (some { a with spot := some 0 }) 0 0 else .slice (some a) 0 0
  | _, v => v
def fixV (ρ : Operand → Value) (o : Oper) (v : Value) : Value := match o.op with
  | .slice _ x _ _ mx => blur (ρ x) (mx.map ρ) v
  | _ => v
def fixN (ρ : Operand → Value) (o : Oper) : Next → Next
  | .value v => .value (fixV ρ o v)
  | n => n
def okOp (P : Program) (ρ : Operand → Value) (o : Oper) : Bool := match o.op with
  | .move _ | .assign _ | .box _ _ | .load _ _ | .store _ _ _ | .makeInterface _ _ | .field _ _ _ | .indexAddr _ _ _ | .extract _ _ => true
  | .alloc t => zeroOk P t
  | .build t _ => zeroOk P t
  | .buildSlice t _ _ | .makeSlice t _ _ => elemZeroOk P t
  | .nilCheck x => match ρ x with | .pointer (some _) | .func (.func _) _ _ | .func (.yield _) _ _ | .iface _ _ => true | _ => false
  | .typeAssert x _ d ok => ok && (zeroOk P d && (plainT P d && isIf (ρ x)))
  | .makeFunc fn _ _ => match fn with | .func _ => true | _ => false
  | .slice t x lo _ mx => sliceOk (ρ x) (lo.map ρ) (mx.map ρ) && (match P.underlying t with | some (.slice _) => true | _ => false)
  | .fieldAddr s _ f => fieldOk P s f
  | .binOp op t x y _ => (match op with | .eql | .neq => true | _ => false) && (nilCmp (ρ x) (ρ y) || ptrCmp P t (ρ x) (ρ y))
  | .call c => match c.callee with
    | .value f => match ρ f with | .func (.func g) _ _ => bodyOk P g | _ => false
    | .invoke r name => match ρ r with | .iface t _ => methOk P t name | _ => false
    | .builtin .len => lenOk (c.args.map ρ)
    | .builtin .clear => clearOk P c.argTypes (c.args.map ρ)
    | .builtin .append => appOk P c.argTypes (c.args.map ρ)
    | _ => false
  | _ => false
end
end Go.Proofs.YtfppinabdalblaaGreat
