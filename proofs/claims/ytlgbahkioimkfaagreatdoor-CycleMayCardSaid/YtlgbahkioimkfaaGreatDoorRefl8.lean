/- Reflection, 8: the evaluator, and that what it finds is so in every world that is related. No program is named here. -/
import Derived.Test.YtlgbahkioimkfaaGreatDoorRefl7
import Derived.OrdersIn
import Derived.RangeFuncLeaves
import Derived.RangeFuncRecord
import Derived.RangeFuncCalls
namespace Go.Proofs.YtlgbahkioimkfaaGreatDoor
open Go.RowKit
set_option linter.unusedVariables false
set_option linter.unusedSimpArgs false

/-- What is known ahead: of single operations, and of calls. -/
structure Orc where
  op : Op → List Value → Option Value
  fn : FuncId → Array Value → Option Value
def Orc.none : Orc := ⟨fun _ _ => .none, fun _ _ => .none⟩
def constOk (G : Nat) : Operand → Bool
  | .const v => closedN 8 v
  | .global g => decide (g < G)
  | _ => true
def closedNext : Next → Bool
  | .value v => closedN 8 v
  | .skip => true
  | .enter _ args => args.toList.all (closedN 8)
  | _ => false
def noSelect : Op → Bool
  | .select _ _ => false
  | _ => true
def plainOp (P : Program) (ρ : Operand → Value) (o : Oper) : Option Next :=
  if noSelect o.op && o.op.operands.toList.all (fun x => closedN 8 (ρ x)) then
    match plainS P (execOp ρ o) with
    | some n => if closedNext n then some n else none
    | none => none
  else none
def isMM : Op → Bool
  | .makeMap _ none => true
  | _ => false
def evOp (P : Program) (O : Orc) (ρ : Operand → Value) (o : Oper) (w : World) : Option (Next × World) :=
  match O.op o.op (o.op.operands.toList.map ρ) with
  | some v => some (.value v, w)
  | none =>
    match plainOp P ρ o with
    | some n => some (n, w)
    | none =>
      if okOp P ρ o then
        match (execOp ρ o).run P w with
        | .ok n w1 => some (fixN ρ o n, w1)
        | .halt _ _ => none
      else if isMM o.op then some (.value (.map (some w.heap.size)), { w with heap := w.heap.push (.pending #[] 8) })
      else none

structure OrcOK (P : Program) (σ : Nat → Value) (W0 : World) (H : Nat) (O : Orc) : Prop where
  op : ∀ (o : Oper) (ρ ρ' : Operand → Value) (v : Value) (A : Ren), O.op o.op (o.op.operands.toList.map ρ) = some v → (∀ x ∈ o.op.operands, RV σ A (ρ x) (ρ' x)) →
    ∀ w', Below H W0 w' → ∃ v', (execOp ρ' o).run P w' = .ok (.value v') w' ∧ RV σ A v v'
  fn : ∀ (f : FuncId) (args args' : Array Value) (v : Value) (A : Ren), O.fn f args = some v → RAr σ A args args' → ∀ w', Below H W0 w' →
    Calls P f args' w' fun e w'' => ∃ v', e = .returned v' ∧ RV σ A v v' ∧ Ext w' w''
theorem OrcOK.none (P : Program) (σ : Nat → Value) (W0 : World) (H : Nat) : OrcOK P σ W0 H Orc.none :=
  ⟨fun o ρ ρ' v A h => by simp [Orc.none] at h, fun f args args' v A h => by simp [Orc.none] at h⟩

section
variable {P : Program} {σ : Nat → Value} {W0 : World} {H : Nat} {O : Orc}

theorem closedNext_rn {A : Ren} {n : Next} (h : closedNext n = true) : RN σ A n n := by
  cases n <;> simp only [closedNext] at h <;> first | (cases h; done) | skip
  · exact .value _ _ (closed_rv h)
  · exact .skip
  · exact .enter _ _ _ ⟨rfl, fun i v v' h1 h2 => by rw [h1] at h2; cases h2; exact closed_rv (all_get h h1)⟩
theorem plainOp_sound {A : Ren} {ρ ρ' : Operand → Value} {o : Oper} {n : Next} (hr : ∀ x ∈ o.op.operands, RV σ A (ρ x) (ρ' x)) (h : plainOp P ρ o = some n) (w' : World) :
    (execOp ρ' o).run P w' = .ok n w' ∧ RN σ A n n := by
  unfold plainOp at h
  split at h
  case isFalse => cases h
  rename_i hc
  rw [Bool.and_eq_true, List.all_eq_true] at hc
  split at h
  case h_2 => cases h
  rename_i n2 hp
  split at h
  case isFalse => cases h
  rename_i hcn
  cases h
  have e : execOp ρ o = execOp ρ' o := by
    refine execOp_congr o (fun cs b hs => ?_) fun x hx => ?_
    · have := hc.1
      rw [hs] at this
      cases this
    · exact (closed_eq (hc.2 x (by simpa using hx)) (hr x hx)).symm
  rw [← e]
  exact ⟨plainS_run _ w' hp, closedNext_rn hcn⟩
theorem run_makeMap {o : Oper} (h : isMM o.op = true) (ρ : Operand → Value) (w : World) : (execOp ρ o).run P w = .ok (.value (.map (some w.heap.size))) { w with heap := w.heap.push (.map #[] 0) } := by
  obtain ⟨dst, op, type, pos, after, guard⟩ := o
  cases op <;> first | (cases h; done) | skip
  rename_i t r
  cases r with
  | some x => cases h
  | none =>
    simp only [execOp, Option.map_none]
    show Sem.run P (do pure (Next.value (← Instr.makeMap t none))) w = _
    simp [Instr.makeMap, newObj, Sem.run_bind, Result.andThen, go_sem]
    rfl
theorem evOp_sound {Γ : Gst} (hσ : ∀ j, OneC (σ j)) (hO : OrcOK P σ W0 H O) {A : Ren} {ρ ρ' : Operand → Value} {o : Oper} {n : Next} {w w1 w' : World} (hr : ∀ x ∈ o.op.operands, RV σ A (ρ x) (ρ' x)) (hw : WR σ W0 H Γ A w w')
    (h : evOp P O ρ o w = some (n, w1)) : ∃ B n' w1', (execOp ρ' o).run P w' = .ok n' w1' ∧ A.le B ∧ WR σ W0 H Γ B w1 w1' ∧ RN σ B n n' := by
  unfold evOp at h
  split at h
  · rename_i v hv
    cases h
    obtain ⟨v', h1, h2⟩ := hO.op o ρ ρ' v A hv hr w' hw.ext
    exact ⟨A, _, w', h1, Ren.le.refl A, hw, .value _ _ h2⟩
  · split at h
    · rename_i n2 hn
      cases h
      obtain ⟨h1, h2⟩ := plainOp_sound (P := P) hr hn w'
      exact ⟨A, _, w', h1, Ren.le.refl A, hw, h2⟩
    · split at h
      case isFalse =>
        split at h
        case isFalse => cases h
        rename_i hmm
        cases h
        refine ⟨A.push w.heap.size w'.heap.size, _, _, run_makeMap hmm ρ' w', A.push_le (fun hd => by have := hw.size _ hd; omega) _, hw.newP (by decide) _, ?_⟩
        have := RV.map (σ := σ) (A := A.push w.heap.size w'.heap.size) w.heap.size (.inr rfl)
        rw [A.push_at] at this
        exact .value _ _ this
      rename_i hok
      split at h
      case h_2 => cases h
      rename_i n2 w2 hrun
      cases h
      exact (rel_exec hσ ρ ρ' o hok hr).sound hσ hw hrun

/-- Related frames. D0: blocks that the frame is not to shut; D: those that it has, besides. -/
def RAct (σ : Nat → Value) (A : Ren) (D0 D : List Nat) (a a' : Act) : Prop :=
  RAr σ A a.tmps a'.tmps ∧ a.defers = [] ∧ ∃ ks : List Nat, a'.defers = ks.map (fun k => { target := .collected k, args := #[] }) ∧ ks.Nodup ∧ ∀ k ∈ ks, k ∈ D ∧ k ∉ D0
def GR (G : Nat) (A : Ren) : Prop := ∀ g, g < G → A.d g ∧ A.f g = g
theorem GR.mono {G : Nat} {A B : Ren} (h : GR G A) (hB : A.le B) : GR G B := fun g hg => ⟨hB.1 _ (h g hg).1, by rw [hB.2 g (h g hg).1]; exact (h g hg).2⟩
theorem RAct.mono {A B : Ren} {D0 D D' : List Nat} (hB : A.le B) {a a' : Act} (h : RAct σ A D0 D a a') (hD : ∀ k ∈ D, k ∈ D') : RAct σ B D0 D' a a' := by
  obtain ⟨h1, h2, ks, h3, h4, h5⟩ := h
  exact ⟨h1.mono hB, h2, ks, h3, h4, fun k hk => ⟨hD k (h5 k hk).1, (h5 k hk).2⟩⟩
theorem RAct.put {A : Ren} {D0 D : List Nat} {a a' : Act} (h : RAct σ A D0 D a a') (d : Option Tmp) {v v' : Value} (hv : RV σ A v v') : RAct σ A D0 D (a.put d v) (a'.put d v') := by
  cases d with
  | none => exact h
  | some d => exact ⟨h.1.set d hv, h.2⟩
theorem rv_undef {A : Ren} : RV σ A undef undef := .tuple _ _ rfl fun i v v' h1 h2 => by simp at h1
theorem RAct.eval {A : Ren} {G : Nat} (hG : GR G A) {D0 D : List Nat} {a a' : Act} (h : RAct σ A D0 D a a') {x : Operand} (hx : constOk G x = true) : RV σ A (a.eval x) (a'.eval x) := by
  cases x with
  | tmp t =>
    simp only [Act.eval]
    cases ht : a.tmps[t]? with
    | none =>
      have : a'.tmps[t]? = none := by
        rw [Array.getElem?_eq_none_iff] at ht ⊢
        rw [← h.1.1]; exact ht
      simp only [Array.getD_eq_getD_getElem?, ht, this, Option.getD_none]
      exact rv_undef
    | some v =>
      obtain ⟨v', h1, h2⟩ := h.1.get ht
      simp only [Array.getD_eq_getD_getElem?, ht, h1, Option.getD_some]
      exact h2
  | const v => exact closed_rv hx
  | global g =>
    have := hG g (by simpa [constOk] using hx)
    have h2 := RV.ptr (σ := σ) (A := A) ⟨g, 0, none⟩ this.1
    unfold Ren.addr at h2
    rw [this.2] at h2
    exact h2
  | func f => exact .func _ _ _ _ _ rfl (fun i v v' h => by simp at h) rfl (fun i v v' h => by simp at h)

inductive Ex where
  | normal
  | exit (id : Nat)
  | ret
def Ex.of : Ex → Exit
  | .normal => .normal
  | .exit id => .exit id
  | .ret => .ret
def Ex.num : Ex → Nat
  | .normal => 0
  | .ret => 2
  | .exit id => id + 10
inductive Task where
  | code (c : Code)
  | loop (c : Code)
  | ops (ops : Array Oper) (l : List Nat)
  | draw (ops : Array Oper)

def retVal (P : Program) (fn : Func) (tmps : Array Value) (w : World) : Option Value := match (results fn tmps).run P w with
  | .ok v _ => some v
  | _ => none
abbrev Ih := List LoopI → Task → Act → World → Option (Ex × Act × World)
def evCall (ih : Ih) (P : Program) (O : Orc) (E : List LoopI) (f : FuncId) (args : Array Value) (w : World) : Option (Value × World) :=
  match O.fn f args with
  | some v => some (v, w)
  | none =>
    match P.funcs[f]? with
    | none => none
    | some fn =>
      match fn.body with
      | none => none
      | some c =>
        match ih E (.code c) { tmps := args ++ Array.replicate (fn.ntmps - args.size) undef, defers := [] } w with
        | some (.normal, a1, w1) => (retVal P fn a1.tmps w1).map fun v => (v, w1)
        | some (.ret, a1, w1) => (retVal P fn a1.tmps w1).map fun v => (v, w1)
        | _ => none
def guardOk (ops : Array Oper) (o : Oper) (tmps : Array Value) : Bool := match o.guard with
  | none => true
  | some (j, _) => match ((ops[j]?).bind (·.dst)).bind (tmps[·]?) with
    | some (.float _ _) => false
    | some (.complex _ _ _) => false
    | _ => true
/-- How a loop stands. -/
def pcode (w : World) (b : Nat) : Option Nat := match w.heap[b]? with
  | some (.pending cs c) => if cs.isEmpty then some c else none
  | _ => none
def pset (w : World) (b : Nat) (c : Nat) : World := w.putObj b (.pending #[] c)
def isNormal : Ex → Bool
  | .normal => true
  | _ => false
/-- A round. -/
def evYield (ih : Ih) (E : List LoopI) (L : LoopI) (args : Array Value) (w : World) : Option (Value × World) :=
  if args.size ≠ L.ps.size then none else
  if pcode w L.b ≠ some 0 then none else
  match ih E (.code L.assign) { tmps := (L.ps.zip args).foldl (fun tmps (p : Tmp × Value) => tmps.setIfInBounds p.1 p.2) L.tmps, defers := [] } w with
  | some (.normal, a1, w1) =>
    if pcode w1 L.b ≠ some 0 then none else
    match ih E (.code L.body) a1 (pset w1 L.b 1) with
    | some (e, _, w2) => if pcode w2 L.b ≠ some 1 then none else some (.bool (isNormal e), pset w2 L.b e.num)
    | none => none
  | _ => none
/-- Is it a call of a yield? -/
def yCall (ρ : Operand → Value) (o : Op) : Option (Nat × Array Value) := match o with
  | .call c => match c.callee with
    | .value f => match ρ f with
      | .func (.yield b) x y => if x.isEmpty && y.isEmpty then some (b, c.args.map ρ) else none
      | _ => none
    | _ => none
  | _ => none
def isDefer : Op → Bool
  | .defer _ => true
  | _ => false
def evRun (ih : Ih) (P : Program) (O : Orc) (E : List LoopI) (ρ : Operand → Value) (o : Oper) (w : World) : Option (Value × World) :=
  if isDefer o.op then none else
  match yCall ρ o.op with
  | some (b, args) => match E.find? (fun L => L.b == b) with
    | some L => evYield ih E L args w
    | none => none
  | none => match evOp P O ρ o w with
    | some (.value v, w1) => some (v, w1)
    | some (.skip, w1) => some (undef, w1)
    | some (.enter f args, w1) => evCall ih P O E f args w1
    | _ => none
/-- An operation's value and the world behind it. -/
def evVal (ih : Ih) (P : Program) (O : Orc) (E : List LoopI) (G : Nat) (ops : Array Oper) (o : Oper) (a : Act) (w : World) : Option (Value × World) :=
  if !guardOk ops o a.tmps then none else
  if Region.wanted o (yielded ops a.tmps) then
    if !(o.op.operands.toList.all (constOk G)) then none else evRun ih P O E a.eval o w
  else some (undef, w)
def evStep (ih : Ih) (P : Program) (O : Orc) (E : List LoopI) (G : Nat) (ops : Array Oper) (o : Oper) (a : Act) (w : World) : Option (Act × World) :=
  (evVal ih P O E G ops o a w).map fun p => (a.put o.dst p.1, p.2)

/-- The fence of a function's frame; of a round's. -/
def FW (r : Option Nat) : Fence := { Fence.wide with round := r }
/-- What a task's evaluation tells. -/
def Loop1 (r : Option Nat) (P : Program) (c : Code) (Q : Exit → Act → World → Prop) (a : Act) (w : World) : Prop :=
  ∀ (b : Frame) (k : List Item) (cs : List Frame), b.roundOf = r → ∃ e a' w', Q e a' w' ∧ ArrivesIn (Machine.fenced P (FW r)) P (lone (b.atR a (.code c :: .inLoop c :: k)) cs w) b k cs e a' w'
def TaskWp (r : Option Nat) (P : Program) (t : Task) (Q : Exit → Act → World → Prop) (a : Act) (w : World) : Prop := match t with
  | .code c => c.wpIn (FW r) 0 P Q a w
  | .loop c => Loop1 r P c Q a w
  | .ops ops l => wpOpsIn (FW r) 0 P ops Q l a w
  | .draw ops => wpAnyIn (FW r) 0 P .any ops Q ops.size (Array.replicate ops.size false) a w
def IhOK (P : Program) (σ : Nat → Value) (W0 : World) (H G : Nat) (ih : Ih) : Prop :=
  ∀ E t a w e a1 w1, ih E t a w = some (e, a1, w1) → ∀ (r : Option Nat) (Γ : Gst) (D0 : List Nat) A a' w', Γ.E.map (·.L) = E → (∀ l, r = some l → ∃ g ∈ Γ.E, A.f g.L.b = l) → (∀ k ∈ D0, k ∈ Γ.D) → (∀ g ∈ Γ.E, g.dd ∈ D0) →
    RAct σ A D0 Γ.D a a' → GR G A → WR σ W0 H Γ A w w' → ∀ Q : Exit → Act → World → Prop,
    (∀ B D a1' w1', A.le B → (∀ k ∈ Γ.D, k ∈ D) → RAct σ B D0 D a1 a1' → WR σ W0 H ⟨Γ.E, D, Γ.R⟩ B w1 w1' → Q e.of a1' w1') → TaskWp r P t Q a' w'
end
end Go.Proofs.YtlgbahkioimkfaaGreatDoor
