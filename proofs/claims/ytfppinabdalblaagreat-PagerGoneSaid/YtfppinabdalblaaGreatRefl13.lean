/- Reflection, 13: what is known ahead, as a list. No program is named here. -/
import Derived.Test.YtfppinabdalblaaGreatRefl12
namespace Go.Proofs.YtfppinabdalblaaGreat
open Go.RowKit
set_option linter.unusedVariables false
set_option linter.unusedSimpArgs false

inductive OpK where
  | bin (op : BinOp) (t : TypeId)
  | conv (s d : TypeId)
  | len (ts : Array TypeId)
  | idx (t : TypeId)
  | load (t : TypeId)
  | un (op : UnOp)
  | mn (ts : Array TypeId)
  | mx (ts : Array TypeId)
  deriving DecidableEq
def opK : Op → Option OpK
  | .binOp op t _ _ _ => some (.bin op t)
  | .convert s d _ => some (.conv s d)
  | .indexAddr t _ _ => some (.idx t)
  | .load t _ => some (.load t)
  | .unOp op _ _ => some (.un op)
  | .call c => match c.callee with | .builtin .len => some (.len c.argTypes) | .builtin .min => some (.mn c.argTypes) | .builtin .max => some (.mx c.argTypes) | _ => none
  | _ => none
/-- One thing that is known. -/
structure Ent where
  k : OpK
  xs : List Value
  r : Value
/-- No address. -/
def tokC : Nat → Value → Bool
  | 0, _ => false
  | n + 1, v => match v with
    | .float _ _ | .bool _ | .int _ _ | .string _ | .pointer none | .slice none _ _ => true
    | .agg cs => cs.toList.all (tokC n)
    | _ => false
/-- What stands for what. -/
def tokV (σ : Nat → Value) : Nat → Value → Value
  | 0, v => v
  | n + 1, v => match v with
    | .float _ j => σ j
    | .agg cs => .agg (cs.toList.map (tokV σ n)).toArray
    | v => v
theorem tok_eq {σ : Nat → Value} {A : Ren} : ∀ {n : Nat} {v v' : Value}, tokC n v = true → RV σ A v v' → v' = tokV σ n v
  | 0, v, v', h, _ => by simp [tokC] at h
  | n + 1, v, v', h, hr => by
    unfold tokC at h
    unfold tokV
    split at h
    · cases hr; rfl
    · cases hr; rfl
    · cases hr; rfl
    · cases hr; rfl
    · cases hr; rfl
    · cases hr; rfl
    · rename_i x
      cases hr with | agg _ x' h1 h2 =>
      simp only []
      congr 1
      refine Array.ext (by simpa using h1.symm) fun i hi hj => ?_
      have hx : i < x.size := h1 ▸ hi
      have := tok_eq (all_get h (Array.getElem?_eq_getElem hx)) (h2 i _ _ (Array.getElem?_eq_getElem hx) (Array.getElem?_eq_getElem hi))
      simpa using this
    · cases h
theorem tokV_ne {σ : Nat → Value} (hσ : ∀ j, σ j ≠ .nilIface) {n : Nat} {v : Value} (h : tokC n v = true) : tokV σ n v ≠ .nilIface := by
  cases n with
  | zero => simp [tokC] at h
  | succ n =>
    cases v <;> first | (cases h; done) | (simp only [tokV]; first | exact hσ _ | (intro hh; cases hh))
theorem tok_rv {σ : Nat → Value} {A : Ren} : ∀ {n : Nat} {v : Value}, tokC n v = true → RV σ A v (tokV σ n v)
  | 0, v, h => by simp [tokC] at h
  | n + 1, v, h => by
    unfold tokC at h
    unfold tokV
    split at h
    · exact .tok _ _
    · exact .bool _
    · exact .int _ _
    · exact .str _
    · exact .nilp
    · exact .slice0 _ _
    · rename_i x
      refine .agg _ _ (by simp) fun i u u' h1 h2 => ?_
      have h3 : u' = tokV σ n u := by
        rw [List.getElem?_toArray, List.getElem?_map] at h2
        rw [← Array.getElem?_toList] at h1
        rw [h1] at h2
        simpa using h2.symm
      subst h3
      exact tok_rv (all_get h h1)
    · cases h
def semK : OpK → List Value → Sem Value
  | .bin op t, [x, y] => do eqGuard op t (.const x) (.const y) x y; binOp op t x y
  | .conv s d, [x] => convert s d x
  | .len ts, xs => Builtin.len_ ts 0 xs.toArray
  | .idx t, [x, i] => Instr.indexAt t x i
  | .load t, [x] => Instr.loadAt t x
  | .un op, [x] => Op.unary op x
  | .mn ts, xs => Builtin.min_ ts 0 xs.toArray
  | .mx ts, xs => Builtin.max_ ts 0 xs.toArray
  | _, _ => stuck "no such operation"
def EntOK (P : Program) (σ : Nat → Value) (e : Ent) : Prop := ∃ r', (∀ w, (semK e.k (e.xs.map (tokV σ 4))).run P w = .ok r' w) ∧ ∀ A, RV σ A e.r r'
/-- It holds in each world that goes on from one. -/
def EntOKW (P : Program) (σ : Nat → Value) (W0 : World) (H : Nat) (e : Ent) : Prop := ∃ r', (∀ w, Below H W0 w → (semK e.k (e.xs.map (tokV σ 4))).run P w = .ok r' w) ∧ ∀ A, RV σ A e.r r'
theorem EntOK.w {P : Program} {σ : Nat → Value} {W0 : World} {H : Nat} {e : Ent} (h : EntOK P σ e) : EntOKW P σ W0 H e := by
  obtain ⟨r', h1, h2⟩ := h
  exact ⟨r', fun w _ => h1 w, h2⟩
def entMatch (o : Op) (vs : List Value) (e : Ent) : Bool :=
  beqL (beqV 4) vs e.xs && opK o == some e.k && vs.all (tokC 4)
/-- Is it worth a look? -/
def hasTok : Nat → Value → Bool
  | 0, _ => false
  | n + 1, v => match v with
    | .float _ _ => true
    | .agg cs => cs.toList.any (hasTok n)
    | _ => false
def orcOp : Op → Bool
  | .binOp _ _ _ _ _ | .convert _ _ _ | .indexAddr _ _ _ | .load _ _ | .unOp _ _ _ | .call _ => true
  | _ => false
def orcL (es : List Ent) (fs : FuncId → Array Value → Option Value) : Orc := { op := fun o vs => if orcOp o && vs.any (hasTok 4) then (es.find? (entMatch o vs)).map (·.r) else none, fn := fun f args _ => fs f args }

section
variable {P : Program} {σ : Nat → Value}
theorem eqGuard_tok (op : BinOp) (t : TypeId) (x y x' y' : Operand) {a b : Value} (h : a ≠ .nilIface) : eqGuard op t x y a b = eqGuard op t x' y' a b := by
  unfold eqGuard
  cases a <;> first | rfl | exact absurd rfl h | (cases b <;> rfl)
theorem orcL_op {W0 : World} {H : Nat} {es : List Ent} {fs : FuncId → Array Value → Option Value} (hes : ∀ e ∈ es, EntOKW P σ W0 H e) (hσ : ∀ j, σ j ≠ .nilIface) :
    ∀ (o : Oper) (ρ ρ' : Operand → Value) (v : Value) (A : Ren), (orcL es fs).op o.op (o.op.operands.toList.map ρ) = some v → (∀ x ∈ o.op.operands, RV σ A (ρ x) (ρ' x)) →
    ∀ w', Below H W0 w' → ∃ v', (execOp ρ' o).run P w' = .ok (.value v') w' ∧ RV σ A v v' := by
  intro o ρ ρ' v A h hr w' hbw
  simp only [orcL] at h
  split at h
  case isFalse => cases h
  rename_i hqk
  clear hqk
  cases hf : es.find? (entMatch o.op (o.op.operands.toList.map ρ)) with
  | none => rw [hf] at h; cases h
  | some e =>
    rw [hf] at h
    cases h
    have hm := List.mem_of_find?_eq_some hf
    have hp := List.find?_some hf
    unfold entMatch at hp
    rw [Bool.and_eq_true, Bool.and_eq_true] at hp
    obtain ⟨⟨g2, g1⟩, h3⟩ := hp
    replace g1 := eq_of_beq g1
    replace g2 := beqL_eq (fun x y hxy => beqV_eq hxy) g2
    obtain ⟨r', hrun, hrr⟩ := hes e hm
    have key : ∀ x ∈ o.op.operands, ρ' x = tokV σ 4 (ρ x) := by
      intro x hx
      rw [List.all_eq_true] at h3
      exact tok_eq (h3 _ (List.mem_map.2 ⟨x, by simpa using hx, rfl⟩)) (hr x hx)
    rw [← g2] at hrun
    obtain ⟨dst, op, type, pos, after, guard⟩ := o
    refine ⟨r', ?_, hrr A⟩
    cases op <;> first | (simp [opK] at g1; done) | skip
    case binOp op t x y u =>
      have kx := key x (by simp [Op.operands])
      have ky := key y (by simp [Op.operands])
      have h1 : OpK.bin op t = e.k := by simpa [opK] using g1
      rw [← h1] at hrun
      have hl : (Op.binOp op t x y u).operands.toList.map ρ = [ρ x, ρ y] := by simp [Op.operands]
      simp only [hl, List.map_cons, List.map_nil, semK, ← kx, ← ky] at hrun
      have hn : ρ' x ≠ .nilIface := by
        have hx3 : tokC 4 (ρ x) = true := by
          rw [List.all_eq_true] at h3
          exact h3 _ (List.mem_map.2 ⟨x, by simp [Op.operands], rfl⟩)
        rw [kx]
        exact tokV_ne hσ hx3
      have := hrun w' hbw
      rw [eqGuard_tok op t _ _ x y hn] at this
      simp only [execOp]
      show Sem.run P (do pure (Next.value (← (do eqGuard op t x y (ρ' x) (ρ' y); binOp op t (ρ' x) (ρ' y))))) w' = _
      rw [Sem.run_bind, this]
      rfl
    case convert s d x =>
      have kx := key x (by simp [Op.operands])
      have h1 : OpK.conv s d = e.k := by simpa [opK] using g1
      rw [← h1] at hrun
      have hl : (Op.convert s d x).operands.toList.map ρ = [ρ x] := by simp [Op.operands]
      simp only [hl, List.map_cons, List.map_nil, semK, ← kx] at hrun
      simp only [execOp]
      show Sem.run P (do pure (Next.value (← convert s d (ρ' x)))) w' = _
      rw [Sem.run_bind, hrun w' hbw]
      rfl
    case indexAddr t x i =>
      have kx := key x (by simp [Op.operands])
      have ki := key i (by simp [Op.operands])
      have h1 : OpK.idx t = e.k := by simpa [opK] using g1
      rw [← h1] at hrun
      have hl : (Op.indexAddr t x i).operands.toList.map ρ = [ρ x, ρ i] := by simp [Op.operands]
      simp only [hl, List.map_cons, List.map_nil, semK, ← kx, ← ki] at hrun
      simp only [execOp]
      show Sem.run P (do pure (Next.value (← Instr.indexAt t (ρ' x) (ρ' i)))) w' = _
      rw [Sem.run_bind, hrun w' hbw]
      rfl
    case unOp op t x =>
      have kx := key x (by simp [Op.operands])
      have h1 : OpK.un op = e.k := by simpa [opK] using g1
      rw [← h1] at hrun
      have hl : (Op.unOp op t x).operands.toList.map ρ = [ρ x] := by simp [Op.operands]
      simp only [hl, List.map_cons, List.map_nil, semK, ← kx] at hrun
      simp only [execOp]
      show Sem.run P (do pure (Next.value (← Op.unary op (ρ' x)))) w' = _
      rw [Sem.run_bind, hrun w' hbw]
      rfl
    case load t x =>
      have kx := key x (by simp [Op.operands])
      have h1 : OpK.load t = e.k := by simpa [opK] using g1
      rw [← h1] at hrun
      have hl : (Op.load t x).operands.toList.map ρ = [ρ x] := by simp [Op.operands]
      simp only [hl, List.map_cons, List.map_nil, semK, ← kx] at hrun
      simp only [execOp]
      show Sem.run P (do pure (Next.value (← Instr.loadAt t (ρ' x)))) w' = _
      rw [Sem.run_bind, hrun w' hbw]
      rfl
    case call c =>
      cases hc : c.callee with
      | value f => simp [opK, hc] at g1
      | invoke r n => simp [opK, hc] at g1
      | builtin b =>
        cases b <;> first | (simp [opK, hc] at g1; done) | skip
        all_goals
          have hl : (Op.call c).operands.toList.map ρ = c.args.toList.map ρ := by simp [Op.operands, Call.operands, hc]
          have hargs : (List.map (tokV σ 4) (c.args.toList.map ρ)).toArray = c.args.map ρ' := by
            refine Array.ext' ?_
            simp only [Array.toList_map]
            rw [List.map_map]
            refine List.map_congr_left fun x hx => ?_
            exact (key x (by simp [Op.operands, Call.operands, hc]; simpa using hx)).symm
        case len =>
          have h1 : OpK.len c.argTypes = e.k := by simpa [opK, hc] using g1
          rw [← h1] at hrun
          simp only [hl, semK, hargs] at hrun
          simp only [execOp, resolve, hc]
          show Sem.run P (do pure (Next.value (← Builtin.len_ c.argTypes type (c.args.map ρ')))) w' = _
          rw [Sem.run_bind]
          have := hrun w' hbw
          rw [show Builtin.len_ c.argTypes type (c.args.map ρ') = Builtin.len_ c.argTypes 0 (c.args.map ρ') from rfl, this]
          rfl
        case min =>
          have h1 : OpK.mn c.argTypes = e.k := by simpa [opK, hc] using g1
          rw [← h1] at hrun
          simp only [hl, semK, hargs] at hrun
          simp only [execOp, resolve, hc]
          show Sem.run P (do pure (Next.value (← Builtin.min_ c.argTypes type (c.args.map ρ')))) w' = _
          rw [Sem.run_bind]
          have := hrun w' hbw
          rw [show Builtin.min_ c.argTypes type (c.args.map ρ') = Builtin.min_ c.argTypes 0 (c.args.map ρ') from rfl, this]
          rfl
        case max =>
          have h1 : OpK.mx c.argTypes = e.k := by simpa [opK, hc] using g1
          rw [← h1] at hrun
          simp only [hl, semK, hargs] at hrun
          simp only [execOp, resolve, hc]
          show Sem.run P (do pure (Next.value (← Builtin.max_ c.argTypes type (c.args.map ρ')))) w' = _
          rw [Sem.run_bind]
          have := hrun w' hbw
          rw [show Builtin.max_ c.argTypes type (c.args.map ρ') = Builtin.max_ c.argTypes 0 (c.args.map ρ') from rfl, this]
          rfl
/-- Numbers held against one another. -/
theorem ent_cmp {op : BinOp} {t : TypeId} {x y : Value} {k : IntKind} {a c : Int} {b : Bool} (h1 : tokV σ 4 x = .int k a) (h2 : tokV σ 4 y = .int k c)
    (hb : match op with | .eql => b = (a == c) | .neq => b = (a != c) | .lss => b = decide (a < c) | .leq => b = decide (a ≤ c) | .gtr => b = decide (c < a) | .geq => b = decide (c ≤ a) | _ => False) :
    EntOK P σ ⟨.bin op t, [x, y], .bool b⟩ := by
  refine ⟨.bool b, fun w => ?_, fun A => .bool b⟩
  simp only [List.map_cons, List.map_nil, h1, h2, semK]
  have hg : ∀ (o1 o2 : Operand), eqGuard op t o1 o2 (.int k a) (.int k c) = pure () := by
    intro o1 o2; unfold eqGuard; split <;> rfl
  rw [hg]
  cases op <;> simp only [] at hb <;> first | exact hb.elim | (subst hb; simp [binOp, Op.intCmp])
theorem orcL_okW {W0 : World} {H : Nat} {es : List Ent} {fs : FuncId → Array Value → Option Value} (hes : ∀ e ∈ es, EntOKW P σ W0 H e) (hσ : ∀ j, σ j ≠ .nilIface)
    (hfs : ∀ (f : FuncId) (args args' : Array Value) (v : Value) (A : Ren), fs f args = some v → RAr σ A args args' → ∀ w', Below H W0 w' →
      Calls P f args' w' fun e w'' => ∃ v', e = .returned v' ∧ RV σ A v v' ∧ Ext w' w'') : OrcOK P σ W0 H (orcL es fs) :=
  ⟨fun o ρ ρ' v A h hr w' hb => orcL_op hes hσ o ρ ρ' v A h hr w' hb, fun f args args' v Γ A w w' h ha hw => hfs f args args' v A h ha w' hw.ext, fun h => (by cases h), fun f args args' cs e Γ A w w' h => (by cases h), fun f args args' cs e n Γ A w w' h => (by cases h)⟩
theorem orcL_ok {W0 : World} {H : Nat} {es : List Ent} {fs : FuncId → Array Value → Option Value} (hes : ∀ e ∈ es, EntOK P σ e) (hσ : ∀ j, σ j ≠ .nilIface)
    (hfs : ∀ (f : FuncId) (args args' : Array Value) (v : Value) (A : Ren), fs f args = some v → RAr σ A args args' → ∀ w', Below H W0 w' →
      Calls P f args' w' fun e w'' => ∃ v', e = .returned v' ∧ RV σ A v v' ∧ Ext w' w'') : OrcOK P σ W0 H (orcL es fs) :=
  orcL_okW (fun e he => (hes e he).w) hσ hfs
end
end Go.Proofs.YtfppinabdalblaaGreat
