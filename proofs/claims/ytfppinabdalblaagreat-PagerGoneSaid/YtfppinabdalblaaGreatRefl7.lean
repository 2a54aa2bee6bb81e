/- Reflection, 7: one operation, whole. No program is named here. -/
import Derived.Test.YtfppinabdalblaaGreatRefl6
namespace Go.Proofs.YtfppinabdalblaaGreat
open Go.RowKit
set_option linter.unusedVariables false
set_option linter.unusedSimpArgs false
section
variable {P : Program} {σ : Nat → Value} {A : Ren}

theorem rel_val {s s' : Sem Value} (h : SemRel P σ (RV σ) A s s') : SemRel P σ (RN σ) A (do pure (.value (← s))) (do pure (.value (← s'))) :=
  SemRel.bnd h fun B v v' hB hv => .ret (.value v v' hv)
theorem rel_unit {s s' : Sem Unit} (h : SemRel P σ REq A s s') : SemRel P σ (RN σ) A (do s; pure .skip) (do s'; pure .skip) :=
  SemRel.bnd h fun B v v' hB hv => .ret .skip

theorem rel_callFunc (f : FuncId) (hf : bodyOk P f = true) {x x' : Array Value} (h : RAr σ A x x') : SemRel P σ (RN σ) A (callFunc f x) (callFunc f x') := by
  unfold callFunc
  refine SemRel.bnd rel_program ?_
  rintro B _ _ hB ⟨rfl, rfl⟩
  unfold bodyOk at hf
  split at hf
  · rename_i fn hfn
    rw [Bool.and_eq_true, Bool.not_eq_true'] at hf
    simp only [hfn]
    rw [if_neg (by rw [hf.2]; simp), if_neg (by rw [Option.isNone_iff_eq_none]; intro h; rw [h] at hf; simp at hf)]
    rw [if_neg (by rw [hf.2]; simp), if_neg (by rw [Option.isNone_iff_eq_none]; intro h; rw [h] at hf; simp at hf)]
    exact .ret (.enter f x x' (h.mono hB))
  · cases hf
theorem rel_method (n : Nat) (t : TypeId) (name : String) (hm : methOk P t name = true) {v v' : Value} (h : RV σ A v v') :
    SemRel P σ (fun B p q => p.1 = q.1 ∧ bodyOk P p.1 = true ∧ RV σ B p.2 q.2) A (method (n + 1) t v name) (method (n + 1) t v' name) := by
  unfold methOk at hm
  split at hm
  case h_2 => cases hm
  rename_i i hi
  split at hm
  case h_2 => cases hm
  rename_i m hmm
  rw [Bool.and_eq_true] at hm
  obtain ⟨hpath, hm⟩ := hm
  split at hm
  case h_2 => cases hm
  rename_i f hfm
  rw [Bool.and_eq_true] at hm
  obtain ⟨hbody, hu⟩ := hm
  obtain ⟨e, hu⟩ : ∃ e, P.underlying t = some (.pointer e) := by
    split at hu
    · rename_i e he; exact ⟨e, he⟩
    · cases hu
  have hp : m.path.toList = [] := by simpa using hpath
  unfold method
  refine SemRel.bnd (rel_typeInfo t) ?_
  rintro B j _ hB ⟨rfl, hj⟩
  rw [hi] at hj
  cases hj
  simp only [hmm, hp]
  refine SemRel.bnd (R := fun B p q => p = (t, Place.val v) ∧ q = (t, Place.val v')) (.ret ⟨rfl, rfl⟩) ?_
  rintro C _ _ hC ⟨rfl, rfl⟩
  simp only [hfm]
  refine SemRel.bnd (R := RV σ) ?_ ?_
  · unfold receiverAt
    refine SemRel.bnd (rel_underlying t) ?_
    rintro D d _ hD ⟨rfl, hd⟩
    rw [hu] at hd
    cases hd
    exact .ret (h.mono ((hB.trans hC).trans hD))
  · intro D r r' hD hr
    exact .ret ⟨rfl, hbody, hr⟩

theorem rel_equal_nil (t : TypeId) {x x' y y' : Value} (hn : nilCmp x y = true) (hx : RV σ A x x') (hy : RV σ A y y') : SemRel P σ REq A (Op.equal t x y) (Op.equal t x' y') := by
  unfold Op.equal
  have e : Op.maxDepth = 9999 + 1 := rfl
  rw [e]
  unfold Op.equalIn
  refine SemRel.bnd (rel_underlying t) ?_
  rintro B d _ hB ⟨rfl, hd⟩
  unfold nilCmp at hn
  split at hn
  all_goals first | (cases hn; done) | skip
  all_goals (cases hx <;> cases hy <;> cases d <;> first | exact .stuck | exact .unsup | exact .ret rfl)

theorem rel_equal_ptr (t : TypeId) {x x' y y' : Value} (hn : ptrCmp P t x y = true) (hx : RV σ A x x') (hy : RV σ A y y') : SemRel P σ REq A (Op.equal t x y) (Op.equal t x' y') := by
  unfold ptrCmp at hn
  split at hn
  case h_2 => cases hn
  rename_i a b
  rw [Bool.and_eq_true] at hn
  obtain ⟨h1, h2⟩ := hn
  have h1 : a.block = b.block := by simpa using h1
  cases hx with | ptr _ ha =>
  cases hy with | ptr _ hb =>
  unfold Op.equal
  have e : Op.maxDepth = 9999 + 1 := rfl
  rw [e]
  unfold Op.equalIn
  refine SemRel.bnd (rel_underlying t) ?_
  rintro B d _ hB ⟨rfl, hd⟩
  rw [hd] at h2
  cases d <;> first | (cases h2; done) | skip
  rename_i el
  simp only [] at h2
  refine SemRel.bnd (rel_sizeOf el) ?_
  rintro C n _ hC ⟨rfl, hn⟩
  rw [hn] at h2
  have h3 : n ≠ 0 := by simpa using h2
  simp only [h3, ne_eq, not_false_eq_true, if_true]
  unfold sameAddr
  have e1 : (a.block == b.block) = true := by simpa using h1
  have e2 : ((A.addr a).block == (A.addr b).block) = true := by simp [Ren.addr, h1]
  have e3 : (A.addr a == A.addr b) = (a == b) := by
    obtain ⟨ab, ao, as⟩ := a
    obtain ⟨bb, bo, bs⟩ := b
    simp only [] at h1
    subst h1
    rw [Bool.eq_iff_iff]
    simp [Ren.addr]
  simp only [e1, e2, if_true, e3]
  exact .ret rfl

theorem ro_map {ρ ρ' : Operand → Value} {x : Option Operand} (h : ∀ y ∈ x.toList, RV σ A (ρ y) (ρ' y)) : RO σ A (x.map ρ) (x.map ρ') := by
  cases x with
  | none => trivial
  | some y => exact h y (by simp)
theorem rar_map {ρ ρ' : Operand → Value} {x : Array Operand} (h : ∀ y ∈ x, RV σ A (ρ y) (ρ' y)) : RAr σ A (x.map ρ) (x.map ρ') := by
  refine ⟨by simp, fun i v v' h1 h2 => ?_⟩
  rw [Array.getElem?_map] at h1 h2
  cases hi : x[i]? with
  | none => rw [hi] at h1; cases h1
  | some y =>
    rw [hi] at h1 h2
    simp only [Option.map_some, Option.some.injEq] at h1 h2
    subst h1; subst h2
    exact h y (Array.mem_of_getElem? hi)
theorem rps_map {ρ ρ' : Operand → Value} : ∀ {x : List (Nat × Operand)}, (∀ p ∈ x, RV σ A (ρ p.2) (ρ' p.2)) → RPs σ A (x.map fun (i, y) => (i, ρ y)) (x.map fun (i, y) => (i, ρ' y))
  | [], _ => .nil
  | (i, y) :: l, h => .cons i _ _ _ _ (h (i, y) (by simp)) (rps_map fun p hp => h p (by simp [hp]))

def isSlice : Op → Bool
  | .slice _ _ _ _ _ => true
  | _ => false
theorem fixN_id {ρ : Operand → Value} {o : Oper} (h : isSlice o.op = false) (n : Next) : fixN ρ o n = n := by
  obtain ⟨dst, op, type, pos, after, guard⟩ := o
  cases n <;> first | rfl | (cases op <;> first | rfl | cases h)
theorem rel_exec0 (hσ : ∀ j, OneC (σ j)) (ρ ρ' : Operand → Value) (o : Oper) (hns : isSlice o.op = false) (hok : okOp P ρ o = true) (hr : ∀ x ∈ o.op.operands, RV σ A (ρ x) (ρ' x)) : SemRel P σ (RN σ) A (execOp ρ o) (execOp ρ' o) := by
  obtain ⟨dst, op, type, pos, after, guard⟩ := o
  cases op <;> simp only [okOp] at hok <;> first | (cases hok; done) | skip
  all_goals simp only [execOp]
  case move x => exact .ret (.value _ _ (hr x (by simp [Op.operands])))
  case assign x => exact .ret (.value _ _ (hr x (by simp [Op.operands])))
  case alloc t => exact rel_val (rel_alloc hσ t hok)
  case box t x => exact rel_val (rel_box hσ t (hr x (by simp [Op.operands])))
  case build t ps =>
    refine rel_val (rel_build hσ t hok ?_)
    simp only [Array.toList_map]
    exact rps_map fun p hp => hr p.2 (by simp [Op.operands]; exact ⟨p.1, by simpa using hp⟩)
  case buildSlice t n ps =>
    refine rel_val (rel_buildSlice hσ t n hok ?_)
    simp only [Array.toList_map]
    exact rps_map fun p hp => hr p.2 (by simp [Op.operands]; exact ⟨p.1, by simpa using hp⟩)
  case load t x => exact rel_val (rel_loadAt t (hr x (by simp [Op.operands])))
  case store t x y => exact rel_unit (rel_storeAt hσ t (hr x (by simp [Op.operands])) (hr y (by simp [Op.operands])))
  case nilCheck x =>
    have hx := hr x (by simp [Op.operands])
    generalize ρ' x = w at hx ⊢
    split at hok
    · rename_i a ha
      rw [ha] at hx ⊢
      cases hx with
      | ptr _ hb => exact .ret (.value _ _ (.ptr a hb))
    · rename_i g u v ha
      rw [ha] at hx ⊢
      cases hx with
      | func f x1 x' y1 y' h1 h2 h3 h4 => exact .ret (.value _ _ (.func g u x' v y' h1 h2 h3 h4))
    · rename_i g u v ha
      rw [ha] at hx ⊢
      cases hx with
      | yield _ hb => exact .ret (.value _ _ (.yield _ hb))
    · rename_i t v ha
      rw [ha] at hx ⊢
      cases hx with
      | iface _ _ v' h1 => exact .ret (.value _ _ (.iface t v v' h1))
    · cases hok
  case typeAssert x s d ok =>
    simp only [Bool.and_eq_true] at hok
    obtain ⟨rfl, h1, h2, h3⟩ := hok
    exact rel_val (rel_typeAssert s d h1 h2 h3 (hr x (by simp [Op.operands])))
  case makeInterface t x => exact rel_val (rel_makeInterface t (hr x (by simp [Op.operands])))
  case makeFunc fn first cap =>
    have h1 : RAr σ A (first.map ρ) (first.map ρ') := rar_map fun y hy => hr y (by simp [Op.operands, hy])
    have h2 : RAr σ A (cap.map ρ) (cap.map ρ') := rar_map fun y hy => hr y (by simp [Op.operands, hy])
    cases fn <;> simp only [] at hok <;> first | (cases hok; done) | skip
    exact .ret (.value _ _ (.func _ _ _ _ _ h1.1 h1.2 h2.1 h2.2))
  case makeSlice t x y => exact rel_val (rel_makeSlice hσ t hok (hr x (by simp [Op.operands])) (hr y (by simp [Op.operands])))
  case slice t x lo hi mx => cases hns
  case fieldAddr t x f => exact rel_val (rel_fieldAt t f hok (hr x (by simp [Op.operands])))
  case field t x f => exact rel_val (rel_field t (hr x (by simp [Op.operands])) f)
  case indexAddr t x i => exact rel_val (rel_indexAt t (hr x (by simp [Op.operands])) (hr i (by simp [Op.operands])))
  case extract x i => exact rel_val (rel_extract (hr x (by simp [Op.operands])) i)
  case binOp op t x y u =>
    rw [Bool.and_eq_true, Bool.or_eq_true] at hok
    obtain ⟨hop, hn⟩ := hok
    have hx := hr x (by simp [Op.operands])
    have hy := hr y (by simp [Op.operands])
    have hg : ∀ (op : BinOp) {u v : Value}, (nilCmp u v = true ∨ ptrCmp P t u v = true) → eqGuard op t x y u v = pure () := by
      intro op u v h
      unfold nilCmp ptrCmp at h
      unfold eqGuard
      rcases h with h | h
      · split at h <;> first | (cases h; done) | (split <;> rfl)
      · split at h <;> first | (cases h; done) | (split <;> rfl)
    have hbin : ∀ {u v : Value}, (nilCmp u v = true ∨ ptrCmp P t u v = true) → (binOp .eql t u v = do pure (.bool (← Op.equal t u v))) ∧ (binOp .neq t u v = do pure (.bool (!(← Op.equal t u v)))) := by
      intro u v h
      unfold nilCmp ptrCmp at h
      rcases h with h | h
      · split at h <;> first | (cases h; done) | exact ⟨rfl, rfl⟩
      · split at h <;> first | (cases h; done) | exact ⟨rfl, rfl⟩
    have hn' : nilCmp (ρ' x) (ρ' y) = true ∨ ptrCmp P t (ρ' x) (ρ' y) = true := by
      unfold nilCmp ptrCmp at hn ⊢
      generalize hu : ρ x = u at hn hx
      generalize hv : ρ y = v at hn hy
      generalize hu' : ρ' x = u' at hx ⊢
      generalize hv' : ρ' y = v' at hy ⊢
      rcases hn with hn | hn
      · refine .inl ?_
        split at hn <;> first | (cases hn; done) | (cases hx <;> cases hy <;> rfl)
      · refine .inr ?_
        split at hn <;> first | (cases hn; done) | skip
        rw [Bool.and_eq_true] at hn
        have e := eq_of_beq hn.1
        cases hx with | ptr _ ha =>
        cases hy with | ptr _ hb =>
        simp only [Ren.addr, e, beq_self_eq_true, Bool.true_and]
        exact hn.2
    have key : SemRel P σ REq A (Op.equal t (ρ x) (ρ y)) (Op.equal t (ρ' x) (ρ' y)) := by
      rcases hn with hn | hn
      · exact rel_equal_nil t hn hx hy
      · exact rel_equal_ptr t hn hx hy
    refine rel_val ?_
    refine SemRel.bnd (R := fun B _ _ => SemRel P σ REq B (Op.equal t (ρ x) (ρ y)) (Op.equal t (ρ' x) (ρ' y))) ?_ ?_
    · rw [hg op hn, hg op hn']
      exact .ret key
    · intro B _ _ hB key
      cases op <;> simp only [] at hop <;> first | (cases hop; done) | skip
      · rw [(hbin hn).1, (hbin hn').1]
        refine SemRel.bnd key ?_
        rintro C b _ hC rfl
        exact .ret (.bool _)
      · rw [(hbin hn).2, (hbin hn').2]
        refine SemRel.bnd key ?_
        rintro C b _ hC rfl
        exact .ret (.bool _)
  case call c =>
    have hargs : RAr σ A (c.args.map ρ) (c.args.map ρ') := rar_map fun y hy => hr y (by simp [Op.operands, Call.operands, hy])
    unfold resolve
    cases hc : c.callee with
    | value f =>
      rw [hc] at hok
      simp only [] at hok
      have hf := hr f (by simp [Op.operands, Call.operands, hc])
      split at hok
      case h_2 => cases hok
      rename_i g u v hg
      rw [hg] at hf
      generalize hw : ρ' f = w at hf
      cases hf with
      | func _ _ x' _ y' h1 h2 h3 h4 =>
        simp only [hg, hw]
        refine rel_callFunc g hok ?_
        exact RAr.app (RAr.app ⟨h1, h2⟩ hargs) ⟨h3, h4⟩
    | invoke r name =>
      rw [hc] at hok
      simp only [] at hok
      have hf := hr r (by simp [Op.operands, Call.operands, hc])
      split at hok
      case h_2 => cases hok
      rename_i t v hg
      rw [hg] at hf
      generalize hw : ρ' r = w at hf
      cases hf with
      | iface _ _ v' hv =>
        simp only [hg, hw]
        have e1 : ∀ (z : Value) (as : Array Value), (#[z] ++ as)[0]? = some z := by intro z as; simp [Array.getElem?_append]
        have e2 : ∀ (z : Value) (as : Array Value), (#[z] ++ as).extract 1 (#[z] ++ as).size = as := by
          intro z as
          apply Array.ext'
          simp
        refine SemRel.bnd (R := fun B p q => p = { target := .fn (.method name) #[], args := #[.iface t v] ++ c.args.map ρ } ∧ q = { target := .fn (.method name) #[], args := #[.iface t v'] ++ c.args.map ρ' }) (.ret ⟨rfl, rfl⟩) ?_
        rintro B _ _ hB ⟨rfl, rfl⟩
        simp only [invoke, e1, e2, callMethod]
        refine SemRel.bnd rel_program ?_
        rintro C p q hC ⟨hp, hq⟩
        rw [hp, hq]
        obtain ⟨k, hk⟩ : ∃ k, P.types.size + Made.depth = k + 1 := ⟨P.types.size + (Made.depth - 1), by unfold Made.depth; omega⟩
        rw [hk]
        refine SemRel.bnd (rel_method k t name hok ((hv.mono hB).mono hC)) ?_
        rintro D ⟨f, rec⟩ ⟨_, rec'⟩ hD ⟨rfl, hb, hrec⟩
        exact rel_callFunc f hb (RAr.app (RAr.one hrec) (hargs.mono ((hB.trans hC).trans hD)))
    | builtin b =>
      rw [hc] at hok
      cases b <;> simp only [] at hok <;> first | (cases hok; done) | skip
      case append =>
        refine SemRel.bnd (R := fun B p q => p = { target := .builtin .append c.argTypes type (c.args.map fun | .const _ => true | _ => false), args := c.args.map ρ } ∧ q = { target := .builtin .append c.argTypes type (c.args.map fun | .const _ => true | _ => false), args := c.args.map ρ' }) (.ret ⟨rfl, rfl⟩) ?_
        rintro B _ _ hB ⟨rfl, rfl⟩
        exact rel_val (rel_append hσ type hok (hargs.mono hB))
      case clear =>
        refine SemRel.bnd (R := fun B p q => p = { target := .builtin .clear c.argTypes type (c.args.map fun | .const _ => true | _ => false), args := c.args.map ρ } ∧ q = { target := .builtin .clear c.argTypes type (c.args.map fun | .const _ => true | _ => false), args := c.args.map ρ' }) (.ret ⟨rfl, rfl⟩) ?_
        rintro B _ _ hB ⟨rfl, rfl⟩
        exact rel_val (rel_clear hσ type hok (hargs.mono hB))
      case len =>
        refine SemRel.bnd (R := fun B p q => p = { target := .builtin .len c.argTypes type (c.args.map fun | .const _ => true | _ => false), args := c.args.map ρ } ∧ q = { target := .builtin .len c.argTypes type (c.args.map fun | .const _ => true | _ => false), args := c.args.map ρ' }) (.ret ⟨rfl, rfl⟩) ?_
        rintro B _ _ hB ⟨rfl, rfl⟩
        exact rel_val (rel_len type hok (hargs.mono hB))
theorem rel_exec (hσ : ∀ j, OneC (σ j)) (ρ ρ' : Operand → Value) (o : Oper) (hok : okOp P ρ o = true) (hr : ∀ x ∈ o.op.operands, RV σ A (ρ x) (ρ' x)) : SemRel P σ (fun B n n' => RN σ B (fixN ρ o n) n') A (execOp ρ o) (execOp ρ' o) := by
  cases hs : isSlice o.op with
  | false => exact (rel_exec0 hσ ρ ρ' o hs hok hr).weaken fun B a b hB h => by rw [fixN_id hs]; exact h
  | true =>
    obtain ⟨dst, op, type, pos, after, guard⟩ := o
    cases op <;> first | (cases hs; done) | skip
    case slice t x lo hi mx =>
      simp only [okOp] at hok
      rw [Bool.and_eq_true] at hok
      have key := rel_slice (σ := σ) (A := A) (lo' := lo.map ρ') (hi := hi.map ρ) (hi' := hi.map ρ') (mx' := mx.map ρ') t hok.2 hok.1 (hr x (by simp [Op.operands])) (ro_map fun y hy => hr y (by simp [Op.operands]; simp at hy; simp [hy])) (ro_map fun y hy => hr y (by simp [Op.operands]; simp at hy; simp [hy])) (ro_map fun y hy => hr y (by simp [Op.operands]; simp at hy; simp [hy]))
      simp only [execOp]
      exact SemRel.bnd key fun B v v' hB hv => .ret (.value _ _ hv)
end
end Go.Proofs.YtfppinabdalblaaGreat
