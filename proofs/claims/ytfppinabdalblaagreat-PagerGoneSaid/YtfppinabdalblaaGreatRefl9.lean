/- Reflection, 9: a region that draws its order, evaluated once. No program is named here. -/
import Derived.Test.YtfppinabdalblaaGreatRefl8y
namespace Go.Proofs.YtfppinabdalblaaGreat
open Go.RowKit
set_option linter.unusedVariables false
set_option linter.unusedSimpArgs false

/-- Are two values the same? -/
def beqL (f : Value → Value → Bool) : List Value → List Value → Bool
  | [], [] => true
  | x :: xs, y :: ys => f x y && beqL f xs ys
  | _, _ => false
def beqV : Nat → Value → Value → Bool
  | 0, _, _ => false
  | n + 1, v, u => match v, u with
    | .bool a, .bool b => a == b
    | .int k a, .int l b => k == l && a == b
    | .float k a, .float l b => k == l && a == b
    | .pointer a, .pointer b => a == b
    | .slice a n c, .slice b m d => a == b && n == m && c == d
    | .func f x y, .func g z u => f == g && beqL (beqV n) x.toList z.toList && beqL (beqV n) y.toList u.toList
    | .nilFunc, .nilFunc => true
    | .map a, .map b => a == b
    | .complex k a b, .complex l c d => k == l && a == c && b == d
    | .iface t x, .iface s y => t == s && beqV n x y
    | .nilIface, .nilIface => true
    | .agg x, .agg y => beqL (beqV n) x.toList y.toList
    | .tuple x, .tuple y => beqL (beqV n) x.toList y.toList
    | _, _ => false
theorem beqL_eq {f : Value → Value → Bool} (h : ∀ x y, f x y = true → x = y) : ∀ {l k : List Value}, beqL f l k = true → l = k
  | [], [], _ => rfl
  | x :: xs, y :: ys, hl => by
    simp only [beqL, Bool.and_eq_true] at hl
    rw [h _ _ hl.1, beqL_eq h hl.2]
  | [], _ :: _, hl => by cases hl
  | _ :: _, [], hl => by cases hl
theorem beqV_eq : ∀ {n : Nat} {v u : Value}, beqV n v u = true → v = u
  | 0, _, _, h => by cases h
  | n + 1, v, u, h => by
    have ih : ∀ x y, beqV n x y = true → x = y := fun x y => beqV_eq
    have arr : ∀ {x y : Array Value}, beqL (beqV n) x.toList y.toList = true → x = y := fun hx => Array.ext' (beqL_eq ih hx)
    unfold beqV at h
    split at h
    all_goals first | (cases h; done) | skip
    · rw [eq_of_beq h]
    · rw [Bool.and_eq_true] at h; rw [eq_of_beq h.1, eq_of_beq h.2]
    · rw [Bool.and_eq_true] at h; rw [eq_of_beq h.1, eq_of_beq h.2]
    · rw [eq_of_beq h]
    · rw [Bool.and_eq_true, Bool.and_eq_true] at h; rw [eq_of_beq h.1.1, eq_of_beq h.1.2, eq_of_beq h.2]
    · rw [Bool.and_eq_true, Bool.and_eq_true] at h; rw [eq_of_beq h.1.1, arr h.1.2, arr h.2]
    · rfl
    · rw [eq_of_beq h]
    · rw [Bool.and_eq_true, Bool.and_eq_true] at h; rw [eq_of_beq h.1.1, eq_of_beq h.1.2, eq_of_beq h.2]
    · rw [Bool.and_eq_true] at h; rw [eq_of_beq h.1, ih _ _ h.2]
    · rfl
    · rw [arr h]
    · rw [arr h]

/-- Reads alone. -/
def readS (P : Program) (w : World) {α : Type} : Sem α → Option α
  | .pure a => some a
  | .program k => readS P w (k P)
  | .mark _ k => readS P w k
  | .load _ a k => match w.cell? a with
    | some v => readS P w (k v)
    | none => none
  | _ => none
theorem readS_run {P : Program} {w : World} {α : Type} (s : Sem α) : ∀ {a : α}, readS P w s = some a → s.run P w = .ok a w := by
  induction s with
  | pure a => intro b h; simp [readS] at h; subst h; rfl
  | program k ih => intro b h; exact ih P h
  | mark m k ih => intro b h; exact ih h
  | load m a k ih =>
    intro b h
    simp only [readS] at h
    simp only [Sem.run]
    split at h
    · rename_i v hv
      rw [hv]
      exact ih v h
    · cases h
  | _ => intro b h; simp [readS] at h

def quietK : Op → Bool
  | .call c => match c.callee with | .builtin .len => true | _ => false
  | .alloc _ | .box _ _ | .buildSlice _ _ _ | .store _ _ _ | .makeSlice _ _ _ | .makeMap _ _ => false
  | _ => true
theorem evStep_val {ih : Ih} {P : Program} {O : Orc} {E : List LoopI} {G : Nat} {ops : Array Oper} {o : Oper} {a : Act} {w w1 : World} {v : Value} (h : evVal ih P O E G ops o a w = some (v, w1)) : evStep ih P O E G ops o a w = some (a.put o.dst v, w1) := by
  unfold evStep; rw [h]; rfl
/-- An operation that reads alone: its value. -/
def quietVal (P : Program) (O : Orc) (G : Nat) (ops : Array Oper) (o : Oper) (a : Act) (w : World) : Option Value :=
  if !guardOk ops o a.tmps then none else
  if Region.wanted o (yielded ops a.tmps) then
    if !(o.op.operands.toList.all (constOk G)) then none else
    if isDefer o.op || (yCall a.eval o.op).isSome then none else
    match O.op o.op (o.op.operands.toList.map a.eval) with
    | some v => some v
    | none =>
      match longV P O o.op (o.op.operands.toList.map a.eval) with
      | some v => some v
      | none =>
      match growV P O o.op (o.op.operands.toList.map a.eval) with
      | some v => some v
      | none =>
      match growL P O o.op (o.op.operands.toList.map a.eval) w with
      | some v => some v
      | none =>
      match growA P O o.op (o.op.operands.toList.map a.eval) w with
      | some _ => none
      | none =>
      match spL P O o.op (o.op.operands.toList.map a.eval) w with
      | some v => some v
      | none =>
      match spS P O o.op (o.op.operands.toList.map a.eval) w with
      | some _ => none
      | none =>
      match longM P O o.op (o.op.operands.toList.map a.eval) with
      | some _ => none
      | none =>
      match plainOp P a.eval o with
      | some (.value v) => some v
      | some _ => none
      | none => if okOp P a.eval o then
          match readS P w (execOp a.eval o) with
          | some (.value v) => some (fixV a.eval o v)
          | _ => none
        else none
  else some undef
theorem evVal_quiet {ih : Ih} {P : Program} {O : Orc} {E : List LoopI} {G : Nat} {ops : Array Oper} {o : Oper} {a : Act} {w : World} {v : Value} (h : quietVal P O G ops o a w = some v) : evVal ih P O E G ops o a w = some (v, w) := by
  unfold quietVal at h
  unfold evVal
  split at h
  · cases h
  rename_i hg
  rw [if_neg hg]
  split at h
  · rename_i hw
    rw [if_pos hw]
    split at h
    · cases h
    rename_i hc
    rw [if_neg hc]
    split at h
    · cases h
    rename_i hd
    rw [Bool.or_eq_true, not_or] at hd
    unfold evRun
    rw [if_neg hd.1]
    have hy : yCall a.eval o.op = none := by
      cases hy : yCall a.eval o.op with
      | none => rfl
      | some p => rw [hy] at hd; exact absurd rfl hd.2
    rw [hy]
    simp only []
    unfold evOp
    split at h
    · rename_i he; cases h; rw [he]
    · rename_i he
      rw [he]
      simp only []
      split at h
      · rename_i hlv; cases h; rw [hlv]
      rename_i hlv
      rw [hlv]
      simp only []
      split at h
      · rename_i hlv; cases h; rw [hlv]
      rename_i hlv
      rw [hlv]
      simp only []
      split at h
      · rename_i hlv; cases h; rw [hlv]
      rename_i hlv
      rw [hlv]
      simp only []
      split at h
      · cases h
      rename_i hlv
      rw [hlv]
      simp only []
      split at h
      · rename_i hlv; cases h; rw [hlv]
      rename_i hlv
      rw [hlv]
      simp only []
      split at h
      · cases h
      rename_i hlv
      rw [hlv]
      simp only []
      split at h
      · cases h
      rename_i hlm
      rw [hlm]
      simp only []
      split at h
      · rename_i hp; cases h; rw [hp]
      · cases h
      · rename_i hp
        rw [hp]
        simp only []
        split at h
        · rename_i hok
          rw [if_pos hok]
          split at h
          · rename_i hr
            cases h
            rw [readS_run _ hr]
            rfl
          · cases h
        · cases h
  · rename_i hw
    rw [if_neg hw]
    cases h
    rfl

/-- What an operation looks at: its operands, and what its guard reads. -/
def gslot (ops : Array Oper) (o : Oper) : Option Tmp := match o.guard with
  | none => none
  | some (j, _) => (ops[j]?).bind (·.dst)
def looks (ops : Array Oper) (o : Oper) : List Tmp :=
  (gslot ops o).toList ++ o.op.operands.toList.filterMap fun | .tmp t => some t | _ => none
theorem eval_same {a b : Act} {ops : Array Oper} {o : Oper} (h : ∀ t ∈ looks ops o, a.tmps[t]? = b.tmps[t]?) : ∀ x ∈ o.op.operands, a.eval x = b.eval x := by
  intro x hx
  cases x with
  | tmp t =>
    simp only [Act.eval, Array.getD_eq_getD_getElem?]
    rw [h t (List.mem_append_right _ (List.mem_filterMap.2 ⟨.tmp t, by simpa using hx, rfl⟩))]
  | const v => rfl
  | global g => rfl
  | func f => rfl
theorem okOp_congr {P : Program} {ρ ρ' : Operand → Value} {o : Oper} (h : ∀ x ∈ o.op.operands, ρ x = ρ' x) : okOp P ρ o = okOp P ρ' o := by
  obtain ⟨dst, op, type, pos, after, guard⟩ := o
  cases op <;> simp only [okOp] <;> simp only [Op.operands] at h
  case nilCheck x => rw [h x (by simp)]
  case typeAssert x _ _ _ => rw [h x (by simp)]
  case slice t x lo hi mx =>
    rw [h x (by simp)]
    have e1 : lo.map ρ = lo.map ρ' := by cases lo <;> simp_all
    have e2 : mx.map ρ = mx.map ρ' := by cases mx <;> simp_all
    rw [e1, e2]
  case binOp op t x y u => rw [h x (by simp), h y (by simp)]
  case call c =>
    have ha : c.args.map ρ = c.args.map ρ' := Array.map_congr_left fun x hx => h x (by simp [Call.operands, hx])
    cases hc : c.callee with
    | value f => simp only []; rw [h f (by simp [Call.operands, hc])]
    | invoke r name => simp only []; rw [h r (by simp [Call.operands, hc])]
    | builtin b => cases b <;> first | rfl | simp only [ha]
theorem fixV_congr {ρ ρ' : Operand → Value} {o : Oper} (h : ∀ x ∈ o.op.operands, ρ x = ρ' x) : fixV ρ o = fixV ρ' o := by
  obtain ⟨dst, op, type, pos, after, guard⟩ := o
  funext v
  unfold fixV
  cases op <;> first | rfl | skip
  simp only [Op.operands] at h
  case slice t x lo hi mx =>
    simp only []
    rw [h x (by simp)]
    have e2 : mx.map ρ = mx.map ρ' := by cases mx <;> simp_all
    rw [e2]
theorem fixN_congr {ρ ρ' : Operand → Value} {o : Oper} (h : ∀ x ∈ o.op.operands, ρ x = ρ' x) : fixN ρ o = fixN ρ' o := by
  funext n
  cases n <;> first | rfl | (simp only [fixN, fixV_congr h])
theorem evOp_congr {P : Program} {O : Orc} {ρ ρ' : Operand → Value} {o : Oper} (hs : noSelect o.op = true) (h : ∀ x ∈ o.op.operands, ρ x = ρ' x) (w : World) : evOp P O ρ o w = evOp P O ρ' o w := by
  have e1 : o.op.operands.toList.map ρ = o.op.operands.toList.map ρ' := List.map_congr_left fun x hx => h x (by simpa using hx)
  have e2 : execOp ρ o = execOp ρ' o := execOp_congr o (fun cs b hh => by rw [hh] at hs; cases hs) h
  have e3 : o.op.operands.toList.all (fun x => closedN 8 (ρ x)) = o.op.operands.toList.all (fun x => closedN 8 (ρ' x)) := by
    rw [Bool.eq_iff_iff, List.all_eq_true, List.all_eq_true]
    constructor
    · intro h2 x hx; rw [← h x (by simpa using hx)]; exact h2 x hx
    · intro h2 x hx; rw [h x (by simpa using hx)]; exact h2 x hx
  unfold evOp plainOp
  rw [e1, e2, e3, okOp_congr h, fixN_congr h]
theorem yCall_congr {ρ ρ' : Operand → Value} {o : Op} (h : ∀ x ∈ o.operands, ρ x = ρ' x) : yCall ρ o = yCall ρ' o := by
  unfold yCall
  cases o <;> first | rfl | skip
  rename_i c
  have ha : c.args.map ρ = c.args.map ρ' := Array.map_congr_left fun x hx => h x (by simp [Op.operands, Call.operands, hx])
  simp only [ha]
  cases hc : c.callee with
  | value f => simp only []; rw [h f (by simp [Op.operands, Call.operands, hc])]
  | invoke r name => rfl
  | builtin b => rfl
theorem evRun_congr {ih : Ih} {P : Program} {O : Orc} {E : List LoopI} {ρ ρ' : Operand → Value} {o : Oper} (hs : noSelect o.op = true) (h : ∀ x ∈ o.op.operands, ρ x = ρ' x) (w : World) : evRun ih P O E ρ o w = evRun ih P O E ρ' o w := by
  unfold evRun
  rw [evOp_congr hs h, yCall_congr h]
theorem evVal_congr {ih : Ih} {P : Program} {O : Orc} {E : List LoopI} {G : Nat} {ops : Array Oper} {o : Oper} {a b : Act} (hs : noSelect o.op = true) (h : ∀ t ∈ looks ops o, a.tmps[t]? = b.tmps[t]?) (w : World) : evVal ih P O E G ops o a w = evVal ih P O E G ops o b w := by
  have hx := eval_same h
  have hg : ∀ t, gslot ops o = some t → a.tmps[t]? = b.tmps[t]? := fun t ht => h t (List.mem_append_left _ (by rw [ht]; simp))
  have e1 : guardOk ops o a.tmps = guardOk ops o b.tmps := by
    unfold guardOk
    unfold gslot at hg
    cases hgd : o.guard with
    | none => rfl
    | some p =>
      obtain ⟨j, want⟩ := p
      rw [hgd] at hg
      simp only [] at hg ⊢
      cases hd : (ops[j]?).bind (·.dst) with
      | none => rfl
      | some t => simp only [Option.bind_some]; rw [hg t hd]
  have e2 : Region.wanted o (yielded ops a.tmps) = Region.wanted o (yielded ops b.tmps) := by
    unfold Region.wanted
    unfold gslot at hg
    cases hgd : o.guard with
    | none => rfl
    | some p =>
      obtain ⟨j, want⟩ := p
      rw [hgd] at hg
      simp only [] at hg ⊢
      unfold yielded
      cases hd : (ops[j]?).bind (·.dst) with
      | none => rfl
      | some t => simp only [Option.bind_some]; rw [hg t hd]
  unfold evVal
  rw [e1, e2, evRun_congr hs hx]

/-- What must have come ahead of each operation, as bits. -/
def masksGo : List Oper → List Nat → List Nat
  | [], acc => acc
  | o :: l, acc => masksGo l (acc ++ [o.after.foldl (fun m e => if Region.binds .any e then m ||| (acc.getD e.on 0 ||| (1 <<< e.on)) else m) 0])
def masks (ops : Array Oper) : List Nat := masksGo ops.toList []

/-- The same blocks, as far as the first one goes. -/
def objEq (x y : Option Obj) : Bool := match x, y with
  | some (.cells cs e fz), some (.cells ds f gz) => e == f && fz == gz && beqL (beqV 12) cs.toList ds.toList
  | some (.pending cs c), some (.pending ds d) => cs.isEmpty && ds.isEmpty && c == d
  | _, _ => false
theorem objEq_eq {x y : Option Obj} (h : objEq x y = true) : x = y := by
  unfold objEq at h
  split at h
  · simp only [Bool.and_eq_true] at h
    obtain ⟨⟨h1, h2⟩, h3⟩ := h
    have h4 := beqL_eq (fun x y hxy => beqV_eq hxy) h3
    rw [eq_of_beq h1, eq_of_beq h2, Array.ext' h4]
  · simp only [Bool.and_eq_true] at h
    obtain ⟨⟨h1, h2⟩, h3⟩ := h
    rw [Array.isEmpty_iff] at h1 h2
    rw [h1, h2, eq_of_beq h3]
  · cases h
def pureTo (w w1 : World) (v : Value) : Bool := (closedN 8 v || w1.heap.size == w.heap.size) && (List.range w.heap.size).all fun b => objEq w1.heap[b]? w.heap[b]?
/-- Ops beside one another: a call that may come ahead of, or behind, another one that acts. -/
def needCalm (P : Program) (ops : Array Oper) (ms : List Nat) (i : Nat) : Bool :=
  (List.range ops.size).any fun j => j != i && (match ops[j]? with | some p => !quietK p.op && !isMaker p.op | none => false) && !(ms.getD i 0).testBit j && !(ms.getD j 0).testBit i
/-- The same of what makes memory. -/
def needCalmM (ops : Array Oper) (ms : List Nat) (i : Nat) : Bool :=
  (List.range ops.size).any fun j => j != i && (match ops[j]? with | some p => isMaker p.op | none => false) && !(ms.getD i 0).testBit j && !(ms.getD j 0).testBit i
/-- The value of an operation that turns nothing. -/
def calmVal (ih : Ih) (P : Program) (O : Orc) (E : List LoopI) (G : Nat) (ops : Array Oper) (o : Oper) (a : Act) (w : World) : Option Value :=
  if isMaker o.op then (if guardOk ops o a.tmps && !Region.wanted o (yielded ops a.tmps) then some undef else none)
  else
    if quietK o.op then quietVal P O G ops o a w
    else match evVal ih P O E G ops o a w with
      | some (v, w1) => if pureTo w w1 v then some v else none
      | none => none
/-- The value of one that makes nothing besides. -/
def calmV0 (ih : Ih) (P : Program) (O : Orc) (E : List LoopI) (G : Nat) (ops : Array Oper) (o : Oper) (a : Act) (w : World) : Option Value :=
  match evVal ih P O E G ops o a w with
  | some (v, w1) => if w1.heap.size == w.heap.size && pureTo w w1 v then some v else none
  | none => none
theorem calm_spec {ih : Ih} {P : Program} {O : Orc} {E : List LoopI} {G : Nat} {ops : Array Oper} {o : Oper} {a : Act} {w : World} {v : Value} (h : calmVal ih P O E G ops o a w = some v) :
    ∃ w1, evVal ih P O E G ops o a w = some (v, w1) ∧ (w1.heap = w.heap ∨ closedN 8 v = true) ∧ ∀ b, b < w.heap.size → w1.heap[b]? = w.heap[b]? := by
  unfold calmVal at h
  split at h
  · split at h
    case isFalse => cases h
    rename_i hc
    cases h
    rw [Bool.and_eq_true] at hc
    refine ⟨w, ?_, .inl rfl, fun b _ => rfl⟩
    unfold evVal
    rw [if_neg (by rw [hc.1]; simp), if_neg (by simpa using hc.2)]
  · split at h
    · exact ⟨w, evVal_quiet h, .inl rfl, fun b _ => rfl⟩
    · split at h
      case h_2 => cases h
      rename_i v2 w1 he
      split at h
      case isFalse => cases h
      rename_i hp
      cases h
      unfold pureTo at hp
      rw [Bool.and_eq_true, List.all_eq_true, Bool.or_eq_true] at hp
      have hs : ∀ b, b < w.heap.size → w1.heap[b]? = w.heap[b]? := fun b hb => objEq_eq (hp.2 b (List.mem_range.2 hb))
      refine ⟨w1, he, ?_, hs⟩
      rcases hp.1 with h1 | h1
      · exact .inr h1
      · refine .inl (Array.ext_getElem? fun b => ?_)
        have h1 : w1.heap.size = w.heap.size := by simpa using h1
        rcases Nat.lt_or_ge b w.heap.size with h2 | h2
        · exact hs b h2
        · rw [Array.getElem?_eq_none h2, Array.getElem?_eq_none (by omega)]

/-- The evaluation in the text's order: the values, and the loud operations: number, frame, world behind; k: a block that was set apart, and what it holds. -/
structure Loud where
  i : Nat
  a : Act
  w : World
  k : Option (Nat × Array Value × TypeId × Shp)
def runC (ih : Ih) (P : Program) (O : Orc) (E : List LoopI) (G : Nat) (ops : Array Oper) (ms : List Nat) : List Oper → Nat → Act → World → List Value → List Loud → Nat → Option (Act × World × List Value × List Loud)
  | [], _, a, w, vs, ls, _ => some (a, w, vs, ls)
  | o :: l, i, a, w, vs, ls, nxt =>
    if isMaker o.op then
      if !guardOk ops o a.tmps then none else
      if Region.wanted o (yielded ops a.tmps) then
        if !(o.op.operands.toList.all (constOk G)) then none else
        match makerOf P a.eval o.op with
        | some (cs, e, sh) => runC ih P O E G ops ms l (i + 1) (a.put o.dst (mkv nxt sh)) (w.putObj nxt (smallO cs e sh)) (vs ++ [mkv nxt sh]) (ls ++ [⟨i, a, w.putObj nxt (smallO cs e sh), some (nxt, cs, e, sh)⟩]) (nxt + 1)
        | none => none
      else runC ih P O E G ops ms l (i + 1) (a.put o.dst undef) w (vs ++ [undef]) ls (nxt + 1)
    else
      match (if quietK o.op then quietVal P O G ops o a w else if needCalm P ops ms i then calmVal ih P O E G ops o a w else if needCalmM ops ms i then calmV0 ih P O E G ops o a w else none) with
      | some v => runC ih P O E G ops ms l (i + 1) (a.put o.dst v) w (vs ++ [v]) ls nxt
      | none => match evVal ih P O E G ops o a w with
        | some (v, w1) => runC ih P O E G ops ms l (i + 1) (a.put o.dst v) w1 (vs ++ [v]) (ls ++ [⟨i, a, w1, none⟩]) nxt
        | none => none
def slotEq (x y : Option Value) : Bool := match x, y with
  | some v, some u => beqV 12 v u
  | none, none => true
  | _, _ => false
theorem slotEq_eq {x y : Option Value} (h : slotEq x y = true) : x = y := by
  unfold slotEq at h
  split at h
  · rw [beqV_eq h]
  · rfl
  · cases h
def worldAt (w : World) (ls : List Loud) (s : Nat) : World := match s with
  | 0 => w
  | s + 1 => match ls[s]? with | some l => l.w | none => w
/-- The loud ones are as they were found. -/
def loudOk (ih : Ih) (P : Program) (O : Orc) (E : List LoopI) (G : Nat) (ops : Array Oper) (vs : List Value) (w : World) (l : Loud) : Prop :=
  ∃ o v, ops[l.i]? = some o ∧ vs[l.i]? = some v ∧ match l.k with
    | none => evVal ih P O E G ops o l.a w = some (v, l.w)
    | some (b, cs, e, sh) => makerOf P l.a.eval o.op = some (cs, e, sh) ∧ guardOk ops o l.a.tmps = true ∧ Region.wanted o (yielded ops l.a.tmps) = true ∧ o.op.operands.toList.all (constOk G) = true ∧ v = mkv b sh ∧ l.w = w.putObj b (smallO cs e sh)
def loudsOk (ih : Ih) (P : Program) (O : Orc) (E : List LoopI) (G : Nat) (ops : Array Oper) (vs : List Value) : World → List Loud → Prop
  | _, [] => True
  | w, l :: ls => loudOk ih P O E G ops vs w l ∧ loudsOk ih P O E G ops vs l.w ls
/-- All that lay slot t come behind operation i. -/
def anti (ops : Array Oper) (ms : List Nat) (i : Nat) (t : Tmp) : Bool :=
  (List.range ops.size).all fun j => match ops[j]? with | some p => p.dst != some t || (ms.getD j 0).testBit i | none => true
/-- The frame as operation i sees it. -/
def view (ops : Array Oper) (ms : List Nat) (a F : Act) (i : Nat) (o : Oper) : Act :=
  { F with tmps := (looks ops o).foldl (fun T t => if anti ops ms i t then (match a.tmps[t]? with | some v => T.setIfInBounds t v | none => T) else T) F.tmps }
theorem view_at {ops : Array Oper} {ms : List Nat} {a F : Act} {i : Nat} {o : Oper} (hs : F.tmps.size = a.tmps.size) {t : Tmp} (ht : t ∈ looks ops o) : (view ops ms a F i o).tmps[t]? = if anti ops ms i t then a.tmps[t]? else F.tmps[t]? := by
  have key : ∀ (L : List Tmp) (T : Array Value), T.size = a.tmps.size → ∀ t, (L.foldl (fun T t => if anti ops ms i t then (match a.tmps[t]? with | some v => T.setIfInBounds t v | none => T) else T) T)[t]? = if t ∈ L ∧ anti ops ms i t = true then a.tmps[t]? else T[t]? := by
    intro L
    induction L with
    | nil => intro T hT t; simp
    | cons x L ih =>
      intro T hT t
      rw [List.foldl_cons]
      have hsz : (if anti ops ms i x then (match a.tmps[x]? with | some v => T.setIfInBounds x v | none => T) else T).size = a.tmps.size := by
        split
        · split
          · simpa using hT
          · exact hT
        · exact hT
      rw [ih _ hsz t]
      have hx : (if anti ops ms i x then (match a.tmps[x]? with | some v => T.setIfInBounds x v | none => T) else T)[t]? = if t = x ∧ anti ops ms i x = true then a.tmps[t]? else T[t]? := by
        by_cases ha : anti ops ms i x = true
        · rw [if_pos ha]
          cases hv : a.tmps[x]? with
          | none =>
            simp only []
            by_cases e : t = x
            · subst e
              rw [if_pos ⟨rfl, ha⟩, hv, Array.getElem?_eq_none_iff]
              rw [Array.getElem?_eq_none_iff] at hv
              omega
            · rw [if_neg (fun h => e h.1)]
          | some v =>
            simp only [Array.getElem?_setIfInBounds]
            by_cases e : t = x
            · subst e
              have : t < a.tmps.size := (Array.getElem?_eq_some_iff.1 hv).1
              have h2 : t < T.size := by rw [hT]; exact this
              simp [ha, hv, h2]
            · rw [if_neg (fun h => e h.symm), if_neg (fun h => e h.1)]
        · rw [if_neg ha, if_neg (fun h => ha h.2)]
      rw [hx]
      by_cases h1 : t ∈ L ∧ anti ops ms i t = true
      · rw [if_pos h1, if_pos ⟨List.mem_cons_of_mem _ h1.1, h1.2⟩]
      · rw [if_neg h1]
        by_cases e : t = x
        · subst e
          by_cases ha : anti ops ms i t = true
          · rw [if_pos ⟨rfl, ha⟩, if_pos ⟨List.mem_cons_self, ha⟩]
          · rw [if_neg (fun h => ha h.2), if_neg (fun h => ha h.2)]
        · rw [if_neg (fun h => e h.1), if_neg (fun h => h1 ⟨(List.mem_cons.1 h.1).resolve_left e, h.2⟩)]
  unfold view
  simp only []
  rw [key _ _ hs t]
  by_cases ha : anti ops ms i t = true
  · rw [if_pos ⟨ht, ha⟩, if_pos ha]
  · rw [if_neg (fun h => ha h.2), if_neg ha]
def opChk (ih : Ih) (P : Program) (O : Orc) (E : List LoopI) (G : Nat) (ops : Array Oper) (ms : List Nat) (a F : Act) (w : World) (vs : List Value) (ls : List Loud) (dsts : List Tmp) (i : Nat) (o : Oper) : Bool :=
  noSelect o.op &&
  (o.after.all fun e => !Region.binds .any e || decide (e.on < i)) &&
  (match o.dst with | some t => decide (t < a.tmps.size) && slotEq F.tmps[t]? vs[i]? | none => true) &&
  ((looks ops o).all fun t => !dsts.contains t || anti ops ms i t || (List.range ops.size).any fun j => ((ops[j]?).bind (·.dst)) == some t && (ms.getD i 0).testBit j) &&
  (match ls.find? (fun l => l.i == i) with
   | some l => (looks ops o).all fun t => slotEq l.a.tmps[t]? (view ops ms a F i o).tmps[t]?
   | none => (List.range (ls.length + 1)).all fun s =>
      !((ls.take s).all (fun l => !(ms.getD l.i 0).testBit i) && (ls.drop s).all (fun l => l.k.isSome || !(ms.getD i 0).testBit l.i)) ||
      slotEq (calmVal ih P O E G ops o (view ops ms a F i o) (worldAt w ls s)) vs[i]?)
def chainOk (ms : List Nat) : List Loud → Bool
  | [] => true
  | l :: ls => ls.all (fun k => (k.k.isSome || (ms.getD k.i 0).testBit l.i) && k.i != l.i && (match k.k, l.k with | some x, some y => x.1 != y.1 | _, _ => true)) && chainOk ms ls
/-- The blocks that were set apart are, till they are made. -/
def apartOk (base : Nat) (w : World) (ls : List Loud) : Bool :=
  (List.range ls.length).all fun m => match ls[m]? with
    | some l => (match l.k with
      | some x => decide (base ≤ x.1) && (List.range (m + 1)).all fun s => pcode (worldAt w ls s) x.1 == some 9
      | none => true)
    | none => true
def drawOk (ih : Ih) (P : Program) (O : Orc) (E : List LoopI) (G : Nat) (ops : Array Oper) (base : Nat) (a F : Act) (w : World) (vs : List Value) (ls : List Loud) : Bool :=
  let ms := masks ops
  let dsts := ops.toList.filterMap (·.dst)
  F.tmps.size == a.tmps.size && vs.length == ops.size && F.defers.isEmpty &&
  ((List.range a.tmps.size).all fun t => dsts.contains t || slotEq F.tmps[t]? a.tmps[t]?) &&
  ((List.range ops.size).all fun i => match ops[i]? with | some o => opChk ih P O E G ops ms a F w vs ls dsts i o | none => false) &&
  chainOk ms ls && ls.all (fun l => decide (l.i < ops.size)) && apartOk base w ls
def reserveN : Nat → World → World
  | 0, w => w
  | n + 1, w => reserveN n (reserve w)
def allocs (P : Program) (ops : Array Oper) : Nat := (ops.toList.filter fun o => isMaker o.op).length
def evDraw (ih : Ih) (P : Program) (O : Orc) (E : List LoopI) (G : Nat) (ops : Array Oper) (a : Act) (w : World) : Option (Act × World) :=
  match runC ih P O E G ops (masks ops) ops.toList 0 a (reserveN (allocs P ops) w) [] [] w.heap.size with
  | some (F, w1, vs, ls) => if drawOk ih P O E G ops w.heap.size a F (reserveN (allocs P ops) w) vs ls then some (F, w1) else none
  | none => none
end Go.Proofs.YtfppinabdalblaaGreat
