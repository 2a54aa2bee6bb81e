/- Reflection, 8: the evaluator, and that what it finds is so in every world that is related. No program is named here. -/
import Derived.Test.YtfppinabdalblaaGreatRefl7
import Derived.OrdersIn
import Derived.RangeFuncLeaves
import Derived.RangeFuncRecord
import Derived.RangeFuncCalls
namespace Go.Proofs.YtfppinabdalblaaGreat
open Go.RowKit
set_option linter.unusedVariables false
set_option linter.unusedSimpArgs false

/-- What is known ahead: of single operations, and of calls. -/
structure Orc where
  op : Op → List Value → Option Value
  fn : FuncId → Array Value → World → Option Value
  long : Bool := false
  sp : Nat := 0
  mkL : FuncId → Array Value → World → Option (Array Value × TypeId) := fun _ _ _ => .none
  mkS : FuncId → Array Value → World → Option (Array Value × TypeId × Nat) := fun _ _ _ => .none
def Orc.none : Orc := { op := fun _ _ => .none, fn := fun _ _ _ => .none }
/-- Operations on long rows: what they tell; a long row is made. -/
def longV (P : Program) (O : Orc) (o : Op) (vs : List Value) : Option Value :=
  if O.long then
    match o with
    | .call c => match c.callee, c.argTypes.toList, vs with
      | .builtin .len, [t], [.complex .f32 _ 0] => match P.underlying t with
        | some (.slice _) => some (.float .f64 0)
        | _ => none
      | _, _, _ => none
    | .indexAddr t _ _ => match vs with
      | [.complex .f32 b 0, .int _ n] => match P.underlying t with
        | some (.slice e) => if (P.info? e).map (·.size) == some 1 && (decide (0 ≤ n) && decide (n < 77)) then some (.pointer (some ⟨b, n.toNat, none⟩)) else none
        | _ => none
      | [.complex .f32 b 0, .float _ k] => match P.underlying t with
        | some (.slice e) => if (P.info? e).map (·.size) == some 1 && (decide (1 ≤ k) && decide (k ≤ O.sp)) then some (.complex .f32 b (2 * (4096 + (k - 1)) + 2)) else none
        | _ => none
      | _ => none
    | _ => none
  else none
def longM (P : Program) (O : Orc) (o : Op) (vs : List Value) : Option TypeId :=
  if O.long then
    match o with
    | .makeSlice t _ _ => match vs with
      | [.float .f64 0, .float .f64 0] => match P.underlying t with
        | some (.slice e) => match P.info? e with
          | some i => match i.zero with
            | some (.int .u64 0) => if i.size == 1 && decide (i.bytes ≤ 8) then some e else none
            | _ => none
          | none => none
        | _ => none
      | _ => none
    | _ => none
  else none
/-- Rows that grow: how long they are, where their places are; what stands at a place; one more. -/
def growV (P : Program) (O : Orc) (o : Op) (vs : List Value) : Option Value :=
  if O.long then
    match o with
    | .call c => match c.callee, c.argTypes.toList, vs with
      | .builtin .len, [t], [.complex .f32 _ k] => match P.underlying t with
        | some (.slice _) => if k % 2 == 1 then some (.int .i64 ((k / 2 : Nat) : Int)) else none
        | _ => none
      | _, _, _ => none
    | .indexAddr t _ _ => match vs with
      | [.complex .f32 b k, .int _ i] => match P.underlying t with
        | some (.slice e) => if (P.info? e).map (·.size) == some 1 && (k % 2 == 1 && (decide (0 ≤ i) && (decide (i.toNat < k / 2) && decide (k / 2 < 64)))) then some (.complex .f32 b (2 * (64 * (k / 2) + i.toNat) + 2)) else none
        | _ => none
      | _ => none
    | _ => none
  else none
def growL (P : Program) (O : Orc) (o : Op) (vs : List Value) (w : World) : Option Value :=
  if O.long then
    match o with
    | .load t _ => match vs with
      | [.complex .f32 b k] => match P.underlying t with
        | some (.int _) => if k % 2 == 0 && decide (2 ≤ k) then match w.heap[b]? with
            | some (.pending cs _) => if szOf cs == 1 && cs.size == (k / 2 - 1) / 64 then cs[(k / 2 - 1) % 64]? else none
            | _ => none
          else none
        | _ => none
      | _ => none
    | _ => none
  else none
/-- A place that is told apart: what stands there; what is put there. -/
def spL (P : Program) (O : Orc) (o : Op) (vs : List Value) (w : World) : Option Value :=
  if O.long then
    match o with
    | .load t _ => match vs with
      | [.complex .f32 b k] => match P.underlying t with
        | some (.int _) => if k % 2 == 0 && decide (8194 ≤ k) then match w.heap[b]? with
            | some (.cells _ e _) => if decide (k / 2 - 4097 < spM e) then some (if spD e (k / 2 - 4097) = 0 then .int .u64 0 else .float .f64 (spD e (k / 2 - 4097) - 1)) else none
            | _ => none
          else none
        | _ => none
      | _ => none
    | _ => none
  else none
def spC : Value → Option Nat
  | .int .u64 0 => some 0
  | .float _ j => if j < 999 then some (j + 1) else none
  | _ => none
def spS (P : Program) (O : Orc) (o : Op) (vs : List Value) (w : World) : Option World :=
  if O.long then
    match o with
    | .store t _ _ => match vs with
      | [.complex .f32 b k, v] => match P.underlying t with
        | some (.int _) => if k % 2 == 0 && decide (8194 ≤ k) then match w.heap[b]? with
            | some (.cells cs e fz) => if decide (k / 2 - 4097 < spM e) && (fz == (0, 0) && (cs.size != 0 && (P.info? t).map (·.size) == some 1)) then match spC v with
              | some d => some { w with heap := w.heap.setIfInBounds b (.cells cs (spSet e (k / 2 - 4097) d) (0, 0)) }
              | none => none
              else none
            | _ => none
          else none
        | _ => none
      | _ => none
    | _ => none
  else none
def isNumV : Value → Bool
  | .float _ _ | .int _ _ => true
  | _ => false
def growN (P : Program) (O : Orc) (o : Op) (vs : List Value) (w : World) : Option (Value × World) :=
  if O.long then
    match o with
    | .call c => match c.callee, c.argTypes.toList, vs with
      | .builtin .append, [t, t'], [s, .slice (some a) 1 _] => if t == t' then match P.underlying t with
        | some (.slice e) => match P.info? e with
          | some i => match i.zero with
            | some (.int .u64 0) => if i.size == 1 && i.bytes == 8 && a.spot.isNone then match w.cell? a with
              | some v => if isNumV v then match s with
                | .slice none 0 0 => if w.heap.toList.all (fun o => match o with | .pending cs _ => cs.isEmpty | _ => true) then some (.complex .f32 w.heap.size 3, { w with heap := w.heap.push (.pending #[v] e) }) else none
                | .complex .f32 b k => match w.heap[b]? with
                  | some (.pending cs e2) => if k == 2 * cs.size + 1 && (decide (cs.size < 60) && (e2 == e && szOf cs == 1)) then some (.complex .f32 b (2 * (cs.size + 1) + 1), w.putObj b (.pending (cs.push v) e)) else none
                  | _ => none
                | _ => none
              else none
              | none => none
            else none
            | _ => none
          | none => none
        | _ => none
        else none
      | _, _, _ => none
    | _ => none
  else none
/-- The same of structs of six numbers: what they hold is not kept. -/
def growS (P : Program) (O : Orc) (o : Op) (vs : List Value) (w : World) : Option (Value × World) :=
  if O.long then
    match o with
    | .call c => match c.callee, c.argTypes.toList, vs with
      | .builtin .append, [t, t'], [s, .slice (some a) 1 _] => if t == t' then match P.underlying t with
        | some (.slice e) => match P.info? e with
          | some i => match i.zero with
            | some z => if (i.size == 6 && (i.bytes == 48 && (z.cells.size == 6 && a.spot.isNone))) && (List.range 6).all (fun j => match w.cell? (a.add j) with | some v => isNumV v | none => false) then match s with
                | .slice none 0 0 => if w.heap.toList.all (fun o => match o with | .pending cs _ => cs.isEmpty | _ => true) then some (.complex .f32 w.heap.size 3, { w with heap := w.heap.push (.pending #[.bool true] e) }) else none
                | .complex .f32 b k => match w.heap[b]? with
                  | some (.pending cs e2) => if k == 2 * cs.size + 1 && (decide (cs.size < 60) && (e2 == e && szOf cs == 6)) then some (.complex .f32 b (2 * (cs.size + 1) + 1), w.putObj b (.pending (cs.push (.bool true)) e)) else none
                  | _ => none
                | _ => none
              else none
            | none => none
          | none => none
        | _ => none
        else none
      | _, _, _ => none
    | _ => none
  else none
def growA (P : Program) (O : Orc) (o : Op) (vs : List Value) (w : World) : Option (Value × World) :=
  match growN P O o vs w with
  | some p => some p
  | none => growS P O o vs w
def constOk (G : Nat) : Operand → Bool
  | .const v => closedN 8 v
  | .global g => decide (g < G)
  | _ => true
def closedNext : Next → Bool
  | .value v => closedN 8 v
  | .skip => true
  | .enter _ args => args.toList.all (closedN 8)
  | _ => false
def noSelect : Op → Bool
  | .select _ _ => false
  | _ => true
def plainOp (P : Program) (ρ : Operand → Value) (o : Oper) : Option Next :=
  if noSelect o.op && o.op.operands.toList.all (fun x => closedN 8 (ρ x)) then
    match plainS P (execOp ρ o) with
    | some n => if closedNext n then some n else none
    | none => none
  else none
def isMM : Op → Bool
  | .makeMap _ none => true
  | _ => false
def evOp (P : Program) (O : Orc) (ρ : Operand → Value) (o : Oper) (w : World) : Option (Next × World) :=
  match O.op o.op (o.op.operands.toList.map ρ) with
  | some v => some (.value v, w)
  | none =>
    match longV P O o.op (o.op.operands.toList.map ρ) with
    | some v => some (.value v, w)
    | none =>
    match growV P O o.op (o.op.operands.toList.map ρ) with
    | some v => some (.value v, w)
    | none =>
    match growL P O o.op (o.op.operands.toList.map ρ) w with
    | some v => some (.value v, w)
    | none =>
    match growA P O o.op (o.op.operands.toList.map ρ) w with
    | some p => some (.value p.1, p.2)
    | none =>
    match spL P O o.op (o.op.operands.toList.map ρ) w with
    | some v => some (.value v, w)
    | none =>
    match spS P O o.op (o.op.operands.toList.map ρ) w with
    | some w1 => some (.skip, w1)
    | none =>
    match longM P O o.op (o.op.operands.toList.map ρ) with
    | some _ => some (.value (.complex .f32 w.heap.size 0), { w with heap := w.heap.push (.cells (Array.replicate 77 (.int .u64 0)) O.sp) })
    | none =>
    match plainOp P ρ o with
    | some n => some (n, w)
    | none =>
      if okOp P ρ o then
        match (execOp ρ o).run P w with
        | .ok n w1 => some (fixN ρ o n, w1)
        | .halt _ _ => none
      else if isMM o.op then some (.value (.map (some w.heap.size)), { w with heap := w.heap.push (.pending #[] 8) })
      else none

structure OrcOK (P : Program) (σ : Nat → Value) (W0 : World) (H : Nat) (O : Orc) : Prop where
  op : ∀ (o : Oper) (ρ ρ' : Operand → Value) (v : Value) (A : Ren), O.op o.op (o.op.operands.toList.map ρ) = some v → (∀ x ∈ o.op.operands, RV σ A (ρ x) (ρ' x)) →
    ∀ w', Below H W0 w' → ∃ v', (execOp ρ' o).run P w' = .ok (.value v') w' ∧ RV σ A v v'
  fn : ∀ (f : FuncId) (args args' : Array Value) (v : Value) (Γ : Gst) (A : Ren) (w w' : World), O.fn f args w = some v → RAr σ A args args' → WR σ W0 H Γ A w w' →
    Calls P f args' w' fun e w'' => ∃ v', e = .returned v' ∧ RV σ A v v' ∧ Ext w' w''
  long : O.long = true → ∃ L : Int, σ 0 = .int .i64 L ∧ 77 ≤ L ∧ L ≤ 1000000 ∧ O.sp ≤ 4 ∧ ∀ j, j < O.sp → ∃ p : Nat, σ (1 + j) = .int .i64 (p : Int) ∧ 77 ≤ p ∧ (p : Int) < L ∧ ∀ k, k < j → σ (1 + k) ≠ σ (1 + j)
  mkL : ∀ (f : FuncId) (args args' : Array Value) (cs : Array Value) (e : TypeId) (Γ : Gst) (A : Ren) (w w' : World), O.mkL f args w = some (cs, e) → RAr σ A args args' → WR σ W0 H Γ A w w' →
    Calls P f args' w' fun x w'' => ∃ (g : Nat) (L : Int) (c' : Nat) (cs' : Array Value) (e' : TypeId), x = .returned (.slice (some ⟨g, 0, none⟩) L.toNat c') ∧ Ext w' w'' ∧ w'.heap.size ≤ g ∧ w''.heap[g]? = some (.cells cs' e') ∧ CR σ A cs cs' ∧
      σ 0 = .int .i64 L ∧ 77 ≤ L ∧ L.toNat ≤ cs'.size ∧ TailS σ e L.toNat cs' ∧ cs.size ≤ 77
  mkS : ∀ (f : FuncId) (args args' : Array Value) (cs : Array Value) (e : TypeId) (n : Nat) (Γ : Gst) (A : Ren) (w w' : World), O.mkS f args w = some (cs, e, n) → RAr σ A args args' → WR σ W0 H Γ A w w' →
    Calls P f args' w' fun x w'' => ∃ (g c' : Nat) (cs' : Array Value) (e' : TypeId), x = .returned (.slice (some ⟨g, 0, none⟩) n c') ∧ Ext w' w'' ∧ w'.heap.size ≤ g ∧ w''.heap[g]? = some (.cells cs' e') ∧ CR σ A cs cs' ∧ n ≤ c' ∧ 0 < n
theorem OrcOK.none (P : Program) (σ : Nat → Value) (W0 : World) (H : Nat) : OrcOK P σ W0 H Orc.none :=
  ⟨fun o ρ ρ' v A h => by simp [Orc.none] at h, fun f args args' v Γ A w w' h => by simp [Orc.none] at h, fun h => by simp [Orc.none] at h, fun f args args' cs e Γ A w w' h => by simp [Orc.none] at h, fun f args args' cs e n Γ A w w' h => by simp [Orc.none] at h⟩

section
variable {P : Program} {σ : Nat → Value} {W0 : World} {H : Nat} {O : Orc}

theorem closedNext_rn {A : Ren} {n : Next} (h : closedNext n = true) : RN σ A n n := by
  cases n <;> simp only [closedNext] at h <;> first | (cases h; done) | skip
  · exact .value _ _ (closed_rv h)
  · exact .skip
  · exact .enter _ _ _ ⟨rfl, fun i v v' h1 h2 => by rw [h1] at h2; cases h2; exact closed_rv (all_get h h1)⟩
theorem plainOp_sound {A : Ren} {ρ ρ' : Operand → Value} {o : Oper} {n : Next} (hr : ∀ x ∈ o.op.operands, RV σ A (ρ x) (ρ' x)) (h : plainOp P ρ o = some n) (w' : World) :
    (execOp ρ' o).run P w' = .ok n w' ∧ RN σ A n n := by
  unfold plainOp at h
  split at h
  case isFalse => cases h
  rename_i hc
  rw [Bool.and_eq_true, List.all_eq_true] at hc
  split at h
  case h_2 => cases h
  rename_i n2 hp
  split at h
  case isFalse => cases h
  rename_i hcn
  cases h
  have e : execOp ρ o = execOp ρ' o := by
    refine execOp_congr o (fun cs b hs => ?_) fun x hx => ?_
    · have := hc.1
      rw [hs] at this
      cases this
    · exact (closed_eq (hc.2 x (by simpa using hx)) (hr x hx)).symm
  rw [← e]
  exact ⟨plainS_run _ w' hp, closedNext_rn hcn⟩
theorem run_makeMap {o : Oper} (h : isMM o.op = true) (ρ : Operand → Value) (w : World) : (execOp ρ o).run P w = .ok (.value (.map (some w.heap.size))) { w with heap := w.heap.push (.map #[] 0) } := by
  obtain ⟨dst, op, type, pos, after, guard⟩ := o
  cases op <;> first | (cases h; done) | skip
  rename_i t r
  cases r with
  | some x => cases h
  | none =>
    simp only [execOp, Option.map_none]
    show Sem.run P (do pure (Next.value (← Instr.makeMap t none))) w = _
    simp [Instr.makeMap, newObj, Sem.run_bind, Result.andThen, go_sem]
    rfl
section
variable {Γ : Gst} {A : Ren} {w w' : World}
theorem WR.extR {w'' : World} (h : WR σ W0 H Γ A w w') (hE : Ext w' w'') : WR σ W0 H Γ A w w'' :=
  { tape := h.tape, size := h.size, full := h.full, lt := fun b hb => Nat.lt_of_lt_of_le (h.lt b hb) hE.size, inj := h.inj,
    obj := fun b o ho => by
      rcases h.obj b o ho with h1 | ⟨cs, e, fz, cs', e', fz', h1, h2, h3, h4⟩
      · exact .inl h1
      · have hb : A.f b < w'.heap.size := by
          rcases Nat.lt_or_ge (A.f b) w'.heap.size with h5 | h5
          · exact h5
          · rw [Array.getElem?_eq_none h5] at h2; cases h2
        exact .inr ⟨cs, e, fz, cs', e', fz', h1, (hE.block _ hb).trans h2, h3, h4⟩,
    ext := h.ext.trans (Below.mono hE h.hle), hle := Nat.le_trans h.hle hE.size,
    loops := fun g hg => by
      obtain ⟨h1, ⟨c, h2, h3⟩, h4⟩ := h.loops g hg
      exact ⟨h1, ⟨c, h2, (hE.block _ (h.lt _ h1)).trans h3⟩, h4⟩,
    resv := fun p hp => by
      obtain ⟨h1, h2, h3, h4⟩ := h.resv p hp
      exact ⟨h1, h2, (hE.block _ (h.lt _ h1)).trans h3, h4⟩,
    resd := h.resd,
    dead := fun k hk => by
      obtain ⟨h1, h2⟩ := h.dead k hk
      exact ⟨(hE.block _ (Array.getElem?_eq_some_iff.1 h1).1).trans h1, h2⟩,
    long := fun b hb => (h.long b hb).of (h.long b hb).1 rfl rfl (hE.block _ (h.lt _ (h.long b hb).1)),
    grow := fun b n u hb => (h.grow b n u hb).of (Ren.le.refl A) rfl (fun g _ _ _ _ hg _ => hE.block g (Array.getElem?_eq_some_iff.1 hg).1) (fun b' g hb' hne _ hg => hg b' hb' hne), gun := h.gun, gone := h.gone }
end
/-- A row grows. -/
def Ren.addG (A : Ren) (b n : Nat) (v' : Value) : Ren := ⟨A.f, A.d, A.t, fun c m u => A.g c m u ∨ (c = b ∧ m = n ∧ u = v')⟩
theorem Ren.addG_le (A : Ren) (b n : Nat) (v' : Value) : A.le (A.addG b n v') := ⟨fun b hb => hb, fun b hb => rfl, fun b hb => hb, fun b n u hb => .inl hb⟩
theorem WR.growMore {σ : Nat → Value} {W0 : World} {H : Nat} {Γ : Gst} {A : Ren} {w w' w'' : World} (h : WR σ W0 H Γ A w w') {b n : Nat} {v' : Value} (hA : A.g b n v') {cs : Array Value} {e : TypeId} (hb : w.heap[b]? = some (.pending cs e)) (hn : n = cs.size)
    {xs : List Value} (m1 : w'.ownsRow H e (szOf cs) v' n xs) (m2 : szOf cs = 1 → ∀ (i : Nat) (v : Value), cs[i]? = some v → ∃ u, xs[i]? = some u ∧ RV σ A v u) (m3 : ∀ b', A.d b' → b' ≠ b → v'.ownBlock ≠ some (A.f b'))
    (hgrow : w'.grownBy w'' v'.ownBlock) {g cap : Nat} {us : List Value} {v : Value} (hown : w''.ownsRow H e (szOf cs) (.slice (some ⟨g, 0, none⟩) (n + 1) cap) (n + 1) (xs ++ us)) (hat : v'.ownBlock = some g ∨ g = w'.heap.size) (hv : szOf cs = 1 → ∃ u, us = [u] ∧ RV σ A v u) :
    WR σ W0 H Γ (A.addG b (n + 1) (.slice (some ⟨g, 0, none⟩) (n + 1) cap)) (w.putObj b (.pending (cs.push v) e)) w'' := by
  have hle := A.addG_le b (n + 1) (.slice (some ⟨g, 0, none⟩) (n + 1) cap)
  have hbd : A.d b := (h.grow b n v' hA).1
  have hbl : b < w.heap.size := h.size b hbd
  have hcs : cs.size ≠ 0 := by
    obtain ⟨_, cs2, e2, k1, k2, _⟩ := h.grow b n v' hA
    rw [hb] at k1
    cases k1
    exact k2
  have real : ∀ c, A.d c → c ≠ b → w''.heap[A.f c]? = w'.heap[A.f c]? := fun c hc hne => hgrow.block _ (h.lt c hc) (fun e9 => m3 c hc hne e9.symm)
  have old : ∀ c, c ≠ b → (w.putObj b (.pending (cs.push v) e)).heap[c]? = w.heap[c]? := fun c hc => World.putObj_heap_other hc
  have hbH : ∀ k, v'.ownBlock = some k → H ≤ k := fun k hk => by
    rcases m1.2 with ⟨q1, _⟩ | ⟨g2, cap2, cur, q1, q2, _⟩
    · rw [q1] at hk; cases hk
    · rw [q1] at hk
      have : g2 = k := by simpa [Value.ownBlock] using hk
      omega
  refine { tape := h.tape, size := fun c hc => by simpa using h.size c hc, full := fun c hc => ?_, lt := fun c hc => Nat.lt_of_lt_of_le (h.lt c hc) hgrow.size, inj := h.inj, obj := fun c o ho => ?_, ext := ?_, hle := Nat.le_trans h.hle hgrow.size, loops := fun g2 hg2 => ?_, resv := fun p hp => ?_, resd := fun c hd hpb => ?_, dead := fun k hk => ?_, long := fun c hc2 => ?_, grow := fun c m u2 hc2 => ?_, gun := fun c m u1 u2 q1 q2 => ?_, gone := fun c m u1 b2 n2 u2 q1 q2 => ?_ }
  · by_cases e2 : c = b
    · exact .inl (e2 ▸ hbd)
    · rw [old c e2]; exact h.full c (by simpa using hc)
  · by_cases e2 : c = b
    · subst e2
      rw [World.putObj_heap_same hbl] at ho
      cases ho
      exact .inl ⟨_, _, rfl⟩
    · rw [old c e2] at ho
      rcases h.obj c o ho with h1 | ⟨cs1, e1, fz1, cs1', e1', fz1', h1, h2, h3, h4⟩
      · exact .inl h1
      · have hcd : A.d c := h.has (h1 ▸ ho)
        exact .inr ⟨cs1, e1, fz1, cs1', e1', fz1', h1, (real c hcd e2).trans h2, h3.mono hle, h4⟩
  · exact h.ext.grown hgrow h.hle (fun k hk => hbH k hk)
  · obtain ⟨h1, ⟨c, h3, h4⟩, h5, h6, h7⟩ := h.loops g2 hg2
    have hne : g2.L.b ≠ b := fun e2 => by rw [e2, hb] at h3; cases h3; exact hcs rfl
    exact ⟨h1, ⟨c, (old _ hne).trans h3, (real _ h1 hne).trans h4⟩, h5.mono hle, h6, h7⟩
  · obtain ⟨h1, h3, h4, h5⟩ := h.resv p hp
    have hne : p.b ≠ b := fun e2 => by rw [e2, hb] at h3; cases h3; exact hcs rfl
    exact ⟨h1, (old _ hne).trans h3, (real _ h1 hne).trans h4, h5⟩
  · by_cases e2 : c = b
    · subst e2
      rw [World.putObj_heap_same hbl] at hpb
      have e3 : (cs.push v).size = 0 := by
        have e4 : Obj.pending (cs.push v) e = Obj.pending #[] 9 := Option.some.inj hpb
        injection e4 with e5 e6
        rw [e5]; rfl
      simp at e3
    · rw [old c e2] at hpb
      exact h.resd c hd hpb
  · obtain ⟨h1, h3, h4⟩ := h.dead k hk
    refine ⟨(hgrow.block _ (Array.getElem?_eq_some_iff.1 h1).1 (fun e9 => ?_)).trans h1, h3, h4⟩
    rcases m1.2 with ⟨q1, _⟩ | ⟨g2, cap2, cur, q1, _, q3, _⟩
    · rw [q1] at e9; cases e9
    · rw [q1] at e9
      have : k = g2 := by simpa [Value.ownBlock] using e9
      rw [← this, h1] at q3
      cases q3
  · have hne : c ≠ b := fun e2 => by
      obtain ⟨_, cs3, e3, fz3, ⟨k1, _⟩, _⟩ := h.long c hc2
      rw [e2, hb] at k1
      cases k1
    exact (h.long c hc2).of (h.long c hc2).1 rfl (old c hne) (real c (h.long c hc2).1 hne)
  · rcases hc2 with hc2 | ⟨rfl, rfl, rfl⟩
    · have hcb := h.gone _ _ _ _ _ _ hc2 hA
      subst hcb
      obtain ⟨k0, cs2, e2, k1, k2, k3, k4, _⟩ := h.grow _ _ _ hc2
      rw [hb] at k1
      cases k1
      exact ⟨k0, cs.push v, e, World.putObj_heap_same hbl, by simp, k3, by simp; omega, fun e9 => by simp at e9; omega⟩
    · refine ⟨hbd, cs.push v, e, World.putObj_heap_same hbl, by simp, by omega, by simp; omega, fun _ => ⟨xs ++ us, by rw [szOf_push hcs]; exact hown, fun hsz i x hx => ?_, fun b' hb' hne e9 => ?_⟩⟩
      · rw [szOf_push hcs] at hsz
        obtain ⟨u, rfl, hv2⟩ := hv hsz
        have m2 := m2 hsz
        rw [Array.getElem?_push] at hx
        have hxl : xs.length = n := by have := m1.1; rw [hsz] at this; omega
        split at hx
        · rename_i hi
          cases hx
          refine ⟨u, ?_, hv2.mono hle⟩
          rw [List.getElem?_append_right (by omega)]
          simp [hxl, hi, hn]
        · obtain ⟨y, y1, y2⟩ := m2 i x hx
          have hi : i < xs.length := by
            rcases Nat.lt_or_ge i xs.length with h6 | h6
            · exact h6
            · rw [List.getElem?_eq_none h6] at y1; cases y1
          exact ⟨y, by rw [List.getElem?_append_left hi]; exact y1, y2.mono hle⟩
      · have e10 : g = A.f b' := by simpa [Value.ownBlock, Ren.addG] using e9
        rcases hat with q | q
        · exact m3 b' hb' hne (by rw [q, e10])
        · have := h.lt b' hb'
          omega
  · rcases q1 with q1 | ⟨rfl, rfl, rfl⟩ <;> rcases q2 with q2 | ⟨q4, q5, q6⟩
    · exact h.gun _ _ _ _ q1 q2
    · exfalso
      have hcb := h.gone _ _ _ _ _ _ q1 hA
      obtain ⟨_, cs2, e2, k1, _, _, k4, _⟩ := h.grow _ _ _ q1
      rw [hcb, hb] at k1
      cases k1
      omega
    · exfalso
      obtain ⟨_, cs2, e2, k1, _, _, k4, _⟩ := h.grow _ _ _ q2
      rw [hb] at k1
      cases k1
      omega
    · exact q6.symm
  · rcases q1 with q1 | ⟨rfl, rfl, rfl⟩ <;> rcases q2 with q2 | ⟨q4, q5, q6⟩
    · exact h.gone _ _ _ _ _ _ q1 q2
    · rw [q4]; exact h.gone _ _ _ _ _ _ q1 hA
    · exact h.gone _ _ _ _ _ _ hA q2
    · exact q4.symm
theorem run_makeLong {t e : TypeId} {i : TypeInfo} (ht : P.underlying t = some (.slice e)) (hi : P.info? e = some i) (hz : i.zero = some (.int .u64 0)) (h1 : i.size = 1) (hby : i.bytes ≤ 8) {L : Int} (h77 : 77 ≤ L) (hL : L ≤ 1000000) (w : World) :
    ∃ cs' : Array Value, (Instr.makeSlice t (.int .i64 L) (.int .i64 L)).run P w = .ok (.slice (some ⟨w.heap.size, 0, none⟩) L.toNat L.toNat) (w.alloc (.cells cs' e)) ∧ cs'.size = L.toNat ∧ ∀ j, j < L.toNat → cs'[j]? = some (.int .u64 0) := by
  have hw : IntKind.i64.wrap L = L := by
    unfold IntKind.wrap
    simp [IntKind.bits]
    omega
  refine ⟨(Array.range (L.toNat * 1)).map ((#[Value.int .u64 0] : Array Value)[· % 1]!), ?_, by simp, fun j hj => ?_⟩
  · have e1 : ¬ (L < 0) := by omega
    have e2 : ¬ ((281474976710656 : Int) < i.bytes * L) := by
      have : (i.bytes : Int) * L ≤ 8 * 1000000 := Int.mul_le_mul (by omega) hL (by omega) (by omega)
      omega
    have e3 : ¬ L.toNat = 0 := by omega
    have hz0 : ∀ w, (zeroValue e).run P w = .ok (.int .u64 0) w := by
      intro w
      unfold zeroValue
      rw [Sem.run_bind, run_info hi]
      simp [Result.andThen, hz]
    have hroom : ∀ n w, (askRoom n).run P w = .ok () w := by
      intro n w
      unfold askRoom mark
      split <;> rfl
    simp [Instr.makeSlice, run_underlying ht, asInt, asIntOf, run_info hi, run_size hi, hz0, hroom, hw, h1, e1, e2, e3, newRow, newObj, Sem.run_bind, Result.andThen, go_sem, Value.cells]
    simp only [Sem.run]
    rfl
  · rw [Array.getElem?_map, Array.getElem?_range]
    simp [hj, Nat.mod_one]
theorem longV_sound {Γ : Gst} (hO : OrcOK P σ W0 H O) {A : Ren} {ρ ρ' : Operand → Value} {o : Oper} {v : Value} {w' : World} (hr : ∀ x ∈ o.op.operands, RV σ A (ρ x) (ρ' x))
    (h : longV P O o.op (o.op.operands.toList.map ρ) = some v) : ∃ v', (execOp ρ' o).run P w' = .ok (.value v') w' ∧ RV σ A v v' := by
  unfold longV at h
  split at h
  case isFalse => cases h
  rename_i hl
  obtain ⟨L, hL0, hL1, hL2, hS4, hSp⟩ := hO.long hl
  obtain ⟨dst, op, type, pos, after, guard⟩ := o
  cases op <;> first | (cases h; done) | skip
  case call c =>
    simp only [] at h
    split at h
    case h_2 => cases h
    rename_i t b hc ht hv
    split at h
    case h_2 => cases h
    rename_i e hu
    cases h
    have hlm : (Op.call c).operands.toList.map ρ = c.args.toList.map ρ := by simp [Op.operands, Call.operands, hc]
    rw [hlm] at hv
    obtain ⟨x, ha, hx⟩ : ∃ x, c.args.toList = [x] ∧ ρ x = .complex .f32 b 0 := by
      cases hcl : c.args.toList with
      | nil => rw [hcl] at hv; cases hv
      | cons y l =>
        rw [hcl] at hv
        cases l with
        | nil => exact ⟨y, rfl, by simpa using hv⟩
        | cons z l => simp at hv
    have ea : c.args = #[x] := Array.ext' (by simpa using ha)
    have et : c.argTypes = #[t] := Array.ext' (by simpa using ht)
    have hxr := hr x (by simp [Op.operands, Call.operands, hc, ea])
    rw [hx] at hxr
    generalize hq : ρ' x = u at hxr
    cases hxr with
    | grow _ _ n r c h1 h2 => exfalso; omega
    | gptr _ _ n i r c h1 h2 h3 h4 => exfalso; omega
    | lptr _ _ j p h1 h2 h3 h4 => exfalso; omega
    | long _ c' L2 h1 h2 h3 =>
      rw [hL0] at h3
      cases h3
      refine ⟨.int .i64 L, ?_, ?_⟩
      · simp only [execOp, resolve, hc]
        show Sem.run P (do pure (Next.value (← Builtin.len_ c.argTypes type (c.args.map ρ')))) w' = _
        rw [ea, et]
        simp [Builtin.len_, run_underlying hu, hq, Sem.run_bind, Result.andThen, go_sem, goInt]
        omega
      · have := RV.tok (σ := σ) (A := A) .f64 0
        rw [hL0] at this
        exact this
  case indexAddr t x i =>
    simp only [] at h
    split at h
    case h_3 => cases h
    case h_1 =>
      rename_i b k n hv
      have hlm : (Op.indexAddr t x i).operands.toList.map ρ = [ρ x, ρ i] := by simp [Op.operands]
      rw [hlm] at hv
      simp only [List.cons.injEq, and_true] at hv
      obtain ⟨hx, hi⟩ := hv
      split at h
      case h_2 => cases h
      rename_i e hu
      split at h
      case isFalse => cases h
      rename_i hcond
      cases h
      rw [Bool.and_eq_true, Bool.and_eq_true, decide_eq_true_eq, decide_eq_true_eq] at hcond
      obtain ⟨hsz, hn0, hn7⟩ := hcond
      obtain ⟨m, rfl⟩ := Int.eq_ofNat_of_zero_le hn0
      have hxr := hr x (by simp [Op.operands])
      have hir := hr i (by simp [Op.operands])
      rw [hx] at hxr
      rw [hi] at hir
      have hz : ∀ w, (sizeOf e).run P w = .ok 1 w := by
        intro w
        cases hi2 : P.info? e with
        | none => rw [hi2] at hsz; simp at hsz
        | some j =>
          rw [hi2] at hsz
          have : j.size = 1 := by simpa using hsz
          rw [run_size hi2, this]
      generalize hq : ρ' x = u at hxr
      generalize hq2 : ρ' i = u2 at hir
      cases hir
      cases hxr with
      | grow _ _ n r c h1 h2 => exfalso; omega
      | gptr _ _ n i r c h1 h2 h3 h4 => exfalso; omega
      | lptr _ _ j p h1 h2 h3 h4 => exfalso; omega
      | long _ c' L2 h1 h2 h3 =>
        rw [hL0] at h3
        cases h3
        refine ⟨.pointer (some ⟨A.f b, m, none⟩), ?_, ?_⟩
        · simp only [execOp]
          show Sem.run P (do pure (Next.value (← Instr.indexAt t (ρ' x) (ρ' i)))) w' = _
          have h4 : (0 : Int) ≤ (m : Int) ∧ (m : Int) < (L.toNat : Int) := ⟨by omega, by omega⟩
          have h5 : m < L.toNat := by omega
          rw [hq, hq2]
          simp [Instr.indexAt, asIntOf, run_underlying hu, hz, Sem.run_bind, Result.andThen, h4, h5, go_sem, Addr.add]
          intro h0
          exact h0.symm
        · exact .ptr ⟨b, m, none⟩ h1
    case h_2 =>
      rename_i b fk k hv
      have hlm : (Op.indexAddr t x i).operands.toList.map ρ = [ρ x, ρ i] := by simp [Op.operands]
      rw [hlm] at hv
      simp only [List.cons.injEq, and_true] at hv
      obtain ⟨hx, hi⟩ := hv
      split at h
      case h_2 => cases h
      rename_i e hu
      split at h
      case isFalse => cases h
      rename_i hcond
      cases h
      rw [Bool.and_eq_true, Bool.and_eq_true, decide_eq_true_eq, decide_eq_true_eq] at hcond
      obtain ⟨hsz, hn0, hn7⟩ := hcond
      obtain ⟨j, rfl⟩ : ∃ j, k = 1 + j := ⟨k - 1, by omega⟩
      obtain ⟨p, hp, hp1, hp2, _⟩ := hSp j (by omega)
      have hxr := hr x (by simp [Op.operands])
      have hir := hr i (by simp [Op.operands])
      rw [hx] at hxr
      rw [hi] at hir
      have hz : ∀ w, (sizeOf e).run P w = .ok 1 w := by
        intro w
        cases hi2 : P.info? e with
        | none => rw [hi2] at hsz; simp at hsz
        | some j =>
          rw [hi2] at hsz
          have : j.size = 1 := by simpa using hsz
          rw [run_size hi2, this]
      generalize hq : ρ' x = u at hxr
      generalize hq2 : ρ' i = u2 at hir
      cases hir
      rw [hp] at hq2
      cases hxr with
      | grow _ _ n r c h1 h2 => exfalso; omega
      | gptr _ _ n i r c h1 h2 h3 h4 => exfalso; omega
      | lptr _ _ j p h1 h2 h3 h4 => exfalso; omega
      | long _ c' L2 h1 h2 h3 =>
        rw [hL0] at h3
        cases h3
        refine ⟨.pointer (some ⟨A.f b, p, none⟩), ?_, ?_⟩
        · simp only [execOp]
          show Sem.run P (do pure (Next.value (← Instr.indexAt t (ρ' x) (ρ' i)))) w' = _
          have h4 : (0 : Int) ≤ (p : Int) ∧ (p : Int) < (L.toNat : Int) := ⟨by omega, by omega⟩
          have h5 : p < L.toNat := by omega
          rw [hq, hq2]
          simp [Instr.indexAt, asIntOf, run_underlying hu, hz, Sem.run_bind, Result.andThen, h4, h5, go_sem, Addr.add]
          intro h0
          omega
        · exact .lptr b _ j p (by omega) h1 h2 hp
theorem tailS_new {m : Nat} {L : Int} {cs : Array Value} (h4 : m ≤ 4) (hSp : ∀ j, j < m → ∃ p : Nat, σ (1 + j) = .int .i64 (p : Int) ∧ 77 ≤ p ∧ (p : Int) < L ∧ ∀ k, k < j → σ (1 + k) ≠ σ (1 + j)) (hz : ∀ i, i < L.toNat → cs[i]? = some (.int .u64 0)) : TailS σ m L.toNat cs := by
  have hm : spM m = m := by unfold spM; omega
  refine ⟨by rw [hm]; exact h4, fun i _ hi _ => hz i hi, fun j hj => ?_⟩
  rw [hm] at hj
  obtain ⟨p, h1, h2, h3, h5⟩ := hSp j hj
  refine ⟨p, h1, h2, by omega, ?_, h5⟩
  have hd : spD m j = 0 := by
    unfold spD
    have : m / 10 = 0 := by omega
    rw [this, Nat.zero_div, Nat.zero_mod]
  rw [hd, hz p (by omega)]
  rfl
theorem longM_sound {Γ : Gst} (hO : OrcOK P σ W0 H O) {A : Ren} {ρ ρ' : Operand → Value} {o : Oper} {e : TypeId} {w w' : World} (hr : ∀ x ∈ o.op.operands, RV σ A (ρ x) (ρ' x)) (hw : WR σ W0 H Γ A w w')
    (h : longM P O o.op (o.op.operands.toList.map ρ) = some e) : ∃ B v' w1', (execOp ρ' o).run P w' = .ok (.value v') w1' ∧ A.le B ∧ WR σ W0 H Γ B { w with heap := w.heap.push (.cells (Array.replicate 77 (.int .u64 0)) O.sp) } w1' ∧ RV σ B (.complex .f32 w.heap.size 0) v' := by
  unfold longM at h
  split at h
  case isFalse => cases h
  rename_i hl
  obtain ⟨L, hL0, hL1, hL2, hS4, hSp⟩ := hO.long hl
  obtain ⟨dst, op, type, pos, after, guard⟩ := o
  cases op <;> first | (cases h; done) | skip
  case makeSlice t x y =>
    simp only [] at h
    split at h
    case h_2 => cases h
    rename_i hv
    have hlm : (Op.makeSlice t x y).operands.toList.map ρ = [ρ x, ρ y] := by simp [Op.operands]
    rw [hlm] at hv
    simp only [List.cons.injEq, and_true] at hv
    obtain ⟨hx, hy⟩ := hv
    split at h
    case h_2 => cases h
    rename_i e hu
    split at h
    case h_2 => cases h
    rename_i j hj
    split at h
    case h_2 => cases h
    rename_i hz
    split at h
    case isFalse => cases h
    rename_i hcond
    cases h
    rw [Bool.and_eq_true, decide_eq_true_eq, beq_iff_eq] at hcond
    have hxr := hr x (by simp [Op.operands])
    have hyr := hr y (by simp [Op.operands])
    rw [hx] at hxr
    rw [hy] at hyr
    generalize hq : ρ' x = u at hxr
    generalize hq2 : ρ' y = u2 at hyr
    cases hxr
    cases hyr
    obtain ⟨cs', h1, h2, h3⟩ := run_makeLong (P := P) hu hj hz hcond.1 hcond.2 hL1 hL2 w'
    have hi : ¬ A.d w.heap.size := fun hd => by have := hw.size _ hd; omega
    refine ⟨A.pushT w.heap.size w'.heap.size, .slice (some ⟨w'.heap.size, 0, none⟩) L.toNat L.toNat, w'.alloc (.cells cs' e), ?_, A.pushT_le hi _, ?_, ?_⟩
    · simp only [execOp]
      show Sem.run P (do pure (Next.value (← Instr.makeSlice t (ρ' x) (ρ' y)))) w' = _
      rw [hq, hq2, hL0, Sem.run_bind, h1]
      rfl
    · refine hw.newLong (hw.extR ((Ext.refl _).alloc _)) ((Ext.refl _).alloc _) (Nat.le_refl _) (World.alloc_heap_new w' _) ⟨?_, fun i v hv => ?_⟩ hL0 hL1 (by omega) (tailS_new hS4 hSp h3) (by simp)
      · simp; omega
      · rw [Array.getElem?_replicate] at hv
        split at hv
        · cases hv
          exact ⟨_, h3 i (by omega), .int _ _⟩
        · cases hv
    · have := RV.long (σ := σ) (A := A.pushT w.heap.size w'.heap.size) w.heap.size L.toNat L (.inr rfl) (.inr rfl) hL0
      rw [A.pushT_at] at this
      exact this
theorem growV_sound {A : Ren} {ρ ρ' : Operand → Value} {o : Oper} {v : Value} {w' : World} (hr : ∀ x ∈ o.op.operands, RV σ A (ρ x) (ρ' x))
    (h : growV P O o.op (o.op.operands.toList.map ρ) = some v) : ∃ v', (execOp ρ' o).run P w' = .ok (.value v') w' ∧ RV σ A v v' := by
  unfold growV at h
  split at h
  case isFalse => cases h
  obtain ⟨dst, op, type, pos, after, guard⟩ := o
  cases op <;> first | (cases h; done) | skip
  case call c =>
    simp only [] at h
    split at h
    case h_2 => cases h
    rename_i t b k hc ht hv
    split at h
    case h_2 => cases h
    rename_i e hu
    split at h
    case isFalse => cases h
    rename_i hk2
    cases h
    have hk3 : k % 2 = 1 := by simpa using hk2
    have hlm : (Op.call c).operands.toList.map ρ = c.args.toList.map ρ := by simp [Op.operands, Call.operands, hc]
    rw [hlm] at hv
    obtain ⟨x, ha, hx⟩ : ∃ x, c.args.toList = [x] ∧ ρ x = .complex .f32 b k := by
      cases hcl : c.args.toList with
      | nil => rw [hcl] at hv; cases hv
      | cons y l =>
        rw [hcl] at hv
        cases l with
        | nil => exact ⟨y, rfl, by simpa using hv⟩
        | cons z l => simp at hv
    have ea : c.args = #[x] := Array.ext' (by simpa using ha)
    have et : c.argTypes = #[t] := Array.ext' (by simpa using ht)
    have hxr := hr x (by simp [Op.operands, Call.operands, hc, ea])
    rw [hx] at hxr
    generalize hq : ρ' x = u at hxr
    cases hxr with
    | long _ c' L2 h1 h2 h3 => exfalso; omega
    | gptr _ _ n i r c h1 h2 h3 h4 => exfalso; omega
    | lptr _ _ j p h1 h2 h3 h4 => exfalso; omega
    | grow _ _ n r c2 h1 h2 =>
      refine ⟨.int .i64 (n : Int), ?_, ?_⟩
      · simp only [execOp, resolve, hc]
        show Sem.run P (do pure (Next.value (← Builtin.len_ c.argTypes type (c.args.map ρ')))) w' = _
        rw [ea, et]
        simp [Builtin.len_, run_underlying hu, hq, Sem.run_bind, Result.andThen, go_sem, goInt]
      · have : k / 2 = n := by omega
        rw [this]
        exact .int _ _
  case indexAddr t x i =>
    simp only [] at h
    split at h
    case h_2 => cases h
    rename_i b k ik j hv
    have hlm : (Op.indexAddr t x i).operands.toList.map ρ = [ρ x, ρ i] := by simp [Op.operands]
    rw [hlm] at hv
    simp only [List.cons.injEq, and_true] at hv
    obtain ⟨hx, hi⟩ := hv
    split at h
    case h_2 => cases h
    rename_i e hu
    split at h
    case isFalse => cases h
    rename_i hcond
    cases h
    simp only [Bool.and_eq_true, decide_eq_true_eq] at hcond
    obtain ⟨hsz, hk2, hn0, hn7, hn64⟩ := hcond
    have hk3 : k % 2 = 1 := by simpa using hk2
    obtain ⟨m, rfl⟩ := Int.eq_ofNat_of_zero_le hn0
    simp only [Int.toNat_natCast] at hn7 ⊢
    have hxr := hr x (by simp [Op.operands])
    have hir := hr i (by simp [Op.operands])
    rw [hx] at hxr
    rw [hi] at hir
    have hz : ∀ w, (sizeOf e).run P w = .ok 1 w := by
      intro w
      cases hi2 : P.info? e with
      | none => rw [hi2] at hsz; simp at hsz
      | some j =>
        rw [hi2] at hsz
        have : j.size = 1 := by simpa using hsz
        rw [run_size hi2, this]
    generalize hq : ρ' x = u at hxr
    generalize hq2 : ρ' i = u2 at hir
    cases hir
    cases hxr with
    | long _ c' L2 h1 h2 h3 => exfalso; omega
    | gptr _ _ n i r c h1 h2 h3 h4 => exfalso; omega
    | lptr _ _ j p h1 h2 h3 h4 => exfalso; omega
    | grow _ _ n r c2 h1 h2 =>
      have hkn : k / 2 = n := by omega
      rw [hkn] at hn7 hn64 ⊢
      refine ⟨.pointer (some ⟨r, m, none⟩), ?_, ?_⟩
      · simp only [execOp]
        show Sem.run P (do pure (Next.value (← Instr.indexAt t (ρ' x) (ρ' i)))) w' = _
        have h4 : (0 : Int) ≤ (m : Int) ∧ (m : Int) < (n : Int) := ⟨by omega, by omega⟩
        rw [hq, hq2]
        simp [Instr.indexAt, asIntOf, run_underlying hu, hz, Sem.run_bind, Result.andThen, h4, hn7, go_sem, Addr.add]
        intro h0
        exact h0.symm
      · exact .gptr b _ n m r c2 rfl h2 hn7 hn64
theorem growL_sound {Γ : Gst} {A : Ren} {ρ ρ' : Operand → Value} {o : Oper} {v : Value} {w w' : World} (hr : ∀ x ∈ o.op.operands, RV σ A (ρ x) (ρ' x)) (hw : WR σ W0 H Γ A w w')
    (h : growL P O o.op (o.op.operands.toList.map ρ) w = some v) : ∃ v', (execOp ρ' o).run P w' = .ok (.value v') w' ∧ RV σ A v v' := by
  unfold growL at h
  split at h
  case isFalse => cases h
  obtain ⟨dst, op, type, pos, after, guard⟩ := o
  cases op <;> first | (cases h; done) | skip
  case load t x =>
    simp only [] at h
    split at h
    case h_2 => cases h
    rename_i b k hv
    have hlm : (Op.load t x).operands.toList.map ρ = [ρ x] := by simp [Op.operands]
    rw [hlm] at hv
    simp only [List.cons.injEq, and_true] at hv
    split at h
    case h_2 => cases h
    rename_i ik hu
    split at h
    case isFalse => cases h
    rename_i hcond
    split at h
    case h_2 => cases h
    rename_i cs hb
    split at h
    case isFalse => cases h
    rename_i hsz
    simp only [Bool.and_eq_true, decide_eq_true_eq, beq_iff_eq] at hcond hsz
    obtain ⟨hsz1, hsz⟩ := hsz
    have hxr := hr x (by simp [Op.operands])
    rw [hv] at hxr
    generalize hq : ρ' x = u at hxr
    cases hxr with
    | long _ c' L2 h1 h2 h3 => exfalso; omega
    | grow _ _ n r c2 h1 h2 => exfalso; omega
    | lptr _ _ j p h1 h2 h3 h4 => exact absurd rfl ((hw.long _ h3).ne hb)
    | gptr _ _ n i r c h1 h2 h3 h4 =>
      have e1 : (k / 2 - 1) / 64 = n := by omega
      have e2 : (k / 2 - 1) % 64 = i := by omega
      rw [e1] at hsz
      rw [e2] at h
      obtain ⟨_, cs2, e, k1, k2, k3, k4, k5⟩ := hw.grow _ _ _ h2
      rw [hb] at k1
      cases k1
      obtain ⟨xs, m1, m2, m3⟩ := k5 hsz.symm
      obtain ⟨y, y1, y2⟩ := m2 hsz1 i v h
      rw [hsz1] at m1
      have hcell := World.ownsRow.cellAt m1 i (by omega)
      rw [y1] at hcell
      refine ⟨y, ?_, y2⟩
      simp only [execOp]
      show Sem.run P (do pure (Next.value (← Instr.loadAt t (ρ' x)))) w' = _
      rw [hq]
      simp [Instr.loadAt, Instr.sureAddr, loadVar, isAgg, run_underlying hu, Sem.run_bind, Result.andThen, hcell, go_sem]
theorem growN_sound {Γ : Gst} (hσ : ∀ j, OneC (σ j)) {A : Ren} {ρ ρ' : Operand → Value} {o : Oper} {v : Value} {w w1 w' : World} (hr : ∀ x ∈ o.op.operands, RV σ A (ρ x) (ρ' x)) (hw : WR σ W0 H Γ A w w')
    (h : growN P O o.op (o.op.operands.toList.map ρ) w = some (v, w1)) : ∃ B v' w1', (execOp ρ' o).run P w' = .ok (.value v') w1' ∧ A.le B ∧ WR σ W0 H Γ B w1 w1' ∧ RV σ B v v' := by
  unfold growN at h
  split at h
  case isFalse => cases h
  obtain ⟨dst, op, type, pos, after, guard⟩ := o
  cases op <;> first | (cases h; done) | skip
  case call c =>
    simp only [] at h
    split at h
    case h_2 => cases h
    rename_i t t' s a xc hc ht hv
    split at h
    case isFalse => cases h
    rename_i htt
    have htt := eq_of_beq htt
    subst htt
    split at h
    case h_2 => cases h
    rename_i e hu
    split at h
    case h_2 => cases h
    rename_i inf hinf
    split at h
    case h_2 => cases h
    rename_i hz
    split at h
    case isFalse => cases h
    rename_i hcond
    split at h
    case h_2 => cases h
    rename_i x hx
    split at h
    case isFalse => cases h
    rename_i hclx
    simp only [Bool.and_eq_true, beq_iff_eq, Option.isNone_iff_eq_none] at hcond
    obtain ⟨⟨hs1, hby⟩, hsp⟩ := hcond
    have hlm : (Op.call c).operands.toList.map ρ = c.args.toList.map ρ := by simp [Op.operands, Call.operands, hc]
    rw [hlm] at hv
    obtain ⟨y1, y2, ha, hy1, hy2⟩ : ∃ y1 y2, c.args.toList = [y1, y2] ∧ ρ y1 = s ∧ ρ y2 = .slice (some a) 1 xc := by
      cases hcl : c.args.toList with
      | nil => rw [hcl] at hv; cases hv
      | cons y l =>
        rw [hcl] at hv
        cases l with
        | nil => simp at hv
        | cons z l =>
          cases l with
          | nil => simp at hv; exact ⟨y, z, rfl, hv.1, hv.2⟩
          | cons _ _ => simp at hv
    have ea : c.args = #[y1, y2] := Array.ext' (by simpa using ha)
    have et : c.argTypes = #[t, t] := Array.ext' (by simpa using ht)
    have r1 := hr y1 (by simp [Op.operands, Call.operands, hc, ea])
    have r2 := hr y2 (by simp [Op.operands, Call.operands, hc, ea])
    rw [hy1] at r1
    rw [hy2] at r2
    generalize hq1 : ρ' y1 = s' at r1
    generalize hq2 : ρ' y2 = x' at r2
    obtain ⟨u, hu1, hu2⟩ := hw.cell hx
    have hx1 : szOf #[x] = 1 := by
      cases x <;> first | (cases hclx; done) | rfl
    have huo : u.oneCell' = true := by
      cases x <;> first | (cases hclx; done) | skip
      case int k n => cases hu2; rfl
      case float k j =>
        cases hu2
        have := hσ j
        cases hsj : σ j <;> rw [hsj] at this <;> first | rfl | exact this.elim
    obtain ⟨xc', rfl⟩ : ∃ xc', x' = .slice (some (A.addr a)) 1 xc' := by
      cases r2 with
      | slice _ _ _ c' h1 h2 h3 h4 => exact ⟨_, rfl⟩
    have hexec : ∀ r w2, (Builtin.append_ #[t, t] type #[s', .slice (some (A.addr a)) 1 xc']).run P w' = .ok r w2 → (execOp ρ' ⟨dst, .call c, type, pos, after, guard⟩).run P w' = .ok (.value r) w2 := by
      intro r w2 hrun
      simp only [execOp, resolve, hc]
      show Sem.run P (do pure (Next.value (← Builtin.append_ c.argTypes type (c.args.map ρ')))) w' = _
      rw [ea, et]
      simp only [List.map_toArray, List.map_cons, List.map_nil, hq1, hq2]
      rw [Sem.run_bind, hrun]
      rfl
    have hnews : ∀ j z, [u][j]? = some z → w'.cell? ((A.addr a).add j) = some z := by
      intro j z hz2
      rcases j with _ | j
      · simp at hz2
        subst hz2
        rw [add_zero' _ 0 rfl]
        exact hu1
      · simp at hz2
    split at h
    · -- it begins
      split at h
      case isFalse => cases h
      rename_i hall
      cases h
      cases r1
      obtain ⟨g, cap, w2, h1, h2, h3, h4, h5⟩ := run_append_lies (P := P) w' t type H e inf (.int .u64 0) 1 8 hu hinf hz hs1 hby rfl (by decide) (.slice none 0 0) 0 [] (World.ownsRow_nil _ _ _ _) (A.addr a) 1 xc' [u] rfl hnews (by simpa using huo) (by decide) (by unfold maxLen; omega) (by omega) hw.hle w'.heap.size rfl
      have hg : g = w'.heap.size := by
        rcases h4 with h4 | h4
        · cases h4
        · exact h4
      have hE : Ext w' w2 := ⟨h3.os, h3.tape, h3.output, h3.size, fun k hk => h3.block k hk (by intro e9; cases e9)⟩
      have hi : ¬ A.d w.heap.size := fun hd => by have := hw.size _ hd; omega
      refine ⟨A.pushG w.heap.size g (.slice (some ⟨g, 0, none⟩) 1 cap), _, w2, hexec _ _ h1, A.pushG_le hi g _, hw.growNew (us := [u]) (v := x) (hw.extR hE) hE hg h5 (by rw [hx1]; exact h2) (fun _ => ⟨u, rfl, hu2⟩) (fun b cs e4 hb => ?_), ?_⟩
      · rw [List.all_eq_true] at hall
        have := hall (.pending cs e4) (by rw [← Array.getElem?_toList] at hb; exact List.mem_of_getElem? hb)
        simpa using this
      · exact .grow w.heap.size 3 1 g cap rfl (.inr ⟨rfl, rfl, rfl⟩)
    · -- it goes on
      rename_i b k
      split at h
      case h_2 => cases h
      rename_i cs e2 hb
      split at h
      case isFalse => cases h
      rename_i hcond2
      cases h
      simp only [Bool.and_eq_true, beq_iff_eq, decide_eq_true_eq] at hcond2
      obtain ⟨hk, hlt, he2, hsz1⟩ := hcond2
      subst he2
      cases r1 with
      | long _ c' L2 q1 q2 q3 => exfalso; omega
      | gptr _ _ n i r c2 q1 q2 q3 q4 => exfalso; omega
      | lptr _ _ j p q1 q2 q3 q4 => exfalso; omega
      | grow _ _ n r c2 q1 q2 =>
        have hn : n = cs.size := by omega
        obtain ⟨_, cs2, e3, k1, k2, k3, k4, k5⟩ := hw.grow _ _ _ q2
        rw [hb] at k1
        cases k1
        obtain ⟨xs, m1, m2, m3⟩ := k5 hn
        have m1' := m1
        rw [hsz1] at m1'
        obtain ⟨g, cap, w2, h1, h2, h3, h4, h5⟩ := run_append_lies (P := P) w' t type H e2 inf (.int .u64 0) 1 8 hu hinf hz hs1 hby rfl (by decide) (.slice (some ⟨r, 0, none⟩) n c2) n xs m1' (A.addr a) 1 xc' [u] rfl hnews (by simpa using huo) (by decide) (by unfold maxLen; omega) (by omega) hw.hle w'.heap.size rfl
        refine ⟨A.addG b (n + 1) (.slice (some ⟨g, 0, none⟩) (n + 1) cap), _, w2, hexec _ _ h1, A.addG_le _ _ _, hw.growMore (us := [u]) q2 hb hn m1 m2 m3 h3 (by rw [hsz1]; exact h2) h4 (fun _ => ⟨u, rfl, hu2⟩), ?_⟩
        exact .grow b _ (n + 1) g cap (by rw [hn]) (.inr ⟨rfl, rfl, rfl⟩)
    · cases h
theorem growS_sound {Γ : Gst} (hσ : ∀ j, OneC (σ j)) {A : Ren} {ρ ρ' : Operand → Value} {o : Oper} {v : Value} {w w1 w' : World} (hr : ∀ x ∈ o.op.operands, RV σ A (ρ x) (ρ' x)) (hw : WR σ W0 H Γ A w w')
    (h : growS P O o.op (o.op.operands.toList.map ρ) w = some (v, w1)) : ∃ B v' w1', (execOp ρ' o).run P w' = .ok (.value v') w1' ∧ A.le B ∧ WR σ W0 H Γ B w1 w1' ∧ RV σ B v v' := by
  unfold growS at h
  split at h
  case isFalse => cases h
  obtain ⟨dst, op, type, pos, after, guard⟩ := o
  cases op <;> first | (cases h; done) | skip
  case call c =>
    simp only [] at h
    split at h
    case h_2 => cases h
    rename_i t t' s a xc hc ht hv
    split at h
    case isFalse => cases h
    rename_i htt
    have htt := eq_of_beq htt
    subst htt
    split at h
    case h_2 => cases h
    rename_i e hu
    split at h
    case h_2 => cases h
    rename_i inf hinf
    split at h
    case h_2 => cases h
    rename_i z hz
    split at h
    case isFalse => cases h
    rename_i hcond
    simp only [Bool.and_eq_true, beq_iff_eq, Option.isNone_iff_eq_none] at hcond
    obtain ⟨⟨hs1, hby, hzc, hsp⟩, hall6⟩ := hcond
    have hlm : (Op.call c).operands.toList.map ρ = c.args.toList.map ρ := by simp [Op.operands, Call.operands, hc]
    rw [hlm] at hv
    obtain ⟨y1, y2, ha, hy1, hy2⟩ : ∃ y1 y2, c.args.toList = [y1, y2] ∧ ρ y1 = s ∧ ρ y2 = .slice (some a) 1 xc := by
      cases hcl : c.args.toList with
      | nil => rw [hcl] at hv; cases hv
      | cons y l =>
        rw [hcl] at hv
        cases l with
        | nil => simp at hv
        | cons z l =>
          cases l with
          | nil => simp at hv; exact ⟨y, z, rfl, hv.1, hv.2⟩
          | cons _ _ => simp at hv
    have ea : c.args = #[y1, y2] := Array.ext' (by simpa using ha)
    have et : c.argTypes = #[t, t] := Array.ext' (by simpa using ht)
    have r1 := hr y1 (by simp [Op.operands, Call.operands, hc, ea])
    have r2 := hr y2 (by simp [Op.operands, Call.operands, hc, ea])
    rw [hy1] at r1
    rw [hy2] at r2
    generalize hq1 : ρ' y1 = s' at r1
    generalize hq2 : ρ' y2 = x' at r2
    have hcell : ∀ j, j < 6 → ∃ u, w'.cell? ((A.addr a).add j) = some u ∧ u.oneCell' = true := by
      intro j hj
      rw [List.all_eq_true] at hall6
      have h6 := hall6 j (List.mem_range.2 hj)
      cases hcx : w.cell? (a.add j) with
      | none => rw [hcx] at h6; cases h6
      | some x =>
        rw [hcx] at h6
        obtain ⟨u, hu1, hu2⟩ := hw.cell hcx
        rw [Ren.addr_add] at hu1
        refine ⟨u, hu1, ?_⟩
        cases x <;> first | (cases h6; done) | skip
        case int k n => cases hu2; rfl
        case float k j =>
          cases hu2
          have := hσ j
          cases hsj : σ j <;> rw [hsj] at this <;> first | rfl | exact this.elim
    obtain ⟨xc', rfl⟩ : ∃ xc', x' = .slice (some (A.addr a)) 1 xc' := by
      cases r2 with
      | slice _ _ _ c' h1 h2 h3 h4 => exact ⟨_, rfl⟩
    have hexec : ∀ r w2, (Builtin.append_ #[t, t] type #[s', .slice (some (A.addr a)) 1 xc']).run P w' = .ok r w2 → (execOp ρ' ⟨dst, .call c, type, pos, after, guard⟩).run P w' = .ok (.value r) w2 := by
      intro r w2 hrun
      simp only [execOp, resolve, hc]
      show Sem.run P (do pure (Next.value (← Builtin.append_ c.argTypes type (c.args.map ρ')))) w' = _
      rw [ea, et]
      simp only [List.map_toArray, List.map_cons, List.map_nil, hq1, hq2]
      rw [Sem.run_bind, hrun]
      rfl
    obtain ⟨us, husl, hnews, huo⟩ : ∃ us : List Value, us.length = 1 * 6 ∧ (∀ j z, us[j]? = some z → w'.cell? ((A.addr a).add j) = some z) ∧ ∀ u ∈ us, u.oneCell' = true := by
      refine ⟨(List.range 6).map (fun j => (w'.cell? ((A.addr a).add j)).getD undef), by simp, fun j z hz2 => ?_, fun u hu => ?_⟩
      · rw [List.getElem?_map] at hz2
        have hj : j < 6 := by
          rcases Nat.lt_or_ge j 6 with h6 | h6
          · exact h6
          · rw [List.getElem?_eq_none (by simpa using h6)] at hz2; cases hz2
        rw [List.getElem?_range hj] at hz2
        obtain ⟨u, q1, _⟩ := hcell j hj
        simp only [Option.map_some, q1, Option.getD_some] at hz2
        rw [q1]
        exact hz2
      · obtain ⟨j, hj, rfl⟩ := List.mem_map.1 hu
        obtain ⟨u, q1, q2⟩ := hcell j (List.mem_range.1 hj)
        rw [q1]
        exact q2
    split at h
    · -- it begins
      split at h
      case isFalse => cases h
      rename_i hall
      cases h
      cases r1
      obtain ⟨g, cap, w2, h1, h2, h3, h4, h5⟩ := run_append_lies (P := P) w' t type H e inf z 6 48 hu hinf hz hs1 hby hzc (by decide) (.slice none 0 0) 0 [] (World.ownsRow_nil _ _ _ _) (A.addr a) 1 xc' us husl hnews huo (by decide) (by unfold maxLen; omega) (by omega) hw.hle w'.heap.size rfl
      have hg : g = w'.heap.size := by
        rcases h4 with h4 | h4
        · cases h4
        · exact h4
      have hE : Ext w' w2 := ⟨h3.os, h3.tape, h3.output, h3.size, fun k hk => h3.block k hk (by intro e9; cases e9)⟩
      have hi : ¬ A.d w.heap.size := fun hd => by have := hw.size _ hd; omega
      refine ⟨A.pushG w.heap.size g (.slice (some ⟨g, 0, none⟩) 1 cap), _, w2, hexec _ _ h1, A.pushG_le hi g _, hw.growNew (us := us) (v := .bool true) (hw.extR hE) hE hg h5 h2 (fun e9 => absurd e9 (by decide)) (fun b cs e4 hb => ?_), ?_⟩
      · rw [List.all_eq_true] at hall
        have := hall (.pending cs e4) (by rw [← Array.getElem?_toList] at hb; exact List.mem_of_getElem? hb)
        simpa using this
      · exact .grow w.heap.size 3 1 g cap rfl (.inr ⟨rfl, rfl, rfl⟩)
    · -- it goes on
      rename_i b k
      split at h
      case h_2 => cases h
      rename_i cs e2 hb
      split at h
      case isFalse => cases h
      rename_i hcond2
      cases h
      simp only [Bool.and_eq_true, beq_iff_eq, decide_eq_true_eq] at hcond2
      obtain ⟨hk, hlt, he2, hsz6⟩ := hcond2
      subst he2
      cases r1 with
      | long _ c' L2 q1 q2 q3 => exfalso; omega
      | gptr _ _ n i r c2 q1 q2 q3 q4 => exfalso; omega
      | lptr _ _ j p q1 q2 q3 q4 => exfalso; omega
      | grow _ _ n r c2 q1 q2 =>
        have hn : n = cs.size := by omega
        obtain ⟨_, cs2, e3, k1, k2, k3, k4, k5⟩ := hw.grow _ _ _ q2
        rw [hb] at k1
        cases k1
        obtain ⟨xs, m1, m2, m3⟩ := k5 hn
        have m1' := m1
        rw [hsz6] at m1'
        obtain ⟨g, cap, w2, h1, h2, h3, h4, h5⟩ := run_append_lies (P := P) w' t type H e2 inf z 6 48 hu hinf hz hs1 hby hzc (by decide) (.slice (some ⟨r, 0, none⟩) n c2) n xs m1' (A.addr a) 1 xc' us husl hnews huo (by decide) (by unfold maxLen; omega) (by omega) hw.hle w'.heap.size rfl
        refine ⟨A.addG b (n + 1) (.slice (some ⟨g, 0, none⟩) (n + 1) cap), _, w2, hexec _ _ h1, A.addG_le _ _ _, hw.growMore (us := us) q2 hb hn m1 m2 m3 h3 (by rw [hsz6]; exact h2) h4 (fun e9 => absurd (hsz6.symm.trans e9) (by decide)), ?_⟩
        exact .grow b _ (n + 1) g cap (by rw [hn]) (.inr ⟨rfl, rfl, rfl⟩)
    · cases h
theorem growA_sound {Γ : Gst} (hσ : ∀ j, OneC (σ j)) {A : Ren} {ρ ρ' : Operand → Value} {o : Oper} {v : Value} {w w1 w' : World} (hr : ∀ x ∈ o.op.operands, RV σ A (ρ x) (ρ' x)) (hw : WR σ W0 H Γ A w w')
    (h : growA P O o.op (o.op.operands.toList.map ρ) w = some (v, w1)) : ∃ B v' w1', (execOp ρ' o).run P w' = .ok (.value v') w1' ∧ A.le B ∧ WR σ W0 H Γ B w1 w1' ∧ RV σ B v v' := by
  unfold growA at h
  split at h
  · rename_i p hp
    cases h
    exact growN_sound hσ hr hw hp
  · exact growS_sound hσ hr hw h
theorem spL_sound {Γ : Gst} {A : Ren} {ρ ρ' : Operand → Value} {o : Oper} {v : Value} {w w' : World} (hr : ∀ x ∈ o.op.operands, RV σ A (ρ x) (ρ' x)) (hw : WR σ W0 H Γ A w w')
    (h : spL P O o.op (o.op.operands.toList.map ρ) w = some v) : ∃ v', (execOp ρ' o).run P w' = .ok (.value v') w' ∧ RV σ A v v' := by
  unfold spL at h
  split at h
  case isFalse => cases h
  obtain ⟨dst, op, type, pos, after, guard⟩ := o
  cases op <;> first | (cases h; done) | skip
  case load t x =>
    simp only [] at h
    split at h
    case h_2 => cases h
    rename_i b k hv
    have hlm : (Op.load t x).operands.toList.map ρ = [ρ x] := by simp [Op.operands]
    rw [hlm] at hv
    simp only [List.cons.injEq, and_true] at hv
    split at h
    case h_2 => cases h
    rename_i ik hu
    split at h
    case isFalse => cases h
    rename_i hcond
    split at h
    case h_2 => cases h
    rename_i cs e fz hb
    split at h
    case isFalse => cases h
    rename_i hj
    cases h
    simp only [Bool.and_eq_true, decide_eq_true_eq, beq_iff_eq] at hcond hj
    have hxr := hr x (by simp [Op.operands])
    rw [hv] at hxr
    generalize hq : ρ' x = u at hxr
    cases hxr with
    | long _ c' L2 h1 h2 h3 => exfalso; omega
    | grow _ _ n r c2 h1 h2 => exfalso; omega
    | gptr _ _ n i r c h1 h2 h3 h4 =>
      obtain ⟨_, cs2, e2, k1, _⟩ := hw.grow _ _ _ h2
      rw [hb] at k1
      cases k1
    | lptr _ _ j p h1 h2 h3 h4 =>
      have ej : k / 2 - 4097 = j := by omega
      rw [ej] at hj ⊢
      obtain ⟨hdb, cs1, e1, fz1, ⟨k1, k2⟩, L, cs2, e2, fz2, k3, k4, k5, k6, k7⟩ := hw.long b h3
      rw [hb] at k1
      cases k1
      obtain ⟨p2, q1, q2, q3, q4, q5⟩ := k7.spot j hj
      rw [h4] at q1
      have hpp : p2 = p := by
        simp only [Value.int.injEq, true_and] at q1
        omega
      subst hpp
      have hcell : w'.cell? ⟨A.f b, p2, none⟩ = some (spV σ (spD e j)) := by
        unfold World.cell?
        simp only [k5]
        exact q4
      refine ⟨spV σ (spD e j), ?_, ?_⟩
      · simp only [execOp]
        show Sem.run P (do pure (Next.value (← Instr.loadAt t (ρ' x)))) w' = _
        rw [hq]
        simp [Instr.loadAt, Instr.sureAddr, loadVar, isAgg, run_underlying hu, Sem.run_bind, Result.andThen, hcell, go_sem]
      · unfold spV
        split
        · exact .int _ _
        · exact .tok _ _
theorem spC_sound {A : Ren} {v v' : Value} {d : Nat} (h : spC v = some d) (hr : RV σ A v v') : v' = spV σ d ∧ d < 1000 := by
  unfold spC at h
  split at h
  · cases h
    cases hr
    exact ⟨rfl, by omega⟩
  · rename_i k j
    split at h
    · cases h
      cases hr
      exact ⟨by unfold spV; rw [if_neg (by omega), Nat.add_sub_cancel], by omega⟩
    · cases h
  · cases h
theorem spS_sound {Γ : Gst} (hσ : ∀ j, OneC (σ j)) {A : Ren} {ρ ρ' : Operand → Value} {o : Oper} {w w1 w' : World} (hr : ∀ x ∈ o.op.operands, RV σ A (ρ x) (ρ' x)) (hw : WR σ W0 H Γ A w w')
    (h : spS P O o.op (o.op.operands.toList.map ρ) w = some w1) : ∃ w1', (execOp ρ' o).run P w' = .ok .skip w1' ∧ WR σ W0 H Γ A w1 w1' := by
  unfold spS at h
  split at h
  case isFalse => cases h
  obtain ⟨dst, op, type, pos, after, guard⟩ := o
  cases op <;> first | (cases h; done) | skip
  case store t x y =>
    simp only [] at h
    split at h
    case h_2 => cases h
    rename_i b k v hv
    have hlm : (Op.store t x y).operands.toList.map ρ = [ρ x, ρ y] := by simp [Op.operands]
    rw [hlm] at hv
    simp only [List.cons.injEq, and_true] at hv
    obtain ⟨hv, hy⟩ := hv
    split at h
    case h_2 => cases h
    rename_i ik hu
    split at h
    case isFalse => cases h
    rename_i hcond
    split at h
    case h_2 => cases h
    rename_i cs e fz hb
    split at h
    case isFalse => cases h
    rename_i hj
    split at h
    case h_2 => cases h
    rename_i d hd
    cases h
    simp only [Bool.and_eq_true, decide_eq_true_eq, beq_iff_eq, bne_iff_ne, ne_eq] at hcond hj
    obtain ⟨hj, rfl, hsz, hi1⟩ := hj
    have hz : ∀ w, (sizeOf t).run P w = .ok 1 w := by
      intro w
      cases hi2 : P.info? t with
      | none => rw [hi2] at hi1; simp at hi1
      | some i =>
        rw [hi2] at hi1
        have : i.size = 1 := by simpa using hi1
        rw [run_size hi2, this]
    have hxr := hr x (by simp [Op.operands])
    have hyr := hr y (by simp [Op.operands])
    rw [hv] at hxr
    rw [hy] at hyr
    obtain ⟨hy', hd'⟩ := spC_sound hd hyr
    generalize hq : ρ' x = u at hxr
    cases hxr with
    | long _ c' L2 h1 h2 h3 => exfalso; omega
    | grow _ _ n r c2 h1 h2 => exfalso; omega
    | gptr _ _ n i r c h1 h2 h3 h4 =>
      obtain ⟨_, cs2, e2, k1, _⟩ := hw.grow _ _ _ h2
      rw [hb] at k1
      cases k1
    | lptr _ _ j p h1 h2 h3 h4 =>
      have ej : k / 2 - 4097 = j := by omega
      rw [ej] at hj ⊢
      obtain ⟨m1, ⟨u2, m2⟩, m3⟩ := hw.spStore h3 hb hsz hj hd' h4
      refine ⟨_, ?_, m3⟩
      have ho : OneC (spV σ d) := by
        unfold spV
        split
        · trivial
        · exact hσ _
      simp only [execOp]
      show Sem.run P (do Instr.storeAt t (ρ' x) (ρ' y); pure Next.skip) w' = _
      rw [hq, hy']
      generalize spV σ d = z at ho ⊢
      have hc : z.cells = #[z] := by cases z <;> first | rfl | exact ho.elim
      have hst : (store ⟨A.f b, p, none⟩ z).run P w' = .ok () (w'.setCell ⟨A.f b, p, none⟩ z) := by
        unfold store
        cases z <;> first | exact ho.elim | simp [Sem.run, m1, m2]
      have ha : (⟨A.f b, p, none⟩ : Addr).add 0 = ⟨A.f b, p, none⟩ := by simp [Addr.add]
      have hsv : (storeVar t ⟨A.f b, p, none⟩ z).run P w' = .ok () (w'.setCell ⟨A.f b, p, none⟩ z) := by
        unfold storeVar
        rw [hc]
        simp [storeCells, ha, hst, hz, Sem.run_bind, Result.andThen, go_sem]
      have hsa : (Instr.storeAt t (.pointer (some ⟨A.f b, p, none⟩)) z).run P w' = .ok () (w'.setCell ⟨A.f b, p, none⟩ z) := hsv
      rw [Sem.run_bind, hsa]
      rfl
theorem evOp_sound {Γ : Gst} (hσ : ∀ j, OneC (σ j)) (hO : OrcOK P σ W0 H O) {A : Ren} {ρ ρ' : Operand → Value} {o : Oper} {n : Next} {w w1 w' : World} (hr : ∀ x ∈ o.op.operands, RV σ A (ρ x) (ρ' x)) (hw : WR σ W0 H Γ A w w')
    (h : evOp P O ρ o w = some (n, w1)) : ∃ B n' w1', (execOp ρ' o).run P w' = .ok n' w1' ∧ A.le B ∧ WR σ W0 H Γ B w1 w1' ∧ RN σ B n n' := by
  unfold evOp at h
  split at h
  · rename_i v hv
    cases h
    obtain ⟨v', h1, h2⟩ := hO.op o ρ ρ' v A hv hr w' hw.ext
    exact ⟨A, _, w', h1, Ren.le.refl A, hw, .value _ _ h2⟩
  · split at h
    · rename_i v hv
      cases h
      obtain ⟨v', h1, h2⟩ := longV_sound (Γ := Γ) (w' := w') hO hr hv
      exact ⟨A, _, w', h1, Ren.le.refl A, hw, .value _ _ h2⟩
    split at h
    · rename_i v hv
      cases h
      obtain ⟨v', h1, h2⟩ := growV_sound (w' := w') hr hv
      exact ⟨A, _, w', h1, Ren.le.refl A, hw, .value _ _ h2⟩
    split at h
    · rename_i v hv
      cases h
      obtain ⟨v', h1, h2⟩ := growL_sound hr hw hv
      exact ⟨A, _, w', h1, Ren.le.refl A, hw, .value _ _ h2⟩
    split at h
    · rename_i p hp
      cases h
      obtain ⟨B, v', w1', h1, h2, h3, h4⟩ := growA_sound hσ hr hw hp
      exact ⟨B, _, w1', h1, h2, h3, .value _ _ h4⟩
    split at h
    · rename_i v hv
      cases h
      obtain ⟨v', h1, h2⟩ := spL_sound hr hw hv
      exact ⟨A, _, w', h1, Ren.le.refl A, hw, .value _ _ h2⟩
    split at h
    · rename_i w2 hv
      cases h
      obtain ⟨w2', h1, h2⟩ := spS_sound hσ hr hw hv
      exact ⟨A, _, w2', h1, Ren.le.refl A, h2, .skip⟩
    split at h
    · rename_i e he
      cases h
      obtain ⟨B, v', w1', h1, h2, h3, h4⟩ := longM_sound hO hr hw he
      exact ⟨B, _, w1', h1, h2, h3, .value _ _ h4⟩
    split at h
    · rename_i n2 hn
      cases h
      obtain ⟨h1, h2⟩ := plainOp_sound (P := P) hr hn w'
      exact ⟨A, _, w', h1, Ren.le.refl A, hw, h2⟩
    · split at h
      case isFalse =>
        split at h
        case isFalse => cases h
        rename_i hmm
        cases h
        refine ⟨A.push w.heap.size w'.heap.size, _, _, run_makeMap hmm ρ' w', A.push_le (fun hd => by have := hw.size _ hd; omega) _, hw.newP (by decide) _, ?_⟩
        have := RV.map (σ := σ) (A := A.push w.heap.size w'.heap.size) w.heap.size (.inr rfl)
        rw [A.push_at] at this
        exact .value _ _ this
      rename_i hok
      split at h
      case h_2 => cases h
      rename_i n2 w2 hrun
      cases h
      exact (rel_exec hσ ρ ρ' o hok hr).sound hσ hw hrun

/-- Related frames. D0: blocks that the frame is not to shut; D: those that it has, besides. -/
def RAct (σ : Nat → Value) (A : Ren) (D0 D : List Nat) (a a' : Act) : Prop :=
  RAr σ A a.tmps a'.tmps ∧ a.defers = [] ∧ ∃ ks : List Nat, a'.defers = ks.map (fun k => { target := .collected k, args := #[] }) ∧ ks.Nodup ∧ ∀ k ∈ ks, k ∈ D ∧ k ∉ D0
def GR (G : Nat) (A : Ren) : Prop := ∀ g, g < G → A.d g ∧ A.f g = g
theorem GR.mono {G : Nat} {A B : Ren} (h : GR G A) (hB : A.le B) : GR G B := fun g hg => ⟨hB.1 _ (h g hg).1, by rw [hB.2 g (h g hg).1]; exact (h g hg).2⟩
theorem RAct.mono {A B : Ren} {D0 D D' : List Nat} (hB : A.le B) {a a' : Act} (h : RAct σ A D0 D a a') (hD : ∀ k ∈ D, k ∈ D') : RAct σ B D0 D' a a' := by
  obtain ⟨h1, h2, ks, h3, h4, h5⟩ := h
  exact ⟨h1.mono hB, h2, ks, h3, h4, fun k hk => ⟨hD k (h5 k hk).1, (h5 k hk).2⟩⟩
theorem RAct.put {A : Ren} {D0 D : List Nat} {a a' : Act} (h : RAct σ A D0 D a a') (d : Option Tmp) {v v' : Value} (hv : RV σ A v v') : RAct σ A D0 D (a.put d v) (a'.put d v') := by
  cases d with
  | none => exact h
  | some d => exact ⟨h.1.set d hv, h.2⟩
theorem rv_undef {A : Ren} : RV σ A undef undef := .tuple _ _ rfl fun i v v' h1 h2 => by simp at h1
theorem RAct.eval {A : Ren} {G : Nat} (hG : GR G A) {D0 D : List Nat} {a a' : Act} (h : RAct σ A D0 D a a') {x : Operand} (hx : constOk G x = true) : RV σ A (a.eval x) (a'.eval x) := by
  cases x with
  | tmp t =>
    simp only [Act.eval]
    cases ht : a.tmps[t]? with
    | none =>
      have : a'.tmps[t]? = none := by
        rw [Array.getElem?_eq_none_iff] at ht ⊢
        rw [← h.1.1]; exact ht
      simp only [Array.getD_eq_getD_getElem?, ht, this, Option.getD_none]
      exact rv_undef
    | some v =>
      obtain ⟨v', h1, h2⟩ := h.1.get ht
      simp only [Array.getD_eq_getD_getElem?, ht, h1, Option.getD_some]
      exact h2
  | const v => exact closed_rv hx
  | global g =>
    have := hG g (by simpa [constOk] using hx)
    have h2 := RV.ptr (σ := σ) (A := A) ⟨g, 0, none⟩ this.1
    unfold Ren.addr at h2
    rw [this.2] at h2
    exact h2
  | func f => exact .func _ _ _ _ _ rfl (fun i v v' h => by simp at h) rfl (fun i v v' h => by simp at h)

inductive Ex where
  | normal
  | exit (id : Nat)
  | ret
def Ex.of : Ex → Exit
  | .normal => .normal
  | .exit id => .exit id
  | .ret => .ret
def Ex.num : Ex → Nat
  | .normal => 0
  | .ret => 2
  | .exit id => id + 10
inductive Task where
  | code (c : Code)
  | loop (c : Code)
  | ops (ops : Array Oper) (l : List Nat)
  | draw (ops : Array Oper)

def retVal (P : Program) (fn : Func) (tmps : Array Value) (w : World) : Option Value := match (results fn tmps).run P w with
  | .ok v _ => some v
  | _ => none
abbrev Ih := List LoopI → Task → Act → World → Option (Ex × Act × World)
def evCall (ih : Ih) (P : Program) (O : Orc) (E : List LoopI) (f : FuncId) (args : Array Value) (w : World) : Option (Value × World) :=
  match O.fn f args w with
  | some v => some (v, w)
  | none =>
    match O.mkL f args w with
    | some p => some (.complex .f32 w.heap.size 0, { w with heap := w.heap.push (.cells p.1 p.2) })
    | none =>
    match O.mkS f args w with
    | some p => some (.slice (some ⟨w.heap.size, 0, none⟩) p.2.2 p.2.2, { w with heap := w.heap.push (.cells p.1 p.2.1) })
    | none =>
    match P.funcs[f]? with
    | none => none
    | some fn =>
      match fn.body with
      | none => none
      | some c =>
        match ih E (.code c) { tmps := args ++ Array.replicate (fn.ntmps - args.size) undef, defers := [] } w with
        | some (.normal, a1, w1) => (retVal P fn a1.tmps w1).map fun v => (v, w1)
        | some (.ret, a1, w1) => (retVal P fn a1.tmps w1).map fun v => (v, w1)
        | _ => none
def guardOk (ops : Array Oper) (o : Oper) (tmps : Array Value) : Bool := match o.guard with
  | none => true
  | some (j, _) => match ((ops[j]?).bind (·.dst)).bind (tmps[·]?) with
    | some (.float _ _) => false
    | some (.complex _ _ _) => false
    | _ => true
/-- How a loop stands. -/
def pcode (w : World) (b : Nat) : Option Nat := match w.heap[b]? with
  | some (.pending cs c) => if cs.isEmpty then some c else none
  | _ => none
def pset (w : World) (b : Nat) (c : Nat) : World := w.putObj b (.pending #[] c)
def isNormal : Ex → Bool
  | .normal => true
  | _ => false
/-- A round. -/
def evYield (ih : Ih) (E : List LoopI) (L : LoopI) (args : Array Value) (w : World) : Option (Value × World) :=
  if args.size ≠ L.ps.size then none else
  if pcode w L.b ≠ some 0 then none else
  match ih E (.code L.assign) { tmps := (L.ps.zip args).foldl (fun tmps (p : Tmp × Value) => tmps.setIfInBounds p.1 p.2) L.tmps, defers := [] } w with
  | some (.normal, a1, w1) =>
    if pcode w1 L.b ≠ some 0 then none else
    match ih E (.code L.body) a1 (pset w1 L.b 1) with
    | some (e, _, w2) => if pcode w2 L.b ≠ some 1 then none else some (.bool (isNormal e), pset w2 L.b e.num)
    | none => none
  | _ => none
/-- Is it a call of a yield? -/
def yCall (ρ : Operand → Value) (o : Op) : Option (Nat × Array Value) := match o with
  | .call c => match c.callee with
    | .value f => match ρ f with
      | .func (.yield b) x y => if x.isEmpty && y.isEmpty then some (b, c.args.map ρ) else none
      | _ => none
    | _ => none
  | _ => none
def isDefer : Op → Bool
  | .defer _ => true
  | _ => false
def evRun (ih : Ih) (P : Program) (O : Orc) (E : List LoopI) (ρ : Operand → Value) (o : Oper) (w : World) : Option (Value × World) :=
  if isDefer o.op then none else
  match yCall ρ o.op with
  | some (b, args) => match E.find? (fun L => L.b == b) with
    | some L => evYield ih E L args w
    | none => none
  | none => match evOp P O ρ o w with
    | some (.value v, w1) => some (v, w1)
    | some (.skip, w1) => some (undef, w1)
    | some (.enter f args, w1) => evCall ih P O E f args w1
    | _ => none
/-- An operation's value and the world behind it. -/
def evVal (ih : Ih) (P : Program) (O : Orc) (E : List LoopI) (G : Nat) (ops : Array Oper) (o : Oper) (a : Act) (w : World) : Option (Value × World) :=
  if !guardOk ops o a.tmps then none else
  if Region.wanted o (yielded ops a.tmps) then
    if !(o.op.operands.toList.all (constOk G)) then none else evRun ih P O E a.eval o w
  else some (undef, w)
def evStep (ih : Ih) (P : Program) (O : Orc) (E : List LoopI) (G : Nat) (ops : Array Oper) (o : Oper) (a : Act) (w : World) : Option (Act × World) :=
  (evVal ih P O E G ops o a w).map fun p => (a.put o.dst p.1, p.2)

/-- The fence of a function's frame; of a round's. -/
def FW (r : Option Nat) : Fence := { Fence.wide with round := r }
/-- What a task's evaluation tells. -/
def Loop1 (r : Option Nat) (P : Program) (c : Code) (Q : Exit → Act → World → Prop) (a : Act) (w : World) : Prop :=
  ∀ (b : Frame) (k : List Item) (cs : List Frame), b.roundOf = r → ∃ e a' w', Q e a' w' ∧ ArrivesIn (Machine.fenced P (FW r)) P (lone (b.atR a (.code c :: .inLoop c :: k)) cs w) b k cs e a' w'
def TaskWp (r : Option Nat) (P : Program) (t : Task) (Q : Exit → Act → World → Prop) (a : Act) (w : World) : Prop := match t with
  | .code c => c.wpIn (FW r) 0 P Q a w
  | .loop c => Loop1 r P c Q a w
  | .ops ops l => wpOpsIn (FW r) 0 P ops Q l a w
  | .draw ops => wpAnyIn (FW r) 0 P .any ops Q ops.size (Array.replicate ops.size false) a w
def IhOK (P : Program) (σ : Nat → Value) (W0 : World) (H G : Nat) (ih : Ih) : Prop :=
  ∀ E t a w e a1 w1, ih E t a w = some (e, a1, w1) → ∀ (r : Option Nat) (Γ : Gst) (D0 : List Nat) A a' w', Γ.E.map (·.L) = E → (∀ l, r = some l → ∃ g ∈ Γ.E, A.f g.L.b = l) → (∀ k ∈ D0, k ∈ Γ.D) → (∀ g ∈ Γ.E, g.dd ∈ D0) →
    RAct σ A D0 Γ.D a a' → GR G A → WR σ W0 H Γ A w w' → ∀ Q : Exit → Act → World → Prop,
    (∀ B D a1' w1', A.le B → (∀ k ∈ Γ.D, k ∈ D) → RAct σ B D0 D a1 a1' → WR σ W0 H ⟨Γ.E, D, Γ.R⟩ B w1 w1' → Q e.of a1' w1') → TaskWp r P t Q a' w'
end
end Go.Proofs.YtfppinabdalblaaGreat
