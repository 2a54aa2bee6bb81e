/- Reflection, 2: what the model's own helpers do, related. No program is named here. -/
import Derived.Test.YtfppinabdalblaaGreatRefl1
namespace Go.Proofs.YtfppinabdalblaaGreat
open Go.RowKit
set_option linter.unusedVariables false
set_option linter.unusedSimpArgs false

section
variable {P : Program} {σ : Nat → Value} {A : Ren}

theorem SemRel.bnd {α β γ δ : Type} {R : Ren → α → β → Prop} {R' : Ren → γ → δ → Prop} {s : Sem α} {s' : Sem β} {f : α → Sem γ} {g : β → Sem δ}
    (h : SemRel P σ R A s s') (hf : ∀ B a b, A.le B → R B a b → SemRel P σ R' B (f a) (g b)) : SemRel P σ R' A (s >>= f) (s' >>= g) := SemRel.bind h hf
theorem SemRel.ret {α β : Type} {R : Ren → α → β → Prop} {a : α} {b : β} (h : R A a b) : SemRel P σ R A (Pure.pure a) (Pure.pure b) := .pure h
theorem SemRel.stuck {α β : Type} {R : Ren → α → β → Prop} {why : String} {s' : Sem β} : SemRel P σ R A (stuck why : Sem α) s' := .dead fun w a w1 h => by cases h
theorem SemRel.unsup {α β : Type} {R : Ren → α → β → Prop} {u : Unsupported} {s' : Sem β} : SemRel P σ R A (unsupported u : Sem α) s' := .dead fun w a w1 h => by cases h
theorem SemRel.weaken {α β : Type} {R R' : Ren → α → β → Prop} {s : Sem α} {s' : Sem β} (h : SemRel P σ R A s s') (hr : ∀ B a b, A.le B → R B a b → R' B a b) : SemRel P σ R' A s s' := by
  have := SemRel.bind (f := Sem.pure) (g := Sem.pure) h (fun B a b hB hab => .pure (hr B a b hB hab))
  have e1 : ∀ {γ : Type} (s : Sem γ), s.bind Sem.pure = s := by
    intro γ s
    induction s with
    | pure a => rfl
    | halt h => rfl
    | load m a k ih => simp only [Sem.bind, ih]
    | store m a v k ih => simp only [Sem.bind, ih]
    | new o k ih => simp only [Sem.bind, ih]
    | shape r k ih => simp only [Sem.bind, ih]
    | freeze a n k ih => simp only [Sem.bind, ih]
    | frozen a k ih => simp only [Sem.bind, ih]
    | getObj r k ih => simp only [Sem.bind, ih]
    | setObj r o k ih => simp only [Sem.bind, ih]
    | choose q k ih => simp only [Sem.bind, ih]
    | sys c k ih => simp only [Sem.bind, ih]
    | program k ih => simp only [Sem.bind, ih]
    | mark m k ih => simp only [Sem.bind, ih]
  rwa [e1, e1] at this

/-- Relations on results. -/
def REq {α : Type} (_ : Ren) (a b : α) : Prop := a = b
def RAd (A : Ren) (a b : Addr) : Prop := A.d a.block ∧ b = A.addr a

theorem andThen_dead {α β : Type} {r : Result α} {f : α → World → Result β} {b : β} {w1 : World} (hf : ∀ a w, f a w ≠ .ok b w1) : r.andThen f ≠ .ok b w1 := by
  cases r with
  | ok a w => exact hf a w
  | halt x w => intro h; cases h
theorem dead_panic {α : Type} (e : RuntimeError) (w : World) (a : α) (w1 : World) : (runtimePanic e : Sem α).run P w ≠ .ok a w1 := by
  unfold runtimePanic
  rw [Sem.run_bind]
  refine andThen_dead fun p w2 => ?_
  cases e <;> simp only []
  case typeAssertion i c a m =>
    rw [Sem.run_bind]
    refine andThen_dead fun p w2 => ?_
    rw [Sem.run_bind]
    exact andThen_dead fun p w2 h => by cases h
  case panicNil =>
    rw [Sem.run_bind]
    refine andThen_dead fun p w2 => ?_
    rw [Sem.run_bind]
    exact andThen_dead fun p w2 h => by cases h
  all_goals exact fun h => by cases h
theorem SemRel.panic {α β : Type} {R : Ren → α → β → Prop} {e : RuntimeError} {s' : Sem β} : SemRel P σ R A (runtimePanic e : Sem α) s' := .dead fun w a w1 => dead_panic e w a w1
theorem SemRel.bounds {α β : Type} {R : Ren → α → β → Prop} {k : IntKind} {x y : Int} {c : BoundsCode} {s' : Sem β} : SemRel P σ R A (boundsPanic k x y c : Sem α) s' := .dead fun w a w1 h => by
  unfold boundsPanic at h
  dsimp only at h
  split at h <;> (rw [Sem.run_bind] at h; exact andThen_dead (fun p w2 => dead_panic _ _ _ _) h)

theorem rel_program : SemRel P σ (fun _ a b => a = P ∧ b = P) A program program := .progL (.progR (.pure ⟨rfl, rfl⟩))
theorem rel_typeInfo (t : TypeId) : SemRel P σ (fun _ a b => a = b ∧ P.info? t = some a) A (typeInfo t) (typeInfo t) := by
  unfold typeInfo
  refine SemRel.bnd rel_program ?_
  rintro B _ _ hB ⟨rfl, rfl⟩
  split
  · rename_i i hi; exact .ret ⟨rfl, hi⟩
  · exact .stuck
theorem rel_underlying (t : TypeId) : SemRel P σ (fun _ a b => a = b ∧ P.underlying t = some a) A (underlying t) (underlying t) := by
  unfold underlying
  refine SemRel.bnd rel_program ?_
  rintro B _ _ hB ⟨rfl, rfl⟩
  split
  · rename_i i hi; exact .ret ⟨rfl, hi⟩
  · exact .stuck
theorem rel_zeroValue (t : TypeId) : SemRel P σ (fun _ a b => a = b ∧ (P.info? t).bind (·.zero) = some a) A (zeroValue t) (zeroValue t) := by
  unfold zeroValue
  refine SemRel.bnd (rel_typeInfo t) ?_
  rintro B i _ hB ⟨rfl, hi⟩
  split
  · rename_i z hz; exact .ret ⟨rfl, by rw [hi]; exact hz⟩
  · exact .unsup
theorem rel_sizeOf (t : TypeId) : SemRel P σ (fun _ a b => a = b ∧ (P.info? t).map (·.size) = some a) A (sizeOf t) (sizeOf t) := by
  unfold sizeOf
  refine SemRel.bnd (rel_typeInfo t) ?_
  rintro B i _ hB ⟨rfl, hi⟩
  exact .ret ⟨rfl, by rw [hi]; rfl⟩
theorem rel_isAgg (t : TypeId) : SemRel P σ REq A (isAgg t) (isAgg t) := by
  unfold isAgg
  refine SemRel.bnd (rel_underlying t) ?_
  rintro B i _ hB ⟨rfl, hi⟩
  split <;> exact .ret rfl

theorem RAr.push {x x' : Array Value} (h : RAr σ A x x') {v v' : Value} (hv : RV σ A v v') : RAr σ A (x.push v) (x'.push v') := by
  refine ⟨by simp [h.1], fun i u u' h1 h2 => ?_⟩
  rw [Array.getElem?_push] at h1 h2
  rw [← h.1] at h2
  split at h1
  · rename_i e
    rw [if_pos e] at h2
    cases h1; cases h2
    exact hv
  · rename_i e
    rw [if_neg e] at h2
    exact h.2 i u u' h1 h2
theorem RAr.nil : RAr σ A #[] #[] := ⟨rfl, fun i v v' h => by simp at h⟩
theorem RAr.app {x x' y y' : Array Value} (h : RAr σ A x x') (k : RAr σ A y y') : RAr σ A (x ++ y) (x' ++ y') := by
  refine ⟨by simp [h.1, k.1], fun i u u' h1 h2 => ?_⟩
  rw [Array.getElem?_append] at h1 h2
  rw [← h.1] at h2
  split at h1
  · rename_i e
    rw [if_pos e] at h2
    exact h.2 i u u' h1 h2
  · rename_i e
    rw [if_neg e] at h2
    exact k.2 _ u u' h1 h2
theorem rel_loadFrom : ∀ (n : Nat) {A : Ren} (a : Addr) (i : Nat) (acc acc' : Array Value), A.d a.block → RAr σ A acc acc' → SemRel P σ (RAr σ) A (loadCellsFrom a i n acc) (loadCellsFrom (A.addr a) i n acc')
  | 0, A, a, i, acc, acc', ha, h => .ret h
  | n + 1, A, a, i, acc, acc', ha, h => by
    unfold loadCellsFrom
    refine SemRel.bind (R := RV σ) ?_ ?_
    · unfold load
      rw [← Ren.addr_add]
      exact .load (by rw [Ren.add_block]; exact ha) fun v v' hv => .pure hv
    · intro B v v' hB hv
      have := rel_loadFrom n (A := B) a (i + 1) (acc.push v) (acc'.push v') (hB.1 _ ha) ((h.mono hB).push hv)
      rwa [hB.addr ha] at this
theorem rel_loadCells (a : Addr) (n : Nat) (ha : A.d a.block) : SemRel P σ (RAr σ) A (loadCells a n) (loadCells (A.addr a) n) := rel_loadFrom n a 0 #[] #[] ha RAr.nil
theorem rel_loadVar (t : TypeId) (a : Addr) (ha : A.d a.block) : SemRel P σ (RV σ) A (loadVar t a) (loadVar t (A.addr a)) := by
  unfold loadVar
  refine SemRel.bnd (rel_isAgg t) ?_
  rintro B x _ hB rfl
  rw [← hB.addr ha]
  have hb := hB.1 _ ha
  split
  · refine SemRel.bnd (rel_sizeOf t) ?_
    rintro C n _ hC ⟨rfl, _⟩
    rw [← hC.addr hb]
    refine SemRel.bnd (rel_loadCells a n (hC.1 _ hb)) ?_
    intro D x x' hD hx
    exact .ret (.agg x x' hx.1 hx.2)
  · exact .load hb fun v v' hv => .pure hv

theorem RAr.one {v v' : Value} (h : RV σ A v v') : RAr σ A #[v] #[v'] := ⟨rfl, fun i u u' h1 h2 => by
  rcases i with _ | i
  · simp at h1 h2; subst h1; subst h2; exact h
  · simp at h1⟩
theorem RV.cells (hσ : ∀ j, OneC (σ j)) {v v' : Value} (h : RV σ A v v') : RAr σ A v.cells v'.cells := by
  cases h with
  | agg x x' h1 h2 => exact ⟨h1, h2⟩
  | tok k j =>
    have e : (σ j).cells = #[σ j] := by
      have := hσ j
      cases hs : σ j <;> rw [hs] at this <;> first | rfl | exact this.elim
    rw [e]
    exact RAr.one (.tok k j)
  | bool b => exact RAr.one (.bool b)
  | int k n => exact RAr.one (.int k n)
  | str s => exact RAr.one (.str s)
  | nilp => exact RAr.one .nilp
  | ptr a ha => exact RAr.one (.ptr a ha)
  | slice0 n c => exact RAr.one (.slice0 n c)
  | slice a n c c' h1 h2 h3 h4 => exact RAr.one (.slice a n c c' h1 h2 h3 h4)
  | sliceE a b c' h hs => exact RAr.one (.sliceE a b c' h hs)
  | func f x x' y y' h1 h2 h3 h4 => exact RAr.one (.func f x x' y y' h1 h2 h3 h4)
  | meth f x x' y y' h1 h2 h3 h4 => exact RAr.one (.meth f x x' y y' h1 h2 h3 h4)
  | yield b hb => exact RAr.one (.yield b hb)
  | nilFunc => exact RAr.one .nilFunc
  | nilMap => exact RAr.one .nilMap
  | map b hb => exact RAr.one (.map b hb)
  | any x y v' ho =>
    have e : v'.cells = #[v'] := by cases v' <;> first | rfl | exact ho.elim
    rw [e]
    exact RAr.one (.any x y v' ho)
  | long b c' L h1 h2 h3 => exact RAr.one (.long b c' L h1 h2 h3)
  | grow b k n r c hk hg => exact RAr.one (.grow b k n r c hk hg)
  | gptr b k n i r c hk hg hi hn => exact RAr.one (.gptr b k n i r c hk hg hi hn)
  | lptr b k j p hk hd ht hp => exact RAr.one (.lptr b k j p hk hd ht hp)
  | iface t v v' h => exact RAr.one (.iface t v v' h)
  | nilIface => exact RAr.one .nilIface
  | tuple x x' h1 h2 => exact RAr.one (.tuple x x' h1 h2)

theorem rel_storeCells : ∀ (l l' : List Value) {A : Ren} (a : Addr) (i : Nat), A.d a.block → RAr σ A l.toArray l'.toArray → SemRel P σ REq A (storeCells a l i) (storeCells (A.addr a) l' i)
  | [], l', A, a, i, ha, h => by
    have : l' = [] := by have := h.1; simp at this; exact List.length_eq_zero_iff.1 this.symm
    subst this
    exact .ret rfl
  | v :: l, [], A, a, i, ha, h => by have := h.1; simp at this
  | v :: l, v' :: l', A, a, i, ha, h => by
    unfold storeCells
    have hv : RV σ A v v' := h.2 0 v v' (by simp) (by simp)
    have ht : RAr σ A l.toArray l'.toArray := ⟨by have := h.1; simpa using this, fun j u u' h1 h2 => h.2 (j + 1) u u' (by simpa using h1) (by simpa using h2)⟩
    refine SemRel.bind (R := fun _ _ _ => True) ?_ ?_
    · unfold store
      rw [← Ren.addr_add]
      exact .store (by rw [Ren.add_block]; exact ha) hv (.pure trivial)
    · intro B _ _ hB _
      have := rel_storeCells l l' (A := B) a (i + 1) (hB.1 _ ha) (ht.mono hB)
      rwa [hB.addr ha] at this
theorem rel_storeVar (hσ : ∀ j, OneC (σ j)) (t : TypeId) (a : Addr) (ha : A.d a.block) {v v' : Value} (hv : RV σ A v v') : SemRel P σ REq A (storeVar t a v) (storeVar t (A.addr a) v') := by
  unfold storeVar
  refine SemRel.bnd (rel_sizeOf t) ?_
  rintro B n _ hB ⟨rfl, _⟩
  have hc := (hv.mono hB).cells hσ
  rw [← hc.1]
  split
  · exact .stuck
  · have hb := hB.1 _ ha
    rw [← hB.addr ha]
    exact rel_storeCells _ _ a 0 hb (by simpa using hc)
theorem rel_newRow (e : TypeId) {cs cs' : Array Value} (h : CR σ A cs cs') : SemRel P σ RAd A (newRow e cs) (newRow e cs') := by
  unfold newRow
  refine SemRel.bind (R := fun B r r' => B.d r ∧ r' = B.f r) ?_ ?_
  · unfold newObj
    exact .new h fun B r r' hB hr e => .pure ⟨hr, e.symm⟩
  · rintro B r r' hB ⟨hr, rfl⟩
    exact .pure ⟨hr, rfl⟩
def RAd2 (A : Ren) (a b : Addr) : Prop := (A.d a.block ∧ a.spot = none) ∧ b = A.addr a
theorem rel_newRow2 (e : TypeId) {cs cs' : Array Value} (h : CR σ A cs cs') : SemRel P σ RAd2 A (newRow e cs) (newRow e cs') := by
  unfold newRow
  refine SemRel.bind (R := fun B r r' => B.d r ∧ r' = B.f r) ?_ ?_
  · unfold newObj
    exact .new h fun B r r' hB hr e => .pure ⟨hr, e.symm⟩
  · rintro B r r' hB ⟨hr, rfl⟩
    exact .pure ⟨⟨hr, rfl⟩, rfl⟩
theorem rel_newVar (hσ : ∀ j, OneC (σ j)) (t : TypeId) {v v' : Value} (h : RV σ A v v') : SemRel P σ RAd A (newVar t v) (newVar t v') := rel_newRow t (h.cells hσ).cr
theorem rel_sureAddr {v v' : Value} (h : RV σ A v v') : SemRel P σ RAd A (Instr.sureAddr v) (Instr.sureAddr v') := by
  cases h with
  | ptr a ha => exact .ret ⟨ha, rfl⟩
  | _ => exact .stuck
theorem rel_asAddr {v v' : Value} (h : RV σ A v v') : SemRel P σ RAd A (asAddr v) (asAddr v') := by
  cases h with
  | ptr a ha => exact .ret ⟨ha, rfl⟩
  | nilp => exact .dead fun w a w1 => dead_panic .nilDeref w a w1
  | _ => exact .stuck
theorem rel_asIntOf {v v' : Value} (h : RV σ A v v') : SemRel P σ REq A (asIntOf v) (asIntOf v') := by
  cases h <;> first | exact .stuck | exact .unsup | exact .ret rfl
theorem rel_asInt {v v' : Value} (h : RV σ A v v') : SemRel P σ REq A (asInt v) (asInt v') := by
  unfold asInt
  refine SemRel.bnd (rel_asIntOf h) ?_
  rintro B x _ hB rfl
  exact .ret rfl

theorem rel_loadAt (t : TypeId) {v v' : Value} (h : RV σ A v v') : SemRel P σ (RV σ) A (Instr.loadAt t v) (Instr.loadAt t v') := by
  unfold Instr.loadAt
  refine SemRel.bnd (rel_sureAddr h) ?_
  rintro B a _ hB ⟨ha, rfl⟩
  exact rel_loadVar t a ha
theorem rel_storeAt (hσ : ∀ j, OneC (σ j)) (t : TypeId) {v v' x x' : Value} (h : RV σ A v v') (hx : RV σ A x x') : SemRel P σ REq A (Instr.storeAt t v x) (Instr.storeAt t v' x') := by
  unfold Instr.storeAt
  refine SemRel.bnd (rel_sureAddr h) ?_
  rintro B a _ hB ⟨ha, rfl⟩
  exact rel_storeVar hσ t a ha (hx.mono hB)
theorem rel_box (hσ : ∀ j, OneC (σ j)) (t : TypeId) {x x' : Value} (hx : RV σ A x x') : SemRel P σ (RV σ) A (Instr.box t x) (Instr.box t x') := by
  unfold Instr.box
  refine SemRel.bnd (rel_newVar hσ t hx) ?_
  rintro B a _ hB ⟨ha, rfl⟩
  exact .ret (.ptr a ha)
end
end Go.Proofs.YtfppinabdalblaaGreat
