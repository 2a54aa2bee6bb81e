/- Reflection, 1: a run in one world told as a run in another one: renamed blocks, related values, related trees of what an operation does. No program is named here. -/
import Derived.Test.YtlgbahkioimkfaaGreatDoorBase
namespace Go.Proofs.YtlgbahkioimkfaaGreatDoor
open Go.RowKit
set_option linter.unusedVariables false
set_option linter.unusedSimpArgs false

/-- Which block of the other world a block is; so many are. -/
structure Ren where
  f : Nat → Nat
  d : Nat → Prop
def Ren.le (A B : Ren) : Prop := (∀ b, A.d b → B.d b) ∧ ∀ b, A.d b → B.f b = A.f b
theorem Ren.le.refl (A : Ren) : A.le A := ⟨fun _ h => h, fun _ _ => rfl⟩
theorem Ren.le.trans {A B C : Ren} (h : A.le B) (k : B.le C) : A.le C := ⟨fun b hb => k.1 b (h.1 b hb), fun b hb => (k.2 b (h.1 b hb)).trans (h.2 b hb)⟩
def Ren.addr (A : Ren) (a : Addr) : Addr := ⟨A.f a.block, a.off, a.spot⟩
theorem Ren.addr_add (A : Ren) (a : Addr) (n : Nat) : A.addr (a.add n) = (A.addr a).add n := by
  unfold Addr.add Ren.addr
  split <;> rfl
theorem Ren.add_block (a : Addr) (n : Nat) : (a.add n).block = a.block := by
  unfold Addr.add; split <;> rfl
theorem Ren.le.addr {A B : Ren} (h : A.le B) {a : Addr} (ha : A.d a.block) : B.addr a = A.addr a := by
  unfold Ren.addr; rw [h.2 _ ha]

/-- Values that are one cell. -/
def OneC : Value → Prop
  | .agg _ | .tuple _ => False
  | _ => True
/-- Related values: a float stands for a value that is not looked into; a complex number for any one, that nobody will look into. -/
inductive RV (σ : Nat → Value) (A : Ren) : Value → Value → Prop
  | tok (k : FloatKind) (j : Nat) : RV σ A (.float k j) (σ j)
  | bool (b : Bool) : RV σ A (.bool b) (.bool b)
  | int (k : IntKind) (n : Int) : RV σ A (.int k n) (.int k n)
  | str (s : ByteArray) : RV σ A (.string s) (.string s)
  | nilp : RV σ A (.pointer none) (.pointer none)
  | ptr (a : Addr) : A.d a.block → RV σ A (.pointer (some a)) (.pointer (some (A.addr a)))
  | slice0 (n c : Nat) : RV σ A (.slice none n c) (.slice none n c)
  | slice (a : Addr) (n c c' : Nat) : A.d a.block → c ≤ c' → (c = 0 → c' = 0) → a.spot = none → RV σ A (.slice (some a) n c) (.slice (some (A.addr a)) n c')
  | sliceE (a b : Addr) (c' : Nat) : A.d a.block → a.spot ≠ none → RV σ A (.slice (some a) 0 0) (.slice (some b) 0 c')
  | func (f : FuncId) (x x' y y' : Array Value) : x.size = x'.size → (∀ (i : Nat) (v v' : Value), x[i]? = some v → x'[i]? = some v' → RV σ A v v') →
      y.size = y'.size → (∀ (i : Nat) (v v' : Value), y[i]? = some v → y'[i]? = some v' → RV σ A v v') → RV σ A (.func (.func f) x y) (.func (.func f) x' y')
  | meth (f : String) (x x' y y' : Array Value) : x.size = x'.size → (∀ (i : Nat) (v v' : Value), x[i]? = some v → x'[i]? = some v' → RV σ A v v') →
      y.size = y'.size → (∀ (i : Nat) (v v' : Value), y[i]? = some v → y'[i]? = some v' → RV σ A v v') → RV σ A (.func (.method f) x y) (.func (.method f) x' y')
  | yield (b : Nat) : A.d b → RV σ A (.func (.yield b) #[] #[]) (.func (.yield (A.f b)) #[] #[])
  | nilFunc : RV σ A .nilFunc .nilFunc
  | nilMap : RV σ A (.map none) (.map none)
  | map (b : Nat) : A.d b → RV σ A (.map (some b)) (.map (some (A.f b)))
  | any (k : FloatKind) (x y : Nat) (v' : Value) : OneC v' → RV σ A (.complex k x y) v'
  | iface (t : TypeId) (v v' : Value) : RV σ A v v' → RV σ A (.iface t v) (.iface t v')
  | nilIface : RV σ A .nilIface .nilIface
  | agg (x x' : Array Value) : x.size = x'.size → (∀ (i : Nat) (v v' : Value), x[i]? = some v → x'[i]? = some v' → RV σ A v v') → RV σ A (.agg x) (.agg x')
  | tuple (x x' : Array Value) : x.size = x'.size → (∀ (i : Nat) (v v' : Value), x[i]? = some v → x'[i]? = some v' → RV σ A v v') → RV σ A (.tuple x) (.tuple x')

/-- Related rows of values, of one length. -/
def RAr (σ : Nat → Value) (A : Ren) (x x' : Array Value) : Prop := x.size = x'.size ∧ ∀ (i : Nat) (v v' : Value), x[i]? = some v → x'[i]? = some v' → RV σ A v v'
/-- Related rows of cells: the other one may go on. -/
def CR (σ : Nat → Value) (A : Ren) (x x' : Array Value) : Prop := x.size ≤ x'.size ∧ ∀ (i : Nat) (v : Value), x[i]? = some v → ∃ v', x'[i]? = some v' ∧ RV σ A v v'

theorem RV.mono {σ : Nat → Value} {A B : Ren} (hle : A.le B) : ∀ {v v' : Value}, RV σ A v v' → RV σ B v v' := by
  intro v v' h
  induction h with
  | tok k j => exact .tok k j
  | bool b => exact .bool b
  | int k n => exact .int k n
  | str s => exact .str s
  | nilp => exact .nilp
  | ptr a ha => rw [← hle.addr ha]; exact .ptr a (hle.1 _ ha)
  | slice0 n c => exact .slice0 n c
  | slice a n c c' ha h1 h2 hs => rw [← hle.addr ha]; exact .slice a n c c' (hle.1 _ ha) h1 h2 hs
  | sliceE a b c' ha hs => exact .sliceE a b c' (hle.1 _ ha) hs
  | func f x x' y y' h1 _ h3 _ ih1 ih2 => exact .func f x x' y y' h1 ih1 h3 ih2
  | meth f x x' y y' h1 _ h3 _ ih1 ih2 => exact .meth f x x' y y' h1 ih1 h3 ih2
  | yield b hb => rw [← hle.2 b hb]; exact .yield b (hle.1 _ hb)
  | nilFunc => exact .nilFunc
  | nilMap => exact .nilMap
  | map b hb => rw [← hle.2 b hb]; exact .map b (hle.1 _ hb)
  | any k x y v' ho => exact .any k x y v' ho
  | iface t v v' _ ih => exact .iface t v v' ih
  | nilIface => exact .nilIface
  | agg x x' h1 _ ih => exact .agg x x' h1 ih
  | tuple x x' h1 _ ih => exact .tuple x x' h1 ih
theorem RAr.mono {σ : Nat → Value} {A B : Ren} (hle : A.le B) {x x' : Array Value} (h : RAr σ A x x') : RAr σ B x x' := ⟨h.1, fun i v v' h1 h2 => (h.2 i v v' h1 h2).mono hle⟩
theorem CR.mono {σ : Nat → Value} {A B : Ren} (hle : A.le B) {x x' : Array Value} (h : CR σ A x x') : CR σ B x x' := ⟨h.1, fun i v h1 => by obtain ⟨v', h2, h3⟩ := h.2 i v h1; exact ⟨v', h2, h3.mono hle⟩⟩
theorem RAr.get {σ : Nat → Value} {A : Ren} {x x' : Array Value} (h : RAr σ A x x') {i : Nat} {v : Value} (hv : x[i]? = some v) : ∃ v', x'[i]? = some v' ∧ RV σ A v v' := by
  have hi : i < x.size := by
    rcases Nat.lt_or_ge i x.size with h1 | h1
    · exact h1
    · rw [Array.getElem?_eq_none h1] at hv; cases hv
  have hi' : i < x'.size := h.1 ▸ hi
  exact ⟨x'[i], Array.getElem?_eq_getElem hi', h.2 i v _ hv (Array.getElem?_eq_getElem hi')⟩
theorem RAr.cr {σ : Nat → Value} {A : Ren} {x x' : Array Value} (h : RAr σ A x x') : CR σ A x x' := ⟨by rw [h.1]; exact Nat.le_refl _, fun i v hv => h.get hv⟩

/-- A loop over a function that is under way: its block, its frame as it was when it began, its text. -/
structure LoopI where
  b : Nat
  tmps : Array Value
  ps : Array Tmp
  assign : Code
  body : Code
/-- What the other side has of it. -/
structure LoopG where
  L : LoopI
  fn : FuncId
  tmps : Array Value
  dd : Nat
def stOf (c : Nat) : LoopState := if c = 0 then .ready else if c = 1 then .busy else .done
def pendOf (c : Nat) : Option Code := if c = 2 then some .ret else if 10 ≤ c then some (.exit (c - 10)) else none
def LoopG.row (g : LoopG) (c : Nat) : Loop := { state := stOf c, pending := pendOf c, fn := g.fn, tmps := g.tmps, params := g.L.ps, assign := g.L.assign, body := g.L.body, defers := g.dd }
/-- What leads to a new block: an address, a slice, a map. -/
inductive Shp where
  | ptr
  | sl (n : Nat)
  | mp
def realO (cs : Array Value) (e : TypeId) : Shp → Obj
  | .mp => .map #[] 0
  | _ => .cells cs e
def smallO (cs : Array Value) (e : TypeId) : Shp → Obj
  | .mp => .pending #[] 8
  | _ => .cells cs e
/-- A block that the other side has made already. -/
structure ResG where
  b : Nat
  cs : Array Value
  e : TypeId
  sh : Shp
/-- Loops under way; blocks for the rounds' deferred calls, all empty. -/
structure Gst where
  E : List LoopG
  D : List Nat
  R : List ResG
/-- Related worlds: W0 is as it was below block H. -/
structure WR (σ : Nat → Value) (W0 : World) (H : Nat) (Γ : Gst) (A : Ren) (w w' : World) : Prop where
  tape : w.tape = fun _ _ => 0
  size : ∀ b, A.d b → b < w.heap.size
  full : ∀ b, b < w.heap.size → A.d b ∨ w.heap[b]? = some (.pending #[] 9)
  lt : ∀ b, A.d b → A.f b < w'.heap.size
  inj : ∀ b c, A.d b → A.d c → A.f b = A.f c → b = c
  obj : ∀ b o, w.heap[b]? = some o → (∃ c e, o = .pending c e) ∨ ∃ cs e fz cs' e' fz', o = .cells cs e fz ∧ w'.heap[A.f b]? = some (.cells cs' e' fz') ∧ CR σ A cs cs' ∧
    ((fz = (0, 0) ∧ fz' = (0, 0) ∧ H ≤ A.f b) ∨ ∀ i, i < cs.size → fz.1 ≤ i ∧ i < fz.2)
  ext : Below H W0 w'
  hle : H ≤ w'.heap.size
  loops : ∀ g ∈ Γ.E, A.d g.L.b ∧ (∃ c, w.heap[g.L.b]? = some (.pending #[] c) ∧ w'.heap[A.f g.L.b]? = some (.loop (g.row c))) ∧ RAr σ A g.L.tmps g.tmps ∧ H ≤ A.f g.L.b ∧ g.dd ∈ Γ.D
  resv : ∀ p ∈ Γ.R, A.d p.b ∧ w.heap[p.b]? = some (.pending #[] 9) ∧ w'.heap[A.f p.b]? = some (realO p.cs p.e p.sh) ∧ H ≤ A.f p.b
  resd : ∀ b, A.d b → w.heap[b]? = some (.pending #[] 9) → ∃ p ∈ Γ.R, p.b = b
  dead : ∀ k ∈ Γ.D, w'.heap[k]? = some (.deferred (some [])) ∧ H ≤ k ∧ ∀ b, A.d b → A.f b ≠ k

/-- A block with cells is one of those that are related. -/
theorem WR.has {σ : Nat → Value} {W0 : World} {H : Nat} {Γ : Gst} {A : Ren} {w w' : World} (h : WR σ W0 H Γ A w w') {b : Nat} {cs : Array Value} {e : TypeId} {fz : Nat × Nat} (hb : w.heap[b]? = some (.cells cs e fz)) : A.d b := by
  rcases h.full b (Array.getElem?_eq_some_iff.1 hb).1 with h1 | h1
  · exact h1
  · rw [h1] at hb; cases hb

/-- What one tree does, the other one does. -/
inductive SemRel (P : Program) (σ : Nat → Value) {α β : Type} (R : Ren → α → β → Prop) : Ren → Sem α → Sem β → Prop
  | pure {A a b} : R A a b → SemRel P σ R A (.pure a) (.pure b)
  | dead {A s s'} : (∀ w a w1, s.run P w ≠ .ok a w1) → SemRel P σ R A s s'
  | load {A m a k k'} : A.d a.block → (∀ v v', RV σ A v v' → SemRel P σ R A (k v) (k' v')) → SemRel P σ R A (.load m a k) (.load m (A.addr a) k')
  | store {A m a v v' k k'} : A.d a.block → RV σ A v v' → SemRel P σ R A k k' → SemRel P σ R A (.store m a v k) (.store m (A.addr a) v' k')
  | new {A cs cs' e k k'} : CR σ A cs cs' → (∀ B r r', A.le B → B.d r → B.f r = r' → SemRel P σ R B (k r) (k' r')) → SemRel P σ R A (.new (.cells cs e) k) (.new (.cells cs' e) k')
  | progL {A k s'} : SemRel P σ R A (k P) s' → SemRel P σ R A (.program k) s'
  | progR {A s k'} : SemRel P σ R A s (k' P) → SemRel P σ R A s (.program k')
  | markL {A m s s'} : SemRel P σ R A s s' → SemRel P σ R A (.mark m s) s'
  | markR {A m s s'} : SemRel P σ R A s s' → SemRel P σ R A s (.mark m s')
  | convL {A s t s'} : (∀ w a w1, s.run P w = .ok a w1 → t.run P w = .ok a w1) → SemRel P σ R A t s' → SemRel P σ R A s s'
  | convR {A s s' t'} : (∀ w a w1, t'.run P w = .ok a w1 → s'.run P w = .ok a w1) → SemRel P σ R A s t' → SemRel P σ R A s s'
  | chooseL {A q k s'} : (∀ n, SemRel P σ R A (k n) s') → SemRel P σ R A (.choose q k) s'
  | choose {A q k k'} : q.forced = false → (∀ t, SemRel P σ R A (k (q.cut 0)) (k' (q.cut t))) → SemRel P σ R A (.choose q k) (.choose q k')

theorem dead_left {P : Program} {α β : Type} {s : Sem α} {f : α → Sem β} (h : ∀ w a w1, s.run P w ≠ .ok a w1) (w : World) (b : β) (w1 : World) : (s.bind f).run P w ≠ .ok b w1 := by
  intro e
  rw [Sem.run_bind'] at e
  generalize hs : Sem.run P s w = r at e
  cases r with
  | ok x w2 => exact h _ _ _ hs
  | halt x w2 => cases e
theorem conv_bind {P : Program} {α β : Type} {s t : Sem α} {f : α → Sem β} (h : ∀ w a w1, s.run P w = .ok a w1 → t.run P w = .ok a w1) (w : World) (b : β) (w1 : World) (e : (s.bind f).run P w = .ok b w1) : (t.bind f).run P w = .ok b w1 := by
  rw [Sem.run_bind'] at e ⊢
  generalize hs : Sem.run P s w = r at e
  cases r with
  | ok x w2 => rw [h _ _ _ hs]; exact e
  | halt x w2 => cases e
theorem SemRel.bind {P : Program} {σ : Nat → Value} {α β γ δ : Type} {R : Ren → α → β → Prop} {R' : Ren → γ → δ → Prop} {A : Ren} {s : Sem α} {s' : Sem β} {f : α → Sem γ} {g : β → Sem δ}
    (h : SemRel P σ R A s s') (hf : ∀ B a b, A.le B → R B a b → SemRel P σ R' B (f a) (g b)) : SemRel P σ R' A (s.bind f) (s'.bind g) := by
  induction h with
  | pure hr => exact hf _ _ _ (Ren.le.refl _) hr
  | dead hd => exact .dead (dead_left hd)
  | load ha _ ih => exact .load ha fun v v' hv => ih v v' hv hf
  | store ha hv _ ih => exact .store ha hv (ih hf)
  | new hc _ ih => exact .new hc fun B r r' hB hr e => ih B r r' hB hr e fun C a b hC => hf C a b (hB.trans hC)
  | progL _ ih => exact .progL (ih hf)
  | progR _ ih => exact .progR (ih hf)
  | markL _ ih => exact .markL (ih hf)
  | markR _ ih => exact .markR (ih hf)
  | convL hc _ ih => exact .convL (conv_bind hc) (ih hf)
  | convR hc _ ih => exact .convR (conv_bind hc) (ih hf)
  | chooseL _ ih => exact .chooseL fun n => ih n hf
  | choose hq _ ih => exact .choose hq fun t => ih t hf

theorem WR.cell {σ : Nat → Value} {W0 : World} {H : Nat} {Γ : Gst} {A : Ren} {w w' : World} (h : WR σ W0 H Γ A w w') {a : Addr} {v : Value} (hc : w.cell? a = some v) : ∃ v', w'.cell? (A.addr a) = some v' ∧ RV σ A v v' := by
  unfold World.cell? at hc
  split at hc
  · rename_i cs e fz hb
    rcases h.obj _ _ hb with ⟨c, e', he⟩ | ⟨cs0, e0, fz0, cs', e', fz', he, hb', hcr, _⟩
    · cases he
    · cases he
      split at hc
      · cases hc
      · rename_i hs
        obtain ⟨v', h1, h2⟩ := hcr.2 _ _ hc
        refine ⟨v', ?_, h2⟩
        unfold World.cell?
        simp only [Ren.addr, hb', h1]
        rw [if_neg hs]
  · cases hc
theorem WR.far {σ : Nat → Value} {W0 : World} {H : Nat} {Γ : Gst} {A : Ren} {w w' : World} (h : WR σ W0 H Γ A w w') (P : Program) (a : Addr) (m : Bool) : ∃ e, w.farLoad P a m = .error e := by
  unfold World.farLoad
  split
  · rename_i hb
    rcases h.obj _ _ hb with ⟨c, e', he⟩ | ⟨cs0, e0, fz0, cs', e', fz', he, _⟩ <;> cases he
  · exact ⟨_, rfl⟩
theorem WR.farS {σ : Nat → Value} {W0 : World} {H : Nat} {Γ : Gst} {A : Ren} {w w' : World} (h : WR σ W0 H Γ A w w') (P : Program) (a : Addr) (v : Value) (m : Bool) : ∃ e, w.farStore P a v m = .error e := by
  unfold World.farStore
  split
  · rename_i hb
    rcases h.obj _ _ hb with ⟨c, e', he⟩ | ⟨cs0, e0, fz0, cs', e', fz', he, _⟩ <;> cases he
  · exact ⟨_, rfl⟩

theorem CR.set {σ : Nat → Value} {A : Ren} {cs cs' : Array Value} (h : CR σ A cs cs') (i : Nat) {v v' : Value} (hv : RV σ A v v') : CR σ A (cs.setIfInBounds i v) (cs'.setIfInBounds i v') := by
  refine ⟨by simpa using h.1, fun j u hu => ?_⟩
  rw [Array.getElem?_setIfInBounds] at hu
  by_cases e : i = j
  · subst e
    rw [if_pos rfl] at hu
    split at hu
    · rename_i hl
      cases hu
      refine ⟨v', ?_, hv⟩
      rw [Array.getElem?_setIfInBounds, if_pos rfl, if_pos (Nat.lt_of_lt_of_le hl h.1)]
    · cases hu
  · rw [if_neg e] at hu
    obtain ⟨v1, h1, h2⟩ := h.2 j u hu
    exact ⟨v1, by rw [Array.getElem?_setIfInBounds, if_neg e]; exact h1, h2⟩

theorem WR.store {σ : Nat → Value} {W0 : World} {H : Nat} {Γ : Gst} {A : Ren} {w w' : World} (h : WR σ W0 H Γ A w w') {a : Addr} {v v' u : Value} (hv : RV σ A v v') (hc : w.cell? a = some u) (hf : w.frozen? a = false) :
    w'.frozen? (A.addr a) = false ∧ (∃ u', w'.cell? (A.addr a) = some u') ∧ WR σ W0 H Γ A (w.setCell a v) (w'.setCell (A.addr a) v') := by
  obtain ⟨u', hu', _⟩ := h.cell hc
  unfold World.cell? at hc
  split at hc
  case h_2 => cases hc
  rename_i cs e fz hb
  rcases h.obj _ _ hb with ⟨c, e', he⟩ | ⟨cs0, e0, fz0, cs', e', fz', he, hb', hcr, hfz⟩
  · cases he
  cases he
  split at hc
  · cases hc
  rename_i hs
  have hlt : a.off < cs.size := by
    rcases Nat.lt_or_ge a.off cs.size with h1 | h1
    · exact h1
    · rw [Array.getElem?_eq_none h1] at hc; cases hc
  have hfz1 : fz = (0, 0) ∧ fz' = (0, 0) ∧ H ≤ A.f a.block := by
    rcases hfz with h1 | h1
    · exact h1
    · have := h1 _ hlt
      unfold World.frozen? at hf
      rw [hb] at hf
      simp [this.1, this.2] at hf
  obtain ⟨rfl, rfl, hH⟩ := hfz1
  have hab : A.d a.block := h.has hb
  refine ⟨by unfold World.frozen?; simp [Ren.addr, hb'], ⟨u', hu'⟩, ?_⟩
  refine { tape := h.tape, size := fun b hb => by simpa [World.setCell] using h.size b hb, full := fun b hb2 => ?_, lt := fun b hb => by simpa [World.setCell] using h.lt b hb, inj := h.inj, obj := fun b o ho => ?obj, ext := h.ext.setCell hH v', hle := by simpa [World.setCell] using h.hle, loops := fun g hg => ?_, resv := fun p hp => ?_, resd := fun b hd hpb => ?_, dead := fun k hk => ?_ }
  case obj =>
    simp only [World.setCell, Array.getElem?_modify] at ho
    by_cases e : a.block = b
    · subst e
      rw [if_pos rfl, hb] at ho
      simp only [Option.map_some, Option.some.injEq] at ho
      subst ho
      refine .inr ⟨_, _, _, cs'.setIfInBounds a.off v', e', (0, 0), rfl, ?_, ?_, .inl ⟨rfl, rfl, hH⟩⟩
      · simp only [World.setCell, Array.getElem?_modify, Ren.addr, if_pos, hb', Option.map_some]
        simp only [hs, if_false, Bool.false_eq_true]
      · simp only [hs, if_false, Bool.false_eq_true]; exact hcr.set _ hv
    · rw [if_neg e] at ho
      rcases h.obj b o ho with h1 | ⟨cs1, e1, fz1, cs1', e1', fz1', h1, h2, h3, h4⟩
      · exact .inl h1
      · have hbn : A.d b := h.has (h1 ▸ ho)
        refine .inr ⟨cs1, e1, fz1, cs1', e1', fz1', h1, ?_, h3, h4⟩
        simp only [World.setCell, Array.getElem?_modify, Ren.addr]
        rw [if_neg (fun e2 => e (h.inj _ _ hab hbn e2))]
        exact h2
  · have h2 : b < w.heap.size := by simpa [World.setCell] using hb2
    rcases h.full b h2 with h3 | h3
    · exact .inl h3
    · refine .inr ?_
      simp only [World.setCell, Array.getElem?_modify]
      rw [if_neg (fun e2 => by rw [e2, h3] at hb; cases hb)]
      exact h3
  · obtain ⟨h1, ⟨c, h2, h3⟩, h4⟩ := h.loops g hg
    have hne : a.block ≠ g.L.b := fun e2 => by rw [e2, h2] at hb; cases hb
    refine ⟨h1, ⟨c, ?_, ?_⟩, h4⟩
    · simp only [World.setCell, Array.getElem?_modify]
      rw [if_neg hne]; exact h2
    · simp only [World.setCell, Array.getElem?_modify, Ren.addr]
      rw [if_neg (fun e2 => hne (h.inj _ _ hab h1 e2))]; exact h3
  · obtain ⟨h1, h2, h3, h4⟩ := h.resv p hp
    have hne : a.block ≠ p.b := fun e2 => by rw [e2, h2] at hb; cases hb
    refine ⟨h1, ?_, ?_, h4⟩
    · simp only [World.setCell, Array.getElem?_modify]
      rw [if_neg hne]; exact h2
    · simp only [World.setCell, Array.getElem?_modify, Ren.addr]
      rw [if_neg (fun e2 => hne (h.inj _ _ hab h1 e2))]; exact h3
  · refine h.resd b hd ?_
    simp only [World.setCell, Array.getElem?_modify] at hpb
    by_cases e2 : a.block = b
    · subst e2
      rw [hb] at hpb
      simp at hpb
    · rw [if_neg e2] at hpb
      exact hpb
  · obtain ⟨h1, h2, h3⟩ := h.dead k hk
    refine ⟨?_, h2, h3⟩
    simp only [World.setCell, Array.getElem?_modify, Ren.addr]
    rw [if_neg (h3 _ hab)]; exact h1

/-- A new block on both sides. -/
def Ren.push (A : Ren) (i r : Nat) : Ren := ⟨fun b => if b = i then r else A.f b, fun b => A.d b ∨ b = i⟩
theorem Ren.push_le {A : Ren} {i : Nat} (h : ¬ A.d i) (r : Nat) : A.le (A.push i r) := ⟨fun b hb => .inl hb, fun b hb => by
  have : b ≠ i := fun e => h (e ▸ hb)
  simp [Ren.push, this]⟩
theorem Ren.push_at (A : Ren) (i r : Nat) : (A.push i r).f i = r := by simp [Ren.push]
/-- The renaming after a new block is one to one. -/
theorem push_inj {A : Ren} {i r : Nat} (hi : ¬ A.d i) (hr : ∀ b, A.d b → A.f b ≠ r) (hinj : ∀ b c, A.d b → A.d c → A.f b = A.f c → b = c) : ∀ b c, (A.push i r).d b → (A.push i r).d c → (A.push i r).f b = (A.push i r).f c → b = c := by
  intro b c hb hc e
  have hle := A.push_le hi r
  rcases hb with hb | hb <;> rcases hc with hc | hc
  · rw [hle.2 b hb, hle.2 c hc] at e; exact hinj b c hb hc e
  · subst hc; rw [hle.2 b hb, A.push_at] at e; exact absurd e (hr b hb)
  · subst hb; rw [hle.2 c hc, A.push_at] at e; exact absurd e.symm (hr c hc)
  · rw [hb, hc]
theorem WR.new {σ : Nat → Value} {W0 : World} {H : Nat} {Γ : Gst} {A : Ren} {w w' : World} (h : WR σ W0 H Γ A w w') {cs cs' : Array Value} {e e' : TypeId} (hc : CR σ A cs cs') :
    WR σ W0 H Γ (A.push w.heap.size w'.heap.size) { w with heap := w.heap.push (.cells cs e) } { w' with heap := w'.heap.push (.cells cs' e') } := by
  have hi : ¬ A.d w.heap.size := fun hd => by have := h.size _ hd; omega
  have hle := A.push_le hi w'.heap.size
  refine { tape := h.tape, size := fun b hb => ?_, full := fun b hb => ?_, lt := fun b hb => ?_, inj := push_inj hi (fun b hb e => by have := h.lt b hb; omega) h.inj, obj := fun b o ho => ?_, ext := h.ext.trans ⟨rfl, rfl, rfl, by simp, fun k hk => ?_⟩, hle := by have := h.hle; simp; omega, loops := fun g hg => ?_, resv := fun p hp => ?_, resd := fun b hd hpb => ?_, dead := fun k hk => ?_ }
  · rcases hb with hb | hb
    · have := h.size b hb; simp; omega
    · subst hb; simp
  · simp at hb
    by_cases e : b = w.heap.size
    · exact .inl (.inr e)
    · rcases h.full b (by omega) with h1 | h1
      · exact .inl (.inl h1)
      · exact .inr (by rw [Array.getElem?_push, if_neg (by omega)]; exact h1)
  · rcases hb with hb | hb
    · rw [hle.2 b hb]; have := h.lt b hb; simp; omega
    · subst hb; rw [A.push_at]; simp
  · rw [Array.getElem?_push] at ho
    split at ho
    · cases ho
      rename_i hb
      refine .inr ⟨cs, e, (0, 0), cs', e', (0, 0), rfl, ?_, hc.mono hle, .inl ⟨rfl, rfl, ?_⟩⟩
      · rw [hb, A.push_at]; simp
      · rw [hb, A.push_at]; exact h.hle
    · rename_i hb
      rcases h.obj b o ho with h1 | ⟨cs1, e1, fz1, cs1', e1', fz1', h1, h2, h3, h4⟩
      · exact .inl h1
      · have hbn : A.d b := h.has (h1 ▸ ho)
        refine .inr ⟨cs1, e1, fz1, cs1', e1', fz1', h1, ?_, h3.mono hle, ?_⟩
        · rw [hle.2 b hbn, Array.getElem?_push, if_neg (by have := h.lt b hbn; omega)]; exact h2
        · rw [hle.2 b hbn]; exact h4
  · have := h.hle
    simp only [Array.getElem?_push]
    rw [if_neg (by omega)]
  · obtain ⟨h1, ⟨c, h2, h3⟩, h4, h5, h6⟩ := h.loops g hg
    have hf : (A.push w.heap.size w'.heap.size).f g.L.b = A.f g.L.b := hle.2 _ h1
    refine ⟨.inl h1, ⟨c, ?_, ?_⟩, h4.mono hle, by rw [hf]; exact h5, h6⟩
    · rw [Array.getElem?_push, if_neg (by have := h.size _ h1; omega)]; exact h2
    · rw [hf, Array.getElem?_push, if_neg (by have := h.lt _ h1; omega)]; exact h3
  · obtain ⟨h1, h2, h3, h4⟩ := h.resv p hp
    have hf := hle.2 _ h1
    refine ⟨.inl h1, ?_, ?_, by rw [hf]; exact h4⟩
    · rw [Array.getElem?_push, if_neg (by have := h.size _ h1; omega)]; exact h2
    · rw [hf, Array.getElem?_push, if_neg (by have := h.lt _ h1; omega)]; exact h3
  · rw [Array.getElem?_push] at hpb
    split at hpb
    · cases hpb
    · rename_i hne
      rcases hd with hd | hd
      · exact h.resd b hd hpb
      · exact absurd hd hne
  · obtain ⟨h1, h2, h3⟩ := h.dead k hk
    have hk2 : k < w'.heap.size := (Array.getElem?_eq_some_iff.1 h1).1
    refine ⟨?_, h2, fun b hb => ?_⟩
    · rw [Array.getElem?_push, if_neg (by omega)]; exact h1
    · rcases hb with hb | hb
      · rw [hle.2 b hb]; exact h3 b hb
      · subst hb; rw [A.push_at]; omega
/-- A block that this side does not look into. -/
theorem WR.newP {σ : Nat → Value} {W0 : World} {H : Nat} {Γ : Gst} {A : Ren} {w w' : World} (h : WR σ W0 H Γ A w w') {c : Nat} (hc : c ≠ 9) (o' : Obj) :
    WR σ W0 H Γ (A.push w.heap.size w'.heap.size) { w with heap := w.heap.push (.pending #[] c) } { w' with heap := w'.heap.push o' } := by
  have hi : ¬ A.d w.heap.size := fun hd => by have := h.size _ hd; omega
  have hle := A.push_le hi w'.heap.size
  refine { tape := h.tape, size := fun b hb => ?_, full := fun b hb => ?_, lt := fun b hb => ?_, inj := push_inj hi (fun b hb e => by have := h.lt b hb; omega) h.inj, obj := fun b o ho => ?_, ext := h.ext.trans ⟨rfl, rfl, rfl, by simp, fun k hk => ?_⟩, hle := by have := h.hle; simp; omega, loops := fun g hg => ?_, resv := fun p hp => ?_, resd := fun b hd hpb => ?_, dead := fun k hk => ?_ }
  · rcases hb with hb | hb
    · have := h.size b hb; simp; omega
    · subst hb; simp
  · simp at hb
    by_cases e : b = w.heap.size
    · exact .inl (.inr e)
    · rcases h.full b (by omega) with h1 | h1
      · exact .inl (.inl h1)
      · exact .inr (by rw [Array.getElem?_push, if_neg (by omega)]; exact h1)
  · rcases hb with hb | hb
    · rw [hle.2 b hb]; have := h.lt b hb; simp; omega
    · subst hb; rw [A.push_at]; simp
  · rw [Array.getElem?_push] at ho
    split at ho
    · cases ho
      exact .inl ⟨_, _, rfl⟩
    · rename_i hb
      rcases h.obj b o ho with h1 | ⟨cs1, e1, fz1, cs1', e1', fz1', h1, h2, h3, h4⟩
      · exact .inl h1
      · have hbn : A.d b := h.has (h1 ▸ ho)
        refine .inr ⟨cs1, e1, fz1, cs1', e1', fz1', h1, ?_, h3.mono hle, ?_⟩
        · rw [hle.2 b hbn, Array.getElem?_push, if_neg (by have := h.lt b hbn; omega)]; exact h2
        · rw [hle.2 b hbn]; exact h4
  · have := h.hle
    simp only [Array.getElem?_push]
    rw [if_neg (by omega)]
  · obtain ⟨h1, ⟨c, h2, h3⟩, h4, h5, h6⟩ := h.loops g hg
    have hf : (A.push w.heap.size w'.heap.size).f g.L.b = A.f g.L.b := hle.2 _ h1
    refine ⟨.inl h1, ⟨c, ?_, ?_⟩, h4.mono hle, by rw [hf]; exact h5, h6⟩
    · rw [Array.getElem?_push, if_neg (by have := h.size _ h1; omega)]; exact h2
    · rw [hf, Array.getElem?_push, if_neg (by have := h.lt _ h1; omega)]; exact h3
  · obtain ⟨h1, h2, h3, h4⟩ := h.resv p hp
    have hf := hle.2 _ h1
    refine ⟨.inl h1, ?_, ?_, by rw [hf]; exact h4⟩
    · rw [Array.getElem?_push, if_neg (by have := h.size _ h1; omega)]; exact h2
    · rw [hf, Array.getElem?_push, if_neg (by have := h.lt _ h1; omega)]; exact h3
  · rw [Array.getElem?_push] at hpb
    split at hpb
    · cases hpb; exact absurd rfl hc
    · rename_i hne
      rcases hd with hd | hd
      · exact h.resd b hd hpb
      · exact absurd hd hne
  · obtain ⟨h1, h2, h3⟩ := h.dead k hk
    have hk2 : k < w'.heap.size := (Array.getElem?_eq_some_iff.1 h1).1
    refine ⟨?_, h2, fun b hb => ?_⟩
    · rw [Array.getElem?_push, if_neg (by omega)]; exact h1
    · rcases hb with hb | hb
      · rw [hle.2 b hb]; exact h3 b hb
      · subst hb; rw [A.push_at]; omega

theorem WR.drawn {σ : Nat → Value} {W0 : World} {H : Nat} {Γ : Gst} {A : Ren} {w w' : World} (h : WR σ W0 H Γ A w w') (n n' : Nat) : WR σ W0 H Γ A { w with drawn := n } { w' with drawn := n' } :=
  { tape := h.tape, size := h.size, lt := h.lt, inj := h.inj, obj := h.obj, ext := h.ext.trans ⟨rfl, rfl, rfl, Nat.le_refl _, fun _ _ => rfl⟩, hle := h.hle, loops := h.loops, resv := h.resv, resd := h.resd, dead := h.dead, full := h.full }

/-- The run on the one side gives the run on the other. -/
theorem SemRel.sound {P : Program} {σ : Nat → Value} (hσ : ∀ j, OneC (σ j)) {α β : Type} {R : Ren → α → β → Prop} {A : Ren} {s : Sem α} {s' : Sem β} (h : SemRel P σ R A s s') {W0 : World} {H : Nat} {Γ : Gst} :
    ∀ {w w' : World} {a : α} {w1 : World}, WR σ W0 H Γ A w w' → s.run P w = .ok a w1 → ∃ B b w1', s'.run P w' = .ok b w1' ∧ A.le B ∧ WR σ W0 H Γ B w1 w1' ∧ R B a b := by
  induction h with
  | pure hr =>
    intro w w' a w1 hw hrun
    cases hrun
    exact ⟨_, _, _, rfl, Ren.le.refl _, hw, hr⟩
  | dead hd => intro w w' a w1 hw hrun; exact absurd hrun (hd _ _ _)
  | @load A m a k k' ha _ ih =>
    intro w w' x w1 hw hrun
    simp only [Sem.run] at hrun ⊢
    cases hc : w.cell? a with
    | some v =>
      rw [hc] at hrun
      obtain ⟨v', h1, h2⟩ := hw.cell hc
      rw [h1]
      exact ih v v' h2 hw hrun
    | none =>
      obtain ⟨e, he⟩ := hw.far P a (m == .atomic)
      rw [hc, he] at hrun
      cases hrun
  | @store A m a v v' k k' ha hv _ ih =>
    intro w w' x w1 hw hrun
    have ho : OneC v' ∧ OneC v := by
      cases v with
      | agg c => simp only [Sem.run] at hrun; cases hrun
      | tuple c => simp only [Sem.run] at hrun; cases hrun
      | float k j => cases hv; exact ⟨hσ _, trivial⟩
      | complex k x y => cases hv with | any _ _ _ _ ho => exact ⟨ho, trivial⟩
      | _ => cases hv <;> exact ⟨trivial, trivial⟩
    have e1 : (Sem.store m a v k).run P w = match w.cell? a with
      | some _ => if w.frozen? a then .halt (.unsupported (.unsafePointer "a write to bytes that a string shares")) w else k.run P (w.setCell a v)
      | none => match w.farStore P a v (m == .atomic) with
        | .ok (w, _) => k.run P w
        | .error h => .halt h w := by
      cases v <;> first | rfl | exact absurd ho.2 (by simp [OneC])
    have e2 : (Sem.store m (A.addr a) v' k').run P w' = match w'.cell? (A.addr a) with
      | some _ => if w'.frozen? (A.addr a) then .halt (.unsupported (.unsafePointer "a write to bytes that a string shares")) w' else k'.run P (w'.setCell (A.addr a) v')
      | none => match w'.farStore P (A.addr a) v' (m == .atomic) with
        | .ok (w, _) => k'.run P w
        | .error h => .halt h w' := by
      cases v' <;> first | rfl | exact absurd ho.1 (by simp [OneC])
    rw [e1] at hrun
    rw [e2]
    cases hc : w.cell? a with
    | none =>
      obtain ⟨e, he⟩ := hw.farS P a v (m == .atomic)
      rw [hc, he] at hrun
      cases hrun
    | some u =>
      rw [hc] at hrun
      simp only [] at hrun
      split at hrun
      · cases hrun
      · rename_i hf
        obtain ⟨h1, ⟨u', h2⟩, h3⟩ := hw.store hv hc (by simpa using hf)
        rw [h2]
        simp only [h1, Bool.false_eq_true, if_false]
        exact ih h3 hrun
  | @new A cs cs' e k k' hc _ ih =>
    intro w w' x w1 hw hrun
    simp only [Sem.run] at hrun ⊢
    have hi : ¬ A.d w.heap.size := fun hd => by have := hw.size _ hd; omega
    obtain ⟨B, b, w1', h1, h2, h3, h4⟩ := ih (A.push w.heap.size w'.heap.size) w.heap.size w'.heap.size (A.push_le hi _) (.inr rfl) (A.push_at _ _) (hw.new hc) hrun
    exact ⟨B, b, w1', h1, (A.push_le hi _).trans h2, h3, h4⟩
  | progL _ ih => intro w w' x w1 hw hrun; exact ih hw hrun
  | progR _ ih => intro w w' x w1 hw hrun; exact ih hw hrun
  | markL _ ih => intro w w' x w1 hw hrun; exact ih hw hrun
  | markR _ ih => intro w w' x w1 hw hrun; exact ih hw hrun
  | convL hc _ ih => intro w w' a w1 hw hrun; exact ih hw (hc _ _ _ hrun)
  | convR hc _ ih =>
    intro w w' a w1 hw hrun
    obtain ⟨B, b, w1', h1, h2⟩ := ih hw hrun
    exact ⟨B, b, w1', hc _ _ _ h1, h2⟩
  | @chooseL A q k s' _ ih =>
    intro w w' x w1 hw hrun
    simp only [Sem.run] at hrun
    split at hrun
    · exact ih _ hw hrun
    · exact ih _ (hw.drawn _ w'.drawn) hrun
  | @choose A q k k' hq _ ih =>
    intro w w' x w1 hw hrun
    simp only [Sem.run, hq, Bool.false_eq_true, if_false] at hrun ⊢
    have e : w.tape w.drawn q = 0 := by rw [hw.tape]
    rw [e] at hrun
    exact ih _ (hw.drawn _ _) hrun

end Go.Proofs.YtlgbahkioimkfaaGreatDoor
