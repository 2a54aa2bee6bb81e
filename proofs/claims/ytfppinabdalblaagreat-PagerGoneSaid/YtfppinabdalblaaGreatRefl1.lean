/- Reflection, 1: a run in one world told as a run in another one: renamed blocks, related values, related trees of what an operation does. No program is named here. -/
import Derived.Test.YtfppinabdalblaaGreatBase
namespace Go.Proofs.YtfppinabdalblaaGreat
open Go.RowKit
set_option linter.unusedVariables false
set_option linter.unusedSimpArgs false

/-- Which block of the other world a block is; so many are. -/
structure Ren where
  f : Nat → Nat
  d : Nat → Prop
  t : Nat → Prop
  g : Nat → Nat → Value → Prop
structure Ren.le (A B : Ren) : Prop where
  d : ∀ b, A.d b → B.d b
  f : ∀ b, A.d b → B.f b = A.f b
  t : ∀ b, A.t b → B.t b
  g : ∀ b n v, A.g b n v → B.g b n v
theorem Ren.le.refl (A : Ren) : A.le A := ⟨fun _ h => h, fun _ _ => rfl, fun _ h => h, fun _ _ _ h => h⟩
theorem Ren.le.trans {A B C : Ren} (h : A.le B) (k : B.le C) : A.le C := ⟨fun b hb => k.1 b (h.1 b hb), fun b hb => (k.2 b (h.1 b hb)).trans (h.2 b hb), fun b hb => k.3 b (h.3 b hb), fun b n v hb => k.4 b n v (h.4 b n v hb)⟩
def Ren.addr (A : Ren) (a : Addr) : Addr := ⟨A.f a.block, a.off, a.spot⟩
theorem Ren.addr_add (A : Ren) (a : Addr) (n : Nat) : A.addr (a.add n) = (A.addr a).add n := by
  unfold Addr.add Ren.addr
  split <;> rfl
theorem Ren.add_block (a : Addr) (n : Nat) : (a.add n).block = a.block := by
  unfold Addr.add; split <;> rfl
theorem Ren.le.addr {A B : Ren} (h : A.le B) {a : Addr} (ha : A.d a.block) : B.addr a = A.addr a := by
  unfold Ren.addr; rw [h.2 _ ha]

/-- Values that are one cell. -/
def OneC : Value → Prop
  | .agg _ | .tuple _ => False
  | _ => True
/-- Related values: a float stands for a value that is not looked into; a complex number for any one, that nobody will look into. -/
inductive RV (σ : Nat → Value) (A : Ren) : Value → Value → Prop
  | tok (k : FloatKind) (j : Nat) : RV σ A (.float k j) (σ j)
  | bool (b : Bool) : RV σ A (.bool b) (.bool b)
  | int (k : IntKind) (n : Int) : RV σ A (.int k n) (.int k n)
  | str (s : ByteArray) : RV σ A (.string s) (.string s)
  | nilp : RV σ A (.pointer none) (.pointer none)
  | ptr (a : Addr) : A.d a.block → RV σ A (.pointer (some a)) (.pointer (some (A.addr a)))
  | slice0 (n c : Nat) : RV σ A (.slice none n c) (.slice none n c)
  | slice (a : Addr) (n c c' : Nat) : A.d a.block → c ≤ c' → (c = 0 → c' = 0) → a.spot = none → RV σ A (.slice (some a) n c) (.slice (some (A.addr a)) n c')
  | sliceE (a b : Addr) (c' : Nat) : A.d a.block → a.spot ≠ none → RV σ A (.slice (some a) 0 0) (.slice (some b) 0 c')
  | func (f : FuncId) (x x' y y' : Array Value) : x.size = x'.size → (∀ (i : Nat) (v v' : Value), x[i]? = some v → x'[i]? = some v' → RV σ A v v') →
      y.size = y'.size → (∀ (i : Nat) (v v' : Value), y[i]? = some v → y'[i]? = some v' → RV σ A v v') → RV σ A (.func (.func f) x y) (.func (.func f) x' y')
  | meth (f : String) (x x' y y' : Array Value) : x.size = x'.size → (∀ (i : Nat) (v v' : Value), x[i]? = some v → x'[i]? = some v' → RV σ A v v') →
      y.size = y'.size → (∀ (i : Nat) (v v' : Value), y[i]? = some v → y'[i]? = some v' → RV σ A v v') → RV σ A (.func (.method f) x y) (.func (.method f) x' y')
  | yield (b : Nat) : A.d b → RV σ A (.func (.yield b) #[] #[]) (.func (.yield (A.f b)) #[] #[])
  | nilFunc : RV σ A .nilFunc .nilFunc
  | nilMap : RV σ A (.map none) (.map none)
  | map (b : Nat) : A.d b → RV σ A (.map (some b)) (.map (some (A.f b)))
  | any (x y : Nat) (v' : Value) : OneC v' → RV σ A (.complex .f64 x y) v'
  | long (b c' : Nat) (L : Int) : A.d b → A.t b → σ 0 = .int .i64 L → RV σ A (.complex .f32 b 0) (.slice (some ⟨A.f b, 0, none⟩) L.toNat c')
  | grow (b k n r c : Nat) : k = 2 * n + 1 → A.g b n (.slice (some ⟨r, 0, none⟩) n c) → RV σ A (.complex .f32 b k) (.slice (some ⟨r, 0, none⟩) n c)
  | gptr (b k n i r c : Nat) : k = 2 * (64 * n + i) + 2 → A.g b n (.slice (some ⟨r, 0, none⟩) n c) → i < n → n < 64 → RV σ A (.complex .f32 b k) (.pointer (some ⟨r, i, none⟩))
  | lptr (b k j p : Nat) : k = 2 * (4096 + j) + 2 → A.d b → A.t b → σ (1 + j) = .int .i64 (p : Int) → RV σ A (.complex .f32 b k) (.pointer (some ⟨A.f b, p, none⟩))
  | iface (t : TypeId) (v v' : Value) : RV σ A v v' → RV σ A (.iface t v) (.iface t v')
  | nilIface : RV σ A .nilIface .nilIface
  | agg (x x' : Array Value) : x.size = x'.size → (∀ (i : Nat) (v v' : Value), x[i]? = some v → x'[i]? = some v' → RV σ A v v') → RV σ A (.agg x) (.agg x')
  | tuple (x x' : Array Value) : x.size = x'.size → (∀ (i : Nat) (v v' : Value), x[i]? = some v → x'[i]? = some v' → RV σ A v v') → RV σ A (.tuple x) (.tuple x')

/-- Related rows of values, of one length. -/
def RAr (σ : Nat → Value) (A : Ren) (x x' : Array Value) : Prop := x.size = x'.size ∧ ∀ (i : Nat) (v v' : Value), x[i]? = some v → x'[i]? = some v' → RV σ A v v'
/-- Related rows of cells: the other one may go on. -/
def CR (σ : Nat → Value) (A : Ren) (x x' : Array Value) : Prop := x.size ≤ x'.size ∧ ∀ (i : Nat) (v : Value), x[i]? = some v → ∃ v', x'[i]? = some v' ∧ RV σ A v v'

theorem RV.mono {σ : Nat → Value} {A B : Ren} (hle : A.le B) : ∀ {v v' : Value}, RV σ A v v' → RV σ B v v' := by
  intro v v' h
  induction h with
  | tok k j => exact .tok k j
  | bool b => exact .bool b
  | int k n => exact .int k n
  | str s => exact .str s
  | nilp => exact .nilp
  | ptr a ha => rw [← hle.addr ha]; exact .ptr a (hle.1 _ ha)
  | slice0 n c => exact .slice0 n c
  | slice a n c c' ha h1 h2 hs => rw [← hle.addr ha]; exact .slice a n c c' (hle.1 _ ha) h1 h2 hs
  | sliceE a b c' ha hs => exact .sliceE a b c' (hle.1 _ ha) hs
  | func f x x' y y' h1 _ h3 _ ih1 ih2 => exact .func f x x' y y' h1 ih1 h3 ih2
  | meth f x x' y y' h1 _ h3 _ ih1 ih2 => exact .meth f x x' y y' h1 ih1 h3 ih2
  | yield b hb => rw [← hle.2 b hb]; exact .yield b (hle.1 _ hb)
  | nilFunc => exact .nilFunc
  | nilMap => exact .nilMap
  | map b hb => rw [← hle.2 b hb]; exact .map b (hle.1 _ hb)
  | any x y v' ho => exact .any x y v' ho
  | long b c' L hd ht hs => rw [← hle.2 b hd]; exact .long b c' L (hle.1 _ hd) (hle.3 _ ht) hs
  | grow b k n r c hk hg => exact .grow b k n r c hk (hle.4 _ _ _ hg)
  | gptr b k n i r c hk hg hi hn => exact .gptr b k n i r c hk (hle.4 _ _ _ hg) hi hn
  | lptr b k j p hk hd ht hp => rw [← hle.2 b hd]; exact .lptr b k j p hk (hle.1 _ hd) (hle.3 _ ht) hp
  | iface t v v' _ ih => exact .iface t v v' ih
  | nilIface => exact .nilIface
  | agg x x' h1 _ ih => exact .agg x x' h1 ih
  | tuple x x' h1 _ ih => exact .tuple x x' h1 ih
theorem RAr.mono {σ : Nat → Value} {A B : Ren} (hle : A.le B) {x x' : Array Value} (h : RAr σ A x x') : RAr σ B x x' := ⟨h.1, fun i v v' h1 h2 => (h.2 i v v' h1 h2).mono hle⟩
theorem CR.mono {σ : Nat → Value} {A B : Ren} (hle : A.le B) {x x' : Array Value} (h : CR σ A x x') : CR σ B x x' := ⟨h.1, fun i v h1 => by obtain ⟨v', h2, h3⟩ := h.2 i v h1; exact ⟨v', h2, h3.mono hle⟩⟩
theorem RAr.get {σ : Nat → Value} {A : Ren} {x x' : Array Value} (h : RAr σ A x x') {i : Nat} {v : Value} (hv : x[i]? = some v) : ∃ v', x'[i]? = some v' ∧ RV σ A v v' := by
  have hi : i < x.size := by
    rcases Nat.lt_or_ge i x.size with h1 | h1
    · exact h1
    · rw [Array.getElem?_eq_none h1] at hv; cases hv
  have hi' : i < x'.size := h.1 ▸ hi
  exact ⟨x'[i], Array.getElem?_eq_getElem hi', h.2 i v _ hv (Array.getElem?_eq_getElem hi')⟩
theorem RAr.cr {σ : Nat → Value} {A : Ren} {x x' : Array Value} (h : RAr σ A x x') : CR σ A x x' := ⟨by rw [h.1]; exact Nat.le_refl _, fun i v hv => h.get hv⟩

/-- A loop over a function that is under way: its block, its frame as it was when it began, its text. -/
structure LoopI where
  b : Nat
  tmps : Array Value
  ps : Array Tmp
  assign : Code
  body : Code
/-- What the other side has of it. -/
structure LoopG where
  L : LoopI
  fn : FuncId
  tmps : Array Value
  dd : Nat
def stOf (c : Nat) : LoopState := if c = 0 then .ready else if c = 1 then .busy else .done
def pendOf (c : Nat) : Option Code := if c = 2 then some .ret else if 10 ≤ c then some (.exit (c - 10)) else none
def LoopG.row (g : LoopG) (c : Nat) : Loop := { state := stOf c, pending := pendOf c, fn := g.fn, tmps := g.tmps, params := g.L.ps, assign := g.L.assign, body := g.L.body, defers := g.dd }
/-- What leads to a new block: an address, a slice, a map. -/
inductive Shp where
  | ptr
  | sl (n : Nat)
  | mp
/-- What stands for what, cell by cell. -/
def tokV1 (σ : Nat → Value) : Value → Value
  | .float _ j => σ j
  | v => v
def tokA (σ : Nat → Value) (cs : Array Value) : Array Value := cs.map (tokV1 σ)
def realO (cs : Array Value) (e : TypeId) : Shp → Obj
  | .mp => .map #[] 0
  | _ => .cells cs e
def smallO (cs : Array Value) (e : TypeId) : Shp → Obj
  | .mp => .pending #[] 8
  | _ => .cells cs e
/-- A block that the other side has made already. -/
structure ResG where
  b : Nat
  cs : Array Value
  e : TypeId
  sh : Shp
/-- Loops under way; blocks for the rounds' deferred calls, all empty. -/
structure Gst where
  E : List LoopG
  D : List Nat
  R : List ResG
/-- Some places of a row are told apart: how many; which number stands at one: 0, or one that is not looked into. All in one number. -/
def spM (e : Nat) : Nat := e % 10
def spD (e j : Nat) : Nat := e / 10 / 1000 ^ j % 1000
def spSet (e j d : Nat) : Nat := e - 10 * 1000 ^ j * spD e j + 10 * 1000 ^ j * d
def spV (σ : Nat → Value) (d : Nat) : Value := if d = 0 then .int .u64 0 else σ (d - 1)
theorem spSet_M {e j d : Nat} (hj : j < 4) (hd : d < 1000) : spM (spSet e j d) = spM e := by
  unfold spM spSet spD
  rcases (show j = 0 ∨ j = 1 ∨ j = 2 ∨ j = 3 by omega) with rfl | rfl | rfl | rfl <;> simp only [Nat.reducePow] <;> omega
theorem spSet_same {e j d : Nat} (hj : j < 4) (hd : d < 1000) : spD (spSet e j d) j = d := by
  unfold spSet spD
  rcases (show j = 0 ∨ j = 1 ∨ j = 2 ∨ j = 3 by omega) with rfl | rfl | rfl | rfl <;> simp only [Nat.reducePow] <;> omega
theorem spSet_other {e j k d : Nat} (hj : j < 4) (hk : k < 4) (hne : k ≠ j) (hd : d < 1000) : spD (spSet e j d) k = spD e k := by
  unfold spSet spD
  rcases (show j = 0 ∨ j = 1 ∨ j = 2 ∨ j = 3 by omega) with rfl | rfl | rfl | rfl <;> rcases (show k = 0 ∨ k = 1 ∨ k = 2 ∨ k = 3 by omega) with rfl | rfl | rfl | rfl <;> first | omega | (simp only [Nat.reducePow]; omega)
/-- Behind its first cells a row is zero, but at the places that are told apart. -/
def TailZ (n : Nat) (cs : Array Value) : Prop := ∀ i, 77 ≤ i → i < n → cs[i]? = some (.int .u64 0)
structure TailS (σ : Nat → Value) (e n : Nat) (cs : Array Value) : Prop where
  few : spM e ≤ 4
  zero : ∀ i : Nat, 77 ≤ i → i < n → (∀ j, j < spM e → σ (1 + j) ≠ .int .i64 (i : Int)) → cs[i]? = some (.int .u64 0)
  spot : ∀ j, j < spM e → ∃ p : Nat, σ (1 + j) = .int .i64 (p : Int) ∧ 77 ≤ p ∧ p < n ∧ cs[p]? = some (spV σ (spD e j)) ∧ ∀ k, k < j → σ (1 + k) ≠ σ (1 + j)
/-- A long row: its length is the number 0 that is not looked into; this side has its first cells alone. -/
def LongB (σ : Nat → Value) (w w' : World) (A : Ren) (b : Nat) : Prop :=
  A.d b ∧ ∃ cs e fz, (w.heap[b]? = some (.cells cs e fz) ∧ cs.size ≤ 77) ∧ ∃ (L : Int) (cs' : Array Value) (e' : TypeId) (fz' : Nat × Nat), σ 0 = .int .i64 L ∧ 77 ≤ L ∧ w'.heap[A.f b]? = some (.cells cs' e' fz') ∧ L.toNat ≤ cs'.size ∧ TailS σ e L.toNat cs'
theorem LongB.of {σ : Nat → Value} {w w' w2 w2' : World} {A A2 : Ren} {b : Nat} (h : LongB σ w w' A b) (hd : A2.d b) (hf : A2.f b = A.f b) (h1 : w2.heap[b]? = w.heap[b]?) (h2 : w2'.heap[A.f b]? = w'.heap[A.f b]?) : LongB σ w2 w2' A2 b := by
  obtain ⟨_, cs, e, fz, k1, k2⟩ := h
  exact ⟨hd, cs, e, fz, by rw [h1]; exact k1, by rw [hf, h2]; exact k2⟩
theorem LongB.ne {σ : Nat → Value} {w w' : World} {A : Ren} {b c : Nat} (h : LongB σ w w' A b) {x : Array Value} {d : Nat} (hc : w.heap[c]? = some (.pending x d)) : b ≠ c := fun e => by
  obtain ⟨_, cs, e1, fz, ⟨k1, _⟩, _⟩ := h
  rw [e, hc] at k1
  cases k1
theorem ownsRow_of_block {w w2 : World} {base : Nat} {e : TypeId} {size : Nat} {v : Value} {n : Nat} {xs : List Value} (h : w.ownsRow base e size v n xs) (hb : ∀ g cs t fz, v.ownBlock = some g → base ≤ g → w.heap[g]? = some (.cells cs t fz) → w2.heap[g]? = w.heap[g]?) : w2.ownsRow base e size v n xs := by
  obtain ⟨h1, h2⟩ := h
  refine ⟨h1, ?_⟩
  rcases h2 with h2 | ⟨g, cap, cur, hv, hg, hh, r⟩
  · exact .inl h2
  · exact .inr ⟨g, cap, cur, hv, hg, (hb g _ _ _ (by rw [hv]; rfl) hg hh).trans hh, r⟩
/-- How many cells an element of a row that grows has: a row of structs of six numbers is told by truth values in their stead. -/
def szOf (cs : Array Value) : Nat := match (cs[0]? : Option Value) with | some (.bool _) => 6 | _ => 1
theorem szOf_push {cs : Array Value} {v : Value} (h : cs.size ≠ 0) : szOf (cs.push v) = szOf cs := by
  unfold szOf
  rw [Array.getElem?_push, if_neg (by omega)]
/-- A row that grows: what it holds lies in a block of its own kind; the last slice of it is the call's own. -/
def GrowB (σ : Nat → Value) (H : Nat) (w w' : World) (A : Ren) (b n : Nat) (v' : Value) : Prop :=
  A.d b ∧ ∃ (cs : Array Value) (e : TypeId), w.heap[b]? = some (.pending cs e) ∧ cs.size ≠ 0 ∧ 1 ≤ n ∧ n ≤ cs.size ∧ (n = cs.size → ∃ xs : List Value, w'.ownsRow H e (szOf cs) v' n xs ∧
    (szOf cs = 1 → ∀ (i : Nat) (v : Value), cs[i]? = some v → ∃ u, xs[i]? = some u ∧ RV σ A v u) ∧ (∀ b', A.d b' → b' ≠ b → v'.ownBlock ≠ some (A.f b')))
theorem GrowB.of {σ : Nat → Value} {H : Nat} {w w' w2 w2' : World} {A A2 : Ren} {b n : Nat} {v' : Value} (h : GrowB σ H w w' A b n v') (hle : A.le A2) (h1 : w2.heap[b]? = w.heap[b]?)
    (hK : ∀ g cs t fz, H ≤ g → w'.heap[g]? = some (.cells cs t fz) → (∀ b', A.d b' → b' ≠ b → A.f b' ≠ g) → w2'.heap[g]? = w'.heap[g]?)
    (hF : ∀ b' g, A2.d b' → b' ≠ b → g < w'.heap.size → (∀ b'', A.d b'' → b'' ≠ b → A.f b'' ≠ g) → A2.f b' ≠ g) : GrowB σ H w2 w2' A2 b n v' := by
  obtain ⟨hd, cs, e, k1, k2, k3, k4, k5⟩ := h
  refine ⟨hle.1 _ hd, cs, e, h1.trans k1, k2, k3, k4, fun hn => ?_⟩
  obtain ⟨xs, m1, m2, m3⟩ := k5 hn
  have hx : ∀ g, v'.ownBlock = some g → ∀ b', A.d b' → b' ≠ b → A.f b' ≠ g := fun g hg b' hb' hne e9 => m3 b' hb' hne (by rw [hg, e9])
  refine ⟨xs, ownsRow_of_block m1 fun g cs t fz hg hH hh => hK g cs t fz hH hh (hx g hg), fun hs i v hv => ?_, fun b' hb' hne e9 => ?_⟩
  · obtain ⟨u, q1, q2⟩ := m2 hs i v hv
    exact ⟨u, q1, q2.mono hle⟩
  · have hgl : A2.f b' < w'.heap.size := by
      rcases m1.2 with ⟨q1, _⟩ | ⟨g, cap, cur, hv, hg, hh, _⟩
      · rw [q1] at e9; cases e9
      · rw [hv] at e9
        have e10 : g = A2.f b' := by simpa [Value.ownBlock] using e9
        rw [← e10]
        exact (Array.getElem?_eq_some_iff.1 hh).1
    exact hF b' _ hb' hne hgl (hx _ e9) rfl
theorem GrowB.ne {σ : Nat → Value} {H : Nat} {w w' : World} {A : Ren} {b n : Nat} {v' : Value} (h : GrowB σ H w w' A b n v') {c : Nat} {o : Obj} (hc : w.heap[c]? = some o) (ho : ∀ cs e, o = .pending cs e → cs.size = 0) : b ≠ c := fun e => by
  obtain ⟨_, cs, e2, k1, k2, _⟩ := h
  rw [e, hc] at k1
  cases k1
  exact k2 (ho cs e2 rfl)
/-- Related worlds: W0 is as it was below block H. -/
structure WR (σ : Nat → Value) (W0 : World) (H : Nat) (Γ : Gst) (A : Ren) (w w' : World) : Prop where
  tape : w.tape = fun _ _ => 0
  size : ∀ b, A.d b → b < w.heap.size
  full : ∀ b, b < w.heap.size → A.d b ∨ w.heap[b]? = some (.pending #[] 9)
  lt : ∀ b, A.d b → A.f b < w'.heap.size
  inj : ∀ b c, A.d b → A.d c → A.f b = A.f c → b = c
  obj : ∀ b o, w.heap[b]? = some o → (∃ c e, o = .pending c e) ∨ ∃ cs e fz cs' e' fz', o = .cells cs e fz ∧ w'.heap[A.f b]? = some (.cells cs' e' fz') ∧ CR σ A cs cs' ∧
    ((fz = (0, 0) ∧ fz' = (0, 0) ∧ H ≤ A.f b) ∨ ∀ i, i < cs.size → fz.1 ≤ i ∧ i < fz.2)
  ext : Below H W0 w'
  hle : H ≤ w'.heap.size
  loops : ∀ g ∈ Γ.E, A.d g.L.b ∧ (∃ c, w.heap[g.L.b]? = some (.pending #[] c) ∧ w'.heap[A.f g.L.b]? = some (.loop (g.row c))) ∧ RAr σ A g.L.tmps g.tmps ∧ H ≤ A.f g.L.b ∧ g.dd ∈ Γ.D
  resv : ∀ p ∈ Γ.R, A.d p.b ∧ w.heap[p.b]? = some (.pending #[] 9) ∧ w'.heap[A.f p.b]? = some (realO (tokA σ p.cs) p.e p.sh) ∧ H ≤ A.f p.b
  resd : ∀ b, A.d b → w.heap[b]? = some (.pending #[] 9) → ∃ p ∈ Γ.R, p.b = b
  dead : ∀ k ∈ Γ.D, w'.heap[k]? = some (.deferred (some [])) ∧ H ≤ k ∧ ∀ b, A.d b → A.f b ≠ k
  long : ∀ b, A.t b → LongB σ w w' A b
  grow : ∀ b n v', A.g b n v' → GrowB σ H w w' A b n v'
  gun : ∀ b n v v2, A.g b n v → A.g b n v2 → v = v2
  gone : ∀ b n v b2 n2 v2, A.g b n v → A.g b2 n2 v2 → b = b2

/-- A block with cells is one of those that are related. -/
theorem WR.has {σ : Nat → Value} {W0 : World} {H : Nat} {Γ : Gst} {A : Ren} {w w' : World} (h : WR σ W0 H Γ A w w') {b : Nat} {cs : Array Value} {e : TypeId} {fz : Nat × Nat} (hb : w.heap[b]? = some (.cells cs e fz)) : A.d b := by
  rcases h.full b (Array.getElem?_eq_some_iff.1 hb).1 with h1 | h1
  · exact h1
  · rw [h1] at hb; cases hb

/-- What one tree does, the other one does. -/
inductive SemRel (P : Program) (σ : Nat → Value) {α β : Type} (R : Ren → α → β → Prop) : Ren → Sem α → Sem β → Prop
  | pure {A a b} : R A a b → SemRel P σ R A (.pure a) (.pure b)
  | dead {A s s'} : (∀ w a w1, s.run P w ≠ .ok a w1) → SemRel P σ R A s s'
  | load {A m a k k'} : A.d a.block → (∀ v v', RV σ A v v' → SemRel P σ R A (k v) (k' v')) → SemRel P σ R A (.load m a k) (.load m (A.addr a) k')
  | store {A m a v v' k k'} : A.d a.block → RV σ A v v' → SemRel P σ R A k k' → SemRel P σ R A (.store m a v k) (.store m (A.addr a) v' k')
  | new {A cs cs' e k k'} : CR σ A cs cs' → (∀ B r r', A.le B → B.d r → B.f r = r' → SemRel P σ R B (k r) (k' r')) → SemRel P σ R A (.new (.cells cs e) k) (.new (.cells cs' e) k')
  | progL {A k s'} : SemRel P σ R A (k P) s' → SemRel P σ R A (.program k) s'
  | progR {A s k'} : SemRel P σ R A s (k' P) → SemRel P σ R A s (.program k')
  | markL {A m s s'} : SemRel P σ R A s s' → SemRel P σ R A (.mark m s) s'
  | markR {A m s s'} : SemRel P σ R A s s' → SemRel P σ R A s (.mark m s')
  | convL {A s t s'} : (∀ w a w1, s.run P w = .ok a w1 → t.run P w = .ok a w1) → SemRel P σ R A t s' → SemRel P σ R A s s'
  | convR {A s s' t'} : (∀ w a w1, t'.run P w = .ok a w1 → s'.run P w = .ok a w1) → SemRel P σ R A s t' → SemRel P σ R A s s'
  | chooseL {A q k s'} : (∀ n, SemRel P σ R A (k n) s') → SemRel P σ R A (.choose q k) s'
  | choose {A q k k'} : q.forced = false → (∀ t, SemRel P σ R A (k (q.cut 0)) (k' (q.cut t))) → SemRel P σ R A (.choose q k) (.choose q k')

theorem dead_left {P : Program} {α β : Type} {s : Sem α} {f : α → Sem β} (h : ∀ w a w1, s.run P w ≠ .ok a w1) (w : World) (b : β) (w1 : World) : (s.bind f).run P w ≠ .ok b w1 := by
  intro e
  rw [Sem.run_bind'] at e
  generalize hs : Sem.run P s w = r at e
  cases r with
  | ok x w2 => exact h _ _ _ hs
  | halt x w2 => cases e
theorem conv_bind {P : Program} {α β : Type} {s t : Sem α} {f : α → Sem β} (h : ∀ w a w1, s.run P w = .ok a w1 → t.run P w = .ok a w1) (w : World) (b : β) (w1 : World) (e : (s.bind f).run P w = .ok b w1) : (t.bind f).run P w = .ok b w1 := by
  rw [Sem.run_bind'] at e ⊢
  generalize hs : Sem.run P s w = r at e
  cases r with
  | ok x w2 => rw [h _ _ _ hs]; exact e
  | halt x w2 => cases e
theorem SemRel.bind {P : Program} {σ : Nat → Value} {α β γ δ : Type} {R : Ren → α → β → Prop} {R' : Ren → γ → δ → Prop} {A : Ren} {s : Sem α} {s' : Sem β} {f : α → Sem γ} {g : β → Sem δ}
    (h : SemRel P σ R A s s') (hf : ∀ B a b, A.le B → R B a b → SemRel P σ R' B (f a) (g b)) : SemRel P σ R' A (s.bind f) (s'.bind g) := by
  induction h with
  | pure hr => exact hf _ _ _ (Ren.le.refl _) hr
  | dead hd => exact .dead (dead_left hd)
  | load ha _ ih => exact .load ha fun v v' hv => ih v v' hv hf
  | store ha hv _ ih => exact .store ha hv (ih hf)
  | new hc _ ih => exact .new hc fun B r r' hB hr e => ih B r r' hB hr e fun C a b hC => hf C a b (hB.trans hC)
  | progL _ ih => exact .progL (ih hf)
  | progR _ ih => exact .progR (ih hf)
  | markL _ ih => exact .markL (ih hf)
  | markR _ ih => exact .markR (ih hf)
  | convL hc _ ih => exact .convL (conv_bind hc) (ih hf)
  | convR hc _ ih => exact .convR (conv_bind hc) (ih hf)
  | chooseL _ ih => exact .chooseL fun n => ih n hf
  | choose hq _ ih => exact .choose hq fun t => ih t hf

theorem WR.cell {σ : Nat → Value} {W0 : World} {H : Nat} {Γ : Gst} {A : Ren} {w w' : World} (h : WR σ W0 H Γ A w w') {a : Addr} {v : Value} (hc : w.cell? a = some v) : ∃ v', w'.cell? (A.addr a) = some v' ∧ RV σ A v v' := by
  unfold World.cell? at hc
  split at hc
  · rename_i cs e fz hb
    rcases h.obj _ _ hb with ⟨c, e', he⟩ | ⟨cs0, e0, fz0, cs', e', fz', he, hb', hcr, _⟩
    · cases he
    · cases he
      split at hc
      · cases hc
      · rename_i hs
        obtain ⟨v', h1, h2⟩ := hcr.2 _ _ hc
        refine ⟨v', ?_, h2⟩
        unfold World.cell?
        simp only [Ren.addr, hb', h1]
        rw [if_neg hs]
  · cases hc
theorem WR.far {σ : Nat → Value} {W0 : World} {H : Nat} {Γ : Gst} {A : Ren} {w w' : World} (h : WR σ W0 H Γ A w w') (P : Program) (a : Addr) (m : Bool) : ∃ e, w.farLoad P a m = .error e := by
  unfold World.farLoad
  split
  · rename_i hb
    rcases h.obj _ _ hb with ⟨c, e', he⟩ | ⟨cs0, e0, fz0, cs', e', fz', he, _⟩ <;> cases he
  · exact ⟨_, rfl⟩
theorem WR.farS {σ : Nat → Value} {W0 : World} {H : Nat} {Γ : Gst} {A : Ren} {w w' : World} (h : WR σ W0 H Γ A w w') (P : Program) (a : Addr) (v : Value) (m : Bool) : ∃ e, w.farStore P a v m = .error e := by
  unfold World.farStore
  split
  · rename_i hb
    rcases h.obj _ _ hb with ⟨c, e', he⟩ | ⟨cs0, e0, fz0, cs', e', fz', he, _⟩ <;> cases he
  · exact ⟨_, rfl⟩

theorem CR.set {σ : Nat → Value} {A : Ren} {cs cs' : Array Value} (h : CR σ A cs cs') (i : Nat) {v v' : Value} (hv : RV σ A v v') : CR σ A (cs.setIfInBounds i v) (cs'.setIfInBounds i v') := by
  refine ⟨by simpa using h.1, fun j u hu => ?_⟩
  rw [Array.getElem?_setIfInBounds] at hu
  by_cases e : i = j
  · subst e
    rw [if_pos rfl] at hu
    split at hu
    · rename_i hl
      cases hu
      refine ⟨v', ?_, hv⟩
      rw [Array.getElem?_setIfInBounds, if_pos rfl, if_pos (Nat.lt_of_lt_of_le hl h.1)]
    · cases hu
  · rw [if_neg e] at hu
    obtain ⟨v1, h1, h2⟩ := h.2 j u hu
    exact ⟨v1, by rw [Array.getElem?_setIfInBounds, if_neg e]; exact h1, h2⟩

theorem LongB.store {σ : Nat → Value} {w w' : World} {A : Ren} {b : Nat} (h : LongB σ w w' A b) {a : Addr} {cs : Array Value} {e : TypeId} {fz : Nat × Nat} (hb : w.heap[a.block]? = some (.cells cs e fz)) (hinj : ∀ b c, A.d b → A.d c → A.f b = A.f c → b = c) (hab : A.d a.block)
    {cs' : Array Value} {e' : TypeId} {fz' : Nat × Nat} (hb' : w'.heap[A.f a.block]? = some (.cells cs' e' fz')) (hlt : a.off < cs.size) (hs : ¬ a.spot.isSome = true) (v v' : Value) : LongB σ (w.setCell a v) (w'.setCell (A.addr a) v') A b := by
  by_cases e1 : a.block = b
  · subst e1
    obtain ⟨k0, cs1, e1, fz1, ⟨k1, k2⟩, L, cs2, e2, fz2, k3, k4, k5, k6, k7⟩ := h
    rw [hb] at k1
    cases k1
    rw [hb'] at k5
    cases k5
    have hs2 : a.spot = none := by cases h9 : a.spot with
      | none => rfl
      | some _ => rw [h9] at hs; exact absurd rfl hs
    refine ⟨k0, cs.setIfInBounds a.off v, e, fz, ⟨?_, by simpa using k2⟩, L, cs'.setIfInBounds a.off v', e', fz', k3, k4, ?_, by simpa using k6, ⟨k7.few, fun i hi hl hno => ?_, fun j hj => ?_⟩⟩
    · simp [World.setCell, Array.getElem?_modify, hb, hs2]
    · simp [World.setCell, Array.getElem?_modify, Ren.addr, hb', hs2]
    · rw [Array.getElem?_setIfInBounds, if_neg (by omega)]
      exact k7.zero i hi hl hno
    · obtain ⟨p, q1, q2, q3, q4, q5⟩ := k7.spot j hj
      exact ⟨p, q1, q2, q3, by rw [Array.getElem?_setIfInBounds, if_neg (by omega)]; exact q4, q5⟩
  · refine h.of h.1 rfl ?_ ?_
    · simp only [World.setCell, Array.getElem?_modify]
      rw [if_neg e1]
    · simp only [World.setCell, Array.getElem?_modify, Ren.addr]
      rw [if_neg (fun e2 => e1 (hinj _ _ hab h.1 e2))]
theorem WR.store {σ : Nat → Value} {W0 : World} {H : Nat} {Γ : Gst} {A : Ren} {w w' : World} (h : WR σ W0 H Γ A w w') {a : Addr} {v v' u : Value} (hv : RV σ A v v') (hc : w.cell? a = some u) (hf : w.frozen? a = false) :
    w'.frozen? (A.addr a) = false ∧ (∃ u', w'.cell? (A.addr a) = some u') ∧ WR σ W0 H Γ A (w.setCell a v) (w'.setCell (A.addr a) v') := by
  obtain ⟨u', hu', _⟩ := h.cell hc
  unfold World.cell? at hc
  split at hc
  case h_2 => cases hc
  rename_i cs e fz hb
  rcases h.obj _ _ hb with ⟨c, e', he⟩ | ⟨cs0, e0, fz0, cs', e', fz', he, hb', hcr, hfz⟩
  · cases he
  cases he
  split at hc
  · cases hc
  rename_i hs
  have hlt : a.off < cs.size := by
    rcases Nat.lt_or_ge a.off cs.size with h1 | h1
    · exact h1
    · rw [Array.getElem?_eq_none h1] at hc; cases hc
  have hfz1 : fz = (0, 0) ∧ fz' = (0, 0) ∧ H ≤ A.f a.block := by
    rcases hfz with h1 | h1
    · exact h1
    · have := h1 _ hlt
      unfold World.frozen? at hf
      rw [hb] at hf
      simp [this.1, this.2] at hf
  obtain ⟨rfl, rfl, hH⟩ := hfz1
  have hab : A.d a.block := h.has hb
  refine ⟨by unfold World.frozen?; simp [Ren.addr, hb'], ⟨u', hu'⟩, ?_⟩
  refine { tape := h.tape, size := fun b hb => by simpa [World.setCell] using h.size b hb, full := fun b hb2 => ?_, lt := fun b hb => by simpa [World.setCell] using h.lt b hb, inj := h.inj, obj := fun b o ho => ?obj, ext := h.ext.setCell hH v', hle := by simpa [World.setCell] using h.hle, loops := fun g hg => ?_, resv := fun p hp => ?_, resd := fun b hd hpb => ?_, dead := fun k hk => ?_, long := fun b hb2 => ?long, grow := fun b n u hb2 => ?grow, gun := h.gun, gone := h.gone }
  case long => exact (h.long b hb2).store hb h.inj hab hb' hlt hs v v'
  case grow =>
    have hne : b ≠ a.block := (h.grow b n u hb2).ne hb (fun cs e2 e => by cases e)
    refine (h.grow b n u hb2).of (Ren.le.refl A) ?_ (fun g _ _ _ _ _ hg => ?_) (fun b' g hb' hn' _ hg => hg b' hb' hn')
    · simp only [World.setCell, Array.getElem?_modify]
      rw [if_neg (fun e2 => hne e2.symm)]
    · simp only [World.setCell, Array.getElem?_modify, Ren.addr]
      rw [if_neg (hg a.block hab (fun e2 => hne e2.symm))]
  case obj =>
    simp only [World.setCell, Array.getElem?_modify] at ho
    by_cases e : a.block = b
    · subst e
      rw [if_pos rfl, hb] at ho
      simp only [Option.map_some, Option.some.injEq] at ho
      subst ho
      refine .inr ⟨_, _, _, cs'.setIfInBounds a.off v', e', (0, 0), rfl, ?_, ?_, .inl ⟨rfl, rfl, hH⟩⟩
      · simp only [World.setCell, Array.getElem?_modify, Ren.addr, if_pos, hb', Option.map_some]
        simp only [hs, if_false, Bool.false_eq_true]
      · simp only [hs, if_false, Bool.false_eq_true]; exact hcr.set _ hv
    · rw [if_neg e] at ho
      rcases h.obj b o ho with h1 | ⟨cs1, e1, fz1, cs1', e1', fz1', h1, h2, h3, h4⟩
      · exact .inl h1
      · have hbn : A.d b := h.has (h1 ▸ ho)
        refine .inr ⟨cs1, e1, fz1, cs1', e1', fz1', h1, ?_, h3, h4⟩
        simp only [World.setCell, Array.getElem?_modify, Ren.addr]
        rw [if_neg (fun e2 => e (h.inj _ _ hab hbn e2))]
        exact h2
  · have h2 : b < w.heap.size := by simpa [World.setCell] using hb2
    rcases h.full b h2 with h3 | h3
    · exact .inl h3
    · refine .inr ?_
      simp only [World.setCell, Array.getElem?_modify]
      rw [if_neg (fun e2 => by rw [e2, h3] at hb; cases hb)]
      exact h3
  · obtain ⟨h1, ⟨c, h2, h3⟩, h4⟩ := h.loops g hg
    have hne : a.block ≠ g.L.b := fun e2 => by rw [e2, h2] at hb; cases hb
    refine ⟨h1, ⟨c, ?_, ?_⟩, h4⟩
    · simp only [World.setCell, Array.getElem?_modify]
      rw [if_neg hne]; exact h2
    · simp only [World.setCell, Array.getElem?_modify, Ren.addr]
      rw [if_neg (fun e2 => hne (h.inj _ _ hab h1 e2))]; exact h3
  · obtain ⟨h1, h2, h3, h4⟩ := h.resv p hp
    have hne : a.block ≠ p.b := fun e2 => by rw [e2, h2] at hb; cases hb
    refine ⟨h1, ?_, ?_, h4⟩
    · simp only [World.setCell, Array.getElem?_modify]
      rw [if_neg hne]; exact h2
    · simp only [World.setCell, Array.getElem?_modify, Ren.addr]
      rw [if_neg (fun e2 => hne (h.inj _ _ hab h1 e2))]; exact h3
  · refine h.resd b hd ?_
    simp only [World.setCell, Array.getElem?_modify] at hpb
    by_cases e2 : a.block = b
    · subst e2
      rw [hb] at hpb
      simp at hpb
    · rw [if_neg e2] at hpb
      exact hpb
  · obtain ⟨h1, h2, h3⟩ := h.dead k hk
    refine ⟨?_, h2, h3⟩
    simp only [World.setCell, Array.getElem?_modify, Ren.addr]
    rw [if_neg (h3 _ hab)]; exact h1

/-- A place that is told apart becomes another number. -/
theorem WR.spStore {σ : Nat → Value} {W0 : World} {H : Nat} {Γ : Gst} {A : Ren} {w w' : World} (h : WR σ W0 H Γ A w w') {b j d p : Nat} (ht : A.t b) {cs : Array Value} {e : TypeId} (hb : w.heap[b]? = some (.cells cs e (0, 0))) (hsz : cs.size ≠ 0) (hj : j < spM e) (hd : d < 1000) (hp : σ (1 + j) = .int .i64 (p : Int)) :
    w'.frozen? ⟨A.f b, p, none⟩ = false ∧ (∃ u', w'.cell? ⟨A.f b, p, none⟩ = some u') ∧ WR σ W0 H Γ A { w with heap := w.heap.setIfInBounds b (.cells cs (spSet e j d) (0, 0)) } (w'.setCell ⟨A.f b, p, none⟩ (spV σ d)) := by
  obtain ⟨hdb, cs1, e1, fz1, ⟨k1, k2⟩, L, cs2, e2, fz2, k3, k4, k5, k6, k7⟩ := h.long b ht
  rw [hb] at k1
  cases k1
  have hbl : b < w.heap.size := (Array.getElem?_eq_some_iff.1 hb).1
  have hfz : fz2 = (0, 0) ∧ H ≤ A.f b := by
    rcases h.obj _ _ hb with ⟨c, e', he⟩ | ⟨cs0, e0, fz0, cs', e', fz', he, hb', hcr, hfz⟩
    · cases he
    cases he
    rw [k5] at hb'
    cases hb'
    rcases hfz with q | q
    · exact ⟨q.2.1, q.2.2⟩
    · have := q 0 (by omega)
      simp at this
  obtain ⟨rfl, hH⟩ := hfz
  obtain ⟨p2, q1, q2, q3, q4, q5⟩ := k7.spot j hj
  rw [hp] at q1
  have hpp : p2 = p := by
    simp only [Value.int.injEq, true_and] at q1
    omega
  subst hpp
  have hs : ∀ c, (w.heap.setIfInBounds b (Obj.cells cs (spSet e j d) (0, 0)))[c]? = if c = b then some (Obj.cells cs (spSet e j d) (0, 0)) else w.heap[c]? := by
    intro c
    rw [Array.getElem?_setIfInBounds]
    by_cases e9 : b = c
    · subst e9; simp [hbl]
    · rw [if_neg e9, if_neg (fun e8 => e9 e8.symm)]
  have hr : ∀ g, g ≠ A.f b → (w'.setCell ⟨A.f b, p2, none⟩ (spV σ d)).heap[g]? = w'.heap[g]? := fun g hg => by
    simp only [World.setCell, Array.getElem?_modify]
    rw [if_neg (fun e9 => hg e9.symm)]
  have hrb : (w'.setCell ⟨A.f b, p2, none⟩ (spV σ d)).heap[A.f b]? = some (.cells (cs2.setIfInBounds p2 (spV σ d)) e2 (0, 0)) := by
    simp [World.setCell, Array.getElem?_modify, k5]
  refine ⟨by unfold World.frozen?; simp [k5], ⟨_, by unfold World.cell?; simp only [k5]; exact q4⟩, ?_⟩
  have hnb : ∀ c, A.d c → c ≠ b → A.f c ≠ A.f b := fun c hc hne e9 => hne (h.inj _ _ hc hdb e9)
  refine { tape := h.tape, size := fun c hc => by simpa using h.size c hc, full := fun c hc => ?_, lt := fun c hc => by simpa [World.setCell] using h.lt c hc, inj := h.inj, obj := fun c o ho => ?_, ext := h.ext.setCell hH _, hle := by simpa [World.setCell] using h.hle, loops := fun g hg => ?_, resv := fun p hp => ?_, resd := fun c hd hpb => ?_, dead := fun k hk => ?_, long := fun c hc => ?_, grow := fun c n u hc => ?_, gun := h.gun, gone := h.gone }
  · have hc2 : c < w.heap.size := by simpa using hc
    show A.d c ∨ (w.heap.setIfInBounds b _)[c]? = _
    rw [hs]
    by_cases e9 : c = b
    · exact .inl (e9 ▸ hdb)
    · rw [if_neg e9]; exact h.full c hc2
  · have ho2 : (w.heap.setIfInBounds b (Obj.cells cs (spSet e j d) (0, 0)))[c]? = some o := ho
    rw [hs] at ho2
    by_cases e9 : c = b
    · subst e9
      rw [if_pos rfl] at ho2
      cases ho2
      rcases h.obj _ _ hb with ⟨c, e', he⟩ | ⟨cs0, e0, fz0, cs', e', fz', he, hb', hcr, hfz⟩
      · cases he
      cases he
      rw [k5] at hb'
      cases hb'
      refine .inr ⟨_, _, _, _, _, _, rfl, hrb, ⟨by simpa using hcr.1, fun i v hv => ?_⟩, .inl ⟨rfl, rfl, hH⟩⟩
      have hi : i < cs.size := (Array.getElem?_eq_some_iff.1 hv).1
      rw [Array.getElem?_setIfInBounds, if_neg (by omega)]
      exact hcr.2 i v hv
    · rw [if_neg e9] at ho2
      rcases h.obj c o ho2 with h1 | ⟨cs1, e1, fz1, cs1', e1', fz1', h1, h2, h3, h4⟩
      · exact .inl h1
      · have hcn : A.d c := h.has (h1 ▸ ho2)
        exact .inr ⟨cs1, e1, fz1, cs1', e1', fz1', h1, by rw [hr _ (hnb c hcn e9)]; exact h2, h3, h4⟩
  · obtain ⟨h1, ⟨c, h2, h3⟩, h4⟩ := h.loops g hg
    have hne : g.L.b ≠ b := fun e9 => by rw [e9, hb] at h2; cases h2
    exact ⟨h1, ⟨c, by show (w.heap.setIfInBounds b _)[_]? = _; rw [hs, if_neg hne]; exact h2, by rw [hr _ (hnb _ h1 hne)]; exact h3⟩, h4⟩
  · obtain ⟨h1, h2, h3, h4⟩ := h.resv p hp
    have hne : p.b ≠ b := fun e9 => by rw [e9, hb] at h2; cases h2
    exact ⟨h1, by show (w.heap.setIfInBounds b _)[_]? = _; rw [hs, if_neg hne]; exact h2, by rw [hr _ (hnb _ h1 hne)]; exact h3, h4⟩
  · have hpb2 : (w.heap.setIfInBounds b (Obj.cells cs (spSet e j d) (0, 0)))[c]? = some (.pending #[] 9) := hpb
    rw [hs] at hpb2
    split at hpb2
    · cases hpb2
    · exact h.resd c hd hpb2
  · obtain ⟨h1, h2, h3⟩ := h.dead k hk
    exact ⟨by rw [hr _ (fun e9 => h3 b hdb e9.symm)]; exact h1, h2, h3⟩
  · by_cases e9 : c = b
    · subst e9
      refine ⟨hdb, cs, spSet e j d, (0, 0), ⟨by show (w.heap.setIfInBounds c _)[_]? = _; rw [hs, if_pos rfl], k2⟩, L, cs2.setIfInBounds p2 (spV σ d), e2, (0, 0), k3, k4, hrb, by simpa using k6, ?_⟩
      have hj4 : j < 4 := Nat.lt_of_lt_of_le hj k7.few
      refine ⟨by rw [spSet_M hj4 hd]; exact k7.few, fun i hi hl hno => ?_, fun k hk => ?_⟩
      · rw [spSet_M hj4 hd] at hno
        have hip : p2 ≠ i := fun e8 => hno j hj (by rw [hp, e8])
        rw [Array.getElem?_setIfInBounds, if_neg hip]
        exact k7.zero i hi hl hno
      · rw [spSet_M hj4 hd] at hk
        obtain ⟨p3, m1, m2, m3, m4, m5⟩ := k7.spot k hk
        refine ⟨p3, m1, m2, m3, ?_, m5⟩
        by_cases e8 : k = j
        · subst e8
          rw [hp] at m1
          have : p3 = p2 := by
            simp only [Value.int.injEq, true_and] at m1
            omega
          subst this
          rw [spSet_same hj4 hd, Array.getElem?_setIfInBounds, if_pos rfl, if_pos (by omega)]
        · have hk4 : k < 4 := Nat.lt_of_lt_of_le hk k7.few
          rw [spSet_other hj4 hk4 e8 hd]
          have hne : p2 ≠ p3 := fun e7 => by
            rcases Nat.lt_or_gt_of_ne e8 with q | q
            · exact q5 k q (by rw [m1, hp, e7])
            · exact m5 j q (by rw [hp, m1, e7])
          rw [Array.getElem?_setIfInBounds, if_neg hne]
          exact m4
    · exact (h.long c hc).of (h.long c hc).1 rfl (by show (w.heap.setIfInBounds b _)[_]? = _; rw [hs, if_neg e9]) (hr _ (hnb c (h.long c hc).1 e9))
  · have hne : c ≠ b := (h.grow c n u hc).ne hb (fun cs e2 e => by cases e)
    refine (h.grow c n u hc).of (Ren.le.refl A) (by show (w.heap.setIfInBounds b _)[_]? = _; rw [hs, if_neg hne]) (fun g _ _ _ _ _ hg => ?_) (fun b' g hb' hn' _ hg => hg b' hb' hn')
    exact hr g (fun e9 => hg b hdb (fun e8 => hne e8.symm) e9.symm)

/-- A new block on both sides. -/
def Ren.push (A : Ren) (i r : Nat) : Ren := ⟨fun b => if b = i then r else A.f b, fun b => A.d b ∨ b = i, A.t, A.g⟩
theorem Ren.push_le {A : Ren} {i : Nat} (h : ¬ A.d i) (r : Nat) : A.le (A.push i r) := ⟨fun b hb => .inl hb, fun b hb => by
  have : b ≠ i := fun e => h (e ▸ hb)
  simp [Ren.push, this], fun b hb => hb, fun _ _ _ h => h⟩
theorem Ren.push_at (A : Ren) (i r : Nat) : (A.push i r).f i = r := by simp [Ren.push]
theorem LongB.push2 {σ : Nat → Value} {w w' : World} {A : Ren} {b : Nat} (h : LongB σ w w' A b) (h1 : b < w.heap.size) (h2 : A.f b < w'.heap.size) (hi : ¬ A.d w.heap.size) {o o' : Obj} : LongB σ { w with heap := w.heap.push o } { w' with heap := w'.heap.push o' } (A.push w.heap.size w'.heap.size) b := by
  refine h.of (.inl h.1) ((A.push_le hi _).2 b h.1) ?_ ?_
  · simp only [Array.getElem?_push]
    rw [if_neg (by omega)]
  · simp only [Array.getElem?_push]
    rw [if_neg (by omega)]
theorem GrowB.push2 {σ : Nat → Value} {H : Nat} {w w' : World} {A : Ren} {b n : Nat} {v' : Value} (h : GrowB σ H w w' A b n v') (h1 : b < w.heap.size) (hi : ¬ A.d w.heap.size) {o o' : Obj} : GrowB σ H { w with heap := w.heap.push o } { w' with heap := w'.heap.push o' } (A.push w.heap.size w'.heap.size) b n v' := by
  refine h.of (A.push_le hi _) ?_ (fun g _ _ _ _ hg _ => ?_) (fun b' g hb' hne hgl hg => ?_)
  · simp only [Array.getElem?_push]
    rw [if_neg (by omega)]
  · have := (Array.getElem?_eq_some_iff.1 hg).1
    simp only [Array.getElem?_push]
    rw [if_neg (by omega)]
  · rcases hb' with hb' | hb'
    · rw [(A.push_le hi _).2 b' hb']; exact hg b' hb' hne
    · subst hb'; rw [A.push_at]; omega
theorem GrowB.pushR {σ : Nat → Value} {H : Nat} {w w' w2 w2' : World} {A : Ren} {b n : Nat} {v' : Value} (h : GrowB σ H w w' A b n v') {i r : Nat} (hi : ¬ A.d i) (hr : r = w'.heap.size) (h1 : w2.heap[b]? = w.heap[b]?) (h2 : ∀ g, g < w'.heap.size → w2'.heap[g]? = w'.heap[g]?) : GrowB σ H w2 w2' (A.push i r) b n v' := by
  refine h.of (A.push_le hi _) h1 (fun g _ _ _ _ hg _ => h2 g (Array.getElem?_eq_some_iff.1 hg).1) (fun b' g hb' hne hgl hg => ?_)
  rcases hb' with hb' | hb'
  · rw [(A.push_le hi _).2 b' hb']; exact hg b' hb' hne
  · subst hb'; rw [A.push_at, hr]; omega
/-- The renaming after a new block is one to one. -/
theorem push_inj {A : Ren} {i r : Nat} (hi : ¬ A.d i) (hr : ∀ b, A.d b → A.f b ≠ r) (hinj : ∀ b c, A.d b → A.d c → A.f b = A.f c → b = c) : ∀ b c, (A.push i r).d b → (A.push i r).d c → (A.push i r).f b = (A.push i r).f c → b = c := by
  intro b c hb hc e
  have hle := A.push_le hi r
  rcases hb with hb | hb <;> rcases hc with hc | hc
  · rw [hle.2 b hb, hle.2 c hc] at e; exact hinj b c hb hc e
  · subst hc; rw [hle.2 b hb, A.push_at] at e; exact absurd e (hr b hb)
  · subst hb; rw [hle.2 c hc, A.push_at] at e; exact absurd e.symm (hr c hc)
  · rw [hb, hc]
theorem WR.new {σ : Nat → Value} {W0 : World} {H : Nat} {Γ : Gst} {A : Ren} {w w' : World} (h : WR σ W0 H Γ A w w') {cs cs' : Array Value} {e e' : TypeId} (hc : CR σ A cs cs') :
    WR σ W0 H Γ (A.push w.heap.size w'.heap.size) { w with heap := w.heap.push (.cells cs e) } { w' with heap := w'.heap.push (.cells cs' e') } := by
  have hi : ¬ A.d w.heap.size := fun hd => by have := h.size _ hd; omega
  have hle := A.push_le hi w'.heap.size
  refine { tape := h.tape, size := fun b hb => ?_, full := fun b hb => ?_, lt := fun b hb => ?_, inj := push_inj hi (fun b hb e => by have := h.lt b hb; omega) h.inj, obj := fun b o ho => ?_, ext := h.ext.trans ⟨rfl, rfl, rfl, by simp, fun k hk => ?_⟩, hle := by have := h.hle; simp; omega, loops := fun g hg => ?_, resv := fun p hp => ?_, resd := fun b hd hpb => ?_, dead := fun k hk => ?_, long := fun b hb => (h.long b hb).push2 (h.size _ (h.long b hb).1) (h.lt _ (h.long b hb).1) hi, grow := fun b n u hb => (h.grow b n u hb).push2 (h.size _ (h.grow b n u hb).1) hi, gun := h.gun, gone := h.gone }
  · rcases hb with hb | hb
    · have := h.size b hb; simp; omega
    · subst hb; simp
  · simp at hb
    by_cases e : b = w.heap.size
    · exact .inl (.inr e)
    · rcases h.full b (by omega) with h1 | h1
      · exact .inl (.inl h1)
      · exact .inr (by rw [Array.getElem?_push, if_neg (by omega)]; exact h1)
  · rcases hb with hb | hb
    · rw [hle.2 b hb]; have := h.lt b hb; simp; omega
    · subst hb; rw [A.push_at]; simp
  · rw [Array.getElem?_push] at ho
    split at ho
    · cases ho
      rename_i hb
      refine .inr ⟨cs, e, (0, 0), cs', e', (0, 0), rfl, ?_, hc.mono hle, .inl ⟨rfl, rfl, ?_⟩⟩
      · rw [hb, A.push_at]; simp
      · rw [hb, A.push_at]; exact h.hle
    · rename_i hb
      rcases h.obj b o ho with h1 | ⟨cs1, e1, fz1, cs1', e1', fz1', h1, h2, h3, h4⟩
      · exact .inl h1
      · have hbn : A.d b := h.has (h1 ▸ ho)
        refine .inr ⟨cs1, e1, fz1, cs1', e1', fz1', h1, ?_, h3.mono hle, ?_⟩
        · rw [hle.2 b hbn, Array.getElem?_push, if_neg (by have := h.lt b hbn; omega)]; exact h2
        · rw [hle.2 b hbn]; exact h4
  · have := h.hle
    simp only [Array.getElem?_push]
    rw [if_neg (by omega)]
  · obtain ⟨h1, ⟨c, h2, h3⟩, h4, h5, h6⟩ := h.loops g hg
    have hf : (A.push w.heap.size w'.heap.size).f g.L.b = A.f g.L.b := hle.2 _ h1
    refine ⟨.inl h1, ⟨c, ?_, ?_⟩, h4.mono hle, by rw [hf]; exact h5, h6⟩
    · rw [Array.getElem?_push, if_neg (by have := h.size _ h1; omega)]; exact h2
    · rw [hf, Array.getElem?_push, if_neg (by have := h.lt _ h1; omega)]; exact h3
  · obtain ⟨h1, h2, h3, h4⟩ := h.resv p hp
    have hf := hle.2 _ h1
    refine ⟨.inl h1, ?_, ?_, by rw [hf]; exact h4⟩
    · rw [Array.getElem?_push, if_neg (by have := h.size _ h1; omega)]; exact h2
    · rw [hf, Array.getElem?_push, if_neg (by have := h.lt _ h1; omega)]; exact h3
  · rw [Array.getElem?_push] at hpb
    split at hpb
    · cases hpb
    · rename_i hne
      rcases hd with hd | hd
      · exact h.resd b hd hpb
      · exact absurd hd hne
  · obtain ⟨h1, h2, h3⟩ := h.dead k hk
    have hk2 : k < w'.heap.size := (Array.getElem?_eq_some_iff.1 h1).1
    refine ⟨?_, h2, fun b hb => ?_⟩
    · rw [Array.getElem?_push, if_neg (by omega)]; exact h1
    · rcases hb with hb | hb
      · rw [hle.2 b hb]; exact h3 b hb
      · subst hb; rw [A.push_at]; omega
/-- A block that this side does not look into. -/
theorem WR.newP {σ : Nat → Value} {W0 : World} {H : Nat} {Γ : Gst} {A : Ren} {w w' : World} (h : WR σ W0 H Γ A w w') {c : Nat} (hc : c ≠ 9) (o' : Obj) :
    WR σ W0 H Γ (A.push w.heap.size w'.heap.size) { w with heap := w.heap.push (.pending #[] c) } { w' with heap := w'.heap.push o' } := by
  have hi : ¬ A.d w.heap.size := fun hd => by have := h.size _ hd; omega
  have hle := A.push_le hi w'.heap.size
  refine { tape := h.tape, size := fun b hb => ?_, full := fun b hb => ?_, lt := fun b hb => ?_, inj := push_inj hi (fun b hb e => by have := h.lt b hb; omega) h.inj, obj := fun b o ho => ?_, ext := h.ext.trans ⟨rfl, rfl, rfl, by simp, fun k hk => ?_⟩, hle := by have := h.hle; simp; omega, loops := fun g hg => ?_, resv := fun p hp => ?_, resd := fun b hd hpb => ?_, dead := fun k hk => ?_, long := fun b hb => (h.long b hb).push2 (h.size _ (h.long b hb).1) (h.lt _ (h.long b hb).1) hi, grow := fun b n u hb => (h.grow b n u hb).push2 (h.size _ (h.grow b n u hb).1) hi, gun := h.gun, gone := h.gone }
  · rcases hb with hb | hb
    · have := h.size b hb; simp; omega
    · subst hb; simp
  · simp at hb
    by_cases e : b = w.heap.size
    · exact .inl (.inr e)
    · rcases h.full b (by omega) with h1 | h1
      · exact .inl (.inl h1)
      · exact .inr (by rw [Array.getElem?_push, if_neg (by omega)]; exact h1)
  · rcases hb with hb | hb
    · rw [hle.2 b hb]; have := h.lt b hb; simp; omega
    · subst hb; rw [A.push_at]; simp
  · rw [Array.getElem?_push] at ho
    split at ho
    · cases ho
      exact .inl ⟨_, _, rfl⟩
    · rename_i hb
      rcases h.obj b o ho with h1 | ⟨cs1, e1, fz1, cs1', e1', fz1', h1, h2, h3, h4⟩
      · exact .inl h1
      · have hbn : A.d b := h.has (h1 ▸ ho)
        refine .inr ⟨cs1, e1, fz1, cs1', e1', fz1', h1, ?_, h3.mono hle, ?_⟩
        · rw [hle.2 b hbn, Array.getElem?_push, if_neg (by have := h.lt b hbn; omega)]; exact h2
        · rw [hle.2 b hbn]; exact h4
  · have := h.hle
    simp only [Array.getElem?_push]
    rw [if_neg (by omega)]
  · obtain ⟨h1, ⟨c, h2, h3⟩, h4, h5, h6⟩ := h.loops g hg
    have hf : (A.push w.heap.size w'.heap.size).f g.L.b = A.f g.L.b := hle.2 _ h1
    refine ⟨.inl h1, ⟨c, ?_, ?_⟩, h4.mono hle, by rw [hf]; exact h5, h6⟩
    · rw [Array.getElem?_push, if_neg (by have := h.size _ h1; omega)]; exact h2
    · rw [hf, Array.getElem?_push, if_neg (by have := h.lt _ h1; omega)]; exact h3
  · obtain ⟨h1, h2, h3, h4⟩ := h.resv p hp
    have hf := hle.2 _ h1
    refine ⟨.inl h1, ?_, ?_, by rw [hf]; exact h4⟩
    · rw [Array.getElem?_push, if_neg (by have := h.size _ h1; omega)]; exact h2
    · rw [hf, Array.getElem?_push, if_neg (by have := h.lt _ h1; omega)]; exact h3
  · rw [Array.getElem?_push] at hpb
    split at hpb
    · cases hpb; exact absurd rfl hc
    · rename_i hne
      rcases hd with hd | hd
      · exact h.resd b hd hpb
      · exact absurd hd hne
  · obtain ⟨h1, h2, h3⟩ := h.dead k hk
    have hk2 : k < w'.heap.size := (Array.getElem?_eq_some_iff.1 h1).1
    refine ⟨?_, h2, fun b hb => ?_⟩
    · rw [Array.getElem?_push, if_neg (by omega)]; exact h1
    · rcases hb with hb | hb
      · rw [hle.2 b hb]; exact h3 b hb
      · subst hb; rw [A.push_at]; omega

/-- A long row on both sides. -/
def Ren.pushT (A : Ren) (i r : Nat) : Ren := ⟨fun b => if b = i then r else A.f b, fun b => A.d b ∨ b = i, fun b => A.t b ∨ b = i, A.g⟩
theorem Ren.pushT_le {A : Ren} {i : Nat} (h : ¬ A.d i) (r : Nat) : A.le (A.pushT i r) := ⟨fun b hb => .inl hb, fun b hb => (A.push_le h r).2 b hb, fun b hb => .inl hb, fun _ _ _ h => h⟩
theorem Ren.pushT_at (A : Ren) (i r : Nat) : (A.pushT i r).f i = r := by simp [Ren.pushT]
theorem WR.newLong {σ : Nat → Value} {W0 : World} {H : Nat} {Γ : Gst} {A : Ren} {w w' w'' : World} (h : WR σ W0 H Γ A w w') (h2 : WR σ W0 H Γ A w w'') (hE : Ext w' w'') {g : Nat} (hg : w'.heap.size ≤ g) {cs cs' : Array Value} {e e' : TypeId} (hb : w''.heap[g]? = some (.cells cs' e')) (hc : CR σ A cs cs')
    {L : Int} (hs0 : σ 0 = .int .i64 L) (h77 : 77 ≤ L) (hsz : L.toNat ≤ cs'.size) (htl : TailS σ e L.toNat cs') (h7 : cs.size ≤ 77) :
    WR σ W0 H Γ (A.pushT w.heap.size g) { w with heap := w.heap.push (.cells cs e) } w'' := by
  have hi : ¬ A.d w.heap.size := fun hd => by have := h.size _ hd; omega
  have hle := A.pushT_le hi g
  have hgl : g < w''.heap.size := (Array.getElem?_eq_some_iff.1 hb).1
  have hHg : H ≤ g := Nat.le_trans h.hle hg
  refine { tape := h.tape, size := fun b hb => ?_, full := fun b hb => ?_, lt := fun b hb => ?_, inj := push_inj hi (fun b hb e => by have := h.lt b hb; omega) h.inj, obj := fun b o ho => ?_, ext := h2.ext, hle := h2.hle, loops := fun g2 hg2 => ?_, resv := fun p hp => ?_, resd := fun b hd hpb => ?_, dead := fun k hk => ?_, long := fun b hb2 => ?_, grow := fun b n u hb2 => ?_, gun := h.gun, gone := h.gone }
  · rcases hb with hb | hb
    · have := h.size b hb; simp; omega
    · subst hb; simp
  · simp at hb
    by_cases e : b = w.heap.size
    · exact .inl (.inr e)
    · rcases h.full b (by omega) with h1 | h1
      · exact .inl (.inl h1)
      · exact .inr (by rw [Array.getElem?_push, if_neg (by omega)]; exact h1)
  · rcases hb with hb | hb
    · rw [hle.2 b hb]; exact h2.lt b hb
    · subst hb; rw [A.pushT_at]; exact hgl
  · rw [Array.getElem?_push] at ho
    split at ho
    · cases ho
      rename_i hb2
      refine .inr ⟨cs, e, (0, 0), cs', e', (0, 0), rfl, ?_, hc.mono hle, .inl ⟨rfl, rfl, ?_⟩⟩
      · rw [hb2, A.pushT_at]; exact hb
      · rw [hb2, A.pushT_at]; exact hHg
    · rename_i hb2
      rcases h2.obj b o ho with h1 | ⟨cs1, e1, fz1, cs1', e1', fz1', h1, h2, h3, h4⟩
      · exact .inl h1
      · have hbn : A.d b := h.has (h1 ▸ ho)
        refine .inr ⟨cs1, e1, fz1, cs1', e1', fz1', h1, ?_, h3.mono hle, ?_⟩
        · rw [hle.2 b hbn]; exact h2
        · rw [hle.2 b hbn]; exact h4
  · obtain ⟨h1, ⟨c, h3, h4⟩, h5, h6, h7⟩ := h2.loops g2 hg2
    have hf := hle.2 _ h1
    refine ⟨.inl h1, ⟨c, ?_, ?_⟩, h5.mono hle, by rw [hf]; exact h6, h7⟩
    · rw [Array.getElem?_push, if_neg (by have := h.size _ h1; omega)]; exact h3
    · rw [hf]; exact h4
  · obtain ⟨h1, h3, h4, h5⟩ := h2.resv p hp
    have hf := hle.2 _ h1
    refine ⟨.inl h1, ?_, ?_, by rw [hf]; exact h5⟩
    · rw [Array.getElem?_push, if_neg (by have := h.size _ h1; omega)]; exact h3
    · rw [hf]; exact h4
  · rw [Array.getElem?_push] at hpb
    split at hpb
    · cases hpb
    · rename_i hne
      rcases hd with hd | hd
      · exact h.resd b hd hpb
      · exact absurd hd hne
  · obtain ⟨h1, h3, h4⟩ := h2.dead k hk
    have hk2 := (Array.getElem?_eq_some_iff.1 (h.dead k hk).1).1
    refine ⟨h1, h3, fun b hb => ?_⟩
    rcases hb with hb | hb
    · rw [hle.2 b hb]; exact h4 b hb
    · subst hb; rw [A.pushT_at]; omega
  · rcases hb2 with hb2 | hb2
    · exact (h2.long b hb2).of (.inl (h2.long b hb2).1) (hle.2 b (h2.long b hb2).1) (by simp only [Array.getElem?_push]; rw [if_neg (by have := h.size _ (h2.long b hb2).1; omega)]) rfl
    · subst hb2
      exact ⟨.inr rfl, cs, e, (0, 0), ⟨by simp, h7⟩, L, cs', e', (0, 0), hs0, h77, by rw [A.pushT_at]; exact hb, hsz, htl⟩
  · refine (h.grow b n u hb2).of hle ?_ (fun g2 _ _ _ _ hg2 _ => hE.block g2 (Array.getElem?_eq_some_iff.1 hg2).1) (fun b' g2 hb' hne hgl hg2 => ?_)
    · simp only [Array.getElem?_push]
      rw [if_neg (by have := h.size _ (h.grow b n u hb2).1; omega)]
    · rcases hb' with hb' | hb'
      · rw [hle.2 b' hb']; exact hg2 b' hb' hne
      · subst hb'; rw [A.pushT_at]; omega
/-- A block that a call has made: on both sides. -/
theorem WR.newS {σ : Nat → Value} {W0 : World} {H : Nat} {Γ : Gst} {A : Ren} {w w' w'' : World} (h : WR σ W0 H Γ A w w') (h2 : WR σ W0 H Γ A w w'') (hE : Ext w' w'') {g : Nat} (hg : w'.heap.size ≤ g) {cs cs' : Array Value} {e e' : TypeId} (hb : w''.heap[g]? = some (.cells cs' e')) (hc : CR σ A cs cs') :
    WR σ W0 H Γ (A.push w.heap.size g) { w with heap := w.heap.push (.cells cs e) } w'' := by
  have hi : ¬ A.d w.heap.size := fun hd => by have := h.size _ hd; omega
  have hle := A.push_le hi g
  have hgl : g < w''.heap.size := (Array.getElem?_eq_some_iff.1 hb).1
  have hHg : H ≤ g := Nat.le_trans h.hle hg
  refine { tape := h.tape, size := fun b hb => ?_, full := fun b hb => ?_, lt := fun b hb => ?_, inj := push_inj hi (fun b hb e => by have := h.lt b hb; omega) h.inj, obj := fun b o ho => ?_, ext := h2.ext, hle := h2.hle, loops := fun g2 hg2 => ?_, resv := fun p hp => ?_, resd := fun b hd hpb => ?_, dead := fun k hk => ?_, long := fun b hb2 => ?_, grow := fun b n u hb2 => ?_, gun := h.gun, gone := h.gone }
  · rcases hb with hb | hb
    · have := h.size b hb; simp; omega
    · subst hb; simp
  · simp at hb
    by_cases e : b = w.heap.size
    · exact .inl (.inr e)
    · rcases h.full b (by omega) with h1 | h1
      · exact .inl (.inl h1)
      · exact .inr (by rw [Array.getElem?_push, if_neg (by omega)]; exact h1)
  · rcases hb with hb | hb
    · rw [hle.2 b hb]; exact h2.lt b hb
    · subst hb; rw [A.push_at]; exact hgl
  · rw [Array.getElem?_push] at ho
    split at ho
    · cases ho
      rename_i hb2
      refine .inr ⟨cs, e, (0, 0), cs', e', (0, 0), rfl, ?_, hc.mono hle, .inl ⟨rfl, rfl, ?_⟩⟩
      · rw [hb2, A.push_at]; exact hb
      · rw [hb2, A.push_at]; exact hHg
    · rename_i hb2
      rcases h2.obj b o ho with h1 | ⟨cs1, e1, fz1, cs1', e1', fz1', h1, h2, h3, h4⟩
      · exact .inl h1
      · have hbn : A.d b := h.has (h1 ▸ ho)
        refine .inr ⟨cs1, e1, fz1, cs1', e1', fz1', h1, ?_, h3.mono hle, ?_⟩
        · rw [hle.2 b hbn]; exact h2
        · rw [hle.2 b hbn]; exact h4
  · obtain ⟨h1, ⟨c, h3, h4⟩, h5, h6, h7⟩ := h2.loops g2 hg2
    have hf := hle.2 _ h1
    refine ⟨.inl h1, ⟨c, ?_, ?_⟩, h5.mono hle, by rw [hf]; exact h6, h7⟩
    · rw [Array.getElem?_push, if_neg (by have := h.size _ h1; omega)]; exact h3
    · rw [hf]; exact h4
  · obtain ⟨h1, h3, h4, h5⟩ := h2.resv p hp
    have hf := hle.2 _ h1
    refine ⟨.inl h1, ?_, ?_, by rw [hf]; exact h5⟩
    · rw [Array.getElem?_push, if_neg (by have := h.size _ h1; omega)]; exact h3
    · rw [hf]; exact h4
  · rw [Array.getElem?_push] at hpb
    split at hpb
    · cases hpb
    · rename_i hne
      rcases hd with hd | hd
      · exact h.resd b hd hpb
      · exact absurd hd hne
  · obtain ⟨h1, h3, h4⟩ := h2.dead k hk
    have hk2 := (Array.getElem?_eq_some_iff.1 (h.dead k hk).1).1
    refine ⟨h1, h3, fun b hb => ?_⟩
    rcases hb with hb | hb
    · rw [hle.2 b hb]; exact h4 b hb
    · subst hb; rw [A.push_at]; omega
  · exact (h2.long b hb2).of (.inl (h2.long b hb2).1) (hle.2 b (h2.long b hb2).1) (by simp only [Array.getElem?_push]; rw [if_neg (by have := h.size _ (h2.long b hb2).1; omega)]) rfl
  · refine (h.grow b n u hb2).of hle ?_ (fun g2 _ _ _ _ hg2 _ => hE.block g2 (Array.getElem?_eq_some_iff.1 hg2).1) (fun b' g2 hb' hne hgl hg2 => ?_)
    · simp only [Array.getElem?_push]
      rw [if_neg (by have := h.size _ (h.grow b n u hb2).1; omega)]
    · rcases hb' with hb' | hb'
      · rw [hle.2 b' hb']; exact hg2 b' hb' hne
      · subst hb'; rw [A.push_at]; omega
/-- A row that grows begins. -/
def Ren.pushG (A : Ren) (i r : Nat) (v' : Value) : Ren := ⟨fun b => if b = i then r else A.f b, fun b => A.d b ∨ b = i, A.t, fun b n u => A.g b n u ∨ (b = i ∧ n = 1 ∧ u = v')⟩
theorem Ren.pushG_le {A : Ren} {i : Nat} (h : ¬ A.d i) (r : Nat) (v' : Value) : A.le (A.pushG i r v') := ⟨fun b hb => .inl hb, fun b hb => (A.push_le h r).2 b hb, fun b hb => hb, fun b n u hb => .inl hb⟩
theorem Ren.pushG_at (A : Ren) (i r : Nat) (v' : Value) : (A.pushG i r v').f i = r := by simp [Ren.pushG]
theorem WR.growNew {σ : Nat → Value} {W0 : World} {H : Nat} {Γ : Gst} {A : Ren} {w w' w'' : World} (h : WR σ W0 H Γ A w w') (h2 : WR σ W0 H Γ A w w'') (hE : Ext w' w'') {g cap : Nat} (hg : g = w'.heap.size) (hgl : g < w''.heap.size) {e : TypeId} {us : List Value} {v : Value}
    (hown : w''.ownsRow H e (szOf #[v]) (.slice (some ⟨g, 0, none⟩) 1 cap) 1 us) (hv : szOf #[v] = 1 → ∃ u, us = [u] ∧ RV σ A v u) (hno : ∀ (b : Nat) (cs : Array Value) (e : TypeId), w.heap[b]? = some (.pending cs e) → cs.size = 0) :
    WR σ W0 H Γ (A.pushG w.heap.size g (.slice (some ⟨g, 0, none⟩) 1 cap)) { w with heap := w.heap.push (.pending #[v] e) } w'' := by
  have hi : ¬ A.d w.heap.size := fun hd => by have := h.size _ hd; omega
  have hle := A.pushG_le hi g (.slice (some ⟨g, 0, none⟩) 1 cap)
  have hemp : ∀ b n u, ¬ A.g b n u := fun b n u hb => by
    obtain ⟨_, cs, e3, k1, k2, _⟩ := h.grow b n u hb
    exact k2 (hno b cs e3 k1)
  refine { tape := h.tape, size := fun b hb => ?_, full := fun b hb => ?_, lt := fun b hb => ?_, inj := push_inj hi (fun b hb e => by have := h.lt b hb; omega) h.inj, obj := fun b o ho => ?_, ext := h2.ext, hle := h2.hle, loops := fun g2 hg2 => ?_, resv := fun p hp => ?_, resd := fun b hd hpb => ?_, dead := fun k hk => ?_, long := fun b hb2 => ?_, grow := fun b n u2 hb2 => ?_, gun := fun b n u1 u2 q1 q2 => ?_, gone := fun b n u1 b2 n2 u2 q1 q2 => ?_ }
  · rcases hb with hb | hb
    · have := h.size b hb; simp; omega
    · subst hb; simp
  · simp at hb
    by_cases e : b = w.heap.size
    · exact .inl (.inr e)
    · rcases h.full b (by omega) with h1 | h1
      · exact .inl (.inl h1)
      · exact .inr (by rw [Array.getElem?_push, if_neg (by omega)]; exact h1)
  · rcases hb with hb | hb
    · rw [hle.2 b hb]; exact h2.lt b hb
    · subst hb; rw [A.pushG_at]; exact hgl
  · rw [Array.getElem?_push] at ho
    split at ho
    · cases ho
      exact .inl ⟨_, _, rfl⟩
    · rename_i hb2
      rcases h2.obj b o ho with h1 | ⟨cs1, e1, fz1, cs1', e1', fz1', h1, h2, h3, h4⟩
      · exact .inl h1
      · have hbn : A.d b := h.has (h1 ▸ ho)
        refine .inr ⟨cs1, e1, fz1, cs1', e1', fz1', h1, ?_, h3.mono hle, ?_⟩
        · rw [hle.2 b hbn]; exact h2
        · rw [hle.2 b hbn]; exact h4
  · obtain ⟨h1, ⟨c, h3, h4⟩, h5, h6, h7⟩ := h2.loops g2 hg2
    have hf := hle.2 _ h1
    refine ⟨.inl h1, ⟨c, ?_, ?_⟩, h5.mono hle, by rw [hf]; exact h6, h7⟩
    · rw [Array.getElem?_push, if_neg (by have := h.size _ h1; omega)]; exact h3
    · rw [hf]; exact h4
  · obtain ⟨h1, h3, h4, h5⟩ := h2.resv p hp
    have hf := hle.2 _ h1
    refine ⟨.inl h1, ?_, ?_, by rw [hf]; exact h5⟩
    · rw [Array.getElem?_push, if_neg (by have := h.size _ h1; omega)]; exact h3
    · rw [hf]; exact h4
  · rw [Array.getElem?_push] at hpb
    split at hpb
    · cases hpb
    · rename_i hne
      rcases hd with hd | hd
      · exact h.resd b hd hpb
      · exact absurd hd hne
  · obtain ⟨h1, h3, h4⟩ := h2.dead k hk
    have hk2 := (Array.getElem?_eq_some_iff.1 (h.dead k hk).1).1
    refine ⟨h1, h3, fun b hb => ?_⟩
    rcases hb with hb | hb
    · rw [hle.2 b hb]; exact h4 b hb
    · subst hb; rw [A.pushG_at]; omega
  · exact (h2.long b hb2).of (.inl (h2.long b hb2).1) (hle.2 b (h2.long b hb2).1) (by simp only [Array.getElem?_push]; rw [if_neg (by have := h.size _ (h2.long b hb2).1; omega)]) rfl
  · rcases hb2 with hb2 | ⟨rfl, rfl, rfl⟩
    · exact absurd hb2 (hemp _ _ _)
    · refine ⟨.inr rfl, #[v], e, by simp, by simp, Nat.le_refl _, by simp, fun _ => ⟨us, hown, fun hs i x hx => ?_, fun b' hb' hne e9 => ?_⟩⟩
      · obtain ⟨u, rfl, hv2⟩ := hv hs
        rcases i with _ | i
        · simp at hx
          subst hx
          exact ⟨u, rfl, hv2.mono hle⟩
        · simp at hx
      · rcases hb' with hb' | hb'
        · rw [hle.2 b' hb'] at e9
          have := h.lt b' hb'
          simp [Value.ownBlock] at e9
          omega
        · exact hne hb'
  · rcases q1 with q1 | ⟨rfl, rfl, rfl⟩
    · exact absurd q1 (hemp _ _ _)
    · rcases q2 with q2 | ⟨_, _, rfl⟩
      · exact absurd q2 (hemp _ _ _)
      · rfl
  · rcases q1 with q1 | ⟨rfl, rfl, rfl⟩
    · exact absurd q1 (hemp _ _ _)
    · rcases q2 with q2 | ⟨rfl, _, rfl⟩
      · exact absurd q2 (hemp _ _ _)
      · rfl
theorem WR.drawn {σ : Nat → Value} {W0 : World} {H : Nat} {Γ : Gst} {A : Ren} {w w' : World} (h : WR σ W0 H Γ A w w') (n n' : Nat) : WR σ W0 H Γ A { w with drawn := n } { w' with drawn := n' } :=
  { tape := h.tape, size := h.size, lt := h.lt, inj := h.inj, obj := h.obj, ext := h.ext.trans ⟨rfl, rfl, rfl, Nat.le_refl _, fun _ _ => rfl⟩, hle := h.hle, loops := h.loops, resv := h.resv, resd := h.resd, dead := h.dead, full := h.full, long := h.long, grow := h.grow, gun := h.gun, gone := h.gone }

/-- The run on the one side gives the run on the other. -/
theorem SemRel.sound {P : Program} {σ : Nat → Value} (hσ : ∀ j, OneC (σ j)) {α β : Type} {R : Ren → α → β → Prop} {A : Ren} {s : Sem α} {s' : Sem β} (h : SemRel P σ R A s s') {W0 : World} {H : Nat} {Γ : Gst} :
    ∀ {w w' : World} {a : α} {w1 : World}, WR σ W0 H Γ A w w' → s.run P w = .ok a w1 → ∃ B b w1', s'.run P w' = .ok b w1' ∧ A.le B ∧ WR σ W0 H Γ B w1 w1' ∧ R B a b := by
  induction h with
  | pure hr =>
    intro w w' a w1 hw hrun
    cases hrun
    exact ⟨_, _, _, rfl, Ren.le.refl _, hw, hr⟩
  | dead hd => intro w w' a w1 hw hrun; exact absurd hrun (hd _ _ _)
  | @load A m a k k' ha _ ih =>
    intro w w' x w1 hw hrun
    simp only [Sem.run] at hrun ⊢
    cases hc : w.cell? a with
    | some v =>
      rw [hc] at hrun
      obtain ⟨v', h1, h2⟩ := hw.cell hc
      rw [h1]
      exact ih v v' h2 hw hrun
    | none =>
      obtain ⟨e, he⟩ := hw.far P a (m == .atomic)
      rw [hc, he] at hrun
      cases hrun
  | @store A m a v v' k k' ha hv _ ih =>
    intro w w' x w1 hw hrun
    have ho : OneC v' ∧ OneC v := by
      cases v with
      | agg c => simp only [Sem.run] at hrun; cases hrun
      | tuple c => simp only [Sem.run] at hrun; cases hrun
      | float k j => cases hv; exact ⟨hσ _, trivial⟩
      | complex k x y => cases hv with
        | any _ _ _ ho => exact ⟨ho, trivial⟩
        | long _ _ _ _ _ _ => exact ⟨trivial, trivial⟩
        | grow _ _ _ _ _ _ _ => exact ⟨trivial, trivial⟩
        | gptr _ _ _ _ _ _ _ _ _ _ => exact ⟨trivial, trivial⟩
        | lptr _ _ _ _ _ _ _ _ => exact ⟨trivial, trivial⟩
      | _ => cases hv <;> exact ⟨trivial, trivial⟩
    have e1 : (Sem.store m a v k).run P w = match w.cell? a with
      | some _ => if w.frozen? a then .halt (.unsupported (.unsafePointer "a write to bytes that a string shares")) w else k.run P (w.setCell a v)
      | none => match w.farStore P a v (m == .atomic) with
        | .ok (w, _) => k.run P w
        | .error h => .halt h w := by
      cases v <;> first | rfl | exact absurd ho.2 (by simp [OneC])
    have e2 : (Sem.store m (A.addr a) v' k').run P w' = match w'.cell? (A.addr a) with
      | some _ => if w'.frozen? (A.addr a) then .halt (.unsupported (.unsafePointer "a write to bytes that a string shares")) w' else k'.run P (w'.setCell (A.addr a) v')
      | none => match w'.farStore P (A.addr a) v' (m == .atomic) with
        | .ok (w, _) => k'.run P w
        | .error h => .halt h w' := by
      cases v' <;> first | rfl | exact absurd ho.1 (by simp [OneC])
    rw [e1] at hrun
    rw [e2]
    cases hc : w.cell? a with
    | none =>
      obtain ⟨e, he⟩ := hw.farS P a v (m == .atomic)
      rw [hc, he] at hrun
      cases hrun
    | some u =>
      rw [hc] at hrun
      simp only [] at hrun
      split at hrun
      · cases hrun
      · rename_i hf
        obtain ⟨h1, ⟨u', h2⟩, h3⟩ := hw.store hv hc (by simpa using hf)
        rw [h2]
        simp only [h1, Bool.false_eq_true, if_false]
        exact ih h3 hrun
  | @new A cs cs' e k k' hc _ ih =>
    intro w w' x w1 hw hrun
    simp only [Sem.run] at hrun ⊢
    have hi : ¬ A.d w.heap.size := fun hd => by have := hw.size _ hd; omega
    obtain ⟨B, b, w1', h1, h2, h3, h4⟩ := ih (A.push w.heap.size w'.heap.size) w.heap.size w'.heap.size (A.push_le hi _) (.inr rfl) (A.push_at _ _) (hw.new hc) hrun
    exact ⟨B, b, w1', h1, (A.push_le hi _).trans h2, h3, h4⟩
  | progL _ ih => intro w w' x w1 hw hrun; exact ih hw hrun
  | progR _ ih => intro w w' x w1 hw hrun; exact ih hw hrun
  | markL _ ih => intro w w' x w1 hw hrun; exact ih hw hrun
  | markR _ ih => intro w w' x w1 hw hrun; exact ih hw hrun
  | convL hc _ ih => intro w w' a w1 hw hrun; exact ih hw (hc _ _ _ hrun)
  | convR hc _ ih =>
    intro w w' a w1 hw hrun
    obtain ⟨B, b, w1', h1, h2⟩ := ih hw hrun
    exact ⟨B, b, w1', hc _ _ _ h1, h2⟩
  | @chooseL A q k s' _ ih =>
    intro w w' x w1 hw hrun
    simp only [Sem.run] at hrun
    split at hrun
    · exact ih _ hw hrun
    · exact ih _ (hw.drawn _ w'.drawn) hrun
  | @choose A q k k' hq _ ih =>
    intro w w' x w1 hw hrun
    simp only [Sem.run, hq, Bool.false_eq_true, if_false] at hrun ⊢
    have e : w.tape w.drawn q = 0 := by rw [hw.tape]
    rw [e] at hrun
    exact ih _ (hw.drawn _ _) hrun

end Go.Proofs.YtfppinabdalblaaGreat
