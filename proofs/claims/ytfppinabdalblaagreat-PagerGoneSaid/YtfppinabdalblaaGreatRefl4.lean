/- Reflection, 4: what single operations do, related. No program is named here. -/
import Derived.Test.YtfppinabdalblaaGreatRefl3
namespace Go.Proofs.YtfppinabdalblaaGreat
open Go.RowKit
set_option linter.unusedVariables false
set_option linter.unusedSimpArgs false
section
variable {P : Program} {σ : Nat → Value} {A : Ren}

theorem RAr.of_list {l l' : List Value} (h : l.length = l'.length) (k : ∀ (i : Nat) (v v' : Value), l[i]? = some v → l'[i]? = some v' → RV σ A v v') : RAr σ A l.toArray l'.toArray :=
  ⟨by simpa using h, fun i v v' h1 h2 => k i v v' (by simpa using h1) (by simpa using h2)⟩
theorem RAr.set {x x' : Array Value} (h : RAr σ A x x') (i : Nat) {v v' : Value} (hv : RV σ A v v') : RAr σ A (x.setIfInBounds i v) (x'.setIfInBounds i v') := by
  refine ⟨by simp [h.1], fun j u u' h1 h2 => ?_⟩
  rw [Array.getElem?_setIfInBounds] at h1 h2
  rw [← h.1] at h2
  by_cases e : i = j
  · rw [if_pos e] at h1 h2
    split at h1
    · rename_i hl
      rw [if_pos hl] at h2
      cases h1; cases h2; exact hv
    · cases h1
  · rw [if_neg e] at h1 h2
    exact h.2 j u u' h1 h2
theorem RAr.extract {x x' : Array Value} (h : RAr σ A x x') (i j : Nat) : RAr σ A (x.extract i j) (x'.extract i j) := by
  refine ⟨by simp [h.1], fun k u u' h1 h2 => ?_⟩
  rw [Array.getElem?_extract] at h1 h2
  rw [← h.1] at h2
  split at h1
  · rename_i e
    rw [if_pos e] at h2
    exact h.2 _ u u' h1 h2
  · cases h1
theorem fold_set (off : Nat) : ∀ (l l' : List Value) (k : Nat) (cs cs' : Array Value), RAr σ A l.toArray l'.toArray → RAr σ A cs cs' →
    RAr σ A ((l.zipIdx k).foldl (fun cs (p : Value × Nat) => cs.setIfInBounds (off + p.2) p.1) cs) ((l'.zipIdx k).foldl (fun cs (p : Value × Nat) => cs.setIfInBounds (off + p.2) p.1) cs')
  | [], l', k, cs, cs', h, hc => by
    have : l' = [] := by have := h.1; simp at this; exact List.length_eq_zero_iff.1 this.symm
    subst this
    exact hc
  | v :: l, [], k, cs, cs', h, hc => by have := h.1; simp at this
  | v :: l, v' :: l', k, cs, cs', h, hc => by
    have hv : RV σ A v v' := h.2 0 v v' (by simp) (by simp)
    have ht : RAr σ A l.toArray l'.toArray := ⟨by have := h.1; simpa using this, fun j u u' h1 h2 => h.2 (j + 1) u u' (by simpa using h1) (by simpa using h2)⟩
    exact fold_set off l l' (k + 1) _ _ ht (hc.set _ hv)
/-- Related parts of a literal. -/
inductive RPs (σ : Nat → Value) (A : Ren) : List (Nat × Value) → List (Nat × Value) → Prop
  | nil : RPs σ A [] []
  | cons (i : Nat) (v v' : Value) (l l' : List (Nat × Value)) : RV σ A v v' → RPs σ A l l' → RPs σ A ((i, v) :: l) ((i, v') :: l')
theorem RPs.mono {B : Ren} (hB : A.le B) {l l' : List (Nat × Value)} (h : RPs σ A l l') : RPs σ B l l' := by
  induction h with
  | nil => exact .nil
  | cons i v v' l l' hv _ ih => exact .cons i v v' l l' (hv.mono hB) ih
theorem rel_fill (hσ : ∀ j, OneC (σ j)) (place : Nat → Option (Nat × Nat)) : ∀ {l l' : List (Nat × Value)} {cs cs' : Array Value}, RPs σ A l l' → RAr σ A cs cs' →
    (∀ x, Instr.fill place cs l = some x → ∃ x', Instr.fill place cs' l' = some x' ∧ RAr σ A x x') := by
  intro l l' cs cs' h
  induction h generalizing cs cs' with
  | nil => intro hc x hx; cases hx; exact ⟨_, rfl, hc⟩
  | cons i v v' l l' hv _ ih =>
    intro hc x hx
    have hcl := hv.cells hσ
    unfold Instr.fill at hx ⊢
    split at hx
    · cases hx
    · rename_i off size hp
      try rw [hp]
      try simp only [] at hx ⊢
      rw [← hcl.1, ← hc.1]
      split at hx
      · cases hx
      · rename_i hne
        rw [if_neg hne]
        refine ih ?_ x hx
        have := fold_set (σ := σ) (A := A) off v.cells.toList v'.cells.toList 0 cs cs' (by simpa using hcl) hc
        rw [← Array.foldl_toList, ← Array.foldl_toList, Array.toList_zipIdx, Array.toList_zipIdx]
        exact this

theorem rel_zero (t : TypeId) (hz : zeroOk P t = true) : SemRel P σ (RV σ) A (zeroValue t) (zeroValue t) :=
  (rel_zeroValue t).weaken fun B a b hB h => by
    obtain ⟨rfl, h⟩ := h
    unfold zeroOk at hz
    rw [h] at hz
    exact closed_rv hz
theorem rel_alloc (hσ : ∀ j, OneC (σ j)) (t : TypeId) (hz : zeroOk P t = true) : SemRel P σ (RV σ) A (Instr.alloc t true (.tuple #[])) (Instr.alloc t true (.tuple #[])) := by
  unfold Instr.alloc
  refine SemRel.bnd (rel_zero t hz) ?_
  intro B z z' hB hzz
  refine SemRel.bnd (rel_newVar hσ t hzz) ?_
  rintro C a _ hC ⟨ha, rfl⟩
  exact .ret (.ptr a ha)
theorem rel_places (fs : List Field) : SemRel P σ REq A (fs.mapM fun f => do pure (f.offset, ← sizeOf f.type)) (fs.mapM fun f => do pure (f.offset, ← sizeOf f.type)) := by
  induction fs generalizing A with
  | nil => exact .ret rfl
  | cons f fs ih =>
    simp only [List.mapM_cons]
    refine SemRel.bnd (R := REq) ?_ ?_
    · refine SemRel.bnd (rel_sizeOf f.type) ?_
      rintro B n _ hB ⟨rfl, _⟩
      exact .ret rfl
    · rintro B p _ hB rfl
      refine SemRel.bnd ih ?_
      rintro C ps _ hC rfl
      exact .ret rfl
theorem rel_build (hσ : ∀ j, OneC (σ j)) (t : TypeId) (hz : zeroOk P t = true) {l l' : Array (Nat × Value)} (h : RPs σ A l.toList l'.toList) : SemRel P σ (RV σ) A (Instr.build t l) (Instr.build t l') := by
  unfold Instr.build
  refine SemRel.bnd (rel_zero t hz) ?_
  intro B z z' hB hzz
  have hc := hzz.cells hσ
  refine SemRel.bnd (rel_underlying t) ?_
  rintro C d _ hC ⟨rfl, hd⟩
  have hl := h.mono (hB.trans hC)
  split
  · rename_i fields
    refine SemRel.bnd (R := REq) ?_ ?_
    · rw [Array.mapM_eq_mapM_toList]
      have := rel_places (P := P) (σ := σ) (A := C) fields.toList
      refine SemRel.bnd this ?_
      rintro D x _ hD rfl
      exact .ret rfl
    · rintro D x _ hD rfl
      have := rel_fill hσ (x[·]?) (hl.mono hD) (hc.mono (hC.trans hD))
      split
      · rename_i cells hcells
        obtain ⟨x', h1, h2⟩ := this _ hcells
        rw [h1]
        exact .ret (.agg _ _ h2.1 h2.2)
      · exact .stuck
  · rename_i n elem
    refine SemRel.bnd (rel_sizeOf elem) ?_
    rintro D x _ hD ⟨rfl, _⟩
    have := rel_fill hσ (fun i => some (i * x, x)) (hl.mono hD) (hc.mono (hC.trans hD))
    split
    · rename_i cells hcells
      obtain ⟨x', h1, h2⟩ := this _ hcells
      rw [h1]
      exact .ret (.agg _ _ h2.1 h2.2)
    · exact .stuck
  · exact .stuck
theorem rel_part (t : TypeId) {cs cs' : Array Value} (h : RAr σ A cs cs') (off : Nat) : SemRel P σ (RV σ) A (part t cs off) (part t cs' off) := by
  unfold part
  refine SemRel.bnd (rel_isAgg t) ?_
  rintro B x _ hB rfl
  split
  · refine SemRel.bnd (rel_sizeOf t) ?_
    rintro C n _ hC ⟨rfl, _⟩
    have := (h.mono (hB.trans hC)).extract off (off + n)
    exact .ret (.agg _ _ this.1 this.2)
  · cases hv : cs[off]? with
    | none => exact .stuck
    | some v =>
      obtain ⟨v', h1, h2⟩ := (h.mono hB).get hv
      simp only [h1]
      exact .ret h2
theorem rel_field (t : TypeId) {x x' : Value} (h : RV σ A x x') (f : Nat) : SemRel P σ (RV σ) A (Instr.field t x f) (Instr.field t x' f) := by
  unfold Instr.field
  refine SemRel.bnd (rel_underlying t) ?_
  rintro B d _ hB ⟨rfl, hd⟩
  split
  · split
    · refine SemRel.bnd (R := RAr σ) ?_ ?_
      · cases (h.mono hB) <;> first | exact .stuck | (rename_i h1 h2; exact .ret ⟨h1, h2⟩)
      · intro C cs cs' hC hcs
        exact rel_part _ hcs _
    · exact .stuck
  · exact .stuck
theorem rel_extract {x x' : Value} (h : RV σ A x x') (i : Nat) : SemRel P σ (RV σ) A (Instr.extract x i) (Instr.extract x' i) := by
  unfold Instr.extract
  cases h with
  | tuple cs cs' h1 h2 =>
    cases hv : cs[i]? with
    | none => simp only [hv]; exact .stuck
    | some v =>
      obtain ⟨v', h3, h4⟩ := RAr.get (σ := σ) (A := A) ⟨h1, h2⟩ hv
      simp only [hv, h3]
      exact .ret h4
  | _ => exact .stuck
theorem rel_makeInterface (t : TypeId) {x x' : Value} (h : RV σ A x x') : SemRel P σ (RV σ) A (Instr.makeInterface t x) (Instr.makeInterface t x') := by
  unfold Instr.makeInterface
  refine SemRel.bnd (rel_underlying t) ?_
  rintro B d _ hB ⟨rfl, hd⟩
  split
  · exact .stuck
  · exact .ret (.iface _ _ _ (h.mono hB))
theorem rel_typeAssert (s d : TypeId) (hz : zeroOk P d = true) (hd : plainT P d = true) {x x' : Value} (hi : isIf x = true) (h : RV σ A x x') : SemRel P σ (RV σ) A (Instr.typeAssert x s d true) (Instr.typeAssert x' s d true) := by
  unfold Instr.typeAssert
  simp only []
  refine SemRel.bnd (rel_underlying d) ?_
  rintro B u _ hB ⟨rfl, hu⟩
  cases x <;> first | (cases hi; done) | skip
  rename_i t v
  cases h with
  | iface _ _ v' hv =>
    have two : ∀ {C : Ren} {a a' : Value} (b : Bool), RV σ C a a' → RV σ C (.tuple #[a, .bool b]) (.tuple #[a', .bool b]) := fun b ha => .tuple _ _ rfl fun i z z' e1 e2 => by
      rcases i with _ | _ | i
      · cases e1; cases e2; exact ha
      · cases e1; cases e2; exact .bool _
      · simp at e1
    cases u <;> first | (unfold plainT at hd; rw [hu] at hd; cases hd; done) | skip
    all_goals
      simp only [if_true]
      split
      · exact .ret (two true (hv.mono hB))
      · exact SemRel.bnd (rel_zero d hz) fun C a b hC ha => .ret (two false ha)
theorem rel_fieldAt (s : TypeId) (f : Nat) (hf : fieldOk P s f = true) {x x' : Value} (h : RV σ A x x') : SemRel P σ (RV σ) A (Instr.fieldAt s x f) (Instr.fieldAt s x' f) := by
  unfold Instr.fieldAt
  refine SemRel.bnd (rel_underlying s) ?_
  rintro B d _ hB ⟨rfl, hd⟩
  split
  · rename_i fields
    split
    · rename_i g hg
      refine SemRel.bnd (rel_sureAddr (h.mono hB)) ?_
      rintro C a _ hC ⟨ha, rfl⟩
      refine SemRel.bnd (R := RAd) ?_ ?_
      · unfold fieldPlace
        refine SemRel.bnd (rel_sizeOf g.type) ?_
        rintro D n _ hD ⟨rfl, hn⟩
        have hne : n ≠ 0 := by
          rintro rfl
          unfold fieldOk at hf
          rw [hd] at hf
          simp only [hg, hn] at hf
          simp at hf
        rw [if_neg hne, if_neg hne]
        refine .ret ⟨by rw [Ren.add_block]; exact hD.1 _ ha, ?_⟩
        rw [← hD.addr ha, Ren.addr_add]
      · rintro D b _ hD ⟨hb, rfl⟩
        exact .ret (.ptr b hb)
    · exact .stuck
  · exact .stuck
theorem rel_indexAt (t : TypeId) {x x' i i' : Value} (h : RV σ A x x') (hi : RV σ A i i') : SemRel P σ (RV σ) A (Instr.indexAt t x i) (Instr.indexAt t x' i') := by
  unfold Instr.indexAt
  refine SemRel.bnd (rel_asIntOf hi) ?_
  rintro B ⟨k, n⟩ _ hB rfl
  refine SemRel.bnd (rel_underlying t) ?_
  rintro C d _ hC ⟨rfl, hd⟩
  have fin : ∀ {D : Ren} (base base' : Option Addr) (len : Nat) (elem : TypeId), ((base = none ∧ base' = none) ∨ ∃ a, base = some a ∧ base' = some (D.addr a) ∧ D.d a.block) →
      SemRel P σ (RV σ) D (do
        let tiny := len ≤ 1 && (match ← underlying t with | .array .. => true | _ => false)
        match base with
        | some a =>
          if 0 ≤ n ∧ n < len then pure (.pointer (some (a.add (n.toNat * (← sizeOf elem)))))
          else if tiny then unsupported (.noEntry "op/indexAddr.an index out of range at an array of length 0 or 1 (ledger 616)")
          else boundsPanic k n len .index
        | none => boundsPanic k n 0 .index) (do
        let tiny := len ≤ 1 && (match ← underlying t with | .array .. => true | _ => false)
        match base' with
        | some a =>
          if 0 ≤ n ∧ n < len then pure (.pointer (some (a.add (n.toNat * (← sizeOf elem)))))
          else if tiny then unsupported (.noEntry "op/indexAddr.an index out of range at an array of length 0 or 1 (ledger 616)")
          else boundsPanic k n len .index
        | none => boundsPanic k n 0 .index) := by
    intro D base base' len elem hb
    refine SemRel.bnd (rel_underlying t) ?_
    rintro E d2 _ hE ⟨rfl, hd2⟩
    rcases hb with ⟨rfl, rfl⟩ | ⟨a, rfl, rfl, ha⟩
    · exact .bounds
    · simp only []
      split
      · refine SemRel.bnd (rel_sizeOf elem) ?_
        rintro F m _ hF ⟨rfl, _⟩
        have ha2 : F.d a.block := (hE.trans hF).1 _ ha
        rw [← (hE.trans hF).addr ha, ← Ren.addr_add]
        exact .ret (.ptr _ (by rw [Ren.add_block]; exact ha2))
      · split <;> (split <;> first | exact .unsup | exact .bounds)
  have hx := h.mono (hB.trans hC)
  dsimp only
  cases d <;> try exact .stuck
  · cases hx <;> try exact .stuck
    · rename_i elem n0 c0
      exact fin none none n0 elem (.inl ⟨rfl, rfl⟩)
    · rename_i a n c c' h1 h2 h3 h4
      exact fin (some a) _ _ _ (.inr ⟨a, rfl, rfl, h1⟩)
    · rename_i elem a b c' h1 h2
      have finE : ∀ {D : Ren} (a b : Addr) (len : Nat) (elem : TypeId), len = 0 → SemRel P σ (RV σ) D (do
        let tiny := len ≤ 1 && (match ← underlying t with | .array .. => true | _ => false)
        match some a with
        | some a =>
          if 0 ≤ n ∧ n < len then pure (.pointer (some (a.add (n.toNat * (← sizeOf elem)))))
          else if tiny then unsupported (.noEntry "op/indexAddr.an index out of range at an array of length 0 or 1 (ledger 616)")
          else boundsPanic k n len .index
        | none => boundsPanic k n 0 .index) (do
        let tiny := len ≤ 1 && (match ← underlying t with | .array .. => true | _ => false)
        match some b with
        | some a =>
          if 0 ≤ n ∧ n < len then pure (.pointer (some (a.add (n.toNat * (← sizeOf elem)))))
          else if tiny then unsupported (.noEntry "op/indexAddr.an index out of range at an array of length 0 or 1 (ledger 616)")
          else boundsPanic k n len .index
        | none => boundsPanic k n 0 .index) := by
        intro D a b len elem hl
        refine SemRel.bnd (rel_underlying t) ?_
        rintro E d2 _ hE ⟨rfl, hd2⟩
        simp only []
        rw [if_neg (by omega)]
        split <;> (try split) <;> first | exact .unsup | exact .bounds
      exact finE a b 0 elem rfl
  · refine SemRel.bnd (rel_sureAddr hx) ?_
    rintro D a _ hD ⟨ha, rfl⟩
    exact fin (some a) _ _ _ (.inr ⟨a, rfl, rfl, ha⟩)
end
end Go.Proofs.YtfppinabdalblaaGreat
