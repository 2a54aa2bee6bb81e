/- Reflection, 5: slices, built-ins, calls, related. No program is named here. -/
import Derived.Test.YtfppinabdalblaaGreatRefl4
namespace Go.Proofs.YtfppinabdalblaaGreat
open Go.RowKit
set_option linter.unusedVariables false
set_option linter.unusedSimpArgs false
section
variable {P : Program} {σ : Nat → Value} {A : Ren}

theorem cr_zero {z : Array Value} (hz : RAr σ A z z) (n : Nat) : RAr σ A ((Array.range n).map (z[· % z.size]!)) ((Array.range n).map (z[· % z.size]!)) := by
  refine ⟨rfl, fun i v v' h1 h2 => ?_⟩
  rw [h1] at h2
  cases h2
  rw [Array.getElem?_map] at h1
  cases hr : (Array.range n)[i]? with
  | none => rw [hr] at h1; cases h1
  | some k =>
    rw [hr] at h1
    simp only [Option.map_some, Option.some.injEq] at h1
    subst h1
    rcases Nat.eq_zero_or_pos z.size with h0 | h0
    · have : z = #[] := Array.eq_empty_of_size_eq_zero h0
      subst this
      exact closed_rv (n := 1) (v := default) (by rfl)
    · have hl : k % z.size < z.size := Nat.mod_lt _ h0
      rw [getElem!_pos z (k % z.size) hl]
      exact hz.2 (k % z.size) _ _ (Array.getElem?_eq_getElem hl) (Array.getElem?_eq_getElem hl)
theorem zero_cells {z : Value} (hσ : ∀ j, OneC (σ j)) (h : RV σ A z z) : RAr σ A z.cells z.cells := h.cells hσ
theorem elem_of {t : TypeId} (hz : elemZeroOk P t = true) {e : TypeId} (h : P.underlying t = some (.slice e)) : zeroOk P e = true := by
  unfold elemZeroOk at hz
  rw [h] at hz
  exact hz
theorem rel_buildSlice (hσ : ∀ j, OneC (σ j)) (t : TypeId) (len : Nat) (hz : elemZeroOk P t = true) {l l' : Array (Nat × Value)} (h : RPs σ A l.toList l'.toList) :
    SemRel P σ (RV σ) A (Instr.buildSlice t len l) (Instr.buildSlice t len l') := by
  unfold Instr.buildSlice
  refine SemRel.bnd (rel_underlying t) ?_
  rintro B d _ hB ⟨rfl, hd⟩
  split
  · rename_i elem
    have hze := elem_of hz hd
    refine SemRel.bnd (rel_sizeOf elem) ?_
    rintro C n _ hC ⟨rfl, _⟩
    have fin : ∀ {D : Ren} {z z' : Array Value}, C.le D → RAr σ D z z' → SemRel P σ (RV σ) D (do
        let some cells := Instr.fill (fun i => some (i * n, n)) ((Array.range (len * n)).map (z[· % z.size]!)) l.toList
          | stuck "buildSlice: a part of the wrong size"
        pure (.slice (some (← newRow elem cells)) len len)) (do
        let some cells := Instr.fill (fun i => some (i * n, n)) ((Array.range (len * n)).map (z'[· % z'.size]!)) l'.toList
          | stuck "buildSlice: a part of the wrong size"
        pure (.slice (some (← newRow elem cells)) len len)) := by
      intro D z z' hD hzz
      have hl := h.mono ((hB.trans hC).trans hD)
      have hzr : RAr σ D ((Array.range (len * n)).map (z[· % z.size]!)) ((Array.range (len * n)).map (z'[· % z'.size]!)) := by
        refine ⟨by simp, fun i v v' h1 h2 => ?_⟩
        rw [Array.getElem?_map] at h1 h2
        cases hr : (Array.range (len * n))[i]? with
        | none => rw [hr] at h1; cases h1
        | some k =>
          rw [hr] at h1 h2
          simp only [Option.map_some, Option.some.injEq] at h1 h2
          subst h1; subst h2
          rw [← hzz.1]
          rcases Nat.eq_zero_or_pos z.size with h0 | h0
          · have e1 : z = #[] := Array.eq_empty_of_size_eq_zero h0
            have e2 : z' = #[] := Array.eq_empty_of_size_eq_zero (hzz.1 ▸ h0)
            subst e1; subst e2
            exact closed_rv (n := 1) (v := default) (by rfl)
          · have hl : k % z.size < z.size := Nat.mod_lt _ h0
            have hl' : k % z.size < z'.size := hzz.1 ▸ hl
            rw [getElem!_pos z (k % z.size) hl, getElem!_pos z' (k % z.size) hl']
            exact hzz.2 (k % z.size) _ _ (Array.getElem?_eq_getElem hl) (Array.getElem?_eq_getElem hl')
      have := rel_fill hσ (fun i => some (i * n, n)) hl hzr
      split
      · rename_i cells hcells
        obtain ⟨x', h1, h2⟩ := this _ hcells
        rw [h1]
        refine SemRel.bnd (rel_newRow2 elem h2.cr) ?_
        rintro E a _ hE ⟨ha, rfl⟩
        exact .ret (.slice _ _ _ _ ha.1 (Nat.le_refl _) id ha.2)
      · exact .stuck
    dsimp only
    by_cases h1 : len * n > 2 ^ 24
    · rw [if_pos h1, if_pos h1]
      exact .dead (dead_left fun w a w1 h => by cases h)
    · rw [if_neg h1, if_neg h1]
      by_cases h2 : len * n = 0
      · rw [if_pos h2, if_pos h2]
        exact SemRel.bnd (R := RAr σ) (.ret RAr.nil) fun D z z' hD hzz => fin hD hzz
      · rw [if_neg h2, if_neg h2]
        refine SemRel.bnd (rel_zero elem hze) ?_
        intro D z z' hD hzz
        exact SemRel.bnd (R := RAr σ) (.ret (hzz.cells hσ)) fun E y y' hE hyy => fin (hD.trans hE) hyy
  · exact .stuck

theorem rel_askRoom (n m : Nat) : SemRel P σ REq A (askRoom n) (askRoom m) := by
  unfold askRoom mark
  split <;> split
  · exact .markL (.markR (.pure rfl))
  · exact .markL (.pure rfl)
  · exact .markR (.pure rfl)
  · exact .pure rfl
theorem rel_makeSlice (hσ : ∀ j, OneC (σ j)) (t : TypeId) (hz : elemZeroOk P t = true) {x x' y y' : Value} (hx : RV σ A x x') (hy : RV σ A y y') :
    SemRel P σ (RV σ) A (Instr.makeSlice t x y) (Instr.makeSlice t x' y') := by
  unfold Instr.makeSlice
  refine SemRel.bnd (rel_underlying t) ?_
  rintro B d _ hB ⟨rfl, hd⟩
  split
  · rename_i elem
    have hze := elem_of hz hd
    refine SemRel.bnd (rel_asInt (hx.mono hB)) ?_
    rintro C l _ hC rfl
    refine SemRel.bnd (rel_asInt (hy.mono (hB.trans hC))) ?_
    rintro D c _ hD rfl
    refine SemRel.bnd (rel_typeInfo elem) ?_
    rintro E i _ hE ⟨rfl, _⟩
    have fin : ∀ {F : Ren} {z : Array Value} (k : Nat), RAr σ F z z → SemRel P σ (RV σ) F (do
        let a ← newRow elem ((Array.range k).map (z[· % z.size]!))
        pure (.slice (some a) (IntKind.i64.wrap l).toNat (IntKind.i64.wrap c).toNat)) (do
        let a ← newRow elem ((Array.range k).map (z[· % z.size]!))
        pure (.slice (some a) (IntKind.i64.wrap l).toNat (IntKind.i64.wrap c).toNat)) := by
      intro F z k hzz
      refine SemRel.bnd (rel_newRow2 elem (cr_zero hzz _).cr) ?_
      rintro L a _ hL ⟨ha, rfl⟩
      exact .ret (.slice _ _ _ _ ha.1 (Nat.le_refl _) id ha.2)
    dsimp only
    split
    · split
      · exact .dead (dead_left fun w a w1 => dead_panic _ _ _ _)
      · split
        · exact .dead (dead_left fun w a w1 => dead_panic _ _ _ _)
        · refine .dead fun w a w1 => ?_
          rw [Sem.run_bind]
          exact andThen_dead fun x w2 => dead_left (fun w a w1 => dead_panic _ _ _ _) _ _ _
    · refine SemRel.bnd (rel_askRoom _ _) ?_
      rintro G _ _ hG _
      refine SemRel.bnd (rel_sizeOf elem) ?_
      rintro G2 n _ hG2 ⟨rfl, _⟩
      by_cases h2 : (IntKind.i64.wrap c).toNat * n = 0
      · rw [if_pos h2]
        exact SemRel.bnd (R := fun B z z' => z = z' ∧ RAr σ B z z) (.ret ⟨rfl, RAr.nil⟩) (by
          rintro K z _ hK ⟨rfl, hzz⟩
          exact fin _ hzz)
      · rw [if_neg h2]
        refine SemRel.bnd (rel_zeroValue elem) ?_
        rintro D z _ hD ⟨rfl, h2⟩
        unfold zeroOk at hze
        rw [h2] at hze
        exact SemRel.bnd (R := fun B z z' => z = z' ∧ RAr σ B z z) (.ret ⟨rfl, zero_cells hσ (closed_rv hze)⟩) (by
          rintro K z _ hK ⟨rfl, hzz⟩
          exact fin _ hzz)
  · exact .stuck

theorem rel_sliceBound {x x' : Value} (h : RV σ A x x') (y y' : Nat) (hy : y ≤ y') (c : BoundsCode) :
    SemRel P σ (fun _ a b => a = b ∧ a ≤ y ∧ ∃ k : IntKind, x = .int k a) A (Instr.sliceBound x y c) (Instr.sliceBound x' y' c) := by
  unfold Instr.sliceBound
  cases h with
  | int k n =>
    refine SemRel.bnd (R := fun _ p p' => p = p' ∧ p = (k, n)) (.ret ⟨rfl, rfl⟩) ?_
    rintro B ⟨k2, i⟩ _ hB ⟨rfl, e⟩
    cases e
    simp only []
    split
    · rename_i h1
      rw [if_pos (by omega)]
      exact .ret ⟨rfl, by omega, k, by rw [Int.toNat_of_nonneg h1.1]⟩
    · exact .bounds
  | ptr a ha => exact SemRel.bnd (R := fun _ _ _ => False) .unsup (fun B _ _ _ e => e.elim)
  | _ => exact SemRel.bnd (R := fun _ _ _ => False) .stuck (fun B _ _ _ e => e.elim)

/-- Related choices. -/
def RO (σ : Nat → Value) (A : Ren) : Option Value → Option Value → Prop
  | none, none => True
  | some v, some v' => RV σ A v v'
  | _, _ => False
theorem RO.mono {B : Ren} (hB : A.le B) {x x' : Option Value} (h : RO σ A x x') : RO σ B x x' := by
  cases x <;> cases x' <;> first | exact h | exact RV.mono hB h
theorem rel_sliceBounds (len cap cap' : Nat) (hc : cap ≤ cap') {lo lo' hi hi' mx mx' : Option Value} (h1 : RO σ A lo lo') (h2 : RO σ A hi hi') (h3 : RO σ A mx mx') :
    SemRel P σ (fun _ p q => p.1 = q.1 ∧ p.2.1 = q.2.1 ∧ ((mx = none ∧ p.2.2 = cap ∧ q.2.2 = cap') ∨ (mx.isSome ∧ p.2.2 = q.2.2)) ∧ ((lo = none ∧ p.1 = 0) ∨ p.1 ≤ p.2.1) ∧ (p.2.1 = len ∨ p.2.1 ≤ p.2.2) ∧ p.2.2 ≤ cap) A
      (Instr.sliceBounds true len cap lo hi mx) (Instr.sliceBounds true len cap' lo' hi' mx') := by
  have e : mx.isSome = mx'.isSome := by
    cases mx <;> cases mx' <;> first | rfl | exact h3.elim
  unfold Instr.sliceBounds
  obtain ⟨q, hq⟩ : ∃ q, q = mx := ⟨_, rfl⟩
  cases lo <;> cases lo' <;> first | exact h1.elim | skip
  all_goals (cases hi <;> cases hi' <;> first | exact h2.elim | skip)
  all_goals (cases mx <;> cases mx' <;> first | exact h3.elim | skip)
  all_goals dsimp only
  all_goals refine SemRel.bnd (R := fun _ (m m' : Nat) => m ≤ m' ∧ ((q = none ∧ m = cap ∧ m' = cap') ∨ (q.isSome = true ∧ m = m')) ∧ m ≤ cap) (by first | exact .ret ⟨hc, .inl ⟨hq, rfl, rfl⟩, Nat.le_refl _⟩ | exact (rel_sliceBound h3 cap cap' hc _).weaken (by
      rintro B a b hB ⟨rfl, hl, _⟩
      exact ⟨Nat.le_refl _, .inr ⟨by rw [hq]; rfl, rfl⟩, hl⟩)) ?_
  all_goals rintro B m m' hB ⟨hm, hm2, hm3⟩
  all_goals rw [hq] at hm2
  all_goals refine SemRel.bnd (R := fun _ (a b : Nat) => a = b ∧ (a = len ∨ a ≤ m)) (by first | exact .ret ⟨rfl, .inl rfl⟩ | exact .stuck | exact (rel_sliceBound (RV.mono hB h2) _ _ (by first | exact hc | exact hm) _).weaken (fun C a b hC h => ⟨h.1, .inr (by first | exact h.2.1 | (rcases hm2 with ⟨_, h5, _⟩ | ⟨h5, _⟩ <;> first | (rw [h5]; exact h.2.1) | cases h5))⟩)) ?_
  all_goals rintro C h _ hC ⟨rfl, hh⟩
  · refine SemRel.bnd (R := fun _ (a b : Nat) => a = b ∧ a = 0) (.ret ⟨rfl, rfl⟩) ?_
    rintro D l _ hD ⟨rfl, rfl⟩
    exact .ret ⟨rfl, rfl, hm2, .inl ⟨rfl, rfl⟩, hh, hm3⟩
  · refine SemRel.bnd (R := fun _ (a b : Nat) => a = b ∧ a = 0) (.ret ⟨rfl, rfl⟩) ?_
    rintro D l _ hD ⟨rfl, rfl⟩
    exact .ret ⟨rfl, rfl, hm2, .inl ⟨rfl, rfl⟩, hh, hm3⟩
  · refine SemRel.bnd (R := fun _ (a b : Nat) => a = b ∧ a = 0) (.ret ⟨rfl, rfl⟩) ?_
    rintro D l _ hD ⟨rfl, rfl⟩
    exact .ret ⟨rfl, rfl, hm2, .inl ⟨rfl, rfl⟩, hh, hm3⟩
  · refine SemRel.bnd (R := fun _ (a b : Nat) => a = b ∧ a = 0) (.ret ⟨rfl, rfl⟩) ?_
    rintro D l _ hD ⟨rfl, rfl⟩
    exact .ret ⟨rfl, rfl, hm2, .inl ⟨rfl, rfl⟩, hh, hm3⟩
  all_goals refine SemRel.bnd (rel_sliceBound (RV.mono (hB.trans hC) h1) h h (Nat.le_refl _) _) ?_
  all_goals rintro D l _ hD ⟨rfl, hl, k, hk⟩
  all_goals exact .ret ⟨rfl, rfl, hm2, .inr hl, hh, hm3⟩

theorem add_zero' (a : Addr) (n : Nat) (h : n = 0) : a.add n = a := by unfold Addr.add; rw [if_pos h]
theorem blur_id {a b : Addr} {n c p q : Nat} {mx : Option Value} (h : mx.isSome = true ∨ q ≠ 0 ∨ c = 0) : blur (.slice (some a) n c) mx (.slice (some b) p q) = .slice (some b) p q := by
  cases c with
  | zero => rfl
  | succ c =>
    cases p with
    | succ p => rfl
    | zero =>
      cases q with
      | succ q => rfl
      | zero =>
        rcases h with h | h | h
        · unfold blur
          cases mx with
          | none => cases h
          | some v => rfl
        · exact absurd rfl h
        · cases h
theorem add_spot {a : Addr} (h : a.spot = none) (n : Nat) : (a.add n).spot = none := by
  unfold Addr.add
  split
  · exact h
  · rfl
theorem rel_slice (t : TypeId) (ht : (match P.underlying t with | some (.slice _) => true | _ => false) = true) {x x' : Value} {lo lo' hi hi' mx mx' : Option Value} (hok : sliceOk x lo mx = true) (h : RV σ A x x') (h1 : RO σ A lo lo') (h2 : RO σ A hi hi') (h3 : RO σ A mx mx') :
    SemRel P σ (fun B v v' => RV σ B (blur x mx v) v') A (Instr.sliceAt t x lo hi mx) (Instr.sliceAt t x' lo' hi' mx') := by
  obtain ⟨elem, hu⟩ : ∃ e, P.underlying t = some (.slice e) := by
    split at ht
    · rename_i e he; exact ⟨e, he⟩
    · cases ht
  unfold Instr.sliceAt
  refine SemRel.bnd (rel_underlying t) ?_
  rintro B d _ hB ⟨rfl, hd⟩
  rw [hu] at hd
  cases hd
  simp only []
  unfold Instr.slice
  refine SemRel.bnd (rel_underlying t) ?_
  rintro C d _ hC ⟨rfl, hd⟩
  rw [hu] at hd
  cases hd
  have hBC := hB.trans hC
  have hx := h.mono hBC
  unfold sliceOk at hok
  split at hok
  · rename_i n c
    cases hx
    simp only []
    refine SemRel.bnd (rel_sliceBounds n c c (Nat.le_refl _) (h1.mono hBC) (h2.mono hBC) (h3.mono hBC)) ?_
    rintro D ⟨l, hh, m⟩ ⟨l', hh', m'⟩ hD ⟨e1, e2, e3, _⟩
    simp only [] at e1 e2 e3
    subst e1; subst e2
    have e4 : m = m' := by rcases e3 with ⟨_, e4, e5⟩ | ⟨_, e4⟩ <;> omega
    subst e4
    refine SemRel.bnd (rel_sizeOf elem) ?_
    rintro E s _ hE ⟨rfl, _⟩
    simp only [Option.map_none, ite_self]
    exact .ret (.slice0 _ _)
  · rename_i a n c
    cases hx with
    | sliceE a b c' ha hsp =>
      simp only []
      refine SemRel.bnd (rel_sliceBounds 0 0 c' (Nat.zero_le _) (h1.mono hBC) (h2.mono hBC) (h3.mono hBC)) ?_
      rintro D ⟨l, hh, m⟩ ⟨l', hh', m'⟩ hD ⟨e1, e2, e3, e4, e5, e6⟩
      simp only [] at e1 e2 e3 e4 e5 e6
      subst e1; subst e2
      refine SemRel.bnd (rel_sizeOf elem) ?_
      rintro E s _ hE ⟨rfl, _⟩
      have haE := (hD.trans hE).1 _ ha
      have hm0 : m = 0 := by omega
      have hh0 : hh = 0 := by omega
      have hl0 : l = 0 := by
        rcases e4 with ⟨_, e4⟩ | e4 <;> omega
      subst hm0; subst hh0; subst hl0
      simp only [Option.map_some, if_pos, Nat.sub_self]
      have : ∃ b', (if m' = 0 then some b else some (b.add (0 * s))) = some b' := by split <;> exact ⟨_, rfl⟩
      obtain ⟨b', hb'⟩ := this
      rw [hb']
      exact .ret (.sliceE a b' _ haE hsp)
    | slice a n c c' ha hc hc0 hsp =>
    simp only []
    refine SemRel.bnd (rel_sliceBounds n c c' hc (h1.mono hBC) (h2.mono hBC) (h3.mono hBC)) ?_
    rintro D ⟨l, hh, m⟩ ⟨l', hh', m'⟩ hD ⟨e1, e2, e3, e4, e5, e6⟩
    simp only [] at e1 e2 e3 e4 e5 e6
    subst e1; subst e2
    refine SemRel.bnd (rel_sizeOf elem) ?_
    rintro E s _ hE ⟨rfl, _⟩
    have haE := (hD.trans hE).1 _ ha
    have eA := (hD.trans hE).addr ha
    simp only [Option.map_some]
    by_cases hz : mx.isSome = false ∧ l = c ∧ l ≠ 0
    · obtain ⟨hz1, rfl, hz2⟩ := hz
      have hnc : n ≤ l := by
        rw [hz1, Bool.false_or, decide_eq_true_eq] at hok
        exact hok
      have hm : m = l ∧ m' = c' := by
        rcases e3 with ⟨_, e7, e8⟩ | ⟨e7, _⟩
        · exact ⟨e7, e8⟩
        · rw [hz1] at e7; cases e7
      obtain ⟨rfl, rfl⟩ := hm
      have hh0 : hh - m = 0 := by omega
      have : ∃ b', (if m' = m then some (C.addr a) else some ((C.addr a).add (m * s))) = some b' := by split <;> exact ⟨_, rfl⟩
      obtain ⟨b', hb'⟩ := this
      rw [hb', if_pos rfl, hh0, Nat.sub_self]
      have hmx : mx = none := by cases mx with
        | none => rfl
        | some v => cases hz1
      subst hmx
      obtain ⟨k, rfl⟩ : ∃ k, m = k + 1 := ⟨m - 1, by omega⟩
      exact .ret (.sliceE { a with spot := some 0 } b' _ haE (by simp))
    have key : ∃ b : Addr, (E.d b.block ∧ b.spot = none) ∧ (if m = l then some a else some (a.add (l * s))) = some b ∧ (if m' = l then some (C.addr a) else some ((C.addr a).add (l * s))) = some (E.addr b) := by
      by_cases hl0 : l = 0
      · subst hl0
        refine ⟨a, ⟨haE, hsp⟩, ?_, ?_⟩
        · simp [add_zero']
        · rw [eA]; simp [add_zero']
      rcases e3 with ⟨hm, e7, e8⟩ | ⟨hm, e7⟩
      · subst hm
        have hlc : l < c := by
          have : l ≠ c := fun h => hz ⟨rfl, h, hl0⟩
          have hnc : n ≤ c := by
            rw [Option.isSome_none, Bool.false_or, decide_eq_true_eq] at hok
            exact hok
          rcases e4 with ⟨_, e4⟩ | e4 <;> omega
        refine ⟨a.add (l * s), ⟨by rw [Ren.add_block]; exact haE, add_spot hsp _⟩, by rw [if_neg (by omega)], ?_⟩
        rw [if_neg (by omega), Ren.addr_add, eA]
      · subst e7
        by_cases hml : m = l
        · exact ⟨a, ⟨haE, hsp⟩, by rw [if_pos hml], by rw [if_pos hml, eA]⟩
        · exact ⟨a.add (l * s), ⟨by rw [Ren.add_block]; exact haE, add_spot hsp _⟩, by rw [if_neg hml], by rw [if_neg hml, Ren.addr_add, eA]⟩
    obtain ⟨b, hb, k1, k2⟩ := key
    rw [k1, k2]
    refine SemRel.ret ?_
    rw [blur_id (by
      rcases e3 with ⟨hm, e7, e8⟩ | ⟨hm, e7⟩
      · by_cases hq : m - l = 0
        · refine .inr (.inr ?_)
          subst hm
          have hnc : n ≤ c := by
            rw [Option.isSome_none, Bool.false_or, decide_eq_true_eq] at hok
            exact hok
          have : l = c := by rcases e4 with ⟨_, e4⟩ | e4 <;> omega
          apply Classical.byContradiction
          intro hc0
          exact hz ⟨rfl, this, by omega⟩
        · exact .inr (.inl hq)
      · exact .inl hm)]
    refine .slice b _ _ _ hb.1 (by rcases e3 with ⟨_, e7, e8⟩ | ⟨_, e7⟩ <;> omega) ?_ hb.2
    intro e9
    rcases e3 with ⟨hm, e7, e8⟩ | ⟨_, e7⟩
    · subst hm
      have hnc : n ≤ c := by
        rw [Option.isSome_none, Bool.false_or, decide_eq_true_eq] at hok
        exact hok
      by_cases hl0 : l = 0
      · have := hc0 (by omega); omega
      · have : l ≠ c := fun h => hz ⟨rfl, h, hl0⟩
        rcases e4 with ⟨_, e4⟩ | e4 <;> omega
    · omega
  · cases hok
end
end Go.Proofs.YtfppinabdalblaaGreat
