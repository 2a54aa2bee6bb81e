/- Reflection, 11: a region that draws its order, whole. No program is named here. -/
import Derived.Test.YtfppinabdalblaaGreatRefl10
namespace Go.Proofs.YtfppinabdalblaaGreat
open Go.RowKit
set_option linter.unusedVariables false
set_option linter.unusedSimpArgs false
section
variable {P : Program} {σ : Nat → Value} {W0 : World} {H : Nat} {O : Orc} {E : List LoopI} {G : Nat} {ih : Ih} {ops : Array Oper}

/-- What was checked, in plain words. -/
structure DrawFacts (ih : Ih) (P : Program) (O : Orc) (E : List LoopI) (G : Nat) (ops : Array Oper) (base : Nat) (a0 F : Act) (w0 : World) (vs : List Value) (ls : List Loud) : Prop where
  size : F.tmps.size = a0.tmps.size
  vlen : vs.length = ops.size
  df : F.defers = []
  rest : ∀ t, t < a0.tmps.size → (∀ (i : Nat) (o : Oper), ops[i]? = some o → o.dst ≠ some t) → F.tmps[t]? = a0.tmps[t]?
  sel : ∀ (i : Nat) (o : Oper), ops[i]? = some o → noSelect o.op = true
  edge : ∀ (i : Nat) (o : Oper), ops[i]? = some o → ∀ e ∈ o.after, Region.binds .any e = true → e.on < i
  dst : ∀ (i : Nat) (o : Oper) (t : Tmp), ops[i]? = some o → o.dst = some t → t < a0.tmps.size ∧ F.tmps[t]? = vs[i]?
  look : ∀ (i : Nat) (o : Oper) (t : Tmp), ops[i]? = some o → t ∈ looks ops o → (∃ (j : Nat) (p : Oper), ops[j]? = some p ∧ p.dst = some t) → anti ops (masks ops) i t = true ∨ ∃ (j : Nat) (p : Oper), ops[j]? = some p ∧ p.dst = some t ∧ ((masks ops).getD i 0).testBit j = true
  loud : ∀ (i : Nat) (o : Oper) (m : Nat) (l : Loud), ops[i]? = some o → ls[m]? = some l → l.i = i → ∀ t ∈ looks ops o, l.a.tmps[t]? = (view ops (masks ops) a0 F i o).tmps[t]?
  quiet : ∀ (i : Nat) (o : Oper), ops[i]? = some o → (∀ l ∈ ls, l.i ≠ i) → ∀ s, s ≤ ls.length → (∀ l ∈ ls.take s, ((masks ops).getD l.i 0).testBit i = false) → (∀ l ∈ ls.drop s, l.k = none → ((masks ops).getD i 0).testBit l.i = false) →
    calmVal ih P O E G ops o (view ops (masks ops) a0 F i o) (worldAt w0 ls s) = vs[i]?
  chain : chainOk (masks ops) ls = true
  louds : loudsOk ih P O E G ops vs w0 ls
  apart : ∀ (m : Nat) (l : Loud) (b : Nat) (cs : Array Value) (e : TypeId) (sh : Shp), ls[m]? = some l → l.k = some (b, cs, e, sh) → base ≤ b ∧ ∀ s, s ≤ m → pcode (worldAt w0 ls s) b = some 9

theorem mem_dsts {t : Tmp} : (ops.toList.filterMap (·.dst)).contains t = true ↔ ∃ (i : Nat) (o : Oper), ops[i]? = some o ∧ o.dst = some t := by
  rw [List.contains_iff_mem, List.mem_filterMap]
  constructor
  · rintro ⟨o, h1, h2⟩
    obtain ⟨i, h3⟩ := List.mem_iff_getElem?.1 h1
    exact ⟨i, o, by simpa using h3, h2⟩
  · rintro ⟨i, o, h1, h2⟩
    exact ⟨o, by rw [← Array.getElem?_toList] at h1; exact List.mem_of_getElem? h1, h2⟩
theorem drawFacts {base : Nat} {a0 F : Act} {w0 : World} {vs : List Value} {ls : List Loud} (h : drawOk ih P O E G ops base a0 F w0 vs ls = true) (hl : loudsOk ih P O E G ops vs w0 ls) : DrawFacts ih P O E G ops base a0 F w0 vs ls := by
  unfold drawOk at h
  simp only [Bool.and_eq_true, beq_iff_eq, List.all_eq_true, List.mem_range, Bool.or_eq_true] at h
  obtain ⟨⟨⟨⟨⟨⟨⟨h1, h2⟩, h3⟩, h4⟩, h5⟩, h6⟩, h7⟩, hap⟩ := h
  have op : ∀ (i : Nat) (o : Oper), ops[i]? = some o → opChk ih P O E G ops (masks ops) a0 F w0 vs ls (ops.toList.filterMap (·.dst)) i o = true := by
    intro i o ho
    have hi : i < ops.size := (Array.getElem?_eq_some_iff.1 ho).1
    have := h5 i hi
    rw [ho] at this
    exact this
  have op2 : ∀ (i : Nat) (o : Oper), ops[i]? = some o → _ := fun i o ho => by
    have := op i o ho
    unfold opChk at this
    simp only [Bool.and_eq_true] at this
    exact this
  refine { size := h1, vlen := h2, df := by simpa using h3, rest := fun t ht hno => ?_, sel := fun i o ho => (op2 i o ho).1.1.1.1, edge := fun i o ho e he hb => ?_, dst := fun i o t ho hd => ?_, look := fun i o t ho ht hj => ?_, loud := fun i o m l ho hm hli t ht => ?_, quiet := fun i o ho hno s hs ht hd => ?_, chain := h6, louds := hl, apart := fun m l b cs e sh hm hk => ?_ }
  · rcases h4 t ht with h | h
    · obtain ⟨i, o, h8, h9⟩ := mem_dsts.1 h
      exact absurd h9 (hno i o h8)
    · exact slotEq_eq h
  · have := (op2 i o ho).1.1.1.2
    rw [Array.all_eq_true_iff_forall_mem] at this
    have := this e he
    rw [hb] at this
    simpa using this
  · have := (op2 i o ho).1.1.2
    rw [hd] at this
    simp only [Bool.and_eq_true, decide_eq_true_eq] at this
    exact ⟨this.1, slotEq_eq this.2⟩
  · have := (op2 i o ho).1.2
    rw [List.all_eq_true] at this
    have := this t ht
    rw [mem_dsts.2 hj] at this
    simp only [Bool.not_true, Bool.false_or, Bool.or_eq_true, List.any_eq_true, List.mem_range, Bool.and_eq_true, beq_iff_eq] at this
    rcases this with this | this
    · exact .inl this
    refine .inr ?_
    obtain ⟨j, h8, h9, h10⟩ := this
    cases hp : ops[j]? with
    | none => rw [hp] at h9; cases h9
    | some p => rw [hp] at h9; exact ⟨j, p, hp, h9, h10⟩
  · have := (op2 i o ho).2
    have hf : ∃ k, ls.find? (fun l => l.i == i) = some k := by
      cases hf : ls.find? (fun l => l.i == i) with
      | some k => exact ⟨k, rfl⟩
      | none =>
        have := List.find?_eq_none.1 hf l (List.mem_of_getElem? hm)
        simp [hli] at this
    obtain ⟨k, hk⟩ := hf
    rw [hk] at this
    simp only [List.all_eq_true] at this
    have hki : k.i = i := by simpa using List.find?_some hk
    have hkl : k = l := by
      obtain ⟨m', hm'⟩ := List.mem_iff_getElem?.1 (List.mem_of_find?_eq_some hk)
      rcases Nat.lt_trichotomy m m' with h8 | h8 | h8
      · exact absurd (hki.trans hli.symm) (chain_at h6 hm hm' h8).2.1
      · subst h8; rw [hm] at hm'; cases hm'; rfl
      · exact absurd (hli.trans hki.symm) (chain_at h6 hm' hm h8).2.1
    subst hkl
    exact slotEq_eq (this t ht)
  · have := (op2 i o ho).2
    have hf : ls.find? (fun l => l.i == i) = none := List.find?_eq_none.2 fun l hl => by simpa using hno l hl
    rw [hf] at this
    simp only [List.all_eq_true, List.mem_range, Bool.or_eq_true, Bool.not_eq_true', Bool.and_eq_false_iff] at this
    rcases this s (by omega) with h8 | h8
    · exfalso
      rcases h8 with h8 | h8
      · have : (ls.take s).all (fun l => !((masks ops).getD l.i 0).testBit i) = true := by
          rw [List.all_eq_true]
          intro l hl
          rw [ht l hl]
          rfl
        rw [this] at h8
        cases h8
      · have : (ls.drop s).all (fun l => l.k.isSome || !((masks ops).getD i 0).testBit l.i) = true := by
          rw [List.all_eq_true]
          intro l hl
          cases hk : l.k with
          | none => rw [hd l hl hk]; rfl
          | some x => rfl
        rw [this] at h8
        cases h8
    · exact slotEq_eq h8
  · unfold apartOk at hap
    rw [List.all_eq_true] at hap
    have hml : m < ls.length := by
      rcases Nat.lt_or_ge m ls.length with h8 | h8
      · exact h8
      · rw [List.getElem?_eq_none h8] at hm; cases hm
    have := hap m (List.mem_range.2 hml)
    rw [hm] at this
    simp only [hk, Bool.and_eq_true, decide_eq_true_eq, List.all_eq_true, List.mem_range] at this
    exact ⟨this.1, fun s hs => by simpa using this.2 s (by omega)⟩

structure Inv (ops : Array Oper) (a0 F : Act) (w0 : World) (ls : List Loud) (s : Nat) (listed : Array Bool) (a : Act) (w : World) : Prop where
  sz : listed.size = ops.size
  dc : ∀ (i : Nat) (o : Oper), ops[i]? = some o → listed.getD i false = true → ∀ e ∈ o.after, Region.binds .any e = true → listed.getD e.on false = true
  le : s ≤ ls.length
  hw : w = worldAt w0 ls s
  lo : ∀ (m : Nat) (l : Loud), ls[m]? = some l → m < s → listed.getD l.i false = true
  hi : ∀ (m : Nat) (l : Loud), ls[m]? = some l → s ≤ m → listed.getD l.i false = true → l.k.isSome = true
  tsz : a.tmps.size = F.tmps.size
  ton : ∀ (i : Nat) (o : Oper) (t : Tmp), ops[i]? = some o → o.dst = some t → listed.getD i false = true → a.tmps[t]? = F.tmps[t]?
  toff : ∀ t, (∀ (i : Nat) (o : Oper), ops[i]? = some o → o.dst = some t → listed.getD i false = false) → a.tmps[t]? = a0.tmps[t]?
  df : a.defers = []

theorem listed_set {listed : Array Bool} {i j : Nat} (hi : i < listed.size) : (listed.setIfInBounds i true).getD j false = if i = j then true else listed.getD j false := by
  simp only [Array.getD_eq_getD_getElem?, Array.getElem?_setIfInBounds]
  by_cases e : i = j
  · subst e; simp [hi]
  · simp [e]
theorem want_congr {o : Oper} {a b : Act} (h : ∀ t ∈ looks ops o, a.tmps[t]? = b.tmps[t]?) : guardOk ops o a.tmps = guardOk ops o b.tmps ∧ Region.wanted o (yielded ops a.tmps) = Region.wanted o (yielded ops b.tmps) := by
  have hg : ∀ t, gslot ops o = some t → a.tmps[t]? = b.tmps[t]? := fun t ht => h t (List.mem_append_left _ (by rw [ht]; simp))
  constructor
  · unfold guardOk
    unfold gslot at hg
    cases hgd : o.guard with
    | none => rfl
    | some p =>
      obtain ⟨j, want⟩ := p
      rw [hgd] at hg
      simp only [] at hg ⊢
      cases hd : (ops[j]?).bind (·.dst) with
      | none => rfl
      | some t => simp only [Option.bind_some]; rw [hg t hd]
  · unfold Region.wanted
    unfold gslot at hg
    cases hgd : o.guard with
    | none => rfl
    | some p =>
      obtain ⟨j, want⟩ := p
      rw [hgd] at hg
      simp only [] at hg ⊢
      unfold yielded
      cases hd : (ops[j]?).bind (·.dst) with
      | none => rfl
      | some t => simp only [Option.bind_some]; rw [hg t hd]
theorem calm_congr {o : Oper} {a b : Act} (hs : noSelect o.op = true) (h : ∀ t ∈ looks ops o, a.tmps[t]? = b.tmps[t]?) (w : World) : calmVal ih P O E G ops o a w = calmVal ih P O E G ops o b w := by
  have hx := eval_same h
  obtain ⟨e1, e2⟩ := want_congr (ops := ops) h
  have e4 : okOp P a.eval o = okOp P b.eval o := okOp_congr hx
  have e5 : execOp a.eval o = execOp b.eval o := execOp_congr o (fun cs b hh => by rw [hh] at hs; cases hs) hx
  have e6 : o.op.operands.toList.map a.eval = o.op.operands.toList.map b.eval := List.map_congr_left fun x hxx => hx x (by simpa using hxx)
  have e7 : o.op.operands.toList.all (fun x => closedN 8 (a.eval x)) = o.op.operands.toList.all (fun x => closedN 8 (b.eval x)) := by
    rw [Bool.eq_iff_iff, List.all_eq_true, List.all_eq_true]
    constructor
    · intro h2 x hxx; rw [← hx x (by simpa using hxx)]; exact h2 x hxx
    · intro h2 x hxx; rw [hx x (by simpa using hxx)]; exact h2 x hxx
  unfold calmVal quietVal plainOp
  rw [e1, e2, e4, e5, e6, e7, yCall_congr hx, evVal_congr hs h, fixV_congr hx]
theorem draw_step {base : Nat} {a0 F : Act} {w0 : World} {vs : List Value} {ls : List Loud} (D : DrawFacts ih P O E G ops base a0 F w0 vs ls) {s : Nat} {listed : Array Bool} {a : Act} {w : World} (I : Inv ops a0 F w0 ls s listed a w) {i : Nat} (hr : i ∈ Region.ready .any ops listed) :
    ∃ o, ops[i]? = some o ∧ (
      (∃ v w1, evVal ih P O E G ops o a w = some (v, w1) ∧ (w1.heap = w.heap ∨ closedN 8 v = true) ∧ (∀ b, b < w.heap.size → w1.heap[b]? = w.heap[b]?) ∧ (∀ l ∈ ls, l.i ≠ i) ∧ Inv ops a0 F w0 ls s (listed.setIfInBounds i true) (a.put o.dst v) w) ∨
      (∃ v m l, ls[m]? = some l ∧ l.i = i ∧ l.k = none ∧ s ≤ m ∧ (∀ j k, s ≤ j → j < m → ls[j]? = some k → k.k.isSome = true ∧ listed.getD k.i false = true) ∧ evVal ih P O E G ops o a (worldAt w0 ls m) = some (v, l.w) ∧
        Inv ops a0 F w0 ls (m + 1) (listed.setIfInBounds i true) (a.put o.dst v) l.w) ∨
      (∃ m l b cs e sh, ls[m]? = some l ∧ l.i = i ∧ l.k = some (b, cs, e, sh) ∧ s ≤ m ∧ makerOf P a.eval o.op = some (cs, e, sh) ∧ guardOk ops o a.tmps = true ∧ Region.wanted o (yielded ops a.tmps) = true ∧ o.op.operands.toList.all (constOk G) = true ∧
        Inv ops a0 F w0 ls s (listed.setIfInBounds i true) (a.put o.dst (mkv b sh)) w)) := by
  obtain ⟨hun, o, ho, hed⟩ := mem_ready.1 hr
  have hi : i < ops.size := (Array.getElem?_eq_some_iff.1 ho).1
  have hiL : i < listed.size := by rw [I.sz]; exact hi
  have hun' : listed.getD i false = false := by
    simp only [Array.getD_eq_getD_getElem?, Array.getElem?_eq_getElem hiL, Option.getD_some] at hun ⊢
    exact hun
  have hmask := mask_listed (ops := ops) (listed := listed) D.edge I.dc
  have hpre := hmask i o ho hed
  -- operands
  have hlook : ∀ t ∈ looks ops o, a.tmps[t]? = (view ops (masks ops) a0 F i o).tmps[t]? := by
    intro t ht
    rw [view_at D.size ht]
    by_cases ha : anti ops (masks ops) i t = true
    · rw [if_pos ha]
      refine I.toff t fun j p hp hpd => ?_
      cases hl : listed.getD j false with
      | false => rfl
      | true =>
        unfold anti at ha
        rw [List.all_eq_true] at ha
        have h1 := ha j (List.mem_range.2 (Array.getElem?_eq_some_iff.1 hp).1)
        rw [hp] at h1
        simp only [hpd, bne_self_eq_false, Bool.false_or] at h1
        have := hmask j p hp (I.dc j p hp hl) i h1
        rw [hun'] at this
        cases this
    · rw [if_neg ha]
      have hd : ∃ (j : Nat) (p : Oper), ops[j]? = some p ∧ p.dst = some t := by
        apply Classical.byContradiction
        intro hno
        refine ha ?_
        unfold anti
        rw [List.all_eq_true]
        intro j hj
        cases hp : ops[j]? with
        | none => rfl
        | some p =>
          have : p.dst ≠ some t := fun e => hno ⟨j, p, hp, e⟩
          simp [this]
      rcases D.look i o t ho ht hd with h | ⟨j, p, h1, h2, h3⟩
      · exact absurd h ha
      · exact I.ton j p t h1 h2 (hpre j h3)
  have hs := I.le
  have hw := I.hw
  obtain ⟨v, hv⟩ : ∃ v, vs[i]? = some v := ⟨vs[i]'(by rw [D.vlen]; exact hi), List.getElem?_eq_getElem _⟩
  -- behind it
  have after : ∀ s' w1, s' ≤ ls.length → w1 = worldAt w0 ls s' → (∀ (m : Nat) (l : Loud), ls[m]? = some l → m < s' → (listed.setIfInBounds i true).getD l.i false = true) →
      (∀ (m : Nat) (l : Loud), ls[m]? = some l → s' ≤ m → (listed.setIfInBounds i true).getD l.i false = true → l.k.isSome = true) → Inv ops a0 F w0 ls s' (listed.setIfInBounds i true) (a.put o.dst v) w1 := by
    intro s' w1 hs1 hs2 hs3 hs4
    have hput : (a.put o.dst v).tmps.size = a.tmps.size := by
      cases hd : o.dst <;> simp [Act.put]
    refine { sz := by simpa using I.sz, dc := fun j p hp hl e he hb => ?_, le := hs1, hw := hs2, lo := hs3, hi := hs4, tsz := by rw [hput, I.tsz], ton := fun j p t hp hpd hl => ?_, toff := fun t ht => ?_, df := by cases hd : o.dst <;> simp [Act.put, I.df] }
    · rw [listed_set hiL] at hl ⊢
      split
      · rfl
      · split at hl
        · rename_i e2
          subst e2
          rw [ho] at hp
          cases hp
          exact hed e he hb
        · exact I.dc j p hp hl e he hb
    · cases hd : o.dst with
      | none =>
        simp only [Act.put]
        rw [listed_set hiL] at hl
        split at hl
        · rename_i e2
          subst e2
          rw [ho] at hp; cases hp
          rw [hd] at hpd; cases hpd
        · exact I.ton j p t hp hpd hl
      | some u =>
        simp only [Act.put, Array.getElem?_setIfInBounds]
        have hu := D.dst i o u ho hd
        by_cases e : u = t
        · subst e
          rw [if_pos rfl, if_pos (by rw [I.tsz, D.size]; exact hu.1), hu.2, hv]
        · rw [if_neg e]
          rw [listed_set hiL] at hl
          split at hl
          · rename_i e2
            subst e2
            rw [ho] at hp; cases hp
            rw [hd] at hpd; cases hpd
            exact absurd rfl e
          · exact I.ton j p t hp hpd hl
    · have h1 : o.dst ≠ some t := fun e => by
        have := ht i o ho e
        rw [listed_set hiL, if_pos rfl] at this
        cases this
      have h2 : ∀ (j : Nat) (p : Oper), ops[j]? = some p → p.dst = some t → listed.getD j false = false := fun j p hp hpd => by
        have := ht j p hp hpd
        rw [listed_set hiL] at this
        split at this
        · cases this
        · exact this
      rw [← I.toff t h2]
      cases hd : o.dst with
      | none => rfl
      | some u =>
        simp only [Act.put, Array.getElem?_setIfInBounds]
        rw [if_neg (fun e => h1 (by rw [hd, e]))]
  refine ⟨o, ho, ?_⟩
  have keep : ∀ {j : Nat}, listed.getD j false = true → (listed.setIfInBounds i true).getD j false = true := by
    intro j hj; rw [listed_set hiL]; split
    · rfl
    · exact hj
  by_cases hloud : ∃ l ∈ ls, l.i = i
  · refine .inr ?_
    obtain ⟨l, hl, hli⟩ := hloud
    obtain ⟨m, hm⟩ := List.mem_iff_getElem?.1 hl
    have hms : s ≤ m := by
      rcases Nat.lt_or_ge m s with h | h
      · have := I.lo m l hm h
        rw [hli, hun'] at this
        cases this
      · exact h
    have hmlt : m < ls.length := by
      rcases Nat.lt_or_ge m ls.length with h5 | h5
      · exact h5
      · rw [List.getElem?_eq_none h5] at hm; cases hm
    have h4 := D.loud i o m l ho hm hli
    have hla : ∀ t ∈ looks ops o, l.a.tmps[t]? = a.tmps[t]? := fun t ht => (h4 t ht).trans (hlook t ht).symm
    obtain ⟨o', v', h1, h2, h3⟩ := loudsOk_at D.louds hm
    rw [hli] at h1 h2
    rw [ho] at h1
    cases h1
    rw [hv] at h2
    cases h2
    have hne : ∀ m' l', ls[m']? = some l' → m' ≠ m → l'.i ≠ i := by
      intro m' l' hm' e
      rw [← hli]
      rcases Nat.lt_or_gt_of_ne e with h5 | h5
      · exact ((chain_at D.chain hm' hm h5).2.1).symm
      · exact (chain_at D.chain hm hm' h5).2.1
    cases hk : l.k with
    | none =>
      refine .inl ⟨v, m, l, hm, hli, hk, hms, ?_, ?_, ?_⟩
      · intro j k hj1 hj2 hjk
        have h9 := (chain_at D.chain hjk hm hj2).1
        rw [hk] at h9
        have h10 : listed.getD k.i false = true := by
          rcases h9 with h9 | h9
          · cases h9
          · rw [hli] at h9; exact hpre _ h9
        exact ⟨I.hi j k hjk hj1 h10, h10⟩
      · rw [hk] at h3
        simp only [] at h3
        rw [evVal_congr (D.sel i o ho) hla] at h3
        exact h3
      · refine after (m + 1) l.w (by omega) (by simp [worldAt, hm]) (fun m' l' hm' hlt => ?_) (fun m' l' hm' hge hls => ?_)
        · by_cases e : m' = m
          · subst e; rw [hm] at hm'; cases hm'; rw [hli, listed_set hiL, if_pos rfl]
          · refine keep ?_
            rcases Nat.lt_or_ge m' s with h5 | h5
            · exact I.lo m' l' hm' h5
            · have h9 := (chain_at D.chain hm' hm (by omega)).1
              rw [hk] at h9
              rcases h9 with h9 | h9
              · cases h9
              · rw [hli] at h9; exact hpre _ h9
        · have e : m' ≠ m := by omega
          rw [listed_set hiL, if_neg (fun e2 => hne m' l' hm' e e2.symm)] at hls
          exact I.hi m' l' hm' (by omega) hls
    | some x =>
      obtain ⟨b, cs, e, sh⟩ := x
      rw [hk] at h3
      simp only [] at h3
      obtain ⟨k1, k2, k3, kc, k4, k5⟩ := h3
      obtain ⟨e1, e2⟩ := want_congr (ops := ops) hla
      rw [makerOf_congr (eval_same hla)] at k1
      refine .inr ⟨m, l, b, cs, e, sh, hm, hli, hk, hms, k1, by rw [← e1]; exact k2, by rw [← e2]; exact k3, kc, ?_⟩
      rw [← k4]
      refine after s w hs hw (fun m' l' hm' hlt => keep (I.lo m' l' hm' hlt)) (fun m' l' hm' hge hls => ?_)
      by_cases e3 : m' = m
      · subst e3; rw [hm] at hm'; cases hm'; rw [hk]; rfl
      · rw [listed_set hiL, if_neg (fun e2 => hne m' l' hm' e3 e2.symm)] at hls
        exact I.hi m' l' hm' hge hls
  · refine .inl ?_
    have hno : ∀ l ∈ ls, l.i ≠ i := fun l hl e => hloud ⟨l, hl, e⟩
    have hq := D.quiet i o ho hno s hs (fun l hl => ?_) (fun l hl hk => ?_)
    · rw [← hw, hv, calm_congr (D.sel i o ho) (fun t ht => (hlook t ht).symm)] at hq
      obtain ⟨w1, q1, q2, q3⟩ := calm_spec hq
      refine ⟨v, w1, q1, q2, q3, hno, after s w hs hw (fun m l hm hlt => keep (I.lo m l hm hlt)) (fun m l hm hge hls => ?_)⟩
      rw [listed_set hiL, if_neg (fun e => hno l (List.mem_of_getElem? hm) e.symm)] at hls
      exact I.hi m l hm hge hls
    · cases hb : ((masks ops).getD l.i 0).testBit i with
      | false => rfl
      | true =>
        obtain ⟨m, hm⟩ := List.mem_iff_getElem?.1 hl
        rw [List.getElem?_take] at hm
        split at hm
        case isFalse => cases hm
        rename_i hlt
        have hll := I.lo m l hm hlt
        have hls : l.i < ops.size := by
          rcases Nat.lt_or_ge l.i ops.size with h5 | h5
          · exact h5
          · simp only [Array.getD_eq_getD_getElem?, Array.getElem?_eq_none (show listed.size ≤ l.i by rw [I.sz]; exact h5), Option.getD_none] at hll
            cases hll
        have := hmask l.i _ (Array.getElem?_eq_getElem hls) (I.dc l.i _ (Array.getElem?_eq_getElem hls) hll) i hb
        rw [hun'] at this
        cases this
    · cases hb : ((masks ops).getD i 0).testBit l.i with
      | false => rfl
      | true =>
        obtain ⟨m, hm⟩ := List.mem_iff_getElem?.1 hl
        rw [List.getElem?_drop] at hm
        have := I.hi _ l hm (by omega) (hpre _ hb)
        rw [hk] at this
        cases this
theorem draw_end {base : Nat} {a0 F : Act} {w0 : World} {vs : List Value} {ls : List Loud} (D : DrawFacts ih P O E G ops base a0 F w0 vs ls) {s : Nat} {listed : Array Bool} {a : Act} {w : World} (I : Inv ops a0 F w0 ls s listed a w) (hr : Region.ready .any ops listed = []) :
    a = F ∧ ∀ (j : Nat) (k : Loud), s ≤ j → ls[j]? = some k → k.k.isSome = true ∧ listed.getD k.i false = true := by
  have all : ∀ i, i < ops.size → listed.getD i false = true := by
    intro i
    induction i using Nat.strongRecOn with
    | _ i ihi =>
      intro hi
      cases hl : listed.getD i false with
      | true => rfl
      | false =>
        have ho := Array.getElem?_eq_getElem hi
        have : i ∈ Region.ready .any ops listed := mem_ready.2 ⟨by
          have hiL : i < listed.size := by rw [I.sz]; exact hi
          simp only [Array.getD_eq_getD_getElem?, Array.getElem?_eq_getElem hiL, Option.getD_some] at hl ⊢
          exact hl, _, ho, fun e he hb => by
            have := D.edge i _ ho e he hb
            exact ihi e.on this (by omega)⟩
        rw [hr] at this
        cases this
  constructor
  · have : a.tmps = F.tmps := by
      apply Array.ext_getElem?
      intro t
      by_cases hd : ∃ (j : Nat) (p : Oper), ops[j]? = some p ∧ p.dst = some t
      · obtain ⟨j, p, h1, h2⟩ := hd
        exact I.ton j p t h1 h2 (all j (Array.getElem?_eq_some_iff.1 h1).1)
      · rw [I.toff t fun j p h1 h2 => absurd ⟨j, p, h1, h2⟩ hd]
        rcases Nat.lt_or_ge t a0.tmps.size with h5 | h5
        · exact (D.rest t h5 fun j p h1 h2 => hd ⟨j, p, h1, h2⟩).symm
        · rw [Array.getElem?_eq_none h5, Array.getElem?_eq_none (by rw [D.size]; exact h5)]
    have h1 := I.df
    have h2 := D.df
    cases a; cases F
    simp at this h1 h2
    rw [this, h1, h2]
  · intro j k hj hk
    obtain ⟨o, v, h1, _⟩ := loudsOk_at D.louds hk
    have h2 := all k.i (Array.getElem?_eq_some_iff.1 h1).1
    exact ⟨I.hi j k hk hj h2, h2⟩

end
end Go.Proofs.YtfppinabdalblaaGreat
