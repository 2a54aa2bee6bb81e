/- Reflection, 10: a region that draws its order comes to what was evaluated once. No program is named here. -/
import Derived.Test.YtfppinabdalblaaGreatRefl9
namespace Go.Proofs.YtfppinabdalblaaGreat
open Go.RowKit
set_option linter.unusedVariables false
set_option linter.unusedSimpArgs false
section
variable {P : Program} {σ : Nat → Value} {W0 : World} {H : Nat} {O : Orc} {E : List LoopI} {G : Nat} {ih : Ih} {ops : Array Oper}

def lastW : World → List Loud → World
  | w, [] => w
  | w, l :: ls => lastW l.w ls
theorem loudsOk_at {vs : List Value} : ∀ {ls : List Loud} {w : World}, loudsOk ih P O E G ops vs w ls → ∀ {m : Nat} {l : Loud}, ls[m]? = some l → loudOk ih P O E G ops vs (worldAt w ls m) l
  | [], w, h, m, l, hm => by simp at hm
  | k :: ls, w, h, 0, l, hm => by simp at hm; subst hm; exact h.1
  | k :: ls, w, h, m + 1, l, hm => by
    have := loudsOk_at h.2 (m := m) (l := l) (by simpa using hm)
    have e : worldAt w (k :: ls) (m + 1) = worldAt k.w ls m := by
      cases m with
      | zero => rfl
      | succ m => simp [worldAt]; cases hh : ls[m]? with
        | none =>
          have : ls.length ≤ m := by simpa using hh
          have : m + 1 < ls.length := by
            rcases Nat.lt_or_ge (m + 1) ls.length with h5 | h5
            · exact h5
            · simp at hm; rw [List.getElem?_eq_none h5] at hm; cases hm
          omega
        | some l => rfl
    rw [e]
    exact this
theorem lastW_at : ∀ (ls : List Loud) (w : World), worldAt w ls ls.length = lastW w ls
  | [], w => rfl
  | [l], w => rfl
  | l :: k :: ls, w => by
    have := lastW_at (k :: ls) l.w
    simp only [lastW] at this ⊢
    rw [← this]
    simp [worldAt]
theorem runC_spec {ms : List Nat} : ∀ (l : List Oper) (i : Nat) (a : Act) (w : World) (vs : List Value) (ls : List Loud) (nxt : Nat) (F : Act) (w1 : World) (vs' : List Value) (ls' : List Loud),
    runC ih P O E G ops ms l i a w vs ls nxt = some (F, w1, vs', ls') → (∀ j, l[j]? = ops[i + j]?) → vs.length = i →
    ∃ us ls2, vs' = vs ++ us ∧ us.length = l.length ∧ ls' = ls ++ ls2 ∧ loudsOk ih P O E G ops vs' w ls2 ∧ lastW w ls2 = w1
  | [], i, a, w, vs, ls, nxt, F, w1, vs', ls', h, hl, hv => by
    simp only [runC] at h
    cases h
    exact ⟨[], [], by simp, rfl, by simp, trivial, rfl⟩
  | o :: l, i, a, w, vs, ls, nxt, F, w1, vs', ls', h, hl, hv => by
    have ho : ops[i]? = some o := by have := hl 0; simpa using this.symm
    have ht : ∀ j, l[j]? = ops[i + 1 + j]? := fun j => by have := hl (j + 1); simpa [Nat.add_assoc, Nat.add_comm 1 j] using this
    have quiet : ∀ v nxt, runC ih P O E G ops ms l (i + 1) (a.put o.dst v) w (vs ++ [v]) ls nxt = some (F, w1, vs', ls') → ∃ us ls2, vs' = vs ++ us ∧ us.length = (o :: l).length ∧ ls' = ls ++ ls2 ∧ loudsOk ih P O E G ops vs' w ls2 ∧ lastW w ls2 = w1 := by
      intro v nxt h
      obtain ⟨us, ls2, h1, h2, h3, h4, h5⟩ := runC_spec l (i + 1) _ _ _ _ _ _ _ _ _ h ht (by simp [hv])
      exact ⟨v :: us, ls2, by simp [h1], by simp [h2], h3, h4, h5⟩
    have loud : ∀ v w2 k nxt, (∀ us, vs' = vs ++ [v] ++ us → loudOk ih P O E G ops vs' w ⟨i, a, w2, k⟩) → runC ih P O E G ops ms l (i + 1) (a.put o.dst v) w2 (vs ++ [v]) (ls ++ [⟨i, a, w2, k⟩]) nxt = some (F, w1, vs', ls') → ∃ us ls2, vs' = vs ++ us ∧ us.length = (o :: l).length ∧ ls' = ls ++ ls2 ∧ loudsOk ih P O E G ops vs' w ls2 ∧ lastW w ls2 = w1 := by
      intro v w2 k nxt he h
      obtain ⟨us, ls2, h1, h2, h3, h4, h5⟩ := runC_spec l (i + 1) _ _ _ _ _ _ _ _ _ h ht (by simp [hv])
      exact ⟨v :: us, ⟨i, a, w2, k⟩ :: ls2, by simp [h1], by simp [h2], by simp [h3], ⟨he us h1, h4⟩, h5⟩
    have at_i : ∀ v us, vs' = vs ++ [v] ++ us → vs'[i]? = some v := by
      intro v us h1
      rw [h1, List.append_assoc, List.getElem?_append_right (by simp [hv])]
      simp [hv]
    unfold runC at h
    split at h
    · split at h
      · cases h
      rename_i hg
      split at h
      · rename_i hw
        split at h
        · cases h
        rename_i hco
        split at h
        case h_2 => cases h
        rename_i cs e sh hal
        exact loud (mkv nxt sh) (w.putObj nxt (smallO cs e sh)) (some (nxt, cs, e, sh)) (nxt + 1) (fun us h1 => ⟨o, _, ho, at_i _ us h1, hal, by simpa using hg, hw, by simpa using hco, rfl, rfl⟩) h
      · exact quiet _ _ h
    · split at h
      · exact quiet _ _ h
      · split at h
        · rename_i v w2 he; exact loud v w2 none nxt (fun us h1 => ⟨o, _, ho, at_i _ us h1, he⟩) h
        · cases h

theorem masksGo_spec : ∀ (l : List Oper) (acc : List Nat), ∃ r, masksGo l acc = acc ++ r ∧ r.length = l.length ∧
    ∀ (j : Nat) (o : Oper), l[j]? = some o → r[j]? = some (o.after.foldl (fun m e => if Region.binds .any e then m ||| ((acc ++ r.take j).getD e.on 0 ||| (1 <<< e.on)) else m) 0)
  | [], acc => ⟨[], by simp [masksGo], rfl, fun j o h => by simp at h⟩
  | o :: l, acc => by
    obtain ⟨r, h1, h2, h3⟩ := masksGo_spec l (acc ++ [o.after.foldl (fun m e => if Region.binds .any e then m ||| (acc.getD e.on 0 ||| (1 <<< e.on)) else m) 0])
    refine ⟨o.after.foldl (fun m e => if Region.binds .any e then m ||| (acc.getD e.on 0 ||| (1 <<< e.on)) else m) 0 :: r, by unfold masksGo; rw [h1, List.append_assoc]; rfl, by simp [h2], fun j p hj => ?_⟩
    cases j with
    | zero =>
      simp at hj
      subst hj
      simp
    | succ j =>
      have := h3 j p (by simpa using hj)
      simpa [List.append_assoc] using this
theorem fold_bit (f : Edge → Nat) (j : Nat) : ∀ (l : List Edge) (m : Nat), (l.foldl (fun m e => if Region.binds .any e then m ||| f e else m) m).testBit j = true → m.testBit j = true ∨ ∃ e ∈ l, Region.binds .any e = true ∧ (f e).testBit j = true
  | [], m, h => .inl h
  | e :: l, m, h => by
    rw [List.foldl_cons] at h
    rcases fold_bit f j l _ h with h1 | ⟨e', h1, h2⟩
    · split at h1
      · rename_i hb
        rw [Nat.testBit_or, Bool.or_eq_true] at h1
        rcases h1 with h1 | h1
        · exact .inl h1
        · exact .inr ⟨e, by simp, hb, h1⟩
      · exact .inl h1
    · exact .inr ⟨e', by simp [h1], h2⟩
theorem one_bit {k j : Nat} (h : (1 <<< k).testBit j = true) : j = k := by
  rw [Nat.testBit_shiftLeft, Bool.and_eq_true, decide_eq_true_eq] at h
  have h2 : (1 : Nat).testBit (j - k) = true := h.2
  rw [Nat.testBit_one_eq_true_iff_self_eq_zero] at h2
  omega
/-- What must have come ahead has come. -/
theorem mask_listed {listed : Array Bool} (hedge : ∀ i o, ops[i]? = some o → ∀ e ∈ o.after, Region.binds .any e = true → e.on < i)
    (dc : ∀ i o, ops[i]? = some o → listed.getD i false = true → ∀ e ∈ o.after, Region.binds .any e = true → listed.getD e.on false = true) :
    ∀ i o, ops[i]? = some o → (∀ e ∈ o.after, Region.binds .any e = true → listed.getD e.on false = true) → ∀ j, ((masks ops).getD i 0).testBit j = true → listed.getD j false = true := by
  obtain ⟨r, h1, h2, h3⟩ := masksGo_spec ops.toList []
  have hm : masks ops = r := by unfold masks; rw [h1]; simp
  rw [hm]
  intro i
  induction i using Nat.strongRecOn with
  | _ i ihi =>
    intro o ho he j hj
    have hr := h3 i o (by simpa using ho)
    rw [List.getD_eq_getElem?_getD, hr, Option.getD_some, ← Array.foldl_toList] at hj
    rcases fold_bit _ j _ _ hj with h4 | ⟨e, h4, h5, h6⟩
    · simp at h4
    · have hlt := hedge i o ho e (by simpa using h4) h5
      have hlist := he e (by simpa using h4) h5
      rw [Nat.testBit_or, Bool.or_eq_true] at h6
      rcases h6 with h6 | h6
      · rw [List.nil_append, List.getD_eq_getElem?_getD, List.getElem?_take, if_pos hlt, ← List.getD_eq_getElem?_getD] at h6
        have hsz : e.on < ops.size := by
          have : i < ops.size := (Array.getElem?_eq_some_iff.1 ho).1
          omega
        exact ihi e.on hlt ops[e.on] (Array.getElem?_eq_getElem hsz) (dc e.on _ (Array.getElem?_eq_getElem hsz) hlist) j h6
      · rw [one_bit h6]; exact hlist

theorem chain_at {ms : List Nat} : ∀ {ls : List Loud}, chainOk ms ls = true → ∀ {m k : Nat} {l j : Loud}, ls[m]? = some l → ls[k]? = some j → m < k →
    (j.k.isSome = true ∨ (ms.getD j.i 0).testBit l.i = true) ∧ j.i ≠ l.i ∧ ∀ x y, j.k = some x → l.k = some y → x.1 ≠ y.1
  | [], _, m, k, l, j, h1, _, _ => by simp at h1
  | x :: ls, h, 0, k + 1, l, j, h1, h2, _ => by
    simp only [chainOk, Bool.and_eq_true, List.all_eq_true] at h
    simp at h1 h2
    subst h1
    obtain ⟨⟨k1, k2⟩, k3⟩ := h.1 j (List.mem_of_getElem? h2)
    refine ⟨by simpa using k1, by simpa using k2, fun u v hu hv => ?_⟩
    rw [hu, hv] at k3
    simpa using k3
  | x :: ls, h, m + 1, 0, l, j, _, _, hm => by omega
  | x :: ls, h, 0, 0, l, j, _, _, hm => by omega
  | x :: ls, h, m + 1, k + 1, l, j, h1, h2, hm => by
    simp only [chainOk, Bool.and_eq_true] at h
    exact chain_at h.2 (by simpa using h1) (by simpa using h2) (by omega)

/-- How many are left. -/
def left (n : Nat) (listed : Array Bool) : Nat := ((List.range n).filter fun i => !listed.getD i true).length
theorem filter_lt {p q : Nat → Bool} : ∀ {l : List Nat}, (∀ x ∈ l, q x = true → p x = true) → (∃ x ∈ l, p x = true ∧ q x = false) → (l.filter q).length < (l.filter p).length
  | [], _, ⟨x, hx, _⟩ => by simp at hx
  | x :: l, h, ⟨y, hy, h1, h2⟩ => by
    have hle : (l.filter q).length ≤ (l.filter p).length := by
      have : ∀ {k : List Nat}, (∀ x ∈ k, q x = true → p x = true) → (k.filter q).length ≤ (k.filter p).length := by
        intro k
        induction k with
        | nil => intro _; simp
        | cons z k ihk =>
          intro hk
          have h3 := ihk fun x hx => hk x (by simp [hx])
          rw [List.filter_cons, List.filter_cons]
          by_cases hq : q z = true
          · rw [if_pos hq, if_pos (hk z (by simp) hq)]; simp; exact h3
          · rw [if_neg hq]; split <;> simp <;> omega
      exact this fun x hx => h x (by simp [hx])
    rw [List.filter_cons, List.filter_cons]
    rcases List.mem_cons.1 hy with rfl | hy
    · rw [if_neg (by simp [h2]), if_pos h1]; simp; omega
    · have ihl := filter_lt (p := p) (q := q) (l := l) (fun x hx => h x (by simp [hx])) ⟨y, hy, h1, h2⟩
      by_cases hq : q x = true
      · rw [if_pos hq, if_pos (h x (by simp) hq)]; simp; exact ihl
      · rw [if_neg hq]; split <;> simp <;> omega
end
end Go.Proofs.YtfppinabdalblaaGreat
