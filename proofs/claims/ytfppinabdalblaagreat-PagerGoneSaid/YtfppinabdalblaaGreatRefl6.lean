/- Reflection, 6: built-ins and calls, related; one operation. No program is named here. -/
import Derived.Test.YtfppinabdalblaaGreatRefl5
namespace Go.Proofs.YtfppinabdalblaaGreat
open Go.RowKit
set_option linter.unusedVariables false
set_option linter.unusedSimpArgs false
section
variable {P : Program} {σ : Nat → Value} {A : Ren}

theorem rel_lenOf {x x' : Value} (h : RV σ A x x') : SemRel P σ REq A (Builtin.lenOf x) (Builtin.lenOf x') := by
  unfold Builtin.lenOf
  cases h <;> first | exact .stuck | exact .ret rfl
theorem rel_firstCells (size n : Nat) {x x' : Value} (h : RV σ A x x') (hs : ∃ b c, x = .slice b n c) : SemRel P σ (RAr σ) A (Builtin.firstCells size n x) (Builtin.firstCells size n x') := by
  obtain ⟨b, c, rfl⟩ := hs
  unfold Builtin.firstCells
  cases h with
  | slice0 => exact .ret RAr.nil
  | slice a _ _ c' ha h1 h2 _ => exact rel_loadCells a _ ha
  | sliceE a b c' ha _ =>
    have e : ∀ a, loadCells a (0 * size) = pure #[] := by intro a; rw [Nat.zero_mul]; rfl
    simp only []
    rw [e, e]
    exact .ret RAr.nil
theorem rel_len (ty : TypeId) {ts : Array TypeId} {vs vs' : Array Value} (hok : lenOk vs = true) (h : RAr σ A vs vs') : SemRel P σ (RV σ) A (Builtin.len_ ts ty vs) (Builtin.len_ ts ty vs') := by
  unfold Builtin.len_
  cases ht : ts[0]? with
  | none => exact .stuck
  | some t =>
    cases hv : vs[0]? with
    | none => exact .stuck
    | some v =>
      have hnm : ∀ r, v ≠ .map r := fun r e => by
        subst e
        have e2 : vs.toList.head? = some (Value.map r) := by
          rw [List.head?_eq_getElem?, Array.getElem?_toList]; exact hv
        unfold lenOk at hok
        rw [e2] at hok
        cases hok
      obtain ⟨v', h1, h2⟩ := h.get hv
      simp only [h1]
      refine SemRel.bnd (rel_underlying t) ?_
      rintro B d _ hB ⟨rfl, hd⟩
      have hx := h2.mono hB
      cases d <;> try exact .stuck
      · cases hx <;> first | exact .stuck | exact .ret (.int _ _)
      · refine SemRel.bnd (rel_underlying _) ?_
        rintro C d _ hC ⟨rfl, hd⟩
        cases d <;> first | exact .stuck | exact .ret (.int _ _)
      · cases hx <;> first | exact .stuck | exact .ret (.int _ _) | exact absurd rfl (hnm _)
      · exact .ret (.int _ _)
      · cases hx <;> first | exact .stuck | exact .ret (.int _ _) | exact absurd rfl (hnm _)
      · cases hx <;> first | exact .stuck | exact .ret (.int _ _) | exact absurd rfl (hnm _)
theorem dead_bind {α β : Type} {s : Sem α} {f : α → Sem β} (h : ∀ a w b w1, (f a).run P w ≠ .ok b w1) (w : World) (b : β) (w1 : World) : (s >>= f).run P w ≠ .ok b w1 := by
  intro e
  rw [Sem.run_bind] at e
  generalize Sem.run P s w = r at e
  cases r with
  | ok x w2 => exact h _ _ _ _ e
  | halt x w2 => cases e
theorem zeros_rel (hσ : ∀ j, OneC (σ j)) (e : TypeId) (hz : zeroOk P e = true) (n n' : Nat) (hn : n ≤ n') {x x' : Array Value} (h : RAr σ A x x') {z z' : Value} (hzz : RV σ A z z') :
    CR σ A (x ++ Builtin.zeroCells z.cells n) (x' ++ Builtin.zeroCells z'.cells n') := by
  have hc := hzz.cells hσ
  have hl : n * z.cells.size ≤ n' * z'.cells.size := by rw [← hc.1]; exact Nat.mul_le_mul_right _ hn
  refine ⟨by simp [Builtin.zeroCells, h.1]; omega, fun i v hv => ?_⟩
  rw [Array.getElem?_append] at hv ⊢
  rw [← h.1]
  split at hv
  · rename_i hi
    rw [if_pos hi]
    exact h.get hv
  · rename_i hi
    rw [if_neg hi]
    unfold Builtin.zeroCells at hv ⊢
    rw [Array.getElem?_map] at hv ⊢
    have hlt : i - x.size < n * z.cells.size := by
      rcases Nat.lt_or_ge (i - x.size) (n * z.cells.size) with h1 | h1
      · exact h1
      · rw [Array.getElem?_eq_none (by simpa using h1)] at hv; cases hv
    rw [Array.getElem?_eq_getElem (by simpa using hlt)] at hv
    rw [Array.getElem?_eq_getElem (by simp; omega)]
    simp only [Array.getElem_range, Option.map_some, Option.some.injEq] at hv ⊢
    have hp : 0 < z.cells.size := by
      rcases Nat.eq_zero_or_pos z.cells.size with h0 | h0
      · rw [h0] at hlt; omega
      · exact h0
    refine ⟨_, rfl, ?_⟩
    subst hv
    rw [← hc.1]
    have h1 : (i - x.size) % z.cells.size < z.cells.size := Nat.mod_lt _ hp
    have h1' : (i - x.size) % z.cells.size < z'.cells.size := hc.1 ▸ h1
    rw [getElem!_pos z.cells _ h1, getElem!_pos z'.cells _ h1']
    exact hc.2 _ _ _ (Array.getElem?_eq_getElem h1) (Array.getElem?_eq_getElem h1')

/-- append, of a slice: in place; in new memory. -/
def appIn (size n m c : Nat) (b : Option Addr) (x : Value) : Sem Value := do
  let new ← Builtin.firstCells size m x
  match b with
  | some a => do
    storeCells (a.add (n * size)) new.toList
    pure (.slice b (n + m) c)
  | none => pure (.slice b (n + m) c)
def appNew (elem : TypeId) (size n m c : Nat) (b : Option Addr) (x : Value) : Sem Value := do
  let newCap ← choose (.appendCap (n + m) c elem)
  askRoom (newCap * (← typeInfo elem).bytes)
  let old ← Builtin.firstCells size n (.slice b n c)
  let new ← Builtin.firstCells size m x
  let rest := Builtin.zeroCells (← zeroValue elem).cells (newCap - (n + m))
  pure (.slice (some (← newRow elem (old ++ new ++ rest))) (n + m) newCap)
theorem not_int {d : TypeDesc} (hk : ∀ k, d ≠ .int k) : (match d with | .int _ => true | _ => false) = false := by
  cases d <;> first | rfl | exact absurd rfl (hk _)
theorem run_info {t : TypeId} {i : TypeInfo} (hi : P.info? t = some i) (w : World) : (typeInfo t).run P w = .ok i w := by
  simp [typeInfo, program, Sem.run, hi]
theorem run_size {t : TypeId} {i : TypeInfo} (hi : P.info? t = some i) (w : World) : (sizeOf t).run P w = .ok i.size w := by
  simp [sizeOf, run_info hi]
theorem app_in {t u : TypeId} {elem : TypeId} {i : TypeInfo} {d : TypeDesc} (hu : P.underlying t = some (.slice elem)) (hi : P.info? elem = some i) (hd : P.underlying u = some d) (hk : ∀ k, d ≠ .int k) (ty : TypeId) {n m c xc : Nat} {b xb : Option Addr} (h : n + m ≤ c) (w : World) :
    (Builtin.append_ #[t, u] ty #[.slice b n c, .slice xb m xc]).run P w = (appIn i.size n m c b (.slice xb m xc)).run P w := by
  have hm := not_int hk
  cases b <;> simp [Builtin.append_, appIn, run_underlying hu, run_underlying hd, run_size hi, run_info hi, hm, Builtin.lenOf, h]
theorem app_new {t u : TypeId} {elem : TypeId} {i : TypeInfo} {d : TypeDesc} (hu : P.underlying t = some (.slice elem)) (hi : P.info? elem = some i) (hd : P.underlying u = some d) (hk : ∀ k, d ≠ .int k) (ty : TypeId) {n m c xc : Nat} {b xb : Option Addr} (h : ¬ n + m ≤ c)
    (h1 : ¬ (9223372036854775807 < (n : Int) + (m : Int) ∧ i.bytes = 0)) (h2 : ¬ 281474976710656 < Builtin.nextslicecap (n + m) c * i.bytes) (w : World) :
    (Builtin.append_ #[t, u] ty #[.slice b n c, .slice xb m xc]).run P w = (appNew elem i.size n m c b (.slice xb m xc)).run P w := by
  have hm := not_int hk
  simp [Builtin.append_, appNew, run_underlying hu, run_underlying hd, run_size hi, run_info hi, hm, Builtin.lenOf, h, h1, h2]
theorem andThen_deadL {α β : Type} {r : Result α} {f : α → World → Result β} {b : β} {w1 : World} (h : ∀ a w, r ≠ .ok a w) : r.andThen f ≠ .ok b w1 := by
  cases r with
  | ok a w => exact absurd rfl (h a w)
  | halt x w => intro h; cases h
theorem app_dead {t u : TypeId} {elem : TypeId} {i : TypeInfo} {d : TypeDesc} (hu : P.underlying t = some (.slice elem)) (hi : P.info? elem = some i) (hd : P.underlying u = some d) (hk : ∀ k, d ≠ .int k) (ty : TypeId) {n m c xc : Nat} {b xb : Option Addr} (h : ¬ n + m ≤ c)
    (h1 : (9223372036854775807 < (n : Int) + (m : Int) ∧ i.bytes = 0) ∨ 281474976710656 < Builtin.nextslicecap (n + m) c * i.bytes) (w : World) (a : Value) (w1 : World) :
    (Builtin.append_ #[t, u] ty #[.slice b n c, .slice xb m xc]).run P w ≠ .ok a w1 := by
  have hm := not_int hk
  by_cases h2 : 9223372036854775807 < (n : Int) + (m : Int) ∧ i.bytes = 0
  · simp [Builtin.append_, run_underlying hu, run_underlying hd, run_size hi, run_info hi, hm, Builtin.lenOf, h, h2]
    exact andThen_deadL (dead_panic _ _)
  · have h3 := h1.resolve_left h2
    simp [Builtin.append_, run_underlying hu, run_underlying hd, run_size hi, run_info hi, hm, Builtin.lenOf, h, h2, h3]
    exact andThen_deadL fun _ _ => andThen_dead fun _ _ => by simp
theorem rel_append (hσ : ∀ j, OneC (σ j)) (ty : TypeId) {ts : Array TypeId} {vs vs' : Array Value} (hok : appOk P ts vs = true) (h : RAr σ A vs vs') :
    SemRel P σ (RV σ) A (Builtin.append_ ts ty vs) (Builtin.append_ ts ty vs') := by
  unfold appOk at hok
  split at hok
  case h_2 => cases hok
  rename_i t u b n c x hts hvs
  have e1 : ts = #[t, u] := by rw [← Array.toArray_toList (xs := ts), hts]
  have e2 : vs = #[.slice b n c, x] := by rw [← Array.toArray_toList (xs := vs), hvs]
  subst e1; subst e2
  obtain ⟨s', x', rfl⟩ : ∃ s' x', vs' = #[s', x'] := by
    have := h.1
    obtain ⟨l⟩ := vs'
    simp at this
    match l, this with
    | [p, q], _ => exact ⟨p, q, rfl⟩
  have hs : RV σ A (.slice b n c) s' := h.2 0 _ _ rfl rfl
  have hx : RV σ A x x' := h.2 1 _ _ rfl rfl
  rw [Bool.and_eq_true, Bool.and_eq_true] at hok
  obtain ⟨⟨hz, hu⟩, hcap⟩ := hok
  obtain ⟨xb, m, xc, rfl⟩ : ∃ xb m xc, x = .slice xb m xc := by
    split at hcap
    · exact ⟨_, _, _, rfl⟩
    · cases hcap
  simp only [Bool.or_eq_true, decide_eq_true_eq, beq_iff_eq, Option.isNone_iff_eq_none] at hcap
  obtain ⟨elem, htu⟩ : ∃ e, P.underlying t = some (.slice e) := by
    unfold elemZeroOk at hz
    split at hz
    · rename_i e he; exact ⟨e, he⟩
    · cases hz
  have hze := elem_of hz htu
  obtain ⟨i, hi⟩ : ∃ i, P.info? elem = some i := by
    unfold zeroOk at hze
    cases hh : P.info? elem with
    | none => rw [hh] at hze; cases hze
    | some i => exact ⟨i, rfl⟩
  cases hdu : P.underlying u with
  | none =>
    refine .dead fun w a w1 => ?_
    have hn : ∀ w, (underlying u).run P w = .halt (.stuck "no such type") w := by
      intro w; simp [underlying, program, Sem.run, hdu, Go.stuck]
    simp [Builtin.append_, run_underlying htu, run_size hi, hn]
  | some d =>
  have hk : ∀ k, d ≠ .int k := by
    rintro k rfl
    rw [hdu] at hu
    cases hu
  obtain ⟨xb', xc', rfl⟩ : ∃ xb' xc', x' = .slice xb' m xc' := by
    cases hx with
    | slice0 => exact ⟨_, _, rfl⟩
    | slice a n c c' h1 h2 h3 _ => exact ⟨_, _, rfl⟩
    | sliceE a b c' h1 _ => exact ⟨_, _, rfl⟩
  have hfirst : ∀ {F : Ren}, A.le F → SemRel P σ (RAr σ) F (Builtin.firstCells i.size m (.slice xb m xc)) (Builtin.firstCells i.size m (.slice xb' m xc')) := fun hF => rel_firstCells i.size m (hx.mono hF) ⟨_, _, rfl⟩
  by_cases hE : ∃ a a' c', b = some a ∧ n = 0 ∧ c = 0 ∧ (A.d a.block ∧ a.spot ≠ none) ∧ s' = .slice (some a') 0 c'
  · obtain ⟨a, a', c', rfl, rfl, rfl, ha, rfl⟩ := hE
    have hm : m = 0 := by
      rcases hcap with h2 | h2 | h2
      · omega
      · cases h2
      · rw [Bool.and_eq_true] at h2
        exact absurd (by simpa using h2.2) ha.2
    subst hm
    refine .convL (fun w a w1 e => by rw [app_in (n := 0) (m := 0) htu hi hdu hk ty (Nat.zero_le 0)] at e; exact e) (.convR (fun w a w1 e => by rw [app_in (n := 0) (m := 0) htu hi hdu hk ty (Nat.zero_le _)]; exact e) ?_)
    unfold appIn
    refine SemRel.bnd (R := fun _ p q => p = #[] ∧ q = #[]) ?_ ?_
    · have e1 : ∀ (b : Option Addr) (k : Nat), Builtin.firstCells i.size 0 (.slice b 0 k) = pure #[] := by
        intro b k
        unfold Builtin.firstCells
        cases b with
        | none => rfl
        | some a => simp only [Nat.zero_mul]; rfl
      rw [e1, e1]
      exact .ret ⟨rfl, rfl⟩
    · rintro F p q hF ⟨rfl, rfl⟩
      exact .ret (.sliceE a a' c' (hF.1 _ ha.1) ha.2)
  obtain ⟨b', c', rfl, hbc⟩ : ∃ b' c', s' = .slice b' n c' ∧ ((b = none ∧ b' = none ∧ c' = c) ∨ ∃ a, b = some a ∧ b' = some (A.addr a) ∧ (A.d a.block ∧ a.spot = none) ∧ c ≤ c' ∧ (c = 0 → c' = 0)) := by
    cases hs with
    | slice0 => exact ⟨_, _, rfl, .inl ⟨rfl, rfl, rfl⟩⟩
    | slice a n c c' h1 h2 h3 h4 => exact ⟨_, _, rfl, .inr ⟨a, rfl, rfl, ⟨h1, h4⟩, h2, h3⟩⟩
    | sliceE a a' c' h1 h4 => exact absurd ⟨a, a', c', rfl, rfl, rfl, ⟨h1, h4⟩, rfl⟩ hE
  by_cases hne : n + m ≤ c
  · have hne' : n + m ≤ c' := by rcases hbc with ⟨_, _, h1⟩ | ⟨_, _, _, _, h1, _⟩ <;> omega
    refine .convL (fun w a w1 e => by rw [app_in htu hi hdu hk ty hne] at e; exact e) (.convR (fun w a w1 e => by rw [app_in htu hi hdu hk ty hne']; exact e) ?_)
    unfold appIn
    refine SemRel.bnd (hfirst (Ren.le.refl A)) ?_
    intro F y y' hF hy
    rcases hbc with ⟨rfl, rfl, rfl⟩ | ⟨a, rfl, rfl, ha, h1, h2⟩
    · exact .ret (.slice0 _ _)
    · simp only []
      have haF := hF.1 _ ha.1
      refine SemRel.bnd (R := REq) ?_ ?_
      · rw [← hF.addr ha.1, ← Ren.addr_add]
        exact rel_storeCells _ _ (a.add (n * i.size)) 0 (by rw [Ren.add_block]; exact haF) (by simpa using hy)
      · rintro G _ _ hG _
        rw [← (hF.trans hG).addr ha.1]
        exact .ret (.slice a _ _ _ (hG.1 _ haF) h1 h2 ha.2)
  · have hcc : c' = c := by
      rcases hbc with ⟨_, _, h1⟩ | ⟨a, h0, _, _, _, h1⟩
      · exact h1
      · rcases hcap with h2 | h2 | h2
        · omega
        · rw [h0] at h2; cases h2
        · rw [Bool.and_eq_true] at h2
          have h3 : c = 0 := by simpa using h2.1
          have := h1 h3
          omega
    subst hcc
    by_cases hd : (9223372036854775807 < (n : Int) + (m : Int) ∧ i.bytes = 0) ∨ 281474976710656 < Builtin.nextslicecap (n + m) c' * i.bytes
    · exact .dead (app_dead htu hi hdu hk ty hne hd)
    · rw [not_or] at hd
      refine .convL (fun w a w1 e => by rw [app_new htu hi hdu hk ty hne hd.1 hd.2] at e; exact e) (.convR (fun w a w1 e => by rw [app_new htu hi hdu hk ty hne hd.1 hd.2]; exact e) ?_)
      unfold appNew
      refine SemRel.bind (R := fun _ p q => p = n + m ∧ n + m ≤ q) ?_ ?_
      · exact .choose rfl fun k => .pure ⟨by simp [Question.cut], by simp [Question.cut]⟩
      · rintro G p q hG ⟨rfl, hq⟩
        refine SemRel.bnd (rel_typeInfo elem) ?_
        rintro G2 i2 _ hG2 ⟨rfl, _⟩
        refine SemRel.bnd (rel_askRoom _ _) ?_
        rintro G3 _ _ hG3 _
        have hA3 := (hG.trans hG2).trans hG3
        refine SemRel.bnd (rel_firstCells i.size n (hs.mono hA3) ⟨_, _, rfl⟩) ?_
        intro G4 y y' hG4 hy
        refine SemRel.bnd (hfirst (hA3.trans hG4)) ?_
        intro G5 y2 y2' hG5 hy2
        refine SemRel.bnd (rel_zero elem hze) ?_
        intro G6 z z' hG6 hzz
        have hcr := zeros_rel hσ elem hze (n + m - (n + m)) (q - (n + m)) (by omega) (((hy.mono hG5).app hy2).mono hG6) hzz
        refine SemRel.bnd (rel_newRow2 elem hcr) ?_
        rintro G7 a _ hG7 ⟨ha, rfl⟩
        exact .ret (.slice a _ _ _ ha.1 hq (fun h => by omega) ha.2)
theorem rel_clear (hσ : ∀ j, OneC (σ j)) (ty : TypeId) {ts : Array TypeId} {vs vs' : Array Value} (hok : clearOk P ts vs = true) (h : RAr σ A vs vs') :
    SemRel P σ (RV σ) A (Builtin.clear_ ts ty vs) (Builtin.clear_ ts ty vs') := by
  unfold clearOk at hok
  split at hok
  case h_2 => cases hok
  rename_i t b n c ht hv
  have ets : ts = #[t] := Array.ext' (by simpa using ht)
  have evs : vs = #[.slice b n c] := Array.ext' (by simpa using hv)
  subst ets evs
  obtain ⟨v', h1, h2⟩ := h.get (i := 0) (v := .slice b n c) (by simp)
  have evs' : vs' = #[v'] := by
    have := h.1
    simp at this
    refine Array.ext (by simp [← this]) fun i hi hj => ?_
    simp at hj
    subst hj
    have e := Array.getElem?_eq_getElem hi
    rw [h1] at e
    simpa using e.symm
  subst evs'
  unfold Builtin.clear_
  simp only [List.getElem?_toArray, List.getElem?_cons_zero]
  refine SemRel.bnd (rel_underlying t) ?_
  rintro B d _ hB ⟨rfl, hd⟩
  have h3 := h2.mono hB
  have fin : ∀ {C : Ren} {s s' : Sem Unit}, SemRel P σ REq C s s' → SemRel P σ (RV σ) C (do s; pure (.tuple #[])) (do s'; pure (.tuple #[])) := fun hs =>
    SemRel.bnd hs fun C a b hC _ => .ret (.tuple _ _ rfl fun i v v' h => by simp at h)
  have one : ∀ {C : Ren}, SemRel P σ (RV σ) C (pure (.tuple #[]) : Sem Value) (pure (.tuple #[])) := .ret (.tuple _ _ rfl fun i v v' h => by simp at h)
  cases h3 with
  | slice0 => cases d <;> exact one
  | slice a _ _ c' ha hc1 hc2 _ =>
    cases n with
    | zero => cases d <;> exact one
    | succ n =>
      cases d <;> first | exact fin .stuck | exact .dead (dead_left fun w a w1 h => by cases h) | skip
      rename_i elem
      have hze := elem_of hok hd
      skip
      refine SemRel.bnd (rel_zeroValue elem) ?_
      rintro C z _ hC ⟨rfl, hz⟩
      unfold zeroOk at hze
      rw [hz] at hze
      have e : C.addr a = B.addr a := hC.addr ha
      rw [← e]
      refine SemRel.bnd (R := REq) ?_ fun D _ _ _ _ => one
      exact rel_storeCells _ _ a 0 (hC.1 _ ha) (by rw [Array.toArray_toList]; exact cr_zero (zero_cells hσ (closed_rv hze)) ((n + 1) * z.cells.size))
  | sliceE a b c' ha _ => cases d <;> exact one
end
end Go.Proofs.YtfppinabdalblaaGreat
