/- Reflection, 25: other numbers for those that are not looked into; what is needed no more is dropped; loops by induction. No program is named here. -/
import Derived.Test.YtfppinabdalblaaGreatRefl23
namespace Go.Proofs.YtfppinabdalblaaGreat
open Go.RowKit
set_option linter.unusedVariables false
set_option linter.unusedSimpArgs false

/-- May the first value be taken for the second one? ok: numbers that stand for the same on both sides; pr: pairs that are known. -/
def weakV (ok : Nat → Bool) (pr : List (Value × Value)) : Nat → Value → Value → Bool
  | 0, _, _ => false
  | n + 1, v, v2 => pr.any (fun p => beqV 4 v p.1 && beqV 4 v2 p.2) ||
    match v2 with
    | .complex .f64 _ _ => (match v with | .agg _ | .tuple _ => false | _ => true)
    | .complex .f32 b 0 => (match v with | .complex .f32 c 0 => b == c | _ => false)
    | .float k j => (match v with | .float _ i => i == j && ok j | _ => false)
    | .agg x2 => (match v with | .agg x => x.size == x2.size && (x.toList.zip x2.toList).all (fun p => weakV ok pr n p.1 p.2) | _ => false)
    | .tuple x2 => (match v with | .tuple x => x.size == x2.size && (x.toList.zip x2.toList).all (fun p => weakV ok pr n p.1 p.2) | _ => false)
    | .func (.func f2) x2 y2 => (match v with | .func (.func f) x y => f == f2 && (x.size == x2.size && (x.toList.zip x2.toList).all (fun p => weakV ok pr n p.1 p.2)) && (y.size == y2.size && (y.toList.zip y2.toList).all (fun p => weakV ok pr n p.1 p.2)) | _ => false)
    | .iface t2 u2 => (match v with | .iface t u => t == t2 && weakV ok pr n u u2 | _ => false)
    | .bool _ | .int _ _ | .string _ | .pointer _ | .slice _ _ _ | .nilFunc | .nilIface | .map _ => beqV 12 v v2
    | _ => false
theorem zip_all {f : Value → Value → Bool} : ∀ {l l2 : List Value}, (l.zip l2).all (fun p => f p.1 p.2) = true → ∀ {i : Nat} {v v2 : Value}, l[i]? = some v → l2[i]? = some v2 → f v v2 = true
  | [], _, _, i, v, v2, h1, _ => by simp at h1
  | _ :: _, [], _, i, v, v2, _, h2 => by simp at h2
  | x :: l, y :: l2, h, 0, v, v2, h1, h2 => by
    simp only [List.zip_cons_cons, List.all_cons, Bool.and_eq_true] at h
    simp at h1 h2
    subst h1 h2
    exact h.1
  | x :: l, y :: l2, h, i + 1, v, v2, h1, h2 => by
    simp only [List.zip_cons_cons, List.all_cons, Bool.and_eq_true] at h
    exact zip_all h.2 (by simpa using h1) (by simpa using h2)
section
variable {P : Program} {σ σ2 : Nat → Value} {W0 : World} {H G : Nat}
/-- What the check of pairs, and of numbers, asks. -/
structure WeakOK (σ σ2 : Nat → Value) (ok : Nat → Bool) (pr : List (Value × Value)) : Prop where
  one : ∀ j, OneC (σ j)
  same : ∀ j, ok j = true → σ2 j = σ j
  zero : σ2 0 = σ 0
  pairs : ∀ p ∈ pr, ∀ A v', RV σ A p.1 v' → RV σ2 A p.2 v'
theorem RV.one {A : Ren} {v v' : Value} (hσ : ∀ j, OneC (σ j)) (h : RV σ A v v') (hv : ∀ x, v ≠ .agg x ∧ v ≠ .tuple x) : OneC v' := by
  cases h with
  | tok k j => exact hσ j
  | any x y v' ho => exact ho
  | agg x x' _ _ => exact absurd rfl (hv x).1
  | tuple x x' _ _ => exact absurd rfl (hv x).2
  | _ => trivial
theorem weakV_rv {ok : Nat → Bool} {pr : List (Value × Value)} (K : WeakOK σ σ2 ok pr) : ∀ (n : Nat) {v v2 v' : Value} {A : Ren}, weakV ok pr n v v2 = true → RV σ A v v' → RV σ2 A v2 v'
  | 0, v, v2, v', A, h, _ => by simp [weakV] at h
  | n + 1, v, v2, v', A, h, hr => by
    have key : ∀ {x x2 x' : Array Value}, x.size = x2.size → (x.toList.zip x2.toList).all (fun p => weakV ok pr n p.1 p.2) = true → x.size = x'.size → (∀ (i : Nat) (v v' : Value), x[i]? = some v → x'[i]? = some v' → RV σ A v v') →
        x2.size = x'.size ∧ ∀ (i : Nat) (v v' : Value), x2[i]? = some v → x'[i]? = some v' → RV σ2 A v v' := by
      intro x x2 x' hs hz h1 h2
      refine ⟨hs ▸ h1, fun i u u' hu hu' => ?_⟩
      have hi : i < x.size := by rw [hs]; exact (Array.getElem?_eq_some_iff.1 hu).1
      have hx := Array.getElem?_eq_getElem hi
      exact weakV_rv K n (zip_all hz (by rw [Array.getElem?_toList]; exact hx) (by rw [Array.getElem?_toList]; exact hu)) (h2 i _ u' hx hu')
    unfold weakV at h
    rw [Bool.or_eq_true] at h
    rcases h with h | h
    · rw [List.any_eq_true] at h
      obtain ⟨p, hp, h⟩ := h
      rw [Bool.and_eq_true] at h
      have e1 := beqV_eq h.1
      have e2 := beqV_eq h.2
      subst e1 e2
      exact K.pairs p hp A v' hr
    split at h
    · refine .any _ _ _ (hr.one K.one fun x => ⟨fun e => ?_, fun e => ?_⟩) <;> (subst e; simp at h)
    · split at h
      case h_2 => cases h
      have e := eq_of_beq h
      subst e
      cases hr with
      | long _ c' L hd ht hs => exact .long _ c' L hd ht (by rw [K.zero]; exact hs)
      | grow _ _ m r c hk hg => exfalso; omega
      | gptr _ _ m i r c hk hg h1 h2 => exfalso; omega
      | lptr _ _ j p hk hd ht hp => exfalso; omega
    · split at h
      case h_2 => cases h
      rw [Bool.and_eq_true] at h
      have e := eq_of_beq h.1
      subst e
      cases hr
      have := RV.tok (σ := σ2) (A := A) ‹_› ‹_›
      rw [← K.same _ h.2]
      exact .tok _ _
    · split at h
      case h_2 => cases h
      rw [Bool.and_eq_true] at h
      cases hr with
      | agg _ x' h1 h2 => obtain ⟨k1, k2⟩ := key (by simpa using h.1) h.2 h1 h2; exact .agg _ x' k1 k2
    · split at h
      case h_2 => cases h
      rw [Bool.and_eq_true] at h
      cases hr with
      | tuple _ x' h1 h2 => obtain ⟨k1, k2⟩ := key (by simpa using h.1) h.2 h1 h2; exact .tuple _ x' k1 k2
    · split at h
      case h_2 => cases h
      simp only [Bool.and_eq_true] at h
      obtain ⟨⟨e, h3, h4⟩, h5, h6⟩ := h
      have e := eq_of_beq e
      subst e
      cases hr with
      | func _ _ x' _ y' h1 h2 k1 k2 =>
        obtain ⟨m1, m2⟩ := key (by simpa using h3) h4 h1 h2
        obtain ⟨m3, m4⟩ := key (by simpa using h5) h6 k1 k2
        exact .func _ _ _ _ _ m1 m2 m3 m4
    · split at h
      case h_2 => cases h
      rw [Bool.and_eq_true] at h
      have e := eq_of_beq h.1
      subst e
      cases hr with
      | iface _ _ v2' h1 => exact .iface _ _ v2' (weakV_rv K n h.2 h1)
    all_goals first
      | (have e := beqV_eq h
         subst e
         cases hr <;> constructor <;> assumption)
      | (cases h; done)
/-- Numbers at places that are told apart. -/
def spX (d : Nat) : Value := if d = 0 then .int .u64 0 else .float .f64 (d - 1)
theorem spX_rv {σ : Nat → Value} {A : Ren} (d : Nat) : RV σ A (spX d) (spV σ d) := by
  unfold spX spV
  split
  · exact .int _ _
  · exact .tok _ _
theorem spX_eq {σ : Nat → Value} {A : Ren} {d : Nat} {v : Value} (h : RV σ A (spX d) v) : v = spV σ d := by
  unfold spX at h
  unfold spV
  split at h
  · rename_i h0; rw [if_pos h0]; cases h; rfl
  · rename_i h0; rw [if_neg h0]; cases h; rfl
def weakD (ok : Nat → Bool) (pr : List (Value × Value)) (d d2 : Nat) : Bool := weakV ok pr 2 (spX d) (spX d2)
def weakE (ok : Nat → Bool) (pr : List (Value × Value)) (e e2 : Nat) : Bool :=
  e == e2 && (List.range 4).all (fun j => spD e j == 0 || (decide (spM e ≤ j) || ok (spD e j - 1))) && (List.range 4).all (fun j => decide (spM e ≤ j) || ok (1 + j)) ||
  (spM e == spM e2 && (List.range 4).all (fun j => decide (spM e ≤ j) || (ok (1 + j) && weakD ok pr (spD e j) (spD e2 j))))
def weakO (ok : Nat → Bool) (pr : List (Value × Value)) : Obj → Obj → Bool
  | .cells cs e fz, .cells cs2 e2 fz2 => cs.size == cs2.size && fz == fz2 && weakE ok pr e e2 && (cs.toList.zip cs2.toList).all (fun p => weakV ok pr 12 p.1 p.2)
  | .pending cs c, .pending cs2 c2 => cs.isEmpty && cs2.isEmpty && c == c2
  | _, _ => false
theorem weakE_tail {ok : Nat → Bool} {pr : List (Value × Value)} (K : WeakOK σ σ2 ok pr) {e e2 n : Nat} {cs : Array Value} (h : weakE ok pr e e2 = true) (ht : TailS σ e n cs) : TailS σ2 e2 n cs := by
  have key : spM e = spM e2 ∧ ∀ j, j < spM e → σ2 (1 + j) = σ (1 + j) ∧ spV σ2 (spD e2 j) = spV σ (spD e j) := by
    unfold weakE at h
    rw [Bool.or_eq_true] at h
    rcases h with h | h
    · simp only [Bool.and_eq_true, List.all_eq_true, List.mem_range, Bool.or_eq_true, beq_iff_eq, decide_eq_true_eq] at h
      obtain ⟨⟨e1, h1⟩, h2⟩ := h
      subst e1
      refine ⟨rfl, fun j hj => ?_⟩
      have h4 : j < 4 := Nat.lt_of_lt_of_le hj ht.few
      refine ⟨K.same _ ((h2 j h4).resolve_left (by omega)), ?_⟩
      unfold spV
      rcases h1 j h4 with h5 | h5 | h5
      · rw [if_pos h5, if_pos h5]
      · omega
      · split
        · rfl
        · exact K.same _ h5
    · simp only [Bool.and_eq_true, List.all_eq_true, List.mem_range, Bool.or_eq_true, beq_iff_eq, decide_eq_true_eq] at h
      refine ⟨h.1, fun j hj => ?_⟩
      have h4 : j < 4 := Nat.lt_of_lt_of_le hj ht.few
      obtain ⟨h1, h2⟩ := (h.2 j h4).resolve_left (by omega)
      refine ⟨K.same _ h1, ?_⟩
      exact (spX_eq (weakV_rv K 2 (A := ⟨id, fun _ => False, fun _ => False, fun _ _ _ => False⟩) h2 (spX_rv _))).symm
  refine ⟨by rw [← key.1]; exact ht.few, fun i hi hl hno => ht.zero i hi hl fun j hj e9 => hno j (by rw [← key.1]; exact hj) (by rw [(key.2 j hj).1]; exact e9), fun j hj => ?_⟩
  rw [← key.1] at hj
  obtain ⟨p, q1, q2, q3, q4, q5⟩ := ht.spot j hj
  refine ⟨p, by rw [(key.2 j hj).1]; exact q1, q2, q3, by rw [(key.2 j hj).2]; exact q4, fun k hk => ?_⟩
  rw [(key.2 j hj).1, (key.2 k (by omega)).1]
  exact q5 k hk
/-- The lesser state is what the greater one may be taken for. -/
def heapShr (ok : Nat → Bool) (pr : List (Value × Value)) (m : List Nat) (w : World) (n : Nat) : List Nat → List Obj → Bool
  | [], [] => true
  | i :: l, o :: h => (match w.heap[i]? with | some o1 => weakO ok pr o1 (mapO (gL m) o) | none => false) && lowO n o && heapShr ok pr m w n l h
  | _, _ => false
theorem heapShr_at {ok : Nat → Bool} {pr : List (Value × Value)} {m : List Nat} {w : World} {n : Nat} : ∀ {l : List Nat} {h : List Obj}, heapShr ok pr m w n l h = true → l.length = h.length ∧ ∀ (j : Nat) (o : Obj), h[j]? = some o → ∃ i o1, l[j]? = some i ∧ w.heap[i]? = some o1 ∧ weakO ok pr o1 (mapO (gL m) o) = true ∧ lowO n o = true
  | [], [], _ => ⟨rfl, fun j o h => by simp at h⟩
  | i :: l, o :: h, hc => by
    simp only [heapShr, Bool.and_eq_true] at hc
    obtain ⟨⟨h1, h2⟩, h3⟩ := hc
    obtain ⟨k1, k2⟩ := heapShr_at h3
    refine ⟨by simp [k1], fun j p hp => ?_⟩
    cases j with
    | zero =>
      simp at hp
      subst hp
      split at h1
      · rename_i o1 ho1; exact ⟨i, o1, rfl, ho1, h1, h2⟩
      · cases h1
    | succ j => exact k2 j p (by simpa using hp)
  | [], _ :: _, hc => by cases hc
  | _ :: _, [], hc => by cases hc
def noPend (w : World) : Bool := w.heap.toList.all fun o => match o with | .pending cs _ => cs.isEmpty | _ => true
theorem WR.noG {D : List Nat} {A : Ren} {w w' : World} (h : WR σ W0 H ⟨[], D, []⟩ A w w') (hn : noPend w = true) {b n : Nat} {v : Value} (hg : A.g b n v) : False := by
  obtain ⟨_, cs, e, k1, k2, _⟩ := h.grow _ _ _ hg
  unfold noPend at hn
  rw [List.all_eq_true] at hn
  have := hn _ (by rw [← Array.getElem?_toList] at k1; exact List.mem_of_getElem? k1)
  simp only [Array.isEmpty_iff_size_eq_zero] at this
  exact k2 this
theorem WR.shrink {ok : Nat → Bool} {pr : List (Value × Value)} (K : WeakOK σ σ2 ok pr) {D : List Nat} {A : Ren} {w w' : World} (h : WR σ W0 H ⟨[], D, []⟩ A w w') {m : List Nat} {hp : List Obj} (hc : heapShr ok pr m w m.length m hp = true) (hs : strict m = true) (hn : noPend w = true) :
    WR σ2 W0 H ⟨[], D, []⟩ (A.cut (gL m) m.length) (mkW hp) w' := by
  obtain ⟨hl, hat⟩ := heapShr_at hc
  have at' : ∀ (j : Nat) (o : Obj), (mkW hp).heap[j]? = some o → j < m.length ∧ (∃ o1, w.heap[gL m j]? = some o1 ∧ weakO ok pr o1 (mapO (gL m) o) = true) ∧ lowO m.length o = true := by
    intro j o ho
    have ho' : hp[j]? = some o := by simpa [mkW] using ho
    obtain ⟨i, o1, h1, h2, h3, h4⟩ := hat j o ho'
    have hj : j < m.length := (List.getElem?_eq_some_iff.1 h1).1
    have e : gL m j = i := by unfold gL; rw [List.getD_eq_getElem?_getD, h1]; rfl
    rw [e]
    exact ⟨hj, ⟨o1, h2, h3⟩, h4⟩
  have no9 : ∀ (o o1 : Obj), lowO m.length o = true → weakO ok pr o1 (mapO (gL m) o) = true → o1 ≠ .pending #[] 9 := by
    intro o o1 ho hw e
    subst e
    cases o with
    | pending cs c =>
      simp only [mapO, weakO, Bool.and_eq_true, beq_iff_eq] at hw
      obtain ⟨⟨_, h2⟩, h3⟩ := hw
      simp only [lowO, h2, if_true] at ho
      rw [← h3] at ho
      simp at ho
    | cells cs e' fz => simp [mapO, weakO] at hw
    | _ => cases ho
  have has : ∀ (j : Nat) (o : Obj), (mkW hp).heap[j]? = some o → A.d (gL m j) := by
    intro j o ho
    obtain ⟨_, ⟨o1, h2, h3⟩, h4⟩ := at' j o ho
    rcases h.full _ (Array.getElem?_eq_some_iff.1 h2).1 with k | k
    · exact k
    · rw [h2] at k
      exact absurd (Option.some.inj k) (no9 o o1 h4 h3)
  refine { tape := rfl, size := fun j hj => ?_, full := fun j hj => ?_, lt := fun j hj => h.lt _ hj.2, inj := fun b c hb hc e => strict_inj hs hb.1 hc.1 (h.inj _ _ hb.2 hc.2 e), obj := fun j o ho => ?_, ext := h.ext, hle := h.hle, loops := fun g hg => (by cases hg), resv := fun p hp => (by cases hp), resd := fun j hd hj => ?_, dead := fun k hk => ?_, long := fun b hb => ?_, grow := fun b n u hb => (h.noG hn hb.2).elim, gun := fun b n u v hb => (h.noG hn hb.2).elim, gone := fun b n u b2 n2 u2 hb => (h.noG hn hb.2).elim }
  · show j < (mkW hp).heap.size
    have : (mkW hp).heap.size = hp.length := by simp [mkW]
    rw [this, ← hl]; exact hj.1
  · have hj2 : (mkW hp).heap[j]? = some (mkW hp).heap[j] := Array.getElem?_eq_getElem hj
    exact .inl ⟨(at' j _ hj2).1, has j _ hj2⟩
  · obtain ⟨h1, ⟨o1, h2, hwk⟩, h3⟩ := at' j o ho
    rcases h.obj _ _ h2 with ⟨c, e, k1⟩ | ⟨cs, e, fz, cs', e', fz', k1, k2, k3, k4⟩
    · cases o with
      | pending cs c => exact .inl ⟨_, _, rfl⟩
      | cells cs e2 fz => subst k1; simp [mapO, weakO] at hwk
      | _ => cases h3
    · cases o with
      | pending cs c => exact .inl ⟨_, _, rfl⟩
      | cells cs2 e2 fz2 =>
        subst k1
        simp only [mapO, weakO, Bool.and_eq_true, beq_iff_eq] at hwk
        obtain ⟨⟨⟨q1, q2⟩, q3⟩, q4⟩ := hwk
        subst q2
        have q1 : cs.size = cs2.size := by simpa using q1
        have h3 : cs2.toList.all (lowV m.length 12) = true := h3
        refine .inr ⟨cs2, e2, fz, cs', e', fz', rfl, k2, ⟨by rw [← q1]; exact k3.1, fun i v hv => ?_⟩, by
          rcases k4 with k4 | k4
          · exact .inl k4
          · exact .inr (by rw [← q1]; exact k4)⟩
        have hi : i < cs.size := by rw [q1]; exact (Array.getElem?_eq_some_iff.1 hv).1
        obtain ⟨v', m1, m2⟩ := k3.2 i _ (Array.getElem?_eq_getElem hi)
        have hv2 : (cs2.toList.map (mapV (gL m) 12))[i]? = some (mapV (gL m) 12 v) := by
          rw [List.getElem?_map]
          rw [← Array.getElem?_toList] at hv
          rw [hv]
          rfl
        have hwk := zip_all q4 (by rw [Array.getElem?_toList]; exact Array.getElem?_eq_getElem hi) (by simpa using hv2)
        exact ⟨v', m1, cut_rv 12 (all_get h3 hv) (weakV_rv K 12 hwk m2)⟩
      | _ => cases h3
  · exfalso
    obtain ⟨h1, h2, h3⟩ := at' j _ hj
    simp [lowO] at h3
  · obtain ⟨k1, k2, k3⟩ := h.dead k hk
    exact ⟨k1, k2, fun b hb => k3 _ hb.2⟩
  · have hb1 : b < m.length := hb.1
    have hb2 : b < (mkW hp).heap.size := by simp [mkW]; omega
    obtain ⟨q1, cs, e, fz, ⟨q2, q3⟩, L, cs', e', fz', q4, q5, q6, q7, q8⟩ := h.long _ hb.2
    have hj2 : (mkW hp).heap[b]? = some ((mkW hp).heap[b]'hb2) := Array.getElem?_eq_getElem _
    generalize (mkW hp).heap[b]'hb2 = o at hj2
    obtain ⟨h1, ⟨o1, h2, hwk⟩, h3⟩ := at' b o hj2
    rw [q2] at h2
    cases h2
    cases o with
    | cells cs2 e2 fz2 =>
      simp only [mapO, weakO, Bool.and_eq_true, beq_iff_eq] at hwk
      obtain ⟨⟨⟨m1, m2⟩, m3⟩, m4⟩ := hwk
      have m1 : cs.size = cs2.size := by simpa using m1
      exact ⟨⟨hb.1, q1⟩, cs2, e2, fz2, ⟨hj2, by rw [← m1]; exact q3⟩, L, cs', e', fz', by rw [K.zero]; exact q4, q5, q6, q7, weakE_tail K m3 q8⟩
    | pending c1 c2 => simp [mapO, weakO] at hwk
    | _ => cases h3
/-- One state may be taken for another one. -/
def Weak (σ σ2 : Nat → Value) (W0 : World) (H G : Nat) (l : List Value) (h : List Obj) (l2 : List Value) (h2 : List Obj) : Prop :=
  ∀ (D0 D : List Nat) (A : Ren) (a' : Act) (w' : World), RAct σ A D0 D (mkA l) a' → GR G A → WR σ W0 H ⟨[], D, []⟩ A (mkW h) w' → ∃ B, RAct σ2 B D0 D (mkA l2) a' ∧ GR G B ∧ WR σ2 W0 H ⟨[], D, []⟩ B (mkW h2) w'
def shrOk (ok : Nat → Bool) (pr : List (Value × Value)) (G : Nat) (m : List Nat) (l : List Value) (h : List Obj) (l2 : List Value) (h2 : List Obj) : Bool :=
  heapShr ok pr m (mkW h) m.length m h2 && strict m && noPend (mkW h) && (l.length == l2.length && l2.all (lowV m.length 12) && (l.zip (l2.map (mapV (gL m) 12))).all (fun p => weakV ok pr 12 p.1 p.2)) && (List.range G).all (fun j => decide (j < m.length) && gL m j == j)
theorem weak_of {ok : Nat → Bool} {pr : List (Value × Value)} (K : WeakOK σ σ2 ok pr) {m : List Nat} {l : List Value} {h : List Obj} {l2 : List Value} {h2 : List Obj} (hc : shrOk ok pr G m l h l2 h2 = true) : Weak σ σ2 W0 H G l h l2 h2 := by
  unfold shrOk at hc
  simp only [Bool.and_eq_true, beq_iff_eq] at hc
  obtain ⟨⟨⟨⟨c1, c2⟩, c3⟩, ⟨c4, c5⟩, c6⟩, c7⟩ := hc
  intro D0 D A a' w' ha hG hw
  refine ⟨A.cut (gL m) m.length, ⟨⟨?_, fun i u u' hu hu' => ?_⟩, rfl, ha.2.2⟩, fun g hg => ?_, hw.shrink K c1 c2 c3⟩
  · have := ha.1.1
    simp only [mkA, List.size_toArray] at this ⊢
    omega
  · have hu2 : l2[i]? = some u := by simpa [mkA] using hu
    have hi : i < l.length := by rw [c4]; exact (List.getElem?_eq_some_iff.1 hu2).1
    have hl := List.getElem?_eq_getElem hi
    have hlow : lowV m.length 12 u = true := by
      rw [List.all_eq_true] at c5
      exact c5 u (List.mem_of_getElem? hu2)
    refine cut_rv 12 hlow (weakV_rv K 12 (zip_all c6 hl (by rw [List.getElem?_map, hu2]; rfl)) (ha.1.2 i _ u' (by simp [mkA]) hu'))
  · rw [List.all_eq_true] at c7
    have := c7 g (List.mem_range.2 hg)
    simp only [Bool.and_eq_true, decide_eq_true_eq] at this
    have e4 : gL m g = g := eq_of_beq this.2
    exact ⟨⟨this.1, by rw [e4]; exact (hG g hg).1⟩, by show A.f (gL m g) = g; rw [e4]; exact (hG g hg).2⟩
theorem pairs_nil : ∀ p ∈ ([] : List (Value × Value)), ∀ A v', RV σ A p.1 v' → RV σ2 A p.2 v' := fun p hp => by cases hp
theorem pairs_tok {pr : List (Value × Value)} {a b : Nat} (h : σ a = σ2 b) (hp : ∀ p ∈ pr, ∀ A v', RV σ A p.1 v' → RV σ2 A p.2 v') : ∀ p ∈ (kf a, kf b) :: pr, ∀ A v', RV σ A p.1 v' → RV σ2 A p.2 v' := by
  intro p hq A v' hr
  rcases List.mem_cons.1 hq with rfl | hq
  · have hr : RV σ A (kf a) v' := hr
    have e : v' = σ a := by cases hr; rfl
    rw [e, h]
    exact .tok _ _
  · exact hp p hq A v' hr
theorem pairs_int {pr : List (Value × Value)} {k : IntKind} {n : Int} {b : Nat} (h : σ2 b = .int k n) (hp : ∀ p ∈ pr, ∀ A v', RV σ A p.1 v' → RV σ2 A p.2 v') : ∀ p ∈ (.int k n, kf b) :: pr, ∀ A v', RV σ A p.1 v' → RV σ2 A p.2 v' := by
  intro p hq A v' hr
  rcases List.mem_cons.1 hq with rfl | hq
  · have hr : RV σ A (.int k n) v' := hr
    cases hr
    rw [← h]
    exact .tok _ _
  · exact hp p hq A v' hr
theorem sgV_pre {l l2 : List Value} {n : Nat} (h : l.take n = l2.take n) {j : Nat} (hj : decide (j < n) = true) : sgV l2 j = sgV l j := by
  have hj := of_decide_eq_true hj
  have h1 : (l.take n)[j]? = (l2.take n)[j]? := by rw [h]
  rw [List.getElem?_take, List.getElem?_take, if_pos hj, if_pos hj] at h1
  unfold sgV
  rw [h1]
theorem weakOK_pre {l l2 : List Value} (hl : TokL l) {n : Nat} (hn : decide (0 < n) = true) (h : l.take n = l2.take n) {pr : List (Value × Value)} (hp : ∀ p ∈ pr, ∀ A v', RV (sgV l) A p.1 v' → RV (sgV l2) A p.2 v') : WeakOK (sgV l) (sgV l2) (fun j => decide (j < n)) pr :=
  ⟨sgV_one hl, fun j hj => sgV_pre h hj, sgV_pre h hn, hp⟩
/-- A piece of a run at the outermost frame; the numbers that are not looked into may be others behind it. -/
def Seg2 (P : Program) (σ σ2 : Nat → Value) (W0 : World) (H G : Nat) (t : Task) (l : List Value) (h : List Obj) (e : Ex) (l1 : List Value) (h1 : List Obj) : Prop :=
  ∀ (D0 D : List Nat) (A : Ren) (a' : Act) (w' : World), (∀ k ∈ D0, k ∈ D) → RAct σ A D0 D (mkA l) a' → GR G A → WR σ W0 H ⟨[], D, []⟩ A (mkW h) w' → ∀ Q : Exit → Act → World → Prop,
    (∀ B D1 a1' w1', (∀ k ∈ D, k ∈ D1) → RAct σ2 B D0 D1 (mkA l1) a1' → GR G B → WR σ2 W0 H ⟨[], D1, []⟩ B (mkW h1) w1' → Q e.of a1' w1') → TaskWp none P t Q a' w'
theorem Seg1.to2 {t : Task} {l l1 : List Value} {h h1 : List Obj} {e : Ex} (hs : Seg1 P σ W0 H G #[] t (mkA l) (mkW h) e #[] (mkA l1) (mkW h1)) : Seg2 P σ σ W0 H G t l h e l1 h1 :=
  fun D0 D A a' w' h0 ha hG hw Q hQ => hs D0 D A a' w' #[] h0 RAr.nil ha hG hw Q fun B D1 a1' w1' hD _ ha1 hG1 hw1 => hQ B D1 a1' w1' hD ha1 hG1 hw1
theorem Weak.ahead {σ3 : Nat → Value} {t : Task} {l l2 l1 : List Value} {h h2 h1 : List Obj} {e : Ex} (hk : Weak σ σ2 W0 H G l h l2 h2) (hs : Seg2 P σ2 σ3 W0 H G t l2 h2 e l1 h1) : Seg2 P σ σ3 W0 H G t l h e l1 h1 :=
  fun D0 D A a' w' h0 ha hG hw Q hQ => by
    obtain ⟨B, k1, k2, k3⟩ := hk D0 D A a' w' ha hG hw
    exact hs D0 D B a' w' h0 k1 k2 k3 Q hQ
theorem Seg2.weak {σ3 : Nat → Value} {t : Task} {l l2 l1 : List Value} {h h2 h1 : List Obj} {e : Ex} (hs : Seg2 P σ σ2 W0 H G t l h e l1 h1) (hk : Weak σ2 σ3 W0 H G l1 h1 l2 h2) : Seg2 P σ σ3 W0 H G t l h e l2 h2 :=
  fun D0 D A a' w' h0 ha hG hw Q hQ => hs D0 D A a' w' h0 ha hG hw Q fun B D1 a1' w1' hD ha1 hG1 hw1 => by
    obtain ⟨C, k1, k2, k3⟩ := hk D0 D1 B a1' w1' ha1 hG1 hw1
    exact hQ C D1 a1' w1' hD k1 k2 k3
theorem Seg2.two {σ3 : Nat → Value} {t1 t2 t : Task} {l l1 l2 : List Value} {h h1 h2 : List Obj} {e : Ex} (s1 : Seg2 P σ σ2 W0 H G t1 l h .normal l1 h1) (s2 : Seg2 P σ2 σ3 W0 H G t2 l1 h1 e l2 h2)
    (hc : ∀ (Q : Exit → Act → World → Prop) (a' : Act) (w' : World), TaskWp none P t1 (Exit.then (TaskWp none P t2 Q) Q) a' w' → TaskWp none P t Q a' w') : Seg2 P σ σ3 W0 H G t l h e l2 h2 :=
  fun D0 D A a' w' h0 ha hG hw Q hQ => hc Q a' w' (s1 D0 D A a' w' h0 ha hG hw _ fun B D1 a1' w1' hD ha1 hG1 hw1 =>
    s2 D0 D1 B a1' w1' (fun k hk => hD k (h0 k hk)) ha1 hG1 hw1 Q fun C D2 a2' w2' hD2 ha2 hG2 hw2 => hQ C D2 a2' w2' (fun k hk => hD2 k (hD k hk)) ha2 hG2 hw2)
theorem Seg2.stop {t1 t : Task} {l l1 : List Value} {h h1 : List Obj} {e f : Ex} (s1 : Seg2 P σ σ2 W0 H G t1 l h e l1 h1)
    (hc : ∀ (Q : Exit → Act → World → Prop) (a' : Act) (w' : World), TaskWp none P t1 (fun x a w => x = e.of ∧ Q f.of a w) a' w' → TaskWp none P t Q a' w') : Seg2 P σ σ2 W0 H G t l h f l1 h1 :=
  fun D0 D A a' w' h0 ha hG hw Q hQ => hc Q a' w' (s1 D0 D A a' w' h0 ha hG hw _ fun B D1 a1' w1' hD ha1 hG1 hw1 => ⟨rfl, hQ B D1 a1' w1' hD ha1 hG1 hw1⟩)
theorem Seg2.seqP {σ3 : Nat → Value} {c : Code} (hc : isSeq c = true) {l l1 l2 : List Value} {h h1 h2 : List Obj} {e : Ex} (s1 : Seg2 P σ σ2 W0 H G (.code (seqL c)) l h .normal l1 h1) (s2 : Seg2 P σ2 σ3 W0 H G (.code (seqR c)) l1 h1 e l2 h2) : Seg2 P σ σ3 W0 H G (.code c) l h e l2 h2 := by
  cases c with
  | seq x y => exact s1.two s2 fun Q a' w' h => wpIn_seq h
  | _ => cases hc
theorem Seg2.loopNext {σ3 : Nat → Value} {c : Code} {l l1 l2 : List Value} {h h1 h2 : List Obj} {e : Ex} (s1 : Seg2 P σ σ2 W0 H G (.code c) l h .normal l1 h1) (s2 : Seg2 P σ2 σ3 W0 H G (.loop c) l1 h1 e l2 h2) : Seg2 P σ σ3 W0 H G (.loop c) l h e l2 h2 :=
  s1.two s2 fun Q a' w' h => Loop1.step h
theorem Seg2.loopExit {c : Code} {id : Nat} {l l1 : List Value} {h h1 : List Obj} (s1 : Seg2 P σ σ2 W0 H G (.code c) l h (.exit id) l1 h1) : Seg2 P σ σ2 W0 H G (.loop c) l h (.exit id) l1 h1 :=
  s1.stop fun Q a' w' h => Loop1.step (wpIn_mono h fun x a w hx => by obtain ⟨rfl, hq⟩ := hx; exact hq)
theorem Seg2.loopP {c : Code} {id : Nat} (hc : isLoopB id c = true) {l l1 : List Value} {h h1 : List Obj} (s1 : Seg2 P σ σ2 W0 H G (.loop (inL (inB c))) l h (.exit id) l1 h1) : Seg2 P σ σ2 W0 H G (.code c) l h .normal l1 h1 := by
  cases c with
  | block i c =>
    cases c with
    | loop c =>
      have e : i = id := eq_of_beq hc
      subst e
      refine s1.stop fun Q a' w' hh => ?_
      refine wpIn_block (wp_of_loop1 ?_)
      intro b k cs hro
      obtain ⟨e, a2, w2, hq, harr⟩ := hh b k cs hro
      refine ⟨e, a2, w2, ?_, harr⟩
      obtain ⟨rfl, hq⟩ := hq
      simp only [Ex.of, Exit.inBlock, if_pos]
      exact hq
    | _ => cases hc
  | _ => cases hc
/-- A loop, by induction: S j, what the numbers stand for in round j, of N rounds. -/
theorem Seg2.loopInd {c : Code} {id N : Nat} {S : Nat → Nat → Value} {lI lZ : List Value} {hI hZ : List Obj} (hr : ∀ j, j < N → Seg2 P (S j) (S (j + 1)) W0 H G (.code c) lI hI .normal lI hI) (hx : Seg2 P (S N) σ2 W0 H G (.code c) lI hI (.exit id) lZ hZ) :
    ∀ (k j : Nat), j + k = N → Seg2 P (S j) σ2 W0 H G (.loop c) lI hI (.exit id) lZ hZ
  | 0, j, hj => by
    have e : j = N := by omega
    subst e
    exact hx.loopExit
  | k + 1, j, hj => (hr j (by omega)).loopNext (loopInd hr hx k (j + 1) (by omega))
/-- The same, the state of each round by its number, from round a on. -/
theorem Seg2.loopInd2 {c : Code} {id N a : Nat} {S : Nat → Nat → Value} {L : Nat → List Value} {lZ : List Value} {hI hZ : List Obj} (hr : ∀ j, a ≤ j → j < N → Seg2 P (S j) (S (j + 1)) W0 H G (.code c) (L j) hI .normal (L (j + 1)) hI) (hx : Seg2 P (S N) σ2 W0 H G (.code c) (L N) hI (.exit id) lZ hZ) :
    ∀ (k j : Nat), a ≤ j → j + k = N → Seg2 P (S j) σ2 W0 H G (.loop c) (L j) hI (.exit id) lZ hZ
  | 0, j, _, hj => by
    have e : j = N := by omega
    subst e
    exact hx.loopExit
  | k + 1, j, ha, hj => (hr j ha (by omega)).loopNext (loopInd2 hr hx k (j + 1) (by omega) (by omega))
/-- A call whose run is told so. -/
theorem calls_of_seg2 {w : World} {tabs : List (Nat × Array Value)} (hσ2 : ∀ j, OneC (σ2 j)) (hG : G ≤ w.heap.size) (hT : TabR w tabs) {f : FuncId} {fn : Func} {c : Code} {e : Ex} {args : Array Value} {l0 l1 : List Value} {h0 h1 : List Obj} {v : Value} (hf : P.funcs[f]? = some fn) (hb : fn.body = some c)
    (ha : args.toList.all (tokC 4) = true) (h2 : mkA l0 = { tmps := args ++ Array.replicate (fn.ntmps - args.size) undef, defers := [] }) (h3 : mkW h0 = baseWorld G tabs) (hs : Seg2 P σ σ2 w w.heap.size G (.code c) l0 h0 e l1 h1) (hex : e = .normal ∨ e = .ret) (hv : retVal P fn (mkA l1).tmps (mkW h1) = some v) (hc : closedN 8 v = true) :
    Calls P f (args.toList.map (tokV σ 4)).toArray w fun e w' => e = .returned v ∧ Ext w w' := by
  have hrel : RAr σ ⟨id, (· < G), fun _ => False, fun _ _ _ => False⟩ args (args.toList.map (tokV σ 4)).toArray := by
    refine ⟨by simp, fun i u u' h1 h2 => ?_⟩
    have h3 : u' = tokV σ 4 u := by
      rw [List.getElem?_toArray, List.getElem?_map] at h2
      rw [← Array.getElem?_toList] at h1
      rw [h1] at h2
      simpa using h2.symm
    subst h3
    exact tok_rv (all_get ha h1)
  refine (callsIn_wide (n := 0)).1 ?_
  refine callsIn_of_wp_marks (F := FW none) hf hb trivial ?_ rfl
  refine hs [] [] ⟨id, (· < G), fun _ => False, fun _ _ _ => False⟩ _ w (fun k hk => hk) (h2 ▸ ⟨rar_undef hrel fn.ntmps, rfl, [], rfl, List.nodup_nil, fun k hk => (by cases hk)⟩) (fun g hg => ⟨hg, rfl⟩) (h3 ▸ base_rel hG hT) _ ?_
  intro B D a1' w1' _ ha1 hG1 hw1
  obtain ⟨hat, _, ks, hks, hnd, hkk⟩ := ha1
  have fin : LeavesInM (FW none) 0 P fn a1'.tmps (fun e w' => e = .returned v ∧ Ext w w') a1'.defers .returning w1' := by
    rw [hks]
    refine leaves_marks (D0 := []) (E := []) (Rs := []) (fun g hg => (by cases hg)) (fun w2 hw2 => ?_) ks D w1' hnd hkk (fun k hk => (by cases hk)) hw1
    obtain ⟨C, v', h1, h2, h3, h4⟩ := retVal_sound (P := P) hσ2 hat hw2 hv
    rw [closed_eq hc h3] at h1
    exact ⟨v, h1, rfl, h4.ext⟩
  rcases hex with rfl | rfl <;> exact fin
end
end Go.Proofs.YtfppinabdalblaaGreat
