/- Reflection, 17: pieces of a run at its outermost frame, the blocks that nobody leads to left out between them. No program is named here. -/
import Derived.Test.YtfppinabdalblaaGreatRefl16
namespace Go.Proofs.YtfppinabdalblaaGreat
open Go.RowKit
set_option linter.unusedVariables false
set_option linter.unusedSimpArgs false

/-- A value with its blocks renamed. -/
def mapV (g : Nat → Nat) : Nat → Value → Value
  | 0, v => v
  | n + 1, v => match v with
    | .pointer (some a) => .pointer (some ⟨g a.block, a.off, a.spot⟩)
    | .slice (some a) m c => .slice (some ⟨g a.block, a.off, a.spot⟩) m c
    | .func f x y => .func f (x.toList.map (mapV g n)).toArray (y.toList.map (mapV g n)).toArray
    | .iface t v => .iface t (mapV g n v)
    | .map (some b) => .map (some (g b))
    | .agg x => .agg (x.toList.map (mapV g n)).toArray
    | .tuple x => .tuple (x.toList.map (mapV g n)).toArray
    | .complex .f32 b k => .complex .f32 (g b) k
    | v => v
/-- Its blocks lie below n, and it is of those that are served. -/
def lowV (n : Nat) : Nat → Value → Bool
  | 0, _ => false
  | k + 1, v => match v with
    | .pointer (some a) => decide (a.block < n)
    | .slice (some a) _ _ => decide (a.block < n)
    | .map (some b) => decide (b < n)
    | .func (.func _) x y => x.toList.all (lowV n k) && y.toList.all (lowV n k)
    | .iface _ v => lowV n k v
    | .agg x => x.toList.all (lowV n k)
    | .tuple x => x.toList.all (lowV n k)
    | .complex .f32 b _ => decide (b < n)
    | .bool _ | .int _ _ | .string _ | .pointer none | .slice none _ _ | .nilFunc | .nilIface | .float _ _ | .map none | .complex .f64 _ _ => true
    | _ => false
/-- The renaming behind it. -/
def Ren.cut (A : Ren) (g : Nat → Nat) (n : Nat) : Ren := ⟨fun j => A.f (g j), fun j => j < n ∧ A.d (g j), fun j => j < n ∧ A.t (g j), fun j k v => j < n ∧ A.g (g j) k v⟩
theorem cut_rv {σ : Nat → Value} {A : Ren} {g : Nat → Nat} {n : Nat} : ∀ (k : Nat) {v v' : Value}, lowV n k v = true → RV σ A (mapV g k v) v' → RV σ (A.cut g n) v v'
  | 0, v, v', h, _ => by simp [lowV] at h
  | k + 1, v, v', h, hr => by
    have key : ∀ {x x' : Array Value}, x.toList.all (lowV n k) = true → (x.toList.map (mapV g k)).toArray.size = x'.size → (∀ (i : Nat) (v v' : Value), (x.toList.map (mapV g k)).toArray[i]? = some v → x'[i]? = some v' → RV σ A v v') →
        x.size = x'.size ∧ ∀ (i : Nat) (v v' : Value), x[i]? = some v → x'[i]? = some v' → RV σ (A.cut g n) v v' := by
      intro x x' hl h1 h2
      refine ⟨by simpa using h1, fun i u u' hu hu' => ?_⟩
      refine cut_rv k (all_get hl hu) (h2 i _ u' ?_ hu')
      rw [List.getElem?_toArray, List.getElem?_map]
      rw [← Array.getElem?_toList] at hu
      rw [hu]
      rfl
    unfold lowV at h
    unfold mapV at hr
    split at h
    · rename_i a
      cases hr with
      | ptr _ hb => exact RV.ptr (A := A.cut g n) a ⟨by simpa using h, hb⟩
    · rename_i a m c
      cases hr with
      | slice _ _ _ c' hb h1 h2 hs => exact RV.slice (A := A.cut g n) a m c c' ⟨by simpa using h, hb⟩ h1 h2 hs
      | sliceE _ b c' hb hs => exact RV.sliceE (A := A.cut g n) a b c' ⟨by simpa using h, hb⟩ hs
    · rename_i b
      cases hr with
      | map _ hb => exact RV.map (A := A.cut g n) b ⟨by simpa using h, hb⟩
    · rename_i f x y
      rw [Bool.and_eq_true] at h
      cases hr with
      | func _ _ x' _ y' h1 h2 h3 h4 =>
        obtain ⟨k1, k2⟩ := key h.1 h1 h2
        obtain ⟨k3, k4⟩ := key h.2 h3 h4
        exact .func f x x' y y' k1 k2 k3 k4
    · rename_i t u
      cases hr with
      | iface _ _ v' h1 => exact .iface t u v' (cut_rv k h h1)
    · rename_i x
      cases hr with
      | agg _ x' h1 h2 => obtain ⟨k1, k2⟩ := key h h1 h2; exact .agg x x' k1 k2
    · rename_i x
      cases hr with
      | tuple _ x' h1 h2 => obtain ⟨k1, k2⟩ := key h h1 h2; exact .tuple x x' k1 k2
    · rename_i b q
      have h : b < n := by simpa using h
      cases hr with
      | long _ c' L hd ht hs => exact RV.long (A := A.cut g n) b c' L ⟨h, hd⟩ ⟨h, ht⟩ hs
      | grow _ _ m r c hk hg => exact RV.grow (A := A.cut g n) b _ m r c hk ⟨h, hg⟩
      | gptr _ _ m i r c hk hg h1 h2 => exact RV.gptr (A := A.cut g n) b _ m i r c hk ⟨h, hg⟩ h1 h2
      | lptr _ _ j p hk hd ht hp => exact RV.lptr (A := A.cut g n) b _ j p hk ⟨h, hd⟩ ⟨h, ht⟩ hp
    · cases hr; exact .bool _
    · cases hr; exact .int _ _
    · cases hr; exact .str _
    · cases hr; exact .nilp
    · cases hr; exact .slice0 _ _
    · cases hr; exact .nilFunc
    · cases hr; exact .nilIface
    · cases hr; exact .tok _ _
    · cases hr; exact .nilMap
    · cases hr with | any _ _ _ ho => exact .any _ _ _ ho
    · cases h

/-- Is the greater state the lesser one, renamed? -/
def mapO (g : Nat → Nat) (o : Obj) : Obj := match o with
  | .cells cs e fz => .cells (cs.toList.map (mapV g 12)).toArray e fz
  | o => o
def plainV : Value → Bool
  | .int _ _ | .bool _ | .float _ _ => true
  | _ => false
theorem plainV_map {g : Nat → Nat} {k : Nat} {v : Value} (h : plainV v = true) : mapV g k v = v := by
  cases k <;> cases v <;> first | rfl | cases h
theorem plainV_low {n : Nat} {v : Value} (h : plainV v = true) : lowV n 12 v = true := by
  cases v <;> first | rfl | cases h
def lowO (n : Nat) (o : Obj) : Bool := match o with
  | .cells cs _ _ => cs.toList.all (lowV n 12)
  | .pending cs c => if cs.isEmpty then c != 9 else cs.toList.all plainV
  | _ => false
def gL (m : List Nat) (j : Nat) : Nat := m.getD j 0
def strict : List Nat → Bool
  | x :: y :: l => decide (x < y) && strict (y :: l)
  | _ => true
def objEq2 (x y : Option Obj) : Bool := match x, y with
  | some (.pending cs c), some (.pending ds d) => beqL (beqV 12) cs.toList ds.toList && c == d
  | x, y => objEq x y
theorem objEq2_eq {x y : Option Obj} (h : objEq2 x y = true) : x = y := by
  unfold objEq2 at h
  split at h
  · rw [Bool.and_eq_true] at h
    rw [Array.ext' (beqL_eq (fun x y hxy => beqV_eq hxy) h.1), eq_of_beq h.2]
  · exact objEq_eq h
def heapCut (m : List Nat) (w : World) (n : Nat) : List Nat → List Obj → Bool
  | [], [] => true
  | i :: l, o :: h => objEq2 w.heap[i]? (some (mapO (gL m) o)) && lowO n o && heapCut m w n l h
  | _, _ => false
def cutSt (G : Nat) (r : Option (Ex × Act × World)) (e : Ex) (m : List Nat) (l : List Value) (h : List Obj) : Bool := match r with
  | some (f, a1, w1) => exEq f e && beqL (beqV 12) a1.tmps.toList (l.map (mapV (gL m) 12)) && a1.defers.isEmpty && l.all (lowV m.length 12) && heapCut m w1 m.length m h && strict m && (List.range G).all (fun j => decide (j < m.length) && gL m j == j)
  | none => false
theorem strict_lt : ∀ {m : List Nat}, strict m = true → ∀ {i j : Nat}, i < j → j < m.length → gL m i < gL m j
  | [], _, i, j, _, hj => by simp at hj
  | [x], _, i, j, hij, hj => by simp at hj; omega
  | x :: y :: l, h, i, j, hij, hj => by
    simp only [strict, Bool.and_eq_true, decide_eq_true_eq] at h
    cases j with
    | zero => omega
    | succ j =>
      have ih := fun {a b : Nat} => strict_lt (m := y :: l) h.2 (i := a) (j := b)
      have hj' : j < (y :: l).length := by simpa using hj
      have e : ∀ k, gL (x :: y :: l) (k + 1) = gL (y :: l) k := fun k => by simp [gL]
      rw [e]
      cases i with
      | zero =>
        have e0 : gL (x :: y :: l) 0 = x := by simp [gL]
        rw [e0]
        rcases Nat.eq_zero_or_pos j with hz | hz
        · subst hz
          have e1 : gL (y :: l) 0 = y := by simp [gL]
          rw [e1]; exact h.1
        · have := ih hz hj'
          have e1 : gL (y :: l) 0 = y := by simp [gL]
          rw [e1] at this
          omega
      | succ i =>
        rw [e]
        exact ih (by omega) hj'
theorem strict_inj {m : List Nat} (h : strict m = true) {i j : Nat} (hi : i < m.length) (hj : j < m.length) (e : gL m i = gL m j) : i = j := by
  rcases Nat.lt_trichotomy i j with h1 | h1 | h1
  · have := strict_lt h h1 hj; omega
  · exact h1
  · have := strict_lt h h1 hi; omega
theorem heapCut_at {m : List Nat} {w : World} {n : Nat} : ∀ {l : List Nat} {h : List Obj}, heapCut m w n l h = true → l.length = h.length ∧ ∀ (j : Nat) (o : Obj), h[j]? = some o → ∃ i, l[j]? = some i ∧ w.heap[i]? = some (mapO (gL m) o) ∧ lowO n o = true
  | [], [], _ => ⟨rfl, fun j o h => by simp at h⟩
  | i :: l, o :: h, hc => by
    simp only [heapCut, Bool.and_eq_true] at hc
    obtain ⟨⟨h1, h2⟩, h3⟩ := hc
    obtain ⟨k1, k2⟩ := heapCut_at h3
    refine ⟨by simp [k1], fun j p hp => ?_⟩
    cases j with
    | zero => simp at hp; subst hp; exact ⟨i, rfl, objEq2_eq h1, h2⟩
    | succ j => exact k2 j p (by simpa using hp)
  | [], _ :: _, hc => by cases hc
  | _ :: _, [], hc => by cases hc
section
variable {P : Program} {σ : Nat → Value} {W0 : World} {H G : Nat} {O : Orc}
theorem WR.cut {D : List Nat} {A : Ren} {w w' : World} (h : WR σ W0 H ⟨[], D, []⟩ A w w') {m : List Nat} {hp : List Obj} (hc : heapCut m w m.length m hp = true) (hs : strict m = true) : WR σ W0 H ⟨[], D, []⟩ (A.cut (gL m) m.length) (mkW hp) w' := by
  obtain ⟨hl, hat⟩ := heapCut_at hc
  have at' : ∀ (j : Nat) (o : Obj), (mkW hp).heap[j]? = some o → j < m.length ∧ w.heap[gL m j]? = some (mapO (gL m) o) ∧ lowO m.length o = true := by
    intro j o ho
    have ho' : hp[j]? = some o := by simpa [mkW] using ho
    obtain ⟨i, h1, h2, h3⟩ := hat j o ho'
    have hj : j < m.length := (List.getElem?_eq_some_iff.1 h1).1
    have e : gL m j = i := by unfold gL; rw [List.getD_eq_getElem?_getD, h1]; rfl
    rw [e]
    exact ⟨hj, h2, h3⟩
  have no9 : ∀ (o : Obj), lowO m.length o = true → mapO (gL m) o ≠ .pending #[] 9 := by
    intro o ho e
    cases o with
    | pending cs c =>
      unfold mapO at e
      cases e
      simp [lowO] at ho
    | cells cs e' fz => unfold mapO at e; cases e
    | _ => cases ho
  have has : ∀ (j : Nat) (o : Obj), (mkW hp).heap[j]? = some o → A.d (gL m j) := by
    intro j o ho
    obtain ⟨_, h2, h3⟩ := at' j o ho
    rcases h.full _ (Array.getElem?_eq_some_iff.1 h2).1 with k | k
    · exact k
    · rw [h2] at k
      exact absurd (Option.some.inj k) (no9 o h3)
  refine { tape := rfl, size := fun j hj => ?_, full := fun j hj => ?_, lt := fun j hj => h.lt _ hj.2, inj := fun b c hb hc e => strict_inj hs hb.1 hc.1 (h.inj _ _ hb.2 hc.2 e), obj := fun j o ho => ?_, ext := h.ext, hle := h.hle, loops := fun g hg => (by cases hg), resv := fun p hp => (by cases hp), resd := fun j hd hj => ?_, dead := fun k hk => ?_, long := fun b hb => ?_, grow := fun b n u hb => ?_, gun := fun b n u v hb hb2 => h.gun _ _ _ _ hb.2 hb2.2, gone := fun b n u b2 n2 u2 hb hb2 => strict_inj hs hb.1 hb2.1 (h.gone _ _ _ _ _ _ hb.2 hb2.2) }
  · show j < (mkW hp).heap.size
    have : (mkW hp).heap.size = hp.length := by simp [mkW]
    rw [this, ← hl]; exact hj.1
  · have hj2 : (mkW hp).heap[j]? = some (mkW hp).heap[j] := Array.getElem?_eq_getElem hj
    exact .inl ⟨(at' j _ hj2).1, has j _ hj2⟩
  · obtain ⟨h1, h2, h3⟩ := at' j o ho
    rcases h.obj _ _ h2 with ⟨c, e, k1⟩ | ⟨cs, e, fz, cs', e', fz', k1, k2, k3, k4⟩
    · cases o with
      | pending cs c => exact .inl ⟨_, _, rfl⟩
      | cells cs e2 fz => unfold mapO at k1; cases k1
      | _ => cases h3
    · cases o with
      | pending cs c => exact .inl ⟨_, _, rfl⟩
      | cells cs2 e2 fz2 =>
        unfold mapO at k1
        injection k1 with q1 q2 q3
        subst q1 q2 q3
        have h3 : cs2.toList.all (lowV m.length 12) = true := h3
        refine .inr ⟨cs2, e2, fz2, cs', e', fz', rfl, k2, ⟨by simpa using k3.1, fun i v hv => ?_⟩, by
          rcases k4 with k4 | k4
          · exact .inl k4
          · exact .inr (by simpa using k4)⟩
        have hv2 : ((cs2.toList.map (mapV (gL m) 12)).toArray)[i]? = some (mapV (gL m) 12 v) := by
          rw [List.getElem?_toArray, List.getElem?_map]
          rw [← Array.getElem?_toList] at hv
          rw [hv]
          rfl
        obtain ⟨v', q1, q2⟩ := k3.2 i _ hv2
        exact ⟨v', q1, cut_rv 12 (all_get h3 hv) q2⟩
      | _ => cases h3
  · exfalso
    obtain ⟨h1, h2, h3⟩ := at' j _ hj
    simp [lowO] at h3
  · obtain ⟨k1, k2, k3⟩ := h.dead k hk
    exact ⟨k1, k2, fun b hb => k3 _ hb.2⟩
  · have hb1 : b < m.length := hb.1
    have hb2 : b < (mkW hp).heap.size := by simp [mkW]; omega
    obtain ⟨q1, cs, e, fz, ⟨q2, q3⟩, q4⟩ := h.long _ hb.2
    have hj2 : (mkW hp).heap[b]? = some ((mkW hp).heap[b]'hb2) := Array.getElem?_eq_getElem _
    generalize (mkW hp).heap[b]'hb2 = o at hj2
    obtain ⟨h1, h2, h3⟩ := at' b o hj2
    rw [q2] at h2
    cases o with
    | cells cs2 e2 fz2 =>
      have h2 := Option.some.inj h2
      unfold mapO at h2
      injection h2 with h4 h5 h6
      rw [h4] at q3
      rw [h5] at q4
      exact ⟨⟨hb.1, q1⟩, cs2, e2, fz2, ⟨hj2, by simpa using q3⟩, q4⟩
    | pending c1 c2 => unfold mapO at h2; cases h2
    | _ => cases h3
  · have hb1 : b < m.length := hb.1
    have hb2 : b < (mkW hp).heap.size := by simp [mkW]; omega
    obtain ⟨q1, cs, e, q2, q3, q4, q5, q6⟩ := h.grow _ _ _ hb.2
    have hj2 : (mkW hp).heap[b]? = some ((mkW hp).heap[b]'hb2) := Array.getElem?_eq_getElem _
    generalize (mkW hp).heap[b]'hb2 = o at hj2
    obtain ⟨h1, h2, h3⟩ := at' b o hj2
    rw [q2] at h2
    cases o with
    | cells cs2 e2 fz2 => unfold mapO at h2; cases h2
    | pending c1 c2 =>
      have h2 := Option.some.inj h2
      unfold mapO at h2
      injection h2 with h4 h5
      subst h4 h5
      have hpl : ∀ {i : Nat} {v : Value}, cs[i]? = some v → plainV v = true := by
        intro i v hv
        simp only [lowO] at h3
        split at h3
        · rename_i he
          rw [Array.isEmpty_iff_size_eq_zero] at he
          exact absurd he q3
        · exact all_get h3 hv
      refine ⟨⟨hb.1, q1⟩, cs, e, hj2, q3, q4, q5, fun hn => ?_⟩
      obtain ⟨xs, m1, m2, m3⟩ := q6 hn
      refine ⟨xs, m1, fun hsz i v hv => ?_, fun b' hb' hne => m3 _ hb'.2 fun e9 => hne (strict_inj hs hb'.1 hb.1 e9)⟩
      obtain ⟨u, w1, w2⟩ := m2 hsz i v hv
      have hp1 := hpl hv
      exact ⟨u, w1, cut_rv 12 (plainV_low hp1) (by rw [plainV_map hp1]; exact w2)⟩
    | _ => cases h3

/-- A piece of a run at the outermost frame. -/
def Seg0 (P : Program) (σ : Nat → Value) (W0 : World) (H G : Nat) (t : Task) (a : Act) (w : World) (e : Ex) (a1 : Act) (w1 : World) : Prop :=
  ∀ (D : List Nat) (A : Ren) (a' : Act) (w' : World), RAct σ A [] D a a' → GR G A → WR σ W0 H ⟨[], D, []⟩ A w w' → ∀ Q : Exit → Act → World → Prop,
    (∀ B D a1' w1', RAct σ B [] D a1 a1' → GR G B → WR σ W0 H ⟨[], D, []⟩ B w1 w1' → Q e.of a1' w1') → TaskWp none P t Q a' w'
theorem Seg.zero {t : Task} {a a1 : Act} {w w1 : World} {e : Ex} (h : Seg P σ W0 H G [] t a w e a1 w1) : Seg0 P σ W0 H G t a w e a1 w1 :=
  fun D A a' w' ha hG hw Q hQ => h none ⟨[], D, []⟩ [] A a' w' rfl (fun l hl => by cases hl) (fun k hk => by cases hk) (fun g hg => by cases hg) ha hG hw Q fun B D1 a1' w1' hB _ ha1 hw1 => hQ B D1 a1' w1' ha1 (hG.mono hB) hw1
theorem Seg0.two {t1 t2 t : Task} {a a1 a2 : Act} {w w1 w2 : World} {e : Ex} (h1 : Seg0 P σ W0 H G t1 a w .normal a1 w1) (h2 : Seg0 P σ W0 H G t2 a1 w1 e a2 w2)
    (hc : ∀ (Q : Exit → Act → World → Prop) (a' : Act) (w' : World), TaskWp none P t1 (Exit.then (TaskWp none P t2 Q) Q) a' w' → TaskWp none P t Q a' w') : Seg0 P σ W0 H G t a w e a2 w2 :=
  fun D A a' w' ha hG hw Q hQ => hc Q a' w' (h1 D A a' w' ha hG hw _ fun B D1 a1' w1' ha1 hG1 hw1 => h2 D1 B a1' w1' ha1 hG1 hw1 Q hQ)
theorem Seg0.stop {t1 t : Task} {a a1 : Act} {w w1 : World} {e f : Ex} (h1 : Seg0 P σ W0 H G t1 a w e a1 w1)
    (hc : ∀ (Q : Exit → Act → World → Prop) (a' : Act) (w' : World), TaskWp none P t1 (fun x a w => x = e.of ∧ Q f.of a w) a' w' → TaskWp none P t Q a' w') : Seg0 P σ W0 H G t a w f a1 w1 :=
  fun D A a' w' ha hG hw Q hQ => hc Q a' w' (h1 D A a' w' ha hG hw _ fun B D1 a1' w1' ha1 hG1 hw1 => ⟨rfl, hQ B D1 a1' w1' ha1 hG1 hw1⟩)
theorem Seg0.seqP {c : Code} (hc : isSeq c = true) {a a1 a2 : Act} {w w1 w2 : World} {e : Ex} (h1 : Seg0 P σ W0 H G (.code (seqL c)) a w .normal a1 w1) (h2 : Seg0 P σ W0 H G (.code (seqR c)) a1 w1 e a2 w2) : Seg0 P σ W0 H G (.code c) a w e a2 w2 := by
  cases c with
  | seq x y => exact h1.two h2 fun Q a' w' h => wpIn_seq h
  | _ => cases hc
theorem Seg0.loopNext {c : Code} {a a1 a2 : Act} {w w1 w2 : World} {e : Ex} (h1 : Seg0 P σ W0 H G (.code c) a w .normal a1 w1) (h2 : Seg0 P σ W0 H G (.loop c) a1 w1 e a2 w2) : Seg0 P σ W0 H G (.loop c) a w e a2 w2 :=
  h1.two h2 fun Q a' w' h => Loop1.step h
theorem Seg0.loopExit {c : Code} {id : Nat} {a a1 : Act} {w w1 : World} (h1 : Seg0 P σ W0 H G (.code c) a w (.exit id) a1 w1) : Seg0 P σ W0 H G (.loop c) a w (.exit id) a1 w1 :=
  h1.stop fun Q a' w' h => Loop1.step (wpIn_mono h fun x a w hx => by obtain ⟨rfl, hq⟩ := hx; exact hq)
theorem Seg0.loopP {c : Code} {id : Nat} (hc : isLoopB id c = true) {a a1 : Act} {w w1 : World} (h : Seg0 P σ W0 H G (.loop (inL (inB c))) a w (.exit id) a1 w1) : Seg0 P σ W0 H G (.code c) a w .normal a1 w1 := by
  cases c with
  | block i c =>
    cases c with
    | loop c =>
      have e : i = id := eq_of_beq hc
      subst e
      refine h.stop fun Q a' w' hh => ?_
      refine wpIn_block (wp_of_loop1 ?_)
      intro b k cs hro
      obtain ⟨e, a2, w2, hq, harr⟩ := hh b k cs hro
      refine ⟨e, a2, w2, ?_, harr⟩
      obtain ⟨rfl, hq⟩ := hq
      simp only [Ex.of, Exit.inBlock, if_pos]
      exact hq
    | _ => cases hc
  | _ => cases hc
/-- A piece that the evaluation tells, what nobody leads to left out behind it. -/
theorem seg0_ev (hσ : ∀ j, OneC (σ j)) (hO : OrcOK P σ W0 H O) {n : Nat} {t : Task} {a : Act} {w : World} {e : Ex} {m : List Nat} {l : List Value} {h : List Obj} (hs : cutSt G (ev P O G n [] t a w) e m l h = true) : Seg0 P σ W0 H G t a w e (mkA l) (mkW h) := by
  unfold cutSt at hs
  split at hs
  case h_2 => cases hs
  rename_i f a1 w1 hev
  simp only [Bool.and_eq_true] at hs
  obtain ⟨⟨⟨⟨⟨⟨h1, h2⟩, h3⟩, h4⟩, h5⟩, h6⟩, h7⟩ := hs
  have e1 := exEq_eq h1
  subst e1
  have e2 := beqL_eq (fun x y hxy => beqV_eq hxy) h2
  have e3 : a1.defers = [] := by simpa using h3
  have base := (seg_of_ih (ev_ok hσ hO n) hev).zero
  intro D A a' w' ha hG hw Q hQ
  refine base D A a' w' ha hG hw Q fun B D1 a1' w1' ha1 hG1 hw1 => ?_
  refine hQ (B.cut (gL m) m.length) D1 a1' w1' ⟨⟨?_, fun i u u' hu hu' => ?_⟩, rfl, ha1.2.2⟩ (fun g hg => ?_) (hw1.cut h5 h6)
  · have := ha1.1.1
    rw [← this]
    have h8 : a1.tmps.size = a1.tmps.toList.length := by simp
    rw [h8, e2]
    simp [mkA]
  · have hu2 : l[i]? = some u := by simpa [mkA] using hu
    have hl : lowV m.length 12 u = true := by
      rw [List.all_eq_true] at h4
      exact h4 u (List.mem_of_getElem? hu2)
    refine cut_rv 12 hl (ha1.1.2 i _ u' ?_ hu')
    rw [← Array.getElem?_toList, e2, List.getElem?_map, hu2]
    rfl
  · rw [List.all_eq_true] at h7
    have := h7 g (List.mem_range.2 hg)
    simp only [Bool.and_eq_true, decide_eq_true_eq] at this
    have e4 : gL m g = g := eq_of_beq this.2
    exact ⟨⟨this.1, by rw [e4]; exact (hG1 g hg).1⟩, by show B.f (gL m g) = g; rw [e4]; exact (hG1 g hg).2⟩
theorem calls_of_seg0 (hσ : ∀ j, OneC (σ j)) {w : World} {tabs : List (Nat × Array Value)} (hG : G ≤ w.heap.size) (hT : TabR w tabs) {f : FuncId} {fn : Func} {c : Code} {e : Ex} {a1 : Act} {w1 : World} {v : Value} (hf : P.funcs[f]? = some fn) (hb : fn.body = some c)
    (hs : Seg0 P σ w w.heap.size G (.code c) { tmps := #[] ++ Array.replicate (fn.ntmps - 0) undef, defers := [] } (baseWorld G tabs) e a1 w1) (hex : e = .normal ∨ e = .ret) (hv : retVal P fn a1.tmps w1 = some v) (hc : closedN 8 v = true) :
    Calls P f #[] w fun e w' => e = .returned v ∧ Ext w w' := by
  refine (callsIn_wide (n := 0)).1 ?_
  refine callsIn_of_wp_marks (F := FW none) hf hb trivial ?_ rfl
  refine hs [] ⟨id, (· < G), fun _ => False, fun _ _ _ => False⟩ _ w ⟨⟨rfl, fun i u u' h1 h2 => ?_⟩, rfl, [], rfl, List.nodup_nil, fun k hk => (by cases hk)⟩ (fun g hg => ⟨hg, rfl⟩) (base_rel hG hT) _ ?_
  · have h1' : (Array.replicate (fn.ntmps - 0) undef)[i]? = some u := by simpa using h1
    have h2' : (Array.replicate (fn.ntmps - 0) undef)[i]? = some u' := by simpa using h2
    rw [h1'] at h2'
    cases h2'
    rw [Array.getElem?_replicate] at h1'
    split at h1'
    · cases h1'; exact rv_undef
    · cases h1'
  · intro B D a1' w1' ha1 hG1 hw1
    obtain ⟨hat, _, ks, hks, hnd, hkk⟩ := ha1
    have fin : LeavesInM (FW none) 0 P fn a1'.tmps (fun e w' => e = .returned v ∧ Ext w w') a1'.defers .returning w1' := by
      rw [hks]
      refine leaves_marks (D0 := []) (E := []) (Rs := []) (fun g hg => (by cases hg)) (fun w2 hw2 => ?_) ks D w1' hnd hkk (fun k hk => (by cases hk)) hw1
      obtain ⟨C, v', h1, h2, h3, h4⟩ := retVal_sound (P := P) hσ hat hw2 hv
      rw [closed_eq hc h3] at h1
      exact ⟨v, h1, rfl, h4.ext⟩
    rcases hex with rfl | rfl <;> exact fin
end
end Go.Proofs.YtfppinabdalblaaGreat
