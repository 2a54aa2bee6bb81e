/- Arguments opened: slices of structs, of slices; as the walks want them. -/
import Derived.Test.YtoolenhnhlfhmaaGreatDoorGA
import Derived.Deep.Slices
import Derived.Deep.Fields
import Derived.ChangeSame
import Derived.ChangeSlices
import Derived.OpenShut
namespace Go.Proofs.YtoolenhnhlfhmaaGreatDoor
open Go.RowKit Go.ChangeShapes Go.WideShapes Go.Deep
set_option linter.unusedVariables false
set_option linter.unusedSimpArgs false

section
variable {H : Type} {enc : TypeId × Value → H} {P : Program} {w : World} {base : Nat} {spare : Nat → Bool} {held : Bool}

theorem addr_plain {a : Addr} {v : Value} (h : w.cell? (a.add 0) = some v) : ∃ b off, a = ⟨b, off, none⟩ := by
  obtain ⟨b, off, spot⟩ := a
  have hspot : spot = none := by simpa [Addr.add] using World.cell?_spot h
  subst hspot
  exact ⟨b, off, rfl⟩
theorem cells_plain {a : Addr} {sz : Nat} {cs : List Value} (h : w.cells? base (a.add (0 * sz)) sz = some cs) (hsz : 0 < sz) : ∃ b off, a = ⟨b, off, none⟩ := by
  obtain ⟨_, hcl, hat⟩ := World.cells?_some h
  have h0 := hat 0 hsz
  rw [Nat.zero_mul, List.getElem?_eq_getElem (by omega), Go.Deep.add_add] at h0
  exact addr_plain h0

/-- A slice of structs of one-cell fields, element by element, field by field. -/
theorem open_rows {t e : TypeId} {fs : Array Field} {fuel : Nat} {cs : List Value} {x : DataW H × List MemPlace} (ht : P.underlying t = some (.slice e)) (he : P.underlying e = some (.struct fs))
    (hone : oneCellFields P fs = true) (hC : P.cellsOf e = fs.size) (h : DataW.trod enc P w base (fun _ => true) held fuel t cs = some x) :
    ∃ (A : Option Addr) (len cap : Nat), cs = [.slice A len cap] ∧ len ≤ cap ∧ cap ≤ maxLen ∧
      ∀ i, i < len → ∃ n, ∀ (j : Nat) (f : Field), fs[j]? = some f → ∃ b off v y, A = some ⟨b, off, none⟩ ∧ w.cell? ⟨b, off + (i * fs.size + j), none⟩ = some v ∧ DataW.trod enc P w base (fun _ => true) held n f.type [v] = some y := by
  rcases open_slice ht h with ⟨h0, _⟩ | ⟨a, len, cap, m, n, D, Pl, hcs, hb, hl, hm, hmm, hx, hi⟩
  · exact ⟨none, 0, 0, h0, Nat.le_refl _, by simp [maxLen], fun i hi => absurd hi (by omega)⟩
  · refine ⟨some a, len, cap, hcs, hl, hm, fun i hil => ?_⟩
    have him : i < m := by rw [hmm]; simp; omega
    obtain ⟨cs', hc, ht'⟩ := hi i him
    rw [hC] at hc
    obtain ⟨ys, n', hn', hy, hlen, hyl, hf⟩ := DataW.trod_struct he ht'
    obtain ⟨_, hcl, hat⟩ := World.cells?_some hc
    refine ⟨n', fun j f hj => ?_⟩
    obtain ⟨ho, hk⟩ := hone_of hone j f hj
    have hjl : j < fs.size := (Array.getElem?_eq_some_iff.1 hj).1
    have hcell := hat j hjl
    have h1 := hf j f hj
    rw [ho, hk] at h1
    have hone' : (cs'.drop j).take 1 = [cs'[j]'(by omega)] := by
      rw [List.drop_eq_getElem_cons (by omega)]
      rfl
    rw [hone'] at h1
    have hys : ys[j]? = some (ys[j]'(by omega)) := List.getElem?_eq_getElem (by omega)
    have hv : cs'[j]? = some (cs'[j]'(by omega)) := List.getElem?_eq_getElem (by omega)
    rw [hv, Go.Deep.add_add] at hcell
    obtain ⟨cs0, hc0, _⟩ := hi 0 (by omega)
    rw [hC] at hc0
    obtain ⟨b, off, rfl⟩ := cells_plain hc0 (by omega)
    refine ⟨b, off, _, _, rfl, ?_, h1.trans hys⟩
    rw [← Go.WideShapes.add_plain]
    exact hcell

theorem open_elems {t e : TypeId} {fuel : Nat} {cs : List Value} {x : DataW H × List MemPlace} (ht : P.underlying t = some (.slice e)) (hC : P.cellsOf e = 1) (h : DataW.trod enc P w base (fun _ => true) held fuel t cs = some x) :
    ∃ (A : Option Addr) (len cap : Nat), cs = [.slice A len cap] ∧ len ≤ cap ∧ cap ≤ maxLen ∧
      ∀ i, i < len → ∃ n b off v y, A = some ⟨b, off, none⟩ ∧ w.cell? ⟨b, off + i, none⟩ = some v ∧ DataW.trod enc P w base (fun _ => true) held n e [v] = some y := by
  rcases open_slice1 ht hC h with ⟨h0, _⟩ | ⟨a, len, cap, m, n, V, D, Pl, hcs, hb, hl, hm, hmm, hx, hi⟩
  · exact ⟨none, 0, 0, h0, Nat.le_refl _, by simp [maxLen], fun i hi => absurd hi (by omega)⟩
  · refine ⟨some a, len, cap, hcs, hl, hm, fun i hil => ?_⟩
    have him : i < m := by rw [hmm]; simp; omega
    obtain ⟨hc, ht'⟩ := hi i him
    obtain ⟨hc0, _⟩ := hi 0 (by omega)
    obtain ⟨b, off, rfl⟩ := addr_plain hc0
    rw [Go.WideShapes.add_plain] at hc
    exact ⟨n, b, off, _, _, rfl, hc, ht'⟩

theorem open_intl {t e : TypeId} {fuel : Nat} {cs : List Value} {x : DataW H × List MemPlace} (ht : P.underlying t = some (.slice e)) (he : P.underlying e = some (.int .i64)) (hC : P.cellsOf e = 1)
    (h : DataW.trod enc P w base (fun _ => true) held fuel t cs = some x) : ∃ (A : Option Addr) (l : List Int) (cap : Nat), cs = [.slice A l.length cap] ∧ l.length ≤ maxLen ∧ IntsR w A l := by
  obtain ⟨A, len, cap, hcs, hl, hm, hi⟩ := open_elems ht hC h
  obtain ⟨N, hN⟩ := choose_lt (α := Int) (p := fun i z => ∃ b off, A = some ⟨b, off, none⟩ ∧ w.cell? ⟨b, off + i, none⟩ = some (.int .i64 z)) (fun i hil => by
    obtain ⟨n, b, off, v, y, hA, hc, ht'⟩ := hi i hil
    obtain ⟨z, hz, _⟩ := DataW.trod_int he ht'
    injection hz with hz
    subst hz
    exact ⟨z, b, off, hA, hc⟩)
  refine ⟨A, (List.range len).map N, cap, by simpa using hcs, by simp; omega, ?_⟩
  intro hn
  rw [List.length_map, List.length_range] at hn ⊢
  obtain ⟨b, off, hA, _⟩ := hN 0 hn
  refine ⟨b, off, hA, fun j hj => ?_⟩
  obtain ⟨b', off', hA', hc⟩ := hN j (by omega)
  rw [hA] at hA'
  cases hA'
  rw [hc]
  dsimp only
  congr 2
  unfold ix
  rw [List.getD_eq_getElem?_getD, List.getElem?_map, List.getElem?_range (by omega)]
  rfl

instance : Inhabited CallD := ⟨noCall⟩

theorem ix_map_range {α : Type} (d : α) (F : Nat → α) (n i : Nat) (h : i < n) : ix d ((List.range n).map F) i = F i := by
  unfold ix
  rw [List.getD_eq_getElem?_getD, List.getElem?_map, List.getElem?_range h]
  rfl

theorem open_calls {t e ti tl : TypeId} {f0 f1 f2 : Field} {fuel : Nat} {cs : List Value} {x : DataW H × List MemPlace} (ht : P.underlying t = some (.slice e)) (he : P.underlying e = some (.struct #[f0, f1, f2]))
    (hone : oneCellFields P #[f0, f1, f2] = true) (hC : P.cellsOf e = 3) (h0 : P.underlying f0.type = some (.int .i64)) (h1 : P.underlying f1.type = some (.int .i64)) (h2 : P.underlying f2.type = some (.slice ti))
    (hi0 : P.underlying ti = some (.int .i64)) (hiC : P.cellsOf ti = 1)
    (h : DataW.trod enc P w base (fun _ => true) held fuel t cs = some x) : ∃ (A : Option Addr) (l : List CallD) (cap : Nat), cs = [.slice A l.length cap] ∧ l.length ≤ maxLen ∧ CallsR w A l := by
  obtain ⟨A, len, cap, hcs, hl, hm, hi⟩ := open_rows ht he hone hC h
  obtain ⟨N, hN⟩ := choose_lt (α := CallD × Option Addr × Nat) (p := fun i z => ∃ b off, A = some ⟨b, off, none⟩ ∧ w.cell? ⟨b, off + i * 3, none⟩ = some (.int .i64 z.1.kind) ∧ w.cell? ⟨b, off + (i * 3 + 1), none⟩ = some (.int .i64 z.1.a) ∧
      w.cell? ⟨b, off + (i * 3 + 2), none⟩ = some (.slice z.2.1 z.1.l.length z.2.2) ∧ IntsR w z.2.1 z.1.l ∧ z.1.l.length ≤ maxLen) (fun i hil => by
    obtain ⟨n, hf⟩ := hi i hil
    obtain ⟨b, off, v0, y0, hA, hc0, ht0⟩ := hf 0 f0 rfl
    obtain ⟨b1, off1, v1, y1, hA1, hc1, ht1⟩ := hf 1 f1 rfl
    obtain ⟨b2, off2, v2, y2, hA2, hc2, ht2⟩ := hf 2 f2 rfl
    rw [hA] at hA1 hA2
    cases hA1
    cases hA2
    obtain ⟨k, hk, _⟩ := DataW.trod_int h0 ht0
    obtain ⟨a, ha, _⟩ := DataW.trod_int h1 ht1
    obtain ⟨LA, l, lc, hll, hlm, hlr⟩ := open_intl h2 hi0 hiC ht2
    injection hk with hk
    injection ha with ha
    injection hll with hll
    subst hk ha hll
    exact ⟨(⟨k, a, l⟩, LA, lc), b, off, hA, hc0, hc1, hc2, hlr, hlm⟩)
  refine ⟨A, (List.range len).map (fun i => (N i).1), cap, by simpa using hcs, by simp; omega, fun i => (N i).2.1, fun i => (N i).2.2, ?_, ?_⟩
  · intro hn
    rw [List.length_map, List.length_range] at hn ⊢
    obtain ⟨b, off, hA, _⟩ := hN 0 hn
    refine ⟨b, off, hA, fun j hj => ?_⟩
    obtain ⟨b', off', hA', hc0, hc1, hc2, _⟩ := hN (j / 3) (by omega)
    rw [hA] at hA'
    cases hA'
    unfold callv
    rw [ix_map_range _ _ _ _ (by omega)]
    have h3 : j % 3 = 0 ∨ j % 3 = 1 ∨ j % 3 = 2 := by omega
    rcases h3 with h3 | h3 | h3
    · rw [if_pos h3]
      have e : j = j / 3 * 3 := by omega
      rw [← hc0]
      congr 3
    · rw [if_neg (by omega), if_pos h3]
      have e : j = j / 3 * 3 + 1 := by omega
      rw [← hc1]
      congr 3
    · rw [if_neg (by omega), if_neg (by omega)]
      have e : j = j / 3 * 3 + 2 := by omega
      rw [← hc2]
      congr 3
  · intro i hil
    rw [List.length_map, List.length_range] at hil
    obtain ⟨_, _, _, _, _, _, hr, hm2⟩ := hN i hil
    rw [ix_map_range _ _ _ _ hil]
    exact ⟨hr, hm2⟩

theorem open_callss {t e e2 ti : TypeId} {f0 f1 f2 : Field} {fuel : Nat} {cs : List Value} {x : DataW H × List MemPlace} (htt : P.underlying t = some (.slice e)) (htC : P.cellsOf e = 1) (ht : P.underlying e = some (.slice e2)) (he : P.underlying e2 = some (.struct #[f0, f1, f2]))
    (hone : oneCellFields P #[f0, f1, f2] = true) (hC : P.cellsOf e2 = 3) (h0 : P.underlying f0.type = some (.int .i64)) (h1 : P.underlying f1.type = some (.int .i64)) (h2 : P.underlying f2.type = some (.slice ti))
    (hi0 : P.underlying ti = some (.int .i64)) (hiC : P.cellsOf ti = 1)
    (h : DataW.trod enc P w base (fun _ => true) held fuel t cs = some x) : ∃ (A : Option Addr) (l : List (List CallD)) (cap : Nat), cs = [.slice A l.length cap] ∧ l.length ≤ maxLen ∧ CallssR w A l := by
  obtain ⟨A, len, cap, hcs, hl, hm, hi⟩ := open_elems htt htC h
  obtain ⟨N, hN⟩ := choose_lt (α := List CallD × Option Addr × Nat) (p := fun i z => ∃ b off, A = some ⟨b, off, none⟩ ∧ w.cell? ⟨b, off + i, none⟩ = some (.slice z.2.1 z.1.length z.2.2) ∧ CallsR w z.2.1 z.1 ∧ z.1.length ≤ maxLen) (fun i hil => by
    obtain ⟨n, b, off, v, y, hA, hc, ht'⟩ := hi i hil
    obtain ⟨LA, l, lc, hll, hlm, hlr⟩ := open_calls (tl := t) ht he hone hC h0 h1 h2 hi0 hiC ht'
    injection hll with hll
    subst hll
    exact ⟨(l, LA, lc), b, off, hA, hc, hlr, hlm⟩)
  refine ⟨A, (List.range len).map (fun i => (N i).1), cap, by simpa using hcs, by simp; omega, fun i => (N i).2.1, fun i => (N i).2.2, ?_, ?_⟩
  · intro hn
    rw [List.length_map, List.length_range] at hn ⊢
    obtain ⟨b, off, hA, _⟩ := hN 0 hn
    refine ⟨b, off, hA, fun j hj => ?_⟩
    obtain ⟨b', off', hA', hc0, _⟩ := hN j (by omega)
    rw [hA] at hA'
    cases hA'
    dsimp only
    rw [ix_map_range _ _ _ _ (by omega), hc0]
  · intro i hil
    rw [List.length_map, List.length_range] at hil
    obtain ⟨_, _, _, _, hr, hm2⟩ := hN i hil
    rw [ix_map_range _ _ _ _ hil]
    exact ⟨hr, hm2⟩
end
end Go.Proofs.YtoolenhnhlfhmaaGreatDoor
