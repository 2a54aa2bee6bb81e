/- Arguments opened: slices of numbers, and of structs of numbers; how long they are. -/
import Derived.Test.YtoolenhnhlfhmaaGreatDoorOpen2
import Derived.Test.YtoolenhnhlfhmaaGreatDoorDkX
import Derived.SizedLaws
namespace Go.Proofs.YtoolenhnhlfhmaaGreatDoor
open Go.RowKit Go.ChangeShapes Go.WideShapes Go.Deep
set_option linter.unusedVariables false
set_option linter.unusedSimpArgs false

section
variable {H : Type} {enc : TypeId × Value → H} {P : Program} {w : World} {base : Nat} {held : Bool}
theorem open_len {t e : TypeId} {fuel : Nat} {A : Option Addr} {len cap : Nat} {x : DataW H × List MemPlace} (ht : P.underlying t = some (.slice e)) (h : DataW.trod enc P w base (fun _ => true) held fuel t [.slice A len cap] = some x) :
    (len = 0 ∧ x.1 = .nil) ∨ ∃ es sp, x.1 = .slice es sp ∧ es.length = len := by
  rcases open_slice ht h with ⟨h0, h1⟩ | ⟨a, l, c, m, n, D, Pl, hcs, _, _, _, _, hx, _⟩
  · left
    simp at h0
    exact ⟨h0.2.1, by rw [h1]⟩
  · right
    simp at hcs
    obtain ⟨_, rfl, _⟩ := hcs
    exact ⟨_, _, by rw [hx], by simp⟩
theorem open_nums {t e : TypeId} {fs : Array Field} {ks : Nat → IntKind} {fuel : Nat} {cs : List Value} {x : DataW H × List MemPlace} (ht : P.underlying t = some (.slice e)) (he : P.underlying e = some (.struct fs))
    (hone : oneCellFields P fs = true) (hC : P.cellsOf e = fs.size) (hk : ∀ j f, fs[j]? = some f → P.underlying f.type = some (.int (ks j))) (hpos : 0 < fs.size)
    (h : DataW.trod enc P w base (fun _ => true) held fuel t cs = some x) :
    ∃ (A : Option Addr) (len cap : Nat) (Z : Nat → Nat → Int), cs = [.slice A len cap] ∧ len ≤ maxLen ∧ SlR w A len fs.size (fun j => .int (ks (j % fs.size)) (Z (j / fs.size) (j % fs.size))) ∧ (∀ i, i < len → ∀ j, j < fs.size → (Lit.int (ks j) (Z i j)).wf = true) ∧
      ((len = 0 ∧ x.1 = .nil) ∨ ∃ es sp, x.1 = .slice es sp ∧ es.length = len) := by
  obtain ⟨A, len, cap, hcs, hl, hm, hi⟩ := open_rows ht he hone hC h
  have hlen := open_len ht (hcs ▸ h)
  obtain ⟨Z, hZ⟩ := choose_lt (α := Nat → Int) (p := fun i z => ∀ j, j < fs.size → (∃ b off, A = some ⟨b, off, none⟩ ∧ w.cell? ⟨b, off + (i * fs.size + j), none⟩ = some (.int (ks j) (z j))) ∧ (Lit.int (ks j) (z j)).wf = true) (fun i hil => by
    obtain ⟨n, hf⟩ := hi i hil
    obtain ⟨z, hz⟩ := choose_lt (α := Int) (n := fs.size) (p := fun j z => (∃ b off, A = some ⟨b, off, none⟩ ∧ w.cell? ⟨b, off + (i * fs.size + j), none⟩ = some (.int (ks j) z)) ∧ (Lit.int (ks j) z).wf = true) (fun j hj => by
      obtain ⟨b, off, v, y, hA, hc, ht'⟩ := hf j fs[j] (by simp [hj])
      obtain ⟨k, hk', hwf⟩ := DataW.trod_int (hk j fs[j] (by simp [hj])) ht'
      injection hk' with hk'
      subst hk'
      exact ⟨k, ⟨b, off, hA, hc⟩, hwf.2⟩)
    exact ⟨z, hz⟩)
  refine ⟨A, len, cap, Z, hcs, by omega, fun hn => ?_, fun i hil j hj => (hZ i hil j hj).2, hlen⟩
  obtain ⟨⟨b, off, hA, _⟩, _⟩ := hZ 0 hn 0 hpos
  refine ⟨b, off, hA, fun j hj => ?_⟩
  have hq : j / fs.size < len := Nat.div_lt_of_lt_mul (by rwa [Nat.mul_comm])
  obtain ⟨⟨b', off', hA', hc⟩, _⟩ := hZ (j / fs.size) hq (j % fs.size) (Nat.mod_lt _ hpos)
  rw [hA] at hA'
  cases hA'
  have e : j / fs.size * fs.size + j % fs.size = j := by rw [Nat.mul_comm]; exact Nat.div_add_mod j fs.size
  rw [e] at hc
  exact hc

/-- A slice of numbers. -/
theorem open_nats {t e : TypeId} {k : IntKind} {fuel : Nat} {cs : List Value} {x : DataW H × List MemPlace} (ht : P.underlying t = some (.slice e)) (he : P.underlying e = some (.int k)) (hC : P.cellsOf e = 1)
    (hk : ∀ z, (Lit.int k z).wf = true → 0 ≤ z)
    (h : DataW.trod enc P w base (fun _ => true) held fuel t cs = some x) :
    ∃ (A : Option Addr) (l : List Nat) (cap : Nat), cs = [.slice A l.length cap] ∧ SlR w A l.length 1 (fun j => .int k ((ix (0 : Nat) l j : Nat) : Int)) ∧ (∀ j, j < l.length → (Lit.int k ((ix (0 : Nat) l j : Nat) : Int)).wf = true) ∧
      ((l.length = 0 ∧ x.1 = .nil) ∨ ∃ es sp, x.1 = .slice es sp ∧ es.length = l.length) := by
  obtain ⟨A, len, cap, hcs, hl, hm, hi⟩ := open_elems ht hC h
  have hlen := open_len ht (hcs ▸ h)
  obtain ⟨N, hN⟩ := choose_lt (α := Nat) (p := fun i z => (∃ b off, A = some ⟨b, off, none⟩ ∧ w.cell? ⟨b, off + i, none⟩ = some (.int k (z : Int))) ∧ (Lit.int k (z : Int)).wf = true) (fun i hil => by
    obtain ⟨n, b, off, v, y, hA, hc, ht'⟩ := hi i hil
    obtain ⟨z, hz, _, hwf⟩ := DataW.trod_int he ht'
    injection hz with hz
    subst hz
    have e : ((z.toNat : Nat) : Int) = z := Int.toNat_of_nonneg (hk z hwf)
    exact ⟨z.toNat, ⟨b, off, hA, by rw [e]; exact hc⟩, by rw [e]; exact hwf⟩)
  have hll : ((List.range len).map N).length = len := by simp
  refine ⟨A, (List.range len).map N, cap, by rw [hll]; exact hcs, ?_, fun j hj => ?_, by rw [hll]; exact hlen⟩
  · rw [hll]
    intro hn
    obtain ⟨⟨b, off, hA, _⟩, _⟩ := hN 0 hn
    refine ⟨b, off, hA, fun j hj => ?_⟩
    obtain ⟨⟨b', off', hA', hc⟩, _⟩ := hN j (by omega)
    rw [hA] at hA'
    cases hA'
    rw [hc]
    dsimp only
    rw [ix_map_range _ _ _ _ (by omega)]
  · rw [hll] at hj
    rw [ix_map_range _ _ _ _ hj]
    exact (hN j hj).2
/-- The form's reach bounds a slice's length. -/
theorem len_le1 {ts : List TypeId} {ds : List (DataW H)} (h : (DataW.weightsEach P ts ds).all (· ≤ reachBytes) = true) {j : Nat} {t e : TypeId} {d : DataW H} {len b : Nat} (ht : ts[j]? = some t) (hd : ds[j]? = some d) (hu : P.underlying t = some (.slice e))
    (hb : P.bytesOf e = b) (hb1 : 1 ≤ b) (hl : (len = 0 ∧ d = .nil) ∨ ∃ es sp, d = .slice es sp ∧ es.length = len) : len ≤ 4611686018427387904 := by
  rcases hl with ⟨rfl, _⟩ | ⟨es, sp, rfl, rfl⟩
  · omega
  · have h1 := sized_slice h ht hd hu
    rw [hb] at h1
    have h2 := reachBytes_lt
    have h3 : es.length * 1 ≤ (es.length + sp.length) * b := Nat.mul_le_mul (by omega) hb1
    omega
theorem wf_nn8 (z : Int) (h : (Lit.int .u8 z).wf = true) : 0 ≤ z := by
  have hx : 0 ≤ z ∧ z ≤ 255 := by simpa [Lit.wf, IntKind.min, IntKind.max, IntKind.signed, IntKind.bits] using h
  exact hx.1
theorem wf_lt8 {z : Nat} (h : (Lit.int .u8 (z : Int)).wf = true) : z < 256 := by
  have hx : (0 : Int) ≤ z ∧ (z : Int) ≤ 255 := by simpa [Lit.wf, IntKind.min, IntKind.max, IntKind.signed, IntKind.bits] using h
  omega
theorem wf_nn64 (z : Int) (h : (Lit.int .u64 z).wf = true) : 0 ≤ z := (bounds_u64 h).1
theorem wf_lt64 {z : Nat} (h : (Lit.int .u64 (z : Int)).wf = true) : z < 18446744073709551616 := by
  have := bounds_u64 h
  omega
def kMark : Nat → IntKind := fun j => if j < 5 then .i64 else .u64
theorem marks_of {A : Option Addr} {len : Nat} {Z : Nat → Nat → Int} (h : SlR w A len 6 (fun j => .int (kMark (j % 6)) (Z (j / 6) (j % 6)))) (hw : ∀ i, i < len → ∀ j, j < 6 → (Lit.int (kMark j) (Z i j)).wf = true) :
    ∃ l : List MarkD, l.length = len ∧ SlR w A l.length 6 (marksV l) ∧ ∀ i, i < l.length → MarkOk (ix noMark l i) := by
  have hb : ∀ i, i < len → 0 ≤ Z i 5 ∧ Z i 5 ≤ 18446744073709551615 := fun i hi => bounds_u64 (hw i hi 5 (by omega))
  have hll : ((List.range len).map fun i => (⟨Z i 0, Z i 1, Z i 2, Z i 3, Z i 4, (Z i 5).toNat⟩ : MarkD)).length = len := by simp
  refine ⟨(List.range len).map fun i => ⟨Z i 0, Z i 1, Z i 2, Z i 3, Z i 4, (Z i 5).toNat⟩, hll, ?_, ?_⟩
  · rw [hll]
    refine h.congr (fun j hj => ?_)
    have t5 : ((Z (j / 6) 5).toNat : Int) = Z (j / 6) 5 := Int.toNat_of_nonneg (hb (j / 6) (by omega)).1
    unfold marksV rowV kMark
    rw [ix_map_range _ _ _ _ (by omega)]
    rcases (by omega : j % 6 = 0 ∨ j % 6 = 1 ∨ j % 6 = 2 ∨ j % 6 = 3 ∨ j % 6 = 4 ∨ j % 6 = 5) with e | e | e | e | e | e <;> simp [e, t5]
  · intro i hi
    rw [hll] at hi
    rw [ix_map_range _ _ _ _ hi]
    exact ⟨bounds_i64 (hw i hi 3 (by omega)), bounds_i64 (hw i hi 4 (by omega)), by have := hb i hi; show (Z i 5).toNat < _; omega⟩
end
end Go.Proofs.YtoolenhnhlfhmaaGreatDoor
