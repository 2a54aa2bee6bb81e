/- Arguments opened: slices of structs of numbers. -/
import Derived.Test.YtmpiodlkhjjbfaaDoorOpen2
import Derived.Test.YtmpiodlkhjjbfaaDoorPieces
import Derived.SizedLaws
namespace Go.Proofs.YtmpiodlkhjjbfaaDoor
open Go.RowKit Go.ChangeShapes Go.WideShapes Go.Deep
set_option linter.unusedVariables false
set_option linter.unusedSimpArgs false

section
variable {H : Type} {enc : TypeId × Value → H} {P : Program} {w : World} {base : Nat} {held : Bool}
theorem open_len {t e : TypeId} {fuel : Nat} {A : Option Addr} {len cap : Nat} {x : DataW H × List MemPlace} (ht : P.underlying t = some (.slice e)) (h : DataW.trod enc P w base (fun _ => true) held fuel t [.slice A len cap] = some x) :
    (len = 0 ∧ x.1 = .nil) ∨ ∃ es sp, x.1 = .slice es sp ∧ es.length = len := by
  rcases open_slice ht h with ⟨h0, h1⟩ | ⟨a, l, c, m, n, D, Pl, hcs, _, _, _, _, hx, _⟩
  · left
    simp at h0
    exact ⟨h0.2.1, by rw [h1]⟩
  · right
    simp at hcs
    obtain ⟨_, rfl, _⟩ := hcs
    exact ⟨_, _, by rw [hx], by simp⟩
theorem open_nums {t e : TypeId} {fs : Array Field} {ks : Nat → IntKind} {fuel : Nat} {cs : List Value} {x : DataW H × List MemPlace} (ht : P.underlying t = some (.slice e)) (he : P.underlying e = some (.struct fs))
    (hone : oneCellFields P fs = true) (hC : P.cellsOf e = fs.size) (hk : ∀ j f, fs[j]? = some f → P.underlying f.type = some (.int (ks j))) (hpos : 0 < fs.size)
    (h : DataW.trod enc P w base (fun _ => true) held fuel t cs = some x) :
    ∃ (A : Option Addr) (len cap : Nat) (Z : Nat → Nat → Int), cs = [.slice A len cap] ∧ len ≤ maxLen ∧ SlR w A len fs.size (fun j => .int (ks (j % fs.size)) (Z (j / fs.size) (j % fs.size))) ∧ (∀ i, i < len → ∀ j, j < fs.size → (Lit.int (ks j) (Z i j)).wf = true) ∧
      ((len = 0 ∧ x.1 = .nil) ∨ ∃ es sp, x.1 = .slice es sp ∧ es.length = len) := by
  obtain ⟨A, len, cap, hcs, hl, hm, hi⟩ := open_rows ht he hone hC h
  have hlen := open_len ht (hcs ▸ h)
  obtain ⟨Z, hZ⟩ := choose_lt (α := Nat → Int) (p := fun i z => ∀ j, j < fs.size → (∃ b off, A = some ⟨b, off, none⟩ ∧ w.cell? ⟨b, off + (i * fs.size + j), none⟩ = some (.int (ks j) (z j))) ∧ (Lit.int (ks j) (z j)).wf = true) (fun i hil => by
    obtain ⟨n, hf⟩ := hi i hil
    obtain ⟨z, hz⟩ := choose_lt (α := Int) (n := fs.size) (p := fun j z => (∃ b off, A = some ⟨b, off, none⟩ ∧ w.cell? ⟨b, off + (i * fs.size + j), none⟩ = some (.int (ks j) z)) ∧ (Lit.int (ks j) z).wf = true) (fun j hj => by
      obtain ⟨b, off, v, y, hA, hc, ht'⟩ := hf j fs[j] (by simp [hj])
      obtain ⟨k, hk', hwf⟩ := DataW.trod_int (hk j fs[j] (by simp [hj])) ht'
      injection hk' with hk'
      subst hk'
      exact ⟨k, ⟨b, off, hA, hc⟩, hwf.2⟩)
    exact ⟨z, hz⟩)
  refine ⟨A, len, cap, Z, hcs, by omega, fun hn => ?_, fun i hil j hj => (hZ i hil j hj).2, hlen⟩
  obtain ⟨⟨b, off, hA, _⟩, _⟩ := hZ 0 hn 0 hpos
  refine ⟨b, off, hA, fun j hj => ?_⟩
  have hq : j / fs.size < len := Nat.div_lt_of_lt_mul (by rwa [Nat.mul_comm])
  obtain ⟨⟨b', off', hA', hc⟩, _⟩ := hZ (j / fs.size) hq (j % fs.size) (Nat.mod_lt _ hpos)
  rw [hA] at hA'
  cases hA'
  have e : j / fs.size * fs.size + j % fs.size = j := by rw [Nat.mul_comm]; exact Nat.div_add_mod j fs.size
  rw [e] at hc
  exact hc

def kRun : Nat → IntKind := fun _ => .i64
def kSpan : Nat → IntKind := fun j => if j < 5 then .i64 else .u64
theorem runs_of {A : Option Addr} {len : Nat} {Z : Nat → Nat → Int} (h : SlR w A len 2 (fun j => .int (kRun (j % 2)) (Z (j / 2) (j % 2)))) : RunsR w A ((List.range len).map fun i => ⟨Z i 0, Z i 1⟩) := by
  unfold RunsR
  rw [List.length_map, List.length_range]
  refine h.congr (fun j hj => ?_)
  unfold runv kRun
  rw [ix_map_range _ _ _ _ (by omega)]
  rcases (by omega : j % 2 = 0 ∨ j % 2 = 1) with e | e <;> simp [e]
theorem hands_of {A : Option Addr} {len : Nat} {Z : Nat → Nat → Int} (h : SlR w A len 3 (fun j => .int (kRun (j % 3)) (Z (j / 3) (j % 3)))) : HandsR w A ((List.range len).map fun i => ⟨Z i 0, Z i 1, Z i 2⟩) := by
  unfold HandsR
  rw [List.length_map, List.length_range]
  refine h.congr (fun j hj => ?_)
  unfold handv kRun
  rw [ix_map_range _ _ _ _ (by omega)]
  rcases (by omega : j % 3 = 0 ∨ j % 3 = 1 ∨ j % 3 = 2) with e | e | e <;> simp [e]
theorem spans_of {A : Option Addr} {len : Nat} {Z : Nat → Nat → Int} (h : SlR w A len 7 (fun j => .int (kSpan (j % 7)) (Z (j / 7) (j % 7)))) (hw : ∀ i, i < len → ∀ j, j < 7 → (Lit.int (kSpan j) (Z i j)).wf = true) :
    SpansR w A ((List.range len).map fun i => ⟨Z i 0, Z i 1, Z i 2, Z i 3, Z i 4, (Z i 5).toNat, (Z i 6).toNat⟩) ∧ ∀ i, i < len → (Z i 5).toNat < 18446744073709551616 ∧ (Z i 6).toNat < 18446744073709551616 := by
  have hb : ∀ i, i < len → (0 ≤ Z i 5 ∧ Z i 5 ≤ 18446744073709551615) ∧ (0 ≤ Z i 6 ∧ Z i 6 ≤ 18446744073709551615) := fun i hi =>
    ⟨bounds_u64 (hw i hi 5 (by omega)), bounds_u64 (hw i hi 6 (by omega))⟩
  refine ⟨?_, fun i hi => by have := hb i hi; omega⟩
  unfold SpansR
  rw [List.length_map, List.length_range]
  refine h.congr (fun j hj => ?_)
  have hb2 := hb (j / 7) (by omega)
  have t5 : ((Z (j / 7) 5).toNat : Int) = Z (j / 7) 5 := Int.toNat_of_nonneg hb2.1.1
  have t6 : ((Z (j / 7) 6).toNat : Int) = Z (j / 7) 6 := Int.toNat_of_nonneg hb2.2.1
  unfold spanv kSpan
  rw [ix_map_range _ _ _ _ (by omega)]
  rcases (by omega : j % 7 = 0 ∨ j % 7 = 1 ∨ j % 7 = 2 ∨ j % 7 = 3 ∨ j % 7 = 4 ∨ j % 7 = 5 ∨ j % 7 = 6) with e | e | e | e | e | e | e <;> simp [e, t5, t6]
end
end Go.Proofs.YtmpiodlkhjjbfaaDoor
