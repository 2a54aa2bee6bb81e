/- Arguments opened: rows of integers, as lists of bytes; bytes. -/
import Derived.Test.YtmpiodlkhjjbfaaPicks
import Derived.OpenShut
namespace Go.Proofs.Ytmpiodlkhjjbfaa
open Go.RowKit Go.ChangeShapes Go.WideShapes
set_option linter.unusedVariables false
set_option linter.unusedSimpArgs false

/-- A slice of integers that came in: nil, or a row of cap cells. -/
def IsRow (k : IntKind) (w : World) (a : Option Addr) (len cap : Nat) (zs : List Int) : Prop :=
  (a = none ∧ len = 0 ∧ cap = 0 ∧ zs = []) ∨
  ∃ x, a = some x ∧ len ≤ cap ∧ cap ≤ maxLen ∧ zs.length = cap ∧ (∀ i, i < zs.length → w.cell? (x.add i) = some (.int k (zs.getD i 0))) ∧ ∀ n ∈ zs, (Lit.int k n).wf = true

theorem byte_of {a : Int} (h : (Lit.int .u8 a).wf = true) : ∃ k : Nat, a = (k : Int) ∧ k < 256 := by
  have hx : 0 ≤ a ∧ a ≤ 255 := by simpa [Lit.wf, IntKind.min, IntKind.max, IntKind.signed, IntKind.bits] using h
  exact ⟨a.toNat, by omega, by omega⟩
theorem nat_of16 {a : Int} (h : (Lit.int .u16 a).wf = true) : ∃ k : Nat, a = (k : Int) ∧ k < 65536 := by
  have hx : 0 ≤ a ∧ a ≤ 65535 := by simpa [Lit.wf, IntKind.min, IntKind.max, IntKind.signed, IntKind.bits] using h
  exact ⟨a.toNat, by omega, by omega⟩
theorem nat_of64 {a : Int} (h : (Lit.int .u64 a).wf = true) : ∃ k : Nat, a = (k : Int) ∧ k < 18446744073709551616 := by
  have hx : 0 ≤ a ∧ a ≤ 18446744073709551615 := by simpa [Lit.wf, IntKind.min, IntKind.max, IntKind.signed, IntKind.bits] using h
  exact ⟨a.toNat, by omega, by omega⟩
theorem bytes_of {w : World} {a : Option Addr} {len cap : Nat} {zs : List Int} (h : IsRow .u8 w a len cap zs) : ∃ xs : List Nat, xs.length = len ∧ xs.length ≤ maxLen ∧ BytesR w a xs := by
  rcases h with ⟨rfl, rfl, rfl, rfl⟩ | ⟨x, rfl, hl, hm, hz, hcell, hwf⟩
  · exact ⟨[], rfl, by simp [maxLen], SlR.nil, fun i => by simp [ix]⟩
  · have hb : ∀ i, i < zs.length → ∃ k : Nat, zs.getD i 0 = (k : Int) ∧ k < 256 := fun i hi => byte_of (hwf _ (by
      rw [List.getD_eq_getElem?_getD, List.getElem?_eq_getElem hi]; exact List.getElem_mem hi))
    refine ⟨(zs.take len).map Int.toNat, by simp; omega, by simp; omega, ?_, ?_⟩
    · intro hn
      rw [List.length_map, List.length_take] at hn ⊢
      obtain ⟨b, off, rfl, hc⟩ := ints_at hcell (by omega)
      refine ⟨b, off, rfl, fun j hj => ?_⟩
      have hcj := hc j (by omega)
      rw [hcj]
      obtain ⟨k, hk, _⟩ := hb j (by omega)
      rw [hk]
      have e : ix 0 ((zs.take len).map Int.toNat) j = k := by
        unfold ix
        rw [List.getD_eq_getElem?_getD, List.getElem?_map, List.getElem?_take, if_pos (by omega), List.getElem?_eq_getElem (by omega)]
        rw [List.getD_eq_getElem?_getD, List.getElem?_eq_getElem (by omega)] at hk
        simp only [Option.getD_some, Option.map_some] at hk ⊢
        rw [hk]; rfl
      dsimp only
      rw [e]
    · intro i
      unfold ix
      rw [List.getD_eq_getElem?_getD, List.getElem?_map, List.getElem?_take]
      by_cases hi : i < len
      · rw [if_pos hi, List.getElem?_eq_getElem (by omega)]
        obtain ⟨k, hk, hk2⟩ := hb i (by omega)
        rw [List.getD_eq_getElem?_getD, List.getElem?_eq_getElem (by omega)] at hk
        simp only [Option.getD_some, Option.map_some] at hk ⊢
        rw [hk]
        simpa using hk2
      · rw [if_neg hi]
        simp
end Go.Proofs.Ytmpiodlkhjjbfaa
