/- Arguments of this program's types, opened. -/
import Derived.Test.YtmpiodlkhjjbfaaRows
import Derived.Test.YtmpiodlkhjjbfaaFair1
import Derived.Test.YtmpiodlkhjjbfaaOpen2
import Derived.Lib.SmallJoins
namespace Go.Proofs.Ytmpiodlkhjjbfaa
open Go.RowKit Go.ChangeShapes Go.WideShapes Go.Deep Go.Joins
set_option linter.unusedVariables false
set_option linter.unusedSimpArgs false

section
variable {H : Type} {enc : TypeId × Value → H} {W : World} {b0 : Nat} {v : Value} {d : DataW H} {p : List MemPlace}

theorem in_picks (hv : Value.okWide Try.prog W .any b0 36 v) (h : DataW.Trod enc Try.prog W 0 (fun _ => true) true 36 v d p) :
    ∃ A n c f g, v = .slice A n c ∧ n ≤ maxLen ∧ SlR W A n 2 (pkv f g) ∧ ∀ i, g i < 18446744073709551616 := by
  obtain ⟨A, n, c, rfl⟩ := okWide_slice Try.underlying36 hv
  obtain ⟨fuel, hf⟩ := h
  obtain ⟨A', len, cap, hcs, hl, hm, hi⟩ := open_rows Try.underlying36 Try.underlying41 (by kernel_rfl) (by kernel_rfl) hf
  simp only [Value.cells, List.cons.injEq, and_true, Value.slice.injEq] at hcs
  obtain ⟨rfl, rfl, rfl⟩ := hcs
  obtain ⟨N, hN⟩ := choose_lt (α := Int × Nat) (p := fun i z => ∃ b off, A = some ⟨b, off, none⟩ ∧ W.cell? ⟨b, off + (i * 2 + 0), none⟩ = some (.int .i64 z.1) ∧ W.cell? ⟨b, off + (i * 2 + 1), none⟩ = some (.int .u64 z.2) ∧ z.2 < 18446744073709551616) (fun i hil => by
    obtain ⟨n', hf⟩ := hi i hil
    obtain ⟨b, off, v0, y0, hA, hc0, ht0⟩ := hf 0 _ rfl
    obtain ⟨b1, off1, v1, y1, hA1, hc1, ht1⟩ := hf 1 _ rfl
    rw [hA] at hA1
    cases hA1
    obtain ⟨k, hk, _⟩ := DataW.trod_int Try.underlying3 ht0
    obtain ⟨a, ha, _, hw⟩ := DataW.trod_int Try.underlying39 ht1
    injection hk with hk
    injection ha with ha
    subst hk ha
    have hx : 0 ≤ a ∧ a ≤ 18446744073709551615 := by simpa [Lit.wf, IntKind.min, IntKind.max, IntKind.signed, IntKind.bits] using hw
    refine ⟨(k, a.toNat), b, off, hA, hc0, ?_, by show a.toNat < _; omega⟩
    have e : ((a.toNat : Nat) : Int) = a := Int.toNat_of_nonneg hx.1
    show _ = some (Value.int .u64 ((a.toNat : Nat) : Int))
    rw [e]
    exact hc1)
  refine ⟨A, n, c, fun i => (N i).1, fun i => (N i).2 % 18446744073709551616, rfl, by omega, ?_, fun i => Nat.mod_lt _ (by omega)⟩
  intro hn
  obtain ⟨b, off, hA, _⟩ := hN 0 hn
  refine ⟨b, off, hA, fun j hj => ?_⟩
  obtain ⟨b', off', hA', hc0, hc1, hlt⟩ := hN (j / 2) (by omega)
  rw [hA] at hA'
  cases hA'
  unfold pkv
  by_cases h2 : j % 2 = 0
  · rw [if_pos h2, ← hc0]
    congr 3
    omega
  · dsimp only
    rw [if_neg h2, Nat.mod_eq_of_lt hlt, ← hc1]
    congr 3
    omega

theorem in_did (hv : Value.okWide Try.prog W .any b0 59 v) (h : DataW.Trod enc Try.prog W 0 (fun _ => true) true 59 v d p) :
    ∃ (k a : Int) (o n : Nat), v = .agg #[.int .i64 k, .int .i64 a, .int .u64 o, .int .u64 n] := by
  obtain ⟨v0, v1, v2, v3, y0, y1, y2, y3, n, rfl, _, _, h0, h1, h2, h3⟩ := open_agg4 Try.underlying59 (by kernel_rfl) (by kernel_rfl) hv h
  obtain ⟨k0, e0, _⟩ := DataW.trod_int Try.underlying3 h0
  obtain ⟨k1, e1, _⟩ := DataW.trod_int Try.underlying3 h1
  obtain ⟨k2, e2, _, w2⟩ := DataW.trod_int Try.underlying39 h2
  obtain ⟨k3, e3, _, w3⟩ := DataW.trod_int Try.underlying39 h3
  injection e0 with e0
  injection e1 with e1
  injection e2 with e2
  injection e3 with e3
  subst e0 e1 e2 e3
  have x2 : 0 ≤ k2 ∧ k2 ≤ 18446744073709551615 := by simpa [Lit.wf, IntKind.min, IntKind.max, IntKind.signed, IntKind.bits] using w2
  have x3 : 0 ≤ k3 ∧ k3 ≤ 18446744073709551615 := by simpa [Lit.wf, IntKind.min, IntKind.max, IntKind.signed, IntKind.bits] using w3
  exact ⟨k0, k1, k2.toNat, k3.toNat, by rw [Int.toNat_of_nonneg x2.1, Int.toNat_of_nonneg x3.1]⟩

theorem in_setup (hv : Value.okWide Try.prog W .any b0 47 v) (h : DataW.Trod enc Try.prog W 0 (fun _ => true) true 47 v d p) :
    ∃ (a b : Int) (DA : Option Addr) (Dn Dc : Nat), v = .agg #[.int .i64 a, .int .i64 b, .slice DA Dn Dc] := by
  obtain ⟨v0, v1, v2, y0, y1, y2, n, rfl, _, _, h0, h1, h2⟩ := open_agg3 Try.underlying47 (by kernel_rfl) (by kernel_rfl) hv h
  obtain ⟨k0, e0, _⟩ := DataW.trod_int Try.underlying3 h0
  obtain ⟨k1, e1, _⟩ := DataW.trod_int Try.underlying3 h1
  obtain ⟨A, l, c, e2, _⟩ := open_elems Try.underlying45 (by kernel_rfl) h2
  injection e0 with e0
  injection e1 with e1
  injection e2 with e2
  subst e0 e1 e2
  exact ⟨k0, k1, A, l, c, rfl⟩

theorem in_callss (hv : Value.okWide Try.prog W .any b0 49 v) (h : DataW.Trod enc Try.prog W 0 (fun _ => true) true 49 v d p) :
    ∃ (A : Option Addr) (l : List (List CallD)) (c : Nat), v = .slice A l.length c ∧ l.length ≤ maxLen ∧ CallssR W A l := by
  obtain ⟨A, n, c, rfl⟩ := okWide_slice Try.underlying49 hv
  obtain ⟨fuel, hf⟩ := h
  obtain ⟨A', l, cap, hcs, hl, hr⟩ := open_callss Try.underlying49 (by kernel_rfl) Try.underlying77 Try.underlying76 (by kernel_rfl) (by kernel_rfl) Try.underlying3 Try.underlying3 Try.underlying74 Try.underlying3 (by kernel_rfl) hf
  simp only [Value.cells, List.cons.injEq, and_true, Value.slice.injEq] at hcs
  obtain ⟨rfl, rfl, rfl⟩ := hcs
  exact ⟨A, l, c, rfl, hl, hr⟩
end
end Go.Proofs.Ytmpiodlkhjjbfaa
