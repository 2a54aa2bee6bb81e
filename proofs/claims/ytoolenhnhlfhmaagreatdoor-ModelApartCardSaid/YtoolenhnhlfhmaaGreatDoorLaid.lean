/- What the rows' premise on the two tables gives. -/
import Derived.Test.YtoolenhnhlfhmaaGreatDoorRows
import Derived.Test.YtoolenhnhlfhmaaGreatDoorGC
import Derived.Test.YtoolenhnhlfhmaaGreatDoorGK
import Derived.OpenShut
import Derived.LaidLaws
namespace Go.Proofs.YtoolenhnhlfhmaaGreatDoor
open Go.RowKit
set_option linter.unusedVariables false
set_option linter.unusedSimpArgs false

theorem int_of_trod {H : Type} {enc : TypeId × Value → H} {P : Program} {w : World} {base : Nat} {sp : Nat → Bool} {held : Bool} {fuel : Nat} {t : TypeId} {k : IntKind} {c : Value} {y : DataW H × List MemPlace}
    (ht : P.underlying t = some (.int k)) (h : DataW.trod enc P w base sp held fuel t [c] = some y) : ∃ n, c = .int k n ∧ y = (.lit (.int k n), []) := by
  cases fuel with
  | zero => simp [DataW.trod] at h
  | succ fuel =>
    cases c <;> simp [DataW.trod, ht] at h
    rename_i k' n
    obtain ⟨⟨rfl, _⟩, rfl⟩ := h
    exact ⟨n, rfl, rfl⟩
theorem one_of_drop {cs : List Value} {i : Nat} (hi : i < cs.length) : (cs.drop i).take 1 = [cs[i]] := by
  rw [List.drop_eq_getElem_cons hi]
  rfl
/-- An array of numbers. -/
theorem ints_of_array {H : Type} {enc : TypeId × Value → H} {P : Program} {w : World} {base : Nat} {sp : Nat → Bool} {held : Bool} {fuel n : Nat} {t e : TypeId} {k : IntKind} {cs : List Value} {ds : List (DataW H)} {p : List MemPlace}
    (ht : P.underlying t = some (.array n e)) (he : P.underlying e = some (.int k)) (h1 : P.cellsOf e = 1) (h2 : P.cellsOf t = n) (h : DataW.trod enc P w base sp held fuel t cs = some (.agg ds, p)) :
    ∀ i, i < n → ∃ m, cs[i]? = some (.int k m) ∧ ds[i]? = some (.lit (.int k m)) := by
  obtain ⟨xs, m, rfl, hx, hl, hxl, hi⟩ := DataW.trod_array ht h
  intro i hin
  have h3 := hi i hin
  rw [h1, Nat.mul_one, one_of_drop (by omega)] at h3
  rw [List.getElem?_eq_getElem (by omega)] at h3
  obtain ⟨z, hz, hy⟩ := int_of_trod he h3
  refine ⟨z, by rw [List.getElem?_eq_getElem (by omega), hz], ?_⟩
  injection hx with hx1 hx2
  injection hx1 with hx1
  rw [hx1, List.getElem?_map, List.getElem?_eq_getElem (by omega), hy]
  rfl
/-- An array of pairs of numbers. -/
theorem pairs_of_array {H : Type} {enc : TypeId × Value → H} {P : Program} {w : World} {base : Nat} {sp : Nat → Bool} {held : Bool} {fuel n : Nat} {t e : TypeId} {k : IntKind} {fs : Array Field} {f0 f1 : Field} {cs : List Value} {ds : List (DataW H)} {p : List MemPlace}
    (ht : P.underlying t = some (.array n e)) (he : P.underlying e = some (.struct fs)) (hf0 : fs[0]? = some f0) (hf1 : fs[1]? = some f1) (hfs : fs.size = 2) (o0 : f0.offset = 0) (o1 : f1.offset = 1)
    (ha : P.underlying f0.type = some (.int k)) (hb : P.underlying f1.type = some (.int k)) (ca : P.cellsOf f0.type = 1) (cb : P.cellsOf f1.type = 1) (h1 : P.cellsOf e = 2) (h2 : P.cellsOf t = n * 2) (h : DataW.trod enc P w base sp held fuel t cs = some (.agg ds, p)) :
    ∀ i, i < n → ∃ x y, cs[i * 2]? = some (.int k x) ∧ cs[i * 2 + 1]? = some (.int k y) ∧ ds[i]? = some (.agg [.lit (.int k x), .lit (.int k y)]) := by
  obtain ⟨xs, m, rfl, hx, hl, hxl, hi⟩ := DataW.trod_array ht h
  intro i hin
  have h3 := hi i hin
  rw [h1, List.getElem?_eq_getElem (by omega)] at h3
  obtain ⟨ys, m', rfl, hy, hl', hyl, hj⟩ := DataW.trod_struct he h3
  have g0 := hj 0 f0 hf0
  have g1 := hj 1 f1 hf1
  have hdl : ((cs.drop (i * 2)).take 2).length = 2 := by rw [List.length_take, List.length_drop]; omega
  rw [o0, ca, one_of_drop (by omega), List.getElem?_eq_getElem (by omega)] at g0
  rw [o1, cb, one_of_drop (by omega), List.getElem?_eq_getElem (by omega)] at g1
  obtain ⟨x, ex, ey0⟩ := int_of_trod ha g0
  obtain ⟨y, ey, ey1⟩ := int_of_trod hb g1
  rw [List.getElem_take, List.getElem_drop] at ex ey
  refine ⟨x, y, by rw [List.getElem?_eq_getElem (by omega)]; exact congrArg some ex, by rw [List.getElem?_eq_getElem (by omega)]; exact congrArg some ey, ?_⟩
  injection hx with hx1 hx2
  injection hx1 with hx1
  rw [hx1, List.getElem?_map, List.getElem?_eq_getElem (by omega), hy]
  have e2 : ys = [ys[0], ys[1]] := by
    apply List.ext_getElem
    · simp; omega
    · intro q q1 q2
      have : q < 2 := by omega
      rcases (by omega : q = 0 ∨ q = 1) with rfl | rfl <;> rfl
  rw [e2]
  simp only [Option.map_some, List.map_cons, List.map_nil]
  rw [ey0, ey1]

theorem gTab : Tryz.prog.globalNamed "dustpan/class.table" = some 0 := by kernel_rfl
theorem gTabT : (Tryz.prog.globals[0]?).map (·.type) = some 133 := by kernel_rfl
theorem gBru : Tryz.prog.globalNamed "math/bits.deBruijn64tab" = some 1 := by kernel_rfl
theorem gBruT : (Tryz.prog.globals[1]?).map (·.type) = some 148 := by kernel_rfl
def tabRow (c : Nat) : DataW Unit := .agg [.lit (.int .i64 (clsB c)), .lit (.int .i64 (clsP c))]
theorem rows_tab : (Rows.laid_dustpan_class_table : DataW Unit) = .agg ((List.range 14).map tabRow) := by rfl
theorem cells70 : Tryz.prog.cellsOf 133 = 28 := by kernel_rfl
theorem cells69 : Tryz.prog.cellsOf 132 = 2 := by kernel_rfl
theorem cells3 : Tryz.prog.cellsOf 3 = 1 := by kernel_rfl
theorem cells92 : Tryz.prog.cellsOf 148 = 64 := by kernel_rfl
theorem cells5 : Tryz.prog.cellsOf 5 = 1 := by kernel_rfl
theorem rows_bru : (Rows.laid_math_bits_deBruijn64tab : DataW Unit) = .agg ((List.range 64).map fun j => .lit (.int .u8 (Lib.deBruijn64tab.getD j 0 : Nat))) := by rfl
def laidBoth : List (String × DataW Unit) := [("dustpan/class.table", Rows.laid_dustpan_class_table), ("math/bits.deBruijn64tab", Rows.laid_math_bits_deBruijn64tab)]
theorem tabs_of_laid {W : World} (h : laidMetH Tryz.prog laidBoth W) : Tab W ∧ TabB W := by
  have h' : laidMet Tryz.prog laidBoth W := h
  obtain ⟨ps, ⟨g, t, cs, fuel, p, q, hg, ht, hvar, hd, ⟨g2, t2, cs2, fuel2, p2, q2, hg2, ht2, hvar2, hd2, _, _⟩, _⟩, _⟩ := h'
  obtain rfl := Option.some.inj (gTab.symm.trans hg)
  obtain rfl := Option.some.inj (gTabT.symm.trans ht)
  obtain rfl := Option.some.inj (gBru.symm.trans hg2)
  obtain rfl := Option.some.inj (gBruT.symm.trans ht2)
  rw [rows_tab] at hd
  rw [rows_bru] at hd2
  refine ⟨fun c hc => ?_, fun j hj => ?_⟩
  · obtain ⟨x, y, e1, e2, e3⟩ := pairs_of_array Tryz.underlying133 Tryz.underlying132 rfl rfl rfl rfl rfl Tryz.underlying3 Tryz.underlying3 cells3 cells3 cells69 cells70 hd c hc
    have e4 : ((List.range 14).map tabRow)[c]? = some (tabRow c) := by simp [hc]
    rw [e4] at e3
    injection e3 with e3
    unfold tabRow at e3
    simp only [DataW.agg.injEq, List.cons.injEq, DataW.lit.injEq, Lit.int.injEq, true_and, and_true] at e3
    rw [World.var?_cell gTab hvar (c * 2), World.var?_cell gTab hvar (c * 2 + 1)]
    rw [← Array.getElem?_toList, ← Array.getElem?_toList, e1, e2, e3.1, e3.2]
    exact ⟨rfl, rfl⟩
  · have hj' : j < 64 := hj
    obtain ⟨x, e1, e3⟩ := ints_of_array Tryz.underlying148 Tryz.underlying5 cells5 cells92 hd2 j hj'
    have e4 : ((List.range 64).map fun j => (DataW.lit (.int .u8 (Lib.deBruijn64tab.getD j 0 : Nat)) : DataW Unit))[j]? = some (.lit (.int .u8 (Lib.deBruijn64tab.getD j 0 : Nat))) := by simp [hj']
    rw [e4] at e3
    injection e3 with e3
    simp only [DataW.lit.injEq, Lit.int.injEq, true_and] at e3
    rw [World.var?_cell gBru hvar2 j, ← Array.getElem?_toList, e1, e3]
end Go.Proofs.YtoolenhnhlfhmaaGreatDoor
