/- What the rows' premise on the two tables gives to the evaluation. -/
import Derived.Test.YtclnmihpelaalaaGreatDoorRows
import Derived.Test.YtclnmihpelaalaaGreatDoorRefl14
import Derived.OpenShut
import Derived.LaidLaws
import Derived.Lay
import Derived.MakeChecks
namespace Go.Proofs.YtclnmihpelaalaaGreatDoor
open Go.RowKit
set_option linter.unusedVariables false
set_option linter.unusedSimpArgs false

theorem int_of_trod {H : Type} {enc : TypeId × Value → H} {P : Program} {w : World} {base : Nat} {sp : Nat → Bool} {held : Bool} {fuel : Nat} {t : TypeId} {k : IntKind} {c : Value} {y : DataW H × List MemPlace}
    (ht : P.underlying t = some (.int k)) (h : DataW.trod enc P w base sp held fuel t [c] = some y) : ∃ n, c = .int k n ∧ y = (.lit (.int k n), []) := by
  cases fuel with
  | zero => simp [DataW.trod] at h
  | succ fuel =>
    cases c <;> simp [DataW.trod, ht] at h
    rename_i k' n
    obtain ⟨⟨rfl, _⟩, rfl⟩ := h
    exact ⟨n, rfl, rfl⟩
theorem one_of_drop {cs : List Value} {i : Nat} (hi : i < cs.length) : (cs.drop i).take 1 = [cs[i]] := by
  rw [List.drop_eq_getElem_cons hi]
  rfl
/-- An array of numbers. -/
theorem ints_of_array {H : Type} {enc : TypeId × Value → H} {P : Program} {w : World} {base : Nat} {sp : Nat → Bool} {held : Bool} {fuel n : Nat} {t e : TypeId} {k : IntKind} {cs : List Value} {ds : List (DataW H)} {p : List MemPlace}
    (ht : P.underlying t = some (.array n e)) (he : P.underlying e = some (.int k)) (h1 : P.cellsOf e = 1) (h2 : P.cellsOf t = n) (h : DataW.trod enc P w base sp held fuel t cs = some (.agg ds, p)) :
    ∀ i, i < n → ∃ m, cs[i]? = some (.int k m) ∧ ds[i]? = some (.lit (.int k m)) := by
  obtain ⟨xs, m, rfl, hx, hl, hxl, hi⟩ := DataW.trod_array ht h
  intro i hin
  have h3 := hi i hin
  rw [h1, Nat.mul_one, one_of_drop (by omega)] at h3
  rw [List.getElem?_eq_getElem (by omega)] at h3
  obtain ⟨z, hz, hy⟩ := int_of_trod he h3
  refine ⟨z, by rw [List.getElem?_eq_getElem (by omega), hz], ?_⟩
  injection hx with hx1 hx2
  injection hx1 with hx1
  rw [hx1, List.getElem?_map, List.getElem?_eq_getElem (by omega), hy]
  rfl
/-- An array of pairs of numbers. -/
theorem pairs_of_array {H : Type} {enc : TypeId × Value → H} {P : Program} {w : World} {base : Nat} {sp : Nat → Bool} {held : Bool} {fuel n : Nat} {t e : TypeId} {k : IntKind} {fs : Array Field} {f0 f1 : Field} {cs : List Value} {ds : List (DataW H)} {p : List MemPlace}
    (ht : P.underlying t = some (.array n e)) (he : P.underlying e = some (.struct fs)) (hf0 : fs[0]? = some f0) (hf1 : fs[1]? = some f1) (hfs : fs.size = 2) (o0 : f0.offset = 0) (o1 : f1.offset = 1)
    (ha : P.underlying f0.type = some (.int k)) (hb : P.underlying f1.type = some (.int k)) (ca : P.cellsOf f0.type = 1) (cb : P.cellsOf f1.type = 1) (h1 : P.cellsOf e = 2) (h2 : P.cellsOf t = n * 2) (h : DataW.trod enc P w base sp held fuel t cs = some (.agg ds, p)) :
    ∀ i, i < n → ∃ x y, cs[i * 2]? = some (.int k x) ∧ cs[i * 2 + 1]? = some (.int k y) ∧ ds[i]? = some (.agg [.lit (.int k x), .lit (.int k y)]) := by
  obtain ⟨xs, m, rfl, hx, hl, hxl, hi⟩ := DataW.trod_array ht h
  intro i hin
  have h3 := hi i hin
  rw [h1, List.getElem?_eq_getElem (by omega)] at h3
  obtain ⟨ys, m', rfl, hy, hl', hyl, hj⟩ := DataW.trod_struct he h3
  have g0 := hj 0 f0 hf0
  have g1 := hj 1 f1 hf1
  have hdl : ((cs.drop (i * 2)).take 2).length = 2 := by rw [List.length_take, List.length_drop]; omega
  rw [o0, ca, one_of_drop (by omega), List.getElem?_eq_getElem (by omega)] at g0
  rw [o1, cb, one_of_drop (by omega), List.getElem?_eq_getElem (by omega)] at g1
  obtain ⟨x, ex, ey0⟩ := int_of_trod ha g0
  obtain ⟨y, ey, ey1⟩ := int_of_trod hb g1
  rw [List.getElem_take, List.getElem_drop] at ex ey
  refine ⟨x, y, by rw [List.getElem?_eq_getElem (by omega)]; exact congrArg some ex, by rw [List.getElem?_eq_getElem (by omega)]; exact congrArg some ey, ?_⟩
  injection hx with hx1 hx2
  injection hx1 with hx1
  rw [hx1, List.getElem?_map, List.getElem?_eq_getElem (by omega), hy]
  have e2 : ys = [ys[0], ys[1]] := by
    apply List.ext_getElem
    · simp; omega
    · intro q q1 q2
      have : q < 2 := by omega
      rcases (by omega : q = 0 ∨ q = 1) with rfl | rfl <;> rfl
  rw [e2]
  simp only [Option.map_some, List.map_cons, List.map_nil]
  rw [ey0, ey1]


def bruL : List Nat := [0, 1, 56, 2, 57, 49, 28, 3, 61, 58, 42, 50, 38, 29, 17, 4, 62, 47, 59, 36, 45, 43, 51, 22, 53, 39, 33, 30, 24, 18, 12, 5, 63, 55, 48, 27, 60, 41, 37, 16, 46, 35, 44, 21, 52, 32, 23, 11, 54, 26, 40, 15, 34, 20, 31, 10, 25, 14, 19, 9, 13, 8, 7, 6]
def clsL : List Nat := [128, 1, 192, 1, 256, 1, 384, 1, 512, 1, 768, 1, 1024, 1, 1536, 3, 2048, 1, 3072, 3, 4096, 1, 6144, 3, 8192, 2, 12288, 3]
def bruT : Array Value := (bruL.map fun (n : Nat) => Value.int .u8 (n : Int)).toArray
def clsT : Array Value := (clsL.map fun (n : Nat) => Value.int .i64 (n : Int)).toArray
def tabB : List (Nat × Array Value) := [(1, bruT)]
def tabA : List (Nat × Array Value) := [(1, bruT), (0, clsT)]
theorem gTab : Tryz.prog.globalNamed "dustpan/class.table" = some 0 := by kernel_rfl
theorem gTabT : (Tryz.prog.globals[0]?).map (·.type) = some 145 := by kernel_rfl
theorem gBru : Tryz.prog.globalNamed "math/bits.deBruijn64tab" = some 1 := by kernel_rfl
theorem gBruT : (Tryz.prog.globals[1]?).map (·.type) = some 290 := by kernel_rfl
def tabRow (c : Nat) : DataW Unit := .agg [.lit (.int .i64 (clsL.getD (c * 2) 0 : Nat)), .lit (.int .i64 (clsL.getD (c * 2 + 1) 0 : Nat))]
theorem rows_tab : (Rows.laid_dustpan_class_table : DataW Unit) = .agg ((List.range 14).map tabRow) := by rfl
theorem rows_bru : (Rows.laid_math_bits_deBruijn64tab : DataW Unit) = .agg ((List.range 64).map fun j => .lit (.int .u8 (bruL.getD j 0 : Nat))) := by rfl
theorem cellsT : Tryz.prog.cellsOf 145 = 28 := by kernel_rfl
theorem cellsR : Tryz.prog.cellsOf 144 = 2 := by kernel_rfl
theorem cellsI : Tryz.prog.cellsOf 3 = 1 := by kernel_rfl
theorem cellsB : Tryz.prog.cellsOf 290 = 64 := by kernel_rfl
theorem cellsU : Tryz.prog.cellsOf 5 = 1 := by kernel_rfl
theorem undT : Tryz.prog.underlying 145 = some (.array 14 144) := by kernel_rfl
theorem undB : Tryz.prog.underlying 290 = some (.array 64 5) := by kernel_rfl
theorem undU : Tryz.prog.underlying 5 = some (.int .u8) := by kernel_rfl

theorem block_of_cells {w : World} {g n : Nat} {f : Nat → Value} (hn : 0 < n) (h : ∀ j, j < n → w.cell? ⟨g, j, none⟩ = some (f j)) : ∃ (cs : Array Value) (e : TypeId) (fz : Nat × Nat), w.heap[g]? = some (.cells cs e fz) ∧ ∀ j, j < n → cs[j]? = some (f j) := by
  have h0 := h 0 hn
  unfold World.cell? at h0
  simp only [] at h0
  cases hb : w.heap[g]? with
  | none => rw [hb] at h0; cases h0
  | some o =>
    cases o with
    | cells cs e fz =>
      refine ⟨cs, e, fz, rfl, fun j hj => ?_⟩
      have hj2 := h j hj
      unfold World.cell? at hj2
      simp only [hb] at hj2
      simpa using hj2
    | _ => rw [hb] at h0; cases h0
theorem tabR_one {w : World} {g : Nat} {l : List Value} (hn : 0 < l.length) (hc : l.all (closedN 8) = true) (h : ∀ j, j < l.length → w.cell? ⟨g, j, none⟩ = l[j]?) : l.toArray.toList.all (closedN 8) = true ∧ ∃ (cs : Array Value) (e : TypeId) (fz : Nat × Nat), w.heap[g]? = some (.cells cs e fz) ∧ ∀ (i : Nat) (v : Value), l.toArray[i]? = some v → cs[i]? = some v := by
  obtain ⟨cs, e, fz, h1, h2⟩ := block_of_cells (w := w) (g := g) (f := fun j => l.getD j undef) hn (fun j hj => by rw [h j hj, List.getD_eq_getElem?_getD, List.getElem?_eq_getElem hj]; rfl)
  refine ⟨by simpa using hc, cs, e, fz, h1, fun i v hv => ?_⟩
  rw [List.getElem?_toArray] at hv
  have hi : i < l.length := (List.getElem?_eq_some_iff.1 hv).1
  rw [h2 i hi, List.getD_eq_getElem?_getD, hv]
  rfl
theorem bru_one {W : World} {cs : Array Value} {fuel : Nat} {p : List MemPlace} (hvar : W.var? Tryz.prog "math/bits.deBruijn64tab" = some cs)
    {H : TypeId × Value → Unit} {b : Nat} {sp : Nat → Bool} {hl : Bool} (hd : DataW.trod H Tryz.prog W b sp hl fuel 290 cs.toList = some (Rows.laid_math_bits_deBruijn64tab, p)) :
    ∀ j, j < (bruL.map fun (n : Nat) => Value.int .u8 (n : Int)).length → W.cell? ⟨1, j, none⟩ = (bruL.map fun (n : Nat) => Value.int .u8 (n : Int))[j]? := by
  intro j hj
  have hj' : j < 64 := hj
  rw [rows_bru] at hd
  obtain ⟨x, e1, e3⟩ := ints_of_array undB undU cellsU cellsB hd j hj'
  have e4 : ((List.range 64).map fun j => (DataW.lit (.int .u8 (bruL.getD j 0 : Nat)) : DataW Unit))[j]? = some (.lit (.int .u8 (bruL.getD j 0 : Nat))) := by simp [hj']
  rw [e4] at e3
  injection e3 with e3
  simp only [DataW.lit.injEq, Lit.int.injEq, true_and] at e3
  rw [World.var?_cell gBru hvar j, ← Array.getElem?_toList, e1, ← e3, List.getElem?_map, List.getD_eq_getElem?_getD, List.getElem?_eq_getElem (show j < bruL.length from hj')]
  rfl
theorem cls_one {W : World} {cs : Array Value} {fuel : Nat} {p : List MemPlace} (hvar : W.var? Tryz.prog "dustpan/class.table" = some cs)
    {H : TypeId × Value → Unit} {b : Nat} {sp : Nat → Bool} {hl : Bool} (hd : DataW.trod H Tryz.prog W b sp hl fuel 145 cs.toList = some (Rows.laid_dustpan_class_table, p)) :
    ∀ j, j < (clsL.map fun (n : Nat) => Value.int .i64 (n : Int)).length → W.cell? ⟨0, j, none⟩ = (clsL.map fun (n : Nat) => Value.int .i64 (n : Int))[j]? := by
  intro j hj
  have hj' : j < 28 := hj
  rw [rows_tab] at hd
  obtain ⟨x, y, e1, e2, e3⟩ := pairs_of_array undT Tryz.underlying144 rfl rfl rfl rfl rfl Tryz.underlying3 Tryz.underlying3 cellsI cellsI cellsR cellsT hd (j / 2) (by omega)
  have h14 : j / 2 < 14 := by omega
  have e4 : ((List.range 14).map tabRow)[j / 2]? = some (tabRow (j / 2)) := by simp [h14]
  rw [e4] at e3
  injection e3 with e3
  unfold tabRow at e3
  simp only [DataW.agg.injEq, List.cons.injEq, DataW.lit.injEq, Lit.int.injEq, true_and, and_true] at e3
  rw [World.var?_cell gTab hvar j, ← Array.getElem?_toList, List.getElem?_map]
  rcases (by omega : j = j / 2 * 2 ∨ j = j / 2 * 2 + 1) with h | h
  · rw [h, e1, ← e3.1, List.getD_eq_getElem?_getD, List.getElem?_eq_getElem (show j / 2 * 2 < clsL.length by show j / 2 * 2 < 28; omega)]
    rfl
  · rw [h, e2, ← e3.2, List.getD_eq_getElem?_getD, List.getElem?_eq_getElem (show j / 2 * 2 + 1 < clsL.length by show j / 2 * 2 + 1 < 28; omega)]
    rfl
theorem two_le {W : World} {cs : Array Value} {e : TypeId} {fz : Nat × Nat} (h : W.heap[1]? = some (.cells cs e fz)) : 2 ≤ W.heap.size := by
  have := (Array.getElem?_eq_some_iff.1 h).1
  omega
def laidB : List (String × DataW Unit) := [("math/bits.deBruijn64tab", Rows.laid_math_bits_deBruijn64tab)]
def laidA : List (String × DataW Unit) := [("dustpan/class.table", Rows.laid_dustpan_class_table), ("math/bits.deBruijn64tab", Rows.laid_math_bits_deBruijn64tab)]
theorem tabB_of {W : World} (h : laidMetH Tryz.prog laidB W) : TabR W tabB ∧ 2 ≤ W.heap.size := by
  have h' : laidMet Tryz.prog laidB W := h
  obtain ⟨ps, ⟨g, t, cs, fuel, p, q, hg, ht, hvar, hd, _, _⟩, _⟩ := h'
  obtain rfl := Option.some.inj (gBru.symm.trans hg)
  obtain rfl := Option.some.inj (gBruT.symm.trans ht)
  have key := tabR_one (by decide) (by decide +kernel) (bru_one hvar hd)
  refine ⟨fun x hx => ?_, ?_⟩
  · have : x = (1, bruT) := by simpa [tabB] using hx
    subst this
    exact key
  · obtain ⟨_, _, _, _, h1, _⟩ := key
    exact two_le h1
theorem tabA_of {W : World} (h : laidMetH Tryz.prog laidA W) : TabR W tabA ∧ 2 ≤ W.heap.size := by
  have h' : laidMet Tryz.prog laidA W := h
  obtain ⟨ps, ⟨g2, t2, cs2, fuel2, p2, q2, hg2, ht2, hvar2, hd2, ⟨g, t, cs, fuel, p, q, hg, ht, hvar, hd, _, _⟩, _⟩, _⟩ := h'
  obtain rfl := Option.some.inj (gBru.symm.trans hg)
  obtain rfl := Option.some.inj (gBruT.symm.trans ht)
  obtain rfl := Option.some.inj (gTab.symm.trans hg2)
  obtain rfl := Option.some.inj (gTabT.symm.trans ht2)
  have key := tabR_one (by decide) (by decide +kernel) (bru_one hvar hd)
  have key2 := tabR_one (by decide) (by decide +kernel) (cls_one hvar2 hd2)
  refine ⟨fun x hx => ?_, ?_⟩
  · have : x = (1, bruT) ∨ x = (0, clsT) := by simpa [tabA] using hx
    rcases this with rfl | rfl
    · exact key
    · exact key2
  · obtain ⟨_, _, _, _, h1, _⟩ := key
    exact two_le h1
end Go.Proofs.YtclnmihpelaalaaGreatDoor
