/- Walks: fair.many, Total, Bound, Turns, Free. -/
import Derived.Test.YtmpiodlkhjjbfaaRows
import Derived.Test.YtmpiodlkhjjbfaaFair2
import Derived.Test.YtmpiodlkhjjbfaaBase2
import Derived.Lib.QuietBelow
namespace Go.Proofs.Ytmpiodlkhjjbfaa
open Go.RowKit Go.Sort
set_option linter.unusedVariables false
set_option linter.unusedSimpArgs false

/-- How many calls, and cycles, the first i lists have. -/
def manyTo (css : List (List CallD)) : Nat → Nat
  | 0 => 0
  | i + 1 => manyTo css i + (ix [] css i).length
def cycIn (cs : List CallD) : Nat → Nat
  | 0 => 0
  | i + 1 => if (ix noCall cs i).kind = 4 then cycIn cs i + 1 else cycIn cs i
def cycTo (css : List (List CallD)) : Nat → Nat
  | 0 => 0
  | i + 1 => cycTo css i + cycIn (ix [] css i) (ix [] css i).length
def nCalls (css : List (List CallD)) : Nat := manyTo css css.length
def nCycs (css : List (List CallD)) : Nat := cycTo css css.length
theorem cycIn_le (cs : List CallD) : ∀ i, cycIn cs i ≤ i
  | 0 => Nat.le_refl _
  | i + 1 => by
    have := cycIn_le cs i
    simp only [cycIn]
    split <;> omega
theorem manyTo_le {css : List (List CallD)} (h : ∀ i, i < css.length → (ix [] css i).length ≤ 40) : ∀ i, i ≤ css.length → manyTo css i ≤ 40 * i ∧ cycTo css i ≤ manyTo css i
  | 0, _ => ⟨Nat.le_refl _, Nat.le_refl _⟩
  | i + 1, hi => by
    have h1 := manyTo_le h i (by omega)
    have h2 := h i (by omega)
    have h3 := cycIn_le (ix [] css i) (ix [] css i).length
    simp only [manyTo, cycTo]
    omega

set_option maxHeartbeats 1000000 in
set_option maxRecDepth 100000 in
theorem many_any (css : List (List CallD)) (A : Option Addr) (cap : Nat) (w : World) (hn : css.length ≤ 64) (h40 : ∀ i, i < css.length → (ix [] css i).length ≤ 40) (hl : CallssR w A css) :
    Calls Try.prog 35 #[.slice A css.length cap] w fun e w' => e = .returned (.tuple #[.int .i64 (nCalls css), .int .i64 (nCycs css)]) ∧ Ext w w' := by
  have HL := Lib.hid (And.intro hl h40)
  clear hl h40
  go_enter Try.func35, Try.ntmps35
  go_wp2
  go_loopg [2, 3, 10] css.length (fun q n c i wr => ∃ i' : Nat, i' ≤ css.length ∧ q = css.length - i' ∧ i = .int .i64 i' ∧ n = .int .i64 (manyTo css i') ∧ c = .int .i64 (cycTo css i') ∧ Ext w wr)
  case atStart => exact ⟨0, Nat.zero_le _, rfl, rfl, rfl, rfl, Ext.refl _⟩
  case round =>
    obtain ⟨i, hi, rfl, rfl, rfl, rfl, hE⟩ := hrel
    by_cases hlt : i < css.length
    · obtain ⟨⟨LA, LC, hl1, hl2⟩, h40⟩ := HL.out
      obtain ⟨b, off, rfl, hc⟩ := hl1 (by omega)
      have c0 := hE.cell (hc i (by omega))
      obtain ⟨⟨MA, MC, hm1, hm2⟩, hl4⟩ := hl2 i hlt
      have hb := manyTo_le h40 i (by omega)
      have hb40 := h40 i hlt
      obtain ⟨cs, hcs⟩ : ∃ cs, cs = ix [] css i := ⟨_, rfl⟩
      rw [← hcs] at hm1 hm2 hl4 hb40
      have c0' : wr.cell? ⟨b, off + i, none⟩ = some (.slice (LA i) cs.length (LC i)) := by rw [hcs]; exact c0
      generalize LA i = Ai at c0' hm1
      generalize LC i = Ci at c0'
      have HCS := Lib.hid hcs
      have HM := Lib.hid hm1
      obtain ⟨b1, b2⟩ := hb
      clear hl1 hl2 hc c0 h40 hcs hm1 hm2
      go_wp2
      go_loopg [2, 3, 16] cs.length (fun q n c j wx => ∃ j' : Nat, j' ≤ cs.length ∧ q = cs.length - j' ∧ j = .int .i64 j' ∧ n = .int .i64 (manyTo css i + j' : Nat) ∧ c = .int .i64 (cycTo css i + cycIn cs j' : Nat) ∧ Ext w wx)
      case atStart => exact ⟨0, Nat.zero_le _, rfl, rfl, rfl, rfl, hE⟩
      case round =>
        obtain ⟨j, hj, rfl, rfl, rfl, rfl, hX⟩ := hrel
        have hcy := cycIn_le cs j
        by_cases hjlt : j < cs.length
        · obtain ⟨b', off', rfl, hc'⟩ := HM.out (by omega)
          have d0 := hX.cell (hc' (j * 3) (by omega))
          have d1 := hX.cell (hc' (j * 3 + 1) (by omega))
          have d2 := hX.cell (hc' (j * 3 + 2) (by omega))
          rw [callv0] at d0
          rw [callv1, ← Nat.add_assoc] at d1
          rw [callv2, ← Nat.add_assoc] at d2
          clear hc'
          by_cases h4 : (ix noCall cs j).kind = 4
          · have hs : cycIn cs (j + 1) = cycIn cs j + 1 := by simp [cycIn, h4]
            have HS := Lib.hid hs
            have h4' : ((ix noCall cs j).kind == 4) = true := by simp [h4]
            clear hs h4
            go_wp2
            go_roundg (cs.length - (j + 1))
            case measure => go_light; omega
            case rel => exact ⟨j + 1, by omega, rfl, by go_num, by go_num, by rw [HS.out]; try go_num, hX.alloc _⟩
          · have hs : cycIn cs (j + 1) = cycIn cs j := by simp [cycIn, h4]
            have HS := Lib.hid hs
            have h4' : ((ix noCall cs j).kind == 4) = false := by simp [h4]
            clear hs h4
            go_wp2
            go_roundg (cs.length - (j + 1))
            case measure => go_light; omega
            case rel => exact ⟨j + 1, by omega, rfl, by go_num, by go_num, by rw [HS.out]; try go_num, hX.alloc _⟩
        · obtain rfl : j = cs.length := by omega
          go_wp2
          go_roundg (css.length - (i + 1))
          case measure => go_light; omega
          case rel => exact ⟨i + 1, by omega, rfl, by go_num, by simp only [manyTo, ← HCS.out], by simp only [cycTo, ← HCS.out], hX⟩
    · obtain rfl : i = css.length := by omega
      go_wp2
      go_ret2
      exact ⟨rfl, hE⟩

set_option maxHeartbeats 1000000 in
set_option maxRecDepth 100000 in
theorem counts_any (css : List (List CallD)) (A : Option Addr) (cap : Nat) (w : World) (hn : css.length ≤ 64) (h40 : ∀ i, i < css.length → (ix [] css i).length ≤ 40) (hl : CallssR w A css) :
    Calls Try.prog 39 #[.slice A css.length cap] w fun e w' => e = .returned (.tuple #[.int .i64 (nCalls css), .int .i64 (nCycs css)]) ∧ w = w' := by
  have HL := Lib.hid (And.intro hl h40)
  clear hl h40
  go_enter Try.func39, Try.ntmps39
  go_wp2
  go_loopg [4, 5, 6] css.length (fun q n c i wr => ∃ i' : Nat, i' ≤ css.length ∧ q = css.length - i' ∧ i = .int .i64 i' ∧ n = .int .i64 (manyTo css i') ∧ c = .int .i64 (cycTo css i') ∧ wr = w)
  case atStart => exact ⟨0, Nat.zero_le _, rfl, rfl, rfl, rfl, rfl⟩
  case round =>
    obtain ⟨i, hi, rfl, rfl, rfl, rfl, rfl⟩ := hrel
    by_cases hlt : i < css.length
    · obtain ⟨⟨LA, LC, hl1, hl2⟩, h40⟩ := HL.out
      obtain ⟨b, off, rfl, hc⟩ := hl1 (by omega)
      have c0 := hc i (by omega)
      obtain ⟨⟨MA, MC, hm1, hm2⟩, hl4⟩ := hl2 i hlt
      have hb := manyTo_le h40 i (by omega)
      have hb40 := h40 i hlt
      obtain ⟨cs, hcs⟩ : ∃ cs, cs = ix [] css i := ⟨_, rfl⟩
      rw [← hcs] at hm1 hm2 hl4 hb40
      have c0' : wr.cell? ⟨b, off + i, none⟩ = some (.slice (LA i) cs.length (LC i)) := by rw [hcs]; exact c0
      generalize LA i = Ai at c0' hm1
      generalize LC i = Ci at c0'
      have HCS := Lib.hid hcs
      have HM := Lib.hid hm1
      obtain ⟨b1, b2⟩ := hb
      clear hl1 hl2 hc c0 h40 hcs hm1 hm2
      go_wp2
      go_loopg [5, 7] cs.length (fun q c j wx => ∃ j' : Nat, j' ≤ cs.length ∧ q = cs.length - j' ∧ j = .int .i64 j' ∧ c = .int .i64 (cycTo css i + cycIn cs j' : Nat) ∧ wx = wr)
      case atStart => exact ⟨0, Nat.zero_le _, rfl, rfl, rfl, rfl⟩
      case round =>
        obtain ⟨j, hj, rfl, rfl, rfl, rfl⟩ := hrel
        have hcy := cycIn_le cs j
        by_cases hjlt : j < cs.length
        · obtain ⟨b', off', rfl, hc'⟩ := HM.out (by omega)
          have d0 := hc' (j * 3) (by omega)
          rw [callv0] at d0
          clear hc'
          by_cases h4 : (ix noCall cs j).kind = 4
          · have hs : cycIn cs (j + 1) = cycIn cs j + 1 := by simp [cycIn, h4]
            have HS := Lib.hid hs
            have h4' : ((ix noCall cs j).kind == 4) = true := by simp [h4]
            clear hs h4
            go_wp2
            go_roundg (cs.length - (j + 1))
            case measure => go_light; omega
            case rel => exact ⟨j + 1, by omega, rfl, by go_num, by rw [HS.out]; try go_num, rfl⟩
          · have hs : cycIn cs (j + 1) = cycIn cs j := by simp [cycIn, h4]
            have HS := Lib.hid hs
            have h4' : ((ix noCall cs j).kind == 4) = false := by simp [h4]
            clear hs h4
            go_wp2
            go_roundg (cs.length - (j + 1))
            case measure => go_light; omega
            case rel => exact ⟨j + 1, by omega, rfl, by go_num, by rw [HS.out], rfl⟩
        · obtain rfl : j = cs.length := by omega
          go_wp2
          go_roundg (css.length - (i + 1))
          case measure => go_light; omega
          case rel => exact ⟨i + 1, by omega, rfl, by go_num, by simp only [manyTo, ← HCS.out]; go_num, by simp only [cycTo, ← HCS.out], rfl⟩
    · obtain rfl : i = css.length := by omega
      go_wp2
      go_ret2
      exact ⟨rfl, rfl⟩
end Go.Proofs.Ytmpiodlkhjjbfaa
