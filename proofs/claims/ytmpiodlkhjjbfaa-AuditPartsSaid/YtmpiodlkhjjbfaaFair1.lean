/- Walks of fair.Free, and more. -/
import Derived.Test.YtmpiodlkhjjbfaaRows
import Derived.Test.YtmpiodlkhjjbfaaBase
namespace Go.Proofs.Ytmpiodlkhjjbfaa
open Go.RowKit
set_option linter.unusedVariables false
set_option linter.unusedSimpArgs false

set_option maxHeartbeats 400000 in
theorem free_11 (w : World) : Calls Try.prog 22 #[.int .i64 1, .int .i64 1] w fun e w' => e = .returned (.int .i64 600) ∧ w = w' := by
  go_enter Try.func22, Try.ntmps22
  go_wp2
  go_ret
  exact ⟨rfl, rfl⟩

def pkv (f : Nat → Int) (g : Nat → Nat) (j : Nat) : Value := if j % 2 = 0 then .int .i64 (f (j / 2)) else .int .u64 (g (j / 2))

def cnt (f : Nat → Int) (g : Nat → Nat) (t : Nat) : Nat → Nat
  | 0 => 0
  | i + 1 => if (g i).testBit t = false ∨ f i = t then 0 else cnt f g t i + 1


/-- 31.1 -/
def FairOk (f : Nat → Int) (g : Nat → Nat) (n : Nat) (k : Int) : Prop := 1 ≤ k ∧ ∀ i < n, ∀ t < 64, (cnt f g t (i + 1) : Int) < k

theorem cnt_le (f : Nat → Int) (g : Nat → Nat) (t : Nat) : ∀ i, cnt f g t i ≤ i
  | 0 => Nat.le_refl _
  | i + 1 => by
    have := cnt_le f g t i
    simp only [cnt]
    split <;> omega

/-- The row of counts in a round: picks before i are done, and of pick i those of the threads below t. -/
def row2 (f : Nat → Int) (g : Nat → Nat) (i t : Nat) (j : Nat) : Value := .int .i64 (if j < t then cnt f g j (i + 1) else cnt f g j i)

theorem row_zero (f : Nat → Int) (g : Nat → Nat) (w : World) (c : Array Value) (hc : c = Array.replicate 64 (Value.int .i64 0)) :
    (w.alloc (.cells c 72)).rowIs w.heap.size 72 64 (fun j => .int .i64 (cnt f g j 0)) := by
  subst hc
  have := World.rowIs_alloc w (Array.replicate 64 (Value.int .i64 0)) 72 (fun j => .int .i64 (cnt f g j 0)) (by
    intro i hi
    rw [Array.size_replicate] at hi
    rw [Array.getElem?_replicate, if_pos hi]
    rfl)
  rwa [Array.size_replicate] at this

theorem rel_step {f : Nat → Int} {g : Nat → Nat} {k : Int} {w wx : World} {B i t v : Nat} (hsz : w.heap.size < B) (ht : t < 64) (hBx : Below w.heap.size w wx) (hRx : wx.rowIs w.heap.size 72 64 (row2 f g i t))
    (hq0 : wx.cell? ⟨B, 0, none⟩ = some (.int .i64 (f i))) (hq1 : wx.cell? ⟨B, 1, none⟩ = some (.int .u64 (g i))) (hok : ∀ t' < t, (cnt f g t' (i + 1) : Int) < k) (hv : cnt f g t (i + 1) = v) (hvk : (v : Int) < k) {z : Value} (hz : z = .int .i64 v) :
    ∃ t' : Nat, t' ≤ 64 ∧ 64 - (t + 1) = 64 - t' ∧ Value.int .i64 ((t : Int) + 1) = .int .i64 t' ∧ Below w.heap.size w (wx.setCell ⟨w.heap.size, t, none⟩ z) ∧ (wx.setCell ⟨w.heap.size, t, none⟩ z).rowIs w.heap.size 72 64 (row2 f g i t') ∧
      (wx.setCell ⟨w.heap.size, t, none⟩ z).cell? ⟨B, 0, none⟩ = some (.int .i64 (f i)) ∧ (wx.setCell ⟨w.heap.size, t, none⟩ z).cell? ⟨B, 1, none⟩ = some (.int .u64 (g i)) ∧ (∀ t'' < t', (cnt f g t'' (i + 1) : Int) < k) := by
  subst hz
  refine ⟨t + 1, by omega, rfl, by go_num, hBx.setCell (Nat.le_refl _) _, (hRx.set t _).congr (fun j hj => ?_), ?_, ?_, fun t'' h'' => ?_⟩
  · simp only [row2]
    by_cases e : j = t
    · subst e; simp [hv]
    · rw [if_neg e]
      by_cases e2 : j < t
      · rw [if_pos e2, if_pos (by omega)]
      · rw [if_neg e2, if_neg (by omega)]
  · rw [World.cell?_setCell_other _ _ _ _ (fun e => by have := congrArg Addr.block e; simp at this; omega)]; exact hq0
  · rw [World.cell?_setCell_other _ _ _ _ (fun e => by have := congrArg Addr.block e; simp at this; omega)]; exact hq1
  · by_cases e : t'' = t
    · subst e; rw [hv]; exact hvk
    · exact hok _ (by omega)

set_option maxHeartbeats 1000000 in
theorem fair_any (A : Option Addr) (n c : Nat) (f : Nat → Int) (g : Nat → Nat) (k : Int) (w : World) (hn : n ≤ 1000000) (hl : SlR w A n 2 (pkv f g)) (hg : ∀ i, g i < 2 ^ 64)
   (hk2 : k ≤ 9223372036854775807) :
    Calls Try.prog 14 #[.slice A n c, .int .i64 k] w fun e w' => e = .returned (.bool (B (FairOk f g n k))) ∧ Ext w w' := by
  by_cases hk : 1 ≤ k
  rotate_left
  · have hd : decide (k < 1) = true := by simp; omega
    go_enter Try.func14, Try.ntmps14
    go_wp2
    go_ret
    exact ⟨ret_B (by simp; intro h; have := h.1; omega), Ext.refl _⟩
  go_enter Try.func14, Try.ntmps14
  go_wp2
  go_loopg [13] n (fun q i wr => ∃ i' : Nat, i' ≤ n ∧ q = n - i' ∧ i = .int .i64 i' ∧ Below w.heap.size w wr ∧ wr.rowIs w.heap.size 72 64 (fun j => .int .i64 (cnt f g j i')) ∧ (∀ i < i', ∀ t < 64, (cnt f g t (i + 1) : Int) < k))
  case atStart => exact ⟨0, Nat.zero_le _, rfl, rfl, (Below.refl _ _).alloc (Nat.le_refl _) _, row_zero f g w _ rfl, fun i hi => absurd hi (by omega)⟩
  case round =>
    obtain ⟨i', hi, rfl, rfl, hB, hR, hok⟩ := hrel
    by_cases hlt : i' < n
    · obtain ⟨b, off, rfl, hc⟩ := hl (by omega)
      have c0 := hc (i' * 2) (by omega)
      have c1 := hc (i' * 2 + 1) (by omega)
      have hb := World.block_lt_of_cell? _ _ c0
      have d0 : wr.cell? ⟨b, off + i' * 2, none⟩ = some (.int .i64 (f i')) := by rw [hB.cell hb, c0]; simp [pkv]
      have d1 : wr.cell? ⟨b, off + i' * 2 + 1, none⟩ = some (.int .u64 (g i')) := by rw [hB.cell (p := ⟨b, off + i' * 2 + 1, none⟩) hb, Nat.add_assoc, c1]; simp [pkv, show (i' * 2 + 1) / 2 = i' by omega]
      clear hc c0 c1 hl
      go_wp2
      have hsz : w.heap.size < wr.heap.size := hR.lt
      have hB2 := hB.alloc (Nat.le_of_lt hsz) (Obj.cells #[Value.int IntKind.i64 (f i'), Value.int IntKind.u64 ↑(g i')] 41)
      have hR2 := hR.alloc (Obj.cells #[Value.int IntKind.i64 (f i'), Value.int IntKind.u64 ↑(g i')] 41)
      have hp0 : (wr.alloc (Obj.cells #[Value.int IntKind.i64 (f i'), Value.int IntKind.u64 ↑(g i')] 41)).cell? ⟨wr.heap.size, 0, none⟩ = some (.int .i64 (f i')) := cell_new _ _ _ _ _ rfl
      have hp1 : (wr.alloc (Obj.cells #[Value.int IntKind.i64 (f i'), Value.int IntKind.u64 ↑(g i')] 41)).cell? ⟨wr.heap.size, 1, none⟩ = some (.int .u64 (g i')) := cell_new _ _ _ _ _ rfl
      go_loopg [17] 64 (fun q t wx => ∃ t' : Nat, t' ≤ 64 ∧ q = 64 - t' ∧ t = .int .i64 t' ∧ Below w.heap.size w wx ∧ wx.rowIs w.heap.size 72 64 (row2 f g i' t') ∧
        wx.cell? ⟨wr.heap.size, 0, none⟩ = some (.int .i64 (f i')) ∧ wx.cell? ⟨wr.heap.size, 1, none⟩ = some (.int .u64 (g i')) ∧ (∀ t < t', (cnt f g t (i' + 1) : Int) < k))
      case atStart => exact ⟨0, Nat.zero_le _, rfl, rfl, hB2, hR2.congr (fun j _ => by simp [row2]), hp0, hp1, fun t ht => absurd ht (by omega)⟩
      case round =>
        obtain ⟨t', ht, rfl, rfl, hBx, hRx, hq0, hq1, hokt⟩ := hrel
        by_cases htt : t' < 64
        · have hcell : wr.cell? ⟨w.heap.size, t', none⟩ = some (.int .i64 (cnt f g t' i')) := by rw [hRx.cell htt]; simp [row2]
          have hfz := hRx.frozen t'
          have hbit := shr_and_one (g i') t' (by have := hg i'; omega)
          have hcl := cnt_le f g t' i'
          by_cases h1 : (g i').testBit t' = true
          · rw [h1, if_pos rfl] at hbit
            by_cases h2 : f i' = t'
            · have h2' : (f i' == (t' : Int)) = true := by simp [h2]
              have hs : cnt f g t' (i' + 1) = 0 := by simp [cnt, h2]
              have HS := Lib.hid hs
              clear hs h2
              go_wp2
              go_roundg (64 - (t' + 1))
              case measure => go_light; omega
              case rel => exact rel_step hsz htt hBx hRx hq0 hq1 hokt HS.out (by omega) (by go_num)
            · have h2' : (f i' == (t' : Int)) = false := by simp [h2]
              have hs : cnt f g t' (i' + 1) = cnt f g t' i' + 1 := by simp [cnt, h2, h1]
              have HS := Lib.hid hs
              clear hs h2
              go_wp2
              · go_ret
                refine ⟨ret_B (by simp only [Bool.false_eq_true, false_iff]; intro hh; exact absurd (hh.2 i' hlt t' htt) (by rw [HS.out]; omega)), hBx.setCell (Nat.le_refl _) _⟩
              · go_roundg (64 - (t' + 1))
                case measure => go_light; omega
                case rel => exact rel_step hsz htt hBx hRx hq0 hq1 hokt HS.out (by omega) (by go_num)
          · have h1' : (g i').testBit t' = false := by simpa using h1
            rw [h1', if_neg (by simp)] at hbit
            have hs : cnt f g t' (i' + 1) = 0 := by simp [cnt, h1']
            have HS := Lib.hid hs
            clear hs h1 h1'
            go_wp2
            go_roundg (64 - (t' + 1))
            case measure => go_light; omega
            case rel => exact rel_step hsz htt hBx hRx hq0 hq1 hokt HS.out (by omega) (by go_num)
        · obtain rfl : t' = 64 := by omega
          go_wp2
          go_roundg (n - (i' + 1))
          case measure => go_light; omega
          case rel =>
            refine ⟨i' + 1, by omega, rfl, by go_num, hBx, hRx.congr (fun j hj => by simp [row2, hj]), fun i hi t ht => ?_⟩
            by_cases e : i = i'
            · subst e; exact hokt t ht
            · exact hok i (by omega) t ht
    · obtain rfl : i' = n := by omega
      go_wp2
      go_ret
      exact ⟨ret_B (by simp only [true_iff]; exact ⟨hk, hok⟩), hB⟩
end Go.Proofs.Ytmpiodlkhjjbfaa
