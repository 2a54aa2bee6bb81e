/- Walks: dustpanref1.row, Pages. -/
import Derived.Test.YtpohnehcnonjhaaDoorRows
import Derived.Test.YtpohnehcnonjhaaDoorBlk
namespace Go.Proofs.YtpohnehcnonjhaaDoor
open Go.RowKit
set_option linter.unusedVariables false
set_option linter.unusedSimpArgs false

def clsT : List (Int × Int × Int) := [(128, 1, 64), (192, 1, 42), (256, 1, 32), (384, 1, 21), (512, 1, 16), (768, 1, 10), (1024, 1, 8), (1536, 3, 16), (2048, 1, 4), (3072, 3, 8), (4096, 1, 2), (6144, 3, 4), (8192, 2, 2), (12288, 3, 2), (0, 0, 1)]
def clsB (c : Int) : Int := if 0 ≤ c then (clsT.getD c.toNat (0, 0, 0)).1 else 0
def clsP (c : Int) : Int := if 0 ≤ c then (clsT.getD c.toNat (0, 0, 0)).2.1 else 0
def clsS (c : Int) : Int := if 0 ≤ c then (clsT.getD c.toNat (0, 0, 0)).2.2 else 0
theorem cls_cases {c : Int} (h0 : 0 ≤ c) (h1 : c < 15) : c = 0 ∨ c = 1 ∨ c = 2 ∨ c = 3 ∨ c = 4 ∨ c = 5 ∨ c = 6 ∨ c = 7 ∨ c = 8 ∨ c = 9 ∨ c = 10 ∨ c = 11 ∨ c = 12 ∨ c = 13 ∨ c = 14 := by omega
theorem cls_out {c : Int} (h : c < 0 ∨ 15 ≤ c) : clsB c = 0 ∧ clsP c = 0 ∧ clsS c = 0 := by
  unfold clsB clsP clsS
  rcases h with h | h
  · rw [if_neg (by omega), if_neg (by omega), if_neg (by omega)]; exact ⟨rfl, rfl, rfl⟩
  · rw [if_pos (by omega), if_pos (by omega), if_pos (by omega)]
    have : clsT.getD c.toNat (0, 0, 0) = (0, 0, 0) := by
      rw [List.getD_eq_getElem?_getD, List.getElem?_eq_none (by simp [clsT]; omega)]; rfl
    rw [this]; exact ⟨rfl, rfl, rfl⟩
theorem clsP_bd {c : Int} (h0 : 0 ≤ c) (h1 : c < 14) : 1 ≤ clsP c ∧ clsP c ≤ 3 := by
  have h := cls_cases h0 (by omega)
  rcases h with rfl | rfl | rfl | rfl | rfl | rfl | rfl | rfl | rfl | rfl | rfl | rfl | rfl | rfl | rfl <;> first | decide | omega
theorem clsS_bd (c : Int) : 0 ≤ clsS c ∧ clsS c ≤ 64 := by
  by_cases h : 0 ≤ c ∧ c < 15
  · rcases cls_cases h.1 h.2 with rfl | rfl | rfl | rfl | rfl | rfl | rfl | rfl | rfl | rfl | rfl | rfl | rfl | rfl | rfl <;> decide
  · rw [(cls_out (by omega)).2.2]; omega
theorem clsB_bd (c : Int) : 0 ≤ clsB c ∧ clsB c ≤ 12288 := by
  by_cases h : 0 ≤ c ∧ c < 15
  · rcases cls_cases h.1 h.2 with rfl | rfl | rfl | rfl | rfl | rfl | rfl | rfl | rfl | rfl | rfl | rfl | rfl | rfl | rfl <;> decide
  · rw [(cls_out (by omega)).1]; omega

theorem row_res : Tryd.f13.results = #[.cell 2 39] := by kernel_rfl

theorem Tryd.infoArr3 : (Tryd.prog.info? 39).map (fun i => i.size) = some 3 := by kernel_rfl
theorem row_end {w : World} {a b c : Int} {act : Act} {o : Obj} (hd : act.defers = [] := by rfl) (h2 : act.tmps[2]? = some (.pointer (some ⟨w.heap.size, 0, none⟩)) := by rfl) :
    bodyPost Tryd.prog Tryd.f13 (fun e w' => e = .returned (.agg #[.int .i64 a, .int .i64 b, .int .i64 c]) ∧ Ext w w') Exit.ret act ((w.alloc (.cells #[.int .i64 a, .int .i64 b, .int .i64 c] 39)).alloc o) := by
  have r0 := ((Ext.refl _).alloc o).cell (cell_new w #[.int .i64 a, .int .i64 b, .int .i64 c] 39 0 _ rfl)
  have r1 := ((Ext.refl _).alloc o).cell (cell_new w #[.int .i64 a, .int .i64 b, .int .i64 c] 39 1 _ rfl)
  have r2 := ((Ext.refl _).alloc o).cell (cell_new w #[.int .i64 a, .int .i64 b, .int .i64 c] 39 2 _ rfl)
  refine bodyPost_ret (v := .agg #[.int .i64 a, .int .i64 b, .int .i64 c]) ?_ hd ⟨rfl, ((Ext.refl _).alloc _).alloc _⟩
  obtain ⟨i, hi, hi3⟩ := Option.map_eq_some_iff.1 Tryd.infoArr3
  simp at r0 r1 r2
  simp [results, row_res, Array.getD_eq_getD_getElem?, h2, isAgg, run_underlying Tryd.underlying39, sizeOf, typeInfo, hi, hi3, loadCellsFrom, Addr.add, r0, r1, r2, go_sem]

theorem row_end2 {w W : World} {a b c : Int} {act : Act} (hB : Blk W w.heap.size 39 #[.int .i64 0, .int .i64 0, .int .i64 0]) (hE : Ext w W) (hd : act.defers = [] := by rfl) (h2 : act.tmps[2]? = some (.pointer (some ⟨w.heap.size, 0, none⟩)) := by rfl) :
    bodyPost Tryd.prog Tryd.f13 (fun e w' => e = .returned (.agg #[.int .i64 a, .int .i64 b, .int .i64 c]) ∧ Ext w w') Exit.ret act (((W.setCell ⟨w.heap.size, 0, none⟩ (.int .i64 a)).setCell ⟨w.heap.size, 1, none⟩ (.int .i64 b)).setCell ⟨w.heap.size, 2, none⟩ (.int .i64 c)) := by
  have hB' := ((hB.set 0 (.int .i64 a)).set 1 (.int .i64 b)).set 2 (.int .i64 c)
  have r0 := hB'.cell (i := 0) (v := .int .i64 a) rfl
  have r1 := hB'.cell (i := 1) (v := .int .i64 b) rfl
  have r2 := hB'.cell (i := 2) (v := .int .i64 c) rfl
  refine bodyPost_ret (v := .agg #[.int .i64 a, .int .i64 b, .int .i64 c]) ?_ hd ⟨rfl, ((hE.setCell (p := ⟨w.heap.size, 0, none⟩) (Nat.le_refl _) _).setCell (p := ⟨w.heap.size, 1, none⟩) (Nat.le_refl _) _).setCell (p := ⟨w.heap.size, 2, none⟩) (Nat.le_refl _) _⟩
  obtain ⟨i, hi, hi3⟩ := Option.map_eq_some_iff.1 Tryd.infoArr3
  simp [results, row_res, Array.getD_eq_getD_getElem?, h2, isAgg, run_underlying Tryd.underlying39, sizeOf, typeInfo, hi, hi3, loadCellsFrom, Addr.add, r0, r1, r2, go_sem]

def clsCells : List Value := Value.int .i64 128 :: Value.int .i64 1 :: Value.int .i64 64 :: Value.int .i64 192 :: Value.int .i64 1 :: Value.int .i64 42 :: Value.int .i64 256 :: Value.int .i64 1 :: Value.int .i64 32 :: Value.int .i64 384 :: Value.int .i64 1 :: Value.int .i64 21 :: Value.int .i64 512 :: Value.int .i64 1 :: Value.int .i64 16 :: Value.int .i64 768 :: Value.int .i64 1 :: Value.int .i64 10 :: Value.int .i64 1024 :: Value.int .i64 1 :: Value.int .i64 8 :: Value.int .i64 1536 :: Value.int .i64 3 :: Value.int .i64 16 :: Value.int .i64 2048 :: Value.int .i64 1 :: Value.int .i64 4 :: Value.int .i64 3072 :: Value.int .i64 3 :: Value.int .i64 8 :: Value.int .i64 4096 :: Value.int .i64 1 :: Value.int .i64 2 :: Value.int .i64 6144 :: Value.int .i64 3 :: Value.int .i64 4 :: Value.int .i64 8192 :: Value.int .i64 2 :: Value.int .i64 2 :: Value.int .i64 12288 :: Value.int .i64 3 :: Value.int .i64 2 :: Value.int .i64 0 :: Value.int .i64 0 :: Value.int .i64 1 :: []
theorem cls_at (k : Nat) (h : k < 15) : clsCells[k * 3]? = some (.int .i64 (clsB k)) ∧ clsCells[k * 3 + 1]? = some (.int .i64 (clsP k)) ∧ clsCells[k * 3 + 2]? = some (.int .i64 (clsS k)) := by
  have e : k = 0 ∨ k = 1 ∨ k = 2 ∨ k = 3 ∨ k = 4 ∨ k = 5 ∨ k = 6 ∨ k = 7 ∨ k = 8 ∨ k = 9 ∨ k = 10 ∨ k = 11 ∨ k = 12 ∨ k = 13 ∨ k = 14 := by omega
  rcases e with rfl | rfl | rfl | rfl | rfl | rfl | rfl | rfl | rfl | rfl | rfl | rfl | rfl | rfl | rfl <;> exact ⟨rfl, rfl, rfl⟩

set_option maxHeartbeats 4000000 in
set_option maxRecDepth 100000 in
theorem row_any (c : Int) (w : World) : Calls Tryd.prog 13 #[.int .i64 c] w fun e w' => e = .returned (.agg #[.int .i64 (clsB c), .int .i64 (clsP c), .int .i64 (clsS c)]) ∧ Ext w w' := by
  by_cases h : 0 ≤ c ∧ c < 15
  · obtain ⟨k, rfl⟩ := Int.eq_ofNat_of_zero_le h.1
    have h15 : k < 15 := by omega
    clear h
    have HK := Lib.hid (cls_at k h15)
    go_enter Tryd.func13, Tryd.ntmps13
    have h0 : decide ((k : Int) < 0) = false := by simp
    have h1 : decide ((15 : Int) ≤ (k : Int)) = false := by simp; omega
    go_upto_region 4 with (fail)
    have HB := Lib.hid (Blk.new (w.alloc (.cells #[.int .i64 0, .int .i64 0, .int .i64 0] 39)) 39 clsCells.toArray (w.heap.size + 1) (by simp))
    have hB0 := (Blk.new w 39 #[.int .i64 0, .int .i64 0, .int .i64 0] w.heap.size rfl).alloc (.cells clsCells.toArray 39)
    have hE := ((Ext.refl w).alloc (.cells #[.int .i64 0, .int .i64 0, .int .i64 0] 39)).alloc (.cells clsCells.toArray 39)
    obtain ⟨W, hW⟩ : ∃ W, (w.alloc (.cells #[.int .i64 0, .int .i64 0, .int .i64 0] 39)).alloc (.cells clsCells.toArray 39) = W := ⟨_, rfl⟩
    rw [hW] at HB hB0 hE
    simp only [clsCells] at hW
    rw [hW]
    have c0 := HB.out.cell (i := k * 3) (by rw [List.getElem?_toArray]; exact HK.out.1)
    have c1 := HB.out.cell (i := k * 3 + 1) (by rw [List.getElem?_toArray]; exact HK.out.2.1)
    have c2 := HB.out.cell (i := k * 3 + 2) (by rw [List.getElem?_toArray]; exact HK.out.2.2)
    have d0 := hB0.cell (i := 0) rfl
    have d1 := hB0.cell (i := 1) rfl
    have d2 := hB0.cell (i := 2) rfl
    have f0 := hB0.frozen 0
    have f1 := hB0.frozen 1
    have f2 := hB0.frozen 2
    clear HB hW
    go_wp2
    exact row_end2 hB0 hE
  · obtain ⟨e1, e2, e3⟩ := cls_out (c := c) (by omega)
    rw [e1, e2, e3]
    clear e1 e2 e3
    by_cases h0 : c < 0
    · have d0 : decide (c < 0) = true := by simpa using h0
      go_enter Tryd.func13, Tryd.ntmps13
      go_wp2
      exact row_end
    · have d0 : decide (c < 0) = false := by simpa using h0
      have d1 : decide (15 ≤ c) = true := by simp; omega
      go_enter Tryd.func13, Tryd.ntmps13
      go_wp2
      exact row_end

end Go.Proofs.YtpohnehcnonjhaaDoor
