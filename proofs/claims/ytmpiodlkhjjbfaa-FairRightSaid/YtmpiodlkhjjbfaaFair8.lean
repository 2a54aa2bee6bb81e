/- Walks: the document's Total and Bound. -/
import Derived.Test.YtmpiodlkhjjbfaaRows
import Derived.Test.YtmpiodlkhjjbfaaFair7
namespace Go.Proofs.Ytmpiodlkhjjbfaa
open Go.RowKit Go.Sort
set_option linter.unusedVariables false
set_option linter.unusedSimpArgs false

set_option maxHeartbeats 1000000 in
set_option maxRecDepth 100000 in
theorem total30_any (p t : Int) (D : Value) (css : List (List CallD)) (n : Nat) (hcn : css.length = n) (A : Option Addr) (cap : Nat) (w : World) (hn : n ≤ maxLen) (hl : CallssR w A css) (hD : ∃ A n c, D = .slice A n c) :
    Calls Try.prog 27 #[.agg #[.int .i64 p, .int .i64 t, D], .slice A n cap] w fun e w' => e = .returned (.int .i64 (totC p t css)) ∧ Ext w w' := by
  have hD' := hD
  obtain ⟨DA, Dn, Dc, rfl⟩ := hD
  subst hcn
  have HL := Lib.hid hl
  clear hl
  by_cases hR : rightC p t css = 0
  · obtain ⟨h1, h2, h3, h4, h5, h6, h7, h8⟩ := tot_bd hR
    obtain ⟨⟨a1, a2⟩, ⟨b1, b2⟩, c1, c2⟩ := tot_parts (n := nCalls css) (c := nCycs css) h1 h2 h3 h4 (by omega) (by omega) (by omega) (by omega)
    have hT : totC p t css = totV p t (nCalls css) (nCycs css) := if_pos hR
    have HT := Lib.hid hT
    have HR := Lib.hid hR
    have H6 := Lib.hid h6
    clear hT hR h6
    go_enter Try.func27, Try.ntmps27
    go_wp2_with (first
      | (go_at_call 21; refine (right26_any p t (.slice DA Dn Dc) css _ rfl _ _ _ hn (HL.out.ext ?h1) hD').mono ?_; (case h1 => exact (Ext.refl _).alloc _); rintro e w1 ⟨rfl, hE1⟩; rw [HR.out]; obtain ⟨bc1, bf1⟩ := hE1.bcell)
      | (go_at_call 39; refine (counts_any css _ _ _ h5 H6.out (HL.out.ext ?h1)).mono ?_; (case h1 => exact ((Ext.refl _).alloc _).trans hE1); rintro e w2 ⟨rfl, rfl⟩))
    go_ret
    exact ⟨ret_int (by rw [HT.out]; rfl), ((Ext.refl _).alloc _).trans hE1⟩
  · have hT : totC p t css = 0 := if_neg hR
    have HT := Lib.hid hT
    have hR1 : (rightC p t css != 0) = true := by simp [hR]
    have hR2 : (rightC p t css == 0) = false := by simp [hR]
    clear hT hR
    go_enter Try.func27, Try.ntmps27
    go_wp2_with (go_at_call 21; refine (right26_any p t (.slice DA Dn Dc) css _ rfl _ _ _ hn (HL.out.ext ?h1) hD').mono ?_; (case h1 => exact (Ext.refl _).alloc _); rintro e w1 ⟨rfl, hE1⟩; obtain ⟨bc1, bf1⟩ := hE1.bcell)
    go_ret
    exact ⟨ret_int (by rw [HT.out]), ((Ext.refl _).alloc _).trans hE1⟩

set_option maxHeartbeats 1000000 in
set_option maxRecDepth 100000 in
theorem bound30_any (p t k : Int) (D : Value) (css : List (List CallD)) (n : Nat) (hcn : css.length = n) (A : Option Addr) (cap : Nat) (w : World) (hn : n ≤ maxLen) (hl : CallssR w A css) (hD : ∃ A n c, D = .slice A n c) :
    Calls Try.prog 28 #[.agg #[.int .i64 p, .int .i64 t, D], .slice A n cap, .int .i64 k] w fun e w' => e = .returned (.int .i64 (bndC p t css k)) ∧ Ext w w' := by
  have hD' := hD
  obtain ⟨DA, Dn, Dc, rfl⟩ := hD
  subst hcn
  have HL := Lib.hid hl
  clear hl
  by_cases hk : 1 ≤ k ∧ k ≤ 8192
  · obtain ⟨k1, k2⟩ := hk
    by_cases hR : rightC p t css = 0
    · obtain ⟨h1, h2, h3, h4, h5, h6, h7, h8⟩ := tot_bd hR
      obtain ⟨_, _, c1, c2⟩ := tot_parts (n := nCalls css) (c := nCycs css) h1 h2 h3 h4 (by omega) (by omega) (by omega) (by omega)
      have hT : totC p t css = totV p t (nCalls css) (nCycs css) := if_pos hR
      have t1 : 0 ≤ totC p t css := by rw [hT]; exact c1
      have t2 : totC p t css ≤ 24853763220 := by rw [hT]; exact c2
      have s1 := (steps_bd h1 h2 h3 h4).1
      have s2 := (steps_bd h1 h2 h3 h4).2.1
      have m := mul_bd (show 0 ≤ k by omega) k2 s1 s2
      have m2 := mul_bd m.1 m.2 (show 0 ≤ totC p t css + nCalls css + 1 by omega) (show totC p t css + nCalls css + 1 ≤ 24853765781 by omega)
      have hB : bndC p t css k = k * stepsC p t * (totC p t css + nCalls css + 1) := if_pos ⟨hR, k1, k2⟩
      obtain ⟨m3, m4⟩ := m
      obtain ⟨m5, m6⟩ := m2
      have HB := Lib.hid hB
      have HR := Lib.hid hR
      have H6 := Lib.hid h6
      clear hT hR h6 hB c1 c2
      go_enter Try.func28, Try.ntmps28
      go_wp2_with (first
        | (go_at_call 21; refine (right26_any p t (.slice DA Dn Dc) css _ rfl _ _ _ hn (HL.out.ext ?h1) hD').mono ?_; (case h1 => exact (Ext.refl _).alloc _); rintro e w1 ⟨rfl, hE1⟩; rw [HR.out]; obtain ⟨bc1, bf1⟩ := hE1.bcell)
        | (go_at_call 39; refine (counts_any css _ _ _ h5 H6.out (HL.out.ext ?h1)).mono ?_; (case h1 => exact ((Ext.refl _).alloc _).trans hE1); rintro e w2 ⟨rfl, rfl⟩))
      have hE12 := hE1
      have l0 := fun d os => cell_regrown (hE12.cell (cell_new w #[.int .i64 p, .int .i64 t, .slice DA Dn Dc] _ 0 _ rfl)) d os
      have l1 := fun d os => cell_regrown (hE12.cell (cell_new w #[.int .i64 p, .int .i64 t, .slice DA Dn Dc] _ 1 _ rfl)) d os
      have l2 := fun d os => cell_regrown (hE12.cell (cell_new w #[.int .i64 p, .int .i64 t, .slice DA Dn Dc] _ 2 _ rfl)) d os
      have HL2 := Lib.hid (HL.out.ext (((Ext.refl _).alloc _).trans hE12))
      clear bc1 bf1
      refine wp_region_quiet_below (by kernel_rfl) (by kernel_rfl) ?_
      repeat (go_big_quiet_step ((first
        | (go_at_call 26; exact Calls.regrown_of (steps30_any p t (.slice DA Dn Dc) _ hD'))
        | (go_at_call 27; exact Calls.regrown_of (total30_any p t (.slice DA Dn Dc) css _ rfl _ _ _ hn (HL2.out.ext (below_regrown _ _ _)) hD')))))
      refine wpQuiet_nil ?_
      intro _ hw'
      obtain ⟨⟨dq, osq⟩, hw''⟩ := hw'
      subst hw''
      go_wp2
      go_ret
      exact ⟨ret_int (by rw [HB.out]), (((Ext.refl _).alloc _).trans hE12).trans (below_regrown w1 dq osq)⟩
    · have hB : bndC p t css k = 0 := if_neg (fun h => hR h.1)
      have HB := Lib.hid hB
      have hR1 : (rightC p t css != 0) = true := by simp [hR]
      have hR2 : (rightC p t css == 0) = false := by simp [hR]
      clear hB hR
      go_enter Try.func28, Try.ntmps28
      go_wp2_with (go_at_call 21; refine (right26_any p t (.slice DA Dn Dc) css _ rfl _ _ _ hn (HL.out.ext ?h1) hD').mono ?_; (case h1 => exact (Ext.refl _).alloc _); rintro e w1 ⟨rfl, hE1⟩)
      go_ret
      exact ⟨ret_int (by rw [HB.out]), ((Ext.refl _).alloc _).trans hE1⟩
  · have hB : bndC p t css k = 0 := if_neg (fun h => hk h.2)
    have HB := Lib.hid hB
    clear hB
    by_cases hR : rightC p t css = 0
    · have HR := Lib.hid hR
      clear hR
      by_cases hk1 : k < 1
      · clear hk
        go_enter Try.func28, Try.ntmps28
        go_wp2_with (go_at_call 21; refine (right26_any p t (.slice DA Dn Dc) css _ rfl _ _ _ hn (HL.out.ext ?h1) hD').mono ?_; (case h1 => exact (Ext.refl _).alloc _); rintro e w1 ⟨rfl, hE1⟩; rw [HR.out])
        go_ret
        exact ⟨ret_int (by rw [HB.out]), ((Ext.refl _).alloc _).trans hE1⟩
      · have hk2 : 8192 < k := by omega
        clear hk
        go_enter Try.func28, Try.ntmps28
        go_wp2_with (go_at_call 21; refine (right26_any p t (.slice DA Dn Dc) css _ rfl _ _ _ hn (HL.out.ext ?h1) hD').mono ?_; (case h1 => exact (Ext.refl _).alloc _); rintro e w1 ⟨rfl, hE1⟩; rw [HR.out])
        go_ret
        exact ⟨ret_int (by rw [HB.out]), ((Ext.refl _).alloc _).trans hE1⟩
    · have hR1 : (rightC p t css != 0) = true := by simp [hR]
      have hR2 : (rightC p t css == 0) = false := by simp [hR]
      clear hR hk
      go_enter Try.func28, Try.ntmps28
      go_wp2_with (go_at_call 21; refine (right26_any p t (.slice DA Dn Dc) css _ rfl _ _ _ hn (HL.out.ext ?h1) hD').mono ?_; (case h1 => exact (Ext.refl _).alloc _); rintro e w1 ⟨rfl, hE1⟩)
      go_ret
      exact ⟨ret_int (by rw [HB.out]), ((Ext.refl _).alloc _).trans hE1⟩
end Go.Proofs.Ytmpiodlkhjjbfaa
