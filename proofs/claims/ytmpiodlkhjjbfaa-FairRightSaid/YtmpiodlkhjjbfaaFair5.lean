/- Walks: fair.Total, Bound, Turns, Free; the document's. -/
import Derived.Test.YtmpiodlkhjjbfaaRows
import Derived.Test.YtmpiodlkhjjbfaaFair4
namespace Go.Proofs.Ytmpiodlkhjjbfaa
open Go.RowKit Go.Sort
set_option linter.unusedVariables false
set_option linter.unusedSimpArgs false

theorem mul_bd {a b A B : Int} (h1 : 0 ≤ a) (h2 : a ≤ A) (h3 : 0 ≤ b) (h4 : b ≤ B) : 0 ≤ a * b ∧ a * b ≤ A * B :=
  ⟨Int.mul_nonneg h1 h3, Int.mul_le_mul h2 h4 h3 (Int.le_trans h1 h2)⟩
theorem right_ok {p t : Int} {css : List (List CallD)} (h : rightC p t css = 0) : LayMay p t ∧ (css.length : Int) = t ∧ ∀ i, i < css.length → ¬ BadCalls (ix [] css i) := by
  unfold rightC at h
  split at h
  · rename_i h1
    split at h
    · cases h
    · rename_i h2
      rw [B_iff] at h1 h2
      refine ⟨h1, ?_, fun i hi hb => h2 (.inr ⟨i, hi, hb⟩)⟩
      by_cases e : (css.length : Int) = t
      · exact e
      · exact absurd (.inl e) h2
  · cases h
def totV (p t n c : Int) : Int := (t + 2) * (n * (3 * p + 2 * n + 350) + (c + 1) * (30 * p + 100 * t + 10))
noncomputable def totC (p t : Int) (css : List (List CallD)) : Int := if rightC p t css = 0 then totV p t (nCalls css) (nCycs css) else 0
noncomputable def bndC (p t : Int) (css : List (List CallD)) (k : Int) : Int := if rightC p t css = 0 ∧ 1 ≤ k ∧ k ≤ 8192 then k * stepsC p t * (totC p t css + nCalls css + 1) else 0
theorem tot_bd {p t : Int} {css : List (List CallD)} (h : rightC p t css = 0) : 1 ≤ p ∧ p ≤ 4096 ∧ 1 ≤ t ∧ t ≤ 64 ∧ css.length ≤ 64 ∧ (∀ i, i < css.length → (ix [] css i).length ≤ 40) ∧ nCalls css ≤ 2560 ∧ nCycs css ≤ nCalls css := by
  obtain ⟨⟨h1, h2, h3, h4⟩, h5, h6⟩ := right_ok h
  have h7 : ∀ i, i < css.length → (ix [] css i).length ≤ 40 := fun i hi => by
    have := h6 i hi
    unfold BadCalls at this
    exact Nat.le_of_not_lt fun hh => this (.inl hh)
  have h8 := manyTo_le h7 css.length (Nat.le_refl _)
  unfold nCalls nCycs
  refine ⟨h1, h2, h3, h4, by omega, h7, by omega, h8.2⟩
theorem tot_parts {p t n c : Int} (h1 : 1 ≤ p) (h2 : p ≤ 4096) (h3 : 1 ≤ t) (h4 : t ≤ 64) (h5 : 0 ≤ n) (h6 : n ≤ 2560) (h7 : 0 ≤ c) (h8 : c ≤ 2560) :
    (0 ≤ n * (3 * p + 2 * n + 350) ∧ n * (3 * p + 2 * n + 350) ≤ 45460480) ∧ (0 ≤ (c + 1) * (30 * p + 100 * t + 10) ∧ (c + 1) * (30 * p + 100 * t + 10) ≤ 331111690) ∧
    (0 ≤ (t + 2) * (n * (3 * p + 2 * n + 350) + (c + 1) * (30 * p + 100 * t + 10)) ∧ (t + 2) * (n * (3 * p + 2 * n + 350) + (c + 1) * (30 * p + 100 * t + 10)) ≤ 24853763220) := by
  have a := mul_bd h5 h6 (show 0 ≤ 3 * p + 2 * n + 350 by omega) (show 3 * p + 2 * n + 350 ≤ 17758 by omega)
  have b := mul_bd (show 0 ≤ c + 1 by omega) (show c + 1 ≤ 2561 by omega) (show 0 ≤ 30 * p + 100 * t + 10 by omega) (show 30 * p + 100 * t + 10 ≤ 129290 by omega)
  have d := mul_bd (show 0 ≤ t + 2 by omega) (show t + 2 ≤ 66 by omega) (show 0 ≤ n * (3 * p + 2 * n + 350) + (c + 1) * (30 * p + 100 * t + 10) by omega) (show n * (3 * p + 2 * n + 350) + (c + 1) * (30 * p + 100 * t + 10) ≤ 376572170 by omega)
  omega

set_option maxHeartbeats 1000000 in
set_option maxRecDepth 100000 in
theorem total_any (p t : Int) (D : Value) (css : List (List CallD)) (n : Nat) (hcn : css.length = n) (A : Option Addr) (cap : Nat) (w : World) (hn : n ≤ maxLen) (hl : CallssR w A css) (hD : ∃ A n c, D = .slice A n c) :
    Calls Try.prog 18 #[.agg #[.int .i64 p, .int .i64 t, D], .slice A n cap] w fun e w' => e = .returned (.int .i64 (totC p t css)) ∧ Ext w w' := by
  have hD' := hD
  obtain ⟨DA, Dn, Dc, rfl⟩ := hD
  subst hcn
  have HL := Lib.hid hl
  clear hl
  by_cases hR : rightC p t css = 0
  · obtain ⟨h1, h2, h3, h4, h5, h6, h7, h8⟩ := tot_bd hR
    obtain ⟨⟨a1, a2⟩, ⟨b1, b2⟩, c1, c2⟩ := tot_parts (n := nCalls css) (c := nCycs css) h1 h2 h3 h4 (by omega) (by omega) (by omega) (by omega)
    have hT : totC p t css = totV p t (nCalls css) (nCycs css) := if_pos hR
    have HT := Lib.hid hT
    have HR := Lib.hid hR
    have H6 := Lib.hid h6
    clear hT hR h6
    go_enter Try.func18, Try.ntmps18
    go_wp2_with (first
      | (go_at_call 34; refine (right_any p t (.slice DA Dn Dc) css _ _ _ hn (HL.out.ext ?h1) hD').mono ?_; (case h1 => exact (Ext.refl _).alloc _); rintro e w1 ⟨rfl, hE1⟩; rw [HR.out]; obtain ⟨bc1, bf1⟩ := hE1.bcell)
      | (go_at_call 35; refine (many_any css _ _ _ h5 H6.out (HL.out.ext ?h1)).mono ?_; (case h1 => exact ((Ext.refl _).alloc _).trans hE1); rintro e w2 ⟨rfl, hE2⟩; obtain ⟨bc2, bf2⟩ := (hE1.trans hE2).bcell))
    go_ret
    exact ⟨ret_int (by rw [HT.out]; rfl), ((Ext.refl _).alloc _).trans (hE1.trans hE2)⟩
  · have hT : totC p t css = 0 := if_neg hR
    have HT := Lib.hid hT
    have hR1 : (rightC p t css != 0) = true := by simp [hR]
    have hR2 : (rightC p t css == 0) = false := by simp [hR]
    clear hT hR
    go_enter Try.func18, Try.ntmps18
    go_wp2_with (go_at_call 34; refine (right_any p t (.slice DA Dn Dc) css _ _ _ hn (HL.out.ext ?h1) hD').mono ?_; (case h1 => exact (Ext.refl _).alloc _); rintro e w1 ⟨rfl, hE1⟩; obtain ⟨bc1, bf1⟩ := hE1.bcell)
    go_ret
    exact ⟨ret_int (by rw [HT.out]), ((Ext.refl _).alloc _).trans hE1⟩

theorem steps_bd {p t : Int} (h1 : 1 ≤ p) (h2 : p ≤ 4096) (h3 : 1 ≤ t) (h4 : t ≤ 64) : 0 ≤ stepsC p t ∧ stepsC p t ≤ 17480 ∧ stepsC p t = 4 * p + 14 * t + 200 := by
  have e : stepsC p t = 4 * p + 14 * t + 200 := if_pos (B_yes ⟨h1, h2, h3, h4⟩)
  rw [e]; omega

set_option maxHeartbeats 1000000 in
set_option maxRecDepth 100000 in
theorem bound_any (p t k : Int) (D : Value) (css : List (List CallD)) (n : Nat) (hcn : css.length = n) (A : Option Addr) (cap : Nat) (w : World) (hn : n ≤ maxLen) (hl : CallssR w A css) (hD : ∃ A n c, D = .slice A n c) :
    Calls Try.prog 19 #[.agg #[.int .i64 p, .int .i64 t, D], .slice A n cap, .int .i64 k] w fun e w' => e = .returned (.int .i64 (bndC p t css k)) ∧ Ext w w' := by
  have hD' := hD
  obtain ⟨DA, Dn, Dc, rfl⟩ := hD
  subst hcn
  have HL := Lib.hid hl
  clear hl
  by_cases hk : 1 ≤ k ∧ k ≤ 8192
  · obtain ⟨k1, k2⟩ := hk
    by_cases hR : rightC p t css = 0
    · obtain ⟨h1, h2, h3, h4, h5, h6, h7, h8⟩ := tot_bd hR
      obtain ⟨_, _, c1, c2⟩ := tot_parts (n := nCalls css) (c := nCycs css) h1 h2 h3 h4 (by omega) (by omega) (by omega) (by omega)
      have hT : totC p t css = totV p t (nCalls css) (nCycs css) := if_pos hR
      have t1 : 0 ≤ totC p t css := by rw [hT]; exact c1
      have t2 : totC p t css ≤ 24853763220 := by rw [hT]; exact c2
      have s1 := (steps_bd h1 h2 h3 h4).1
      have s2 := (steps_bd h1 h2 h3 h4).2.1
      have m := mul_bd (show 0 ≤ k by omega) k2 s1 s2
      have m2 := mul_bd m.1 m.2 (show 0 ≤ totC p t css + nCalls css + 1 by omega) (show totC p t css + nCalls css + 1 ≤ 24853765781 by omega)
      have hB : bndC p t css k = k * stepsC p t * (totC p t css + nCalls css + 1) := if_pos ⟨hR, k1, k2⟩
      obtain ⟨m3, m4⟩ := m
      obtain ⟨m5, m6⟩ := m2
      have HB := Lib.hid hB
      have HR := Lib.hid hR
      have H6 := Lib.hid h6
      clear hT hR h6 hB c1 c2
      go_enter Try.func19, Try.ntmps19
      go_wp2_with (first
        | (go_at_call 34; refine (right_any p t (.slice DA Dn Dc) css _ _ _ hn (HL.out.ext ?h1) hD').mono ?_; (case h1 => exact (Ext.refl _).alloc _); rintro e w1 ⟨rfl, hE1⟩; rw [HR.out]; obtain ⟨bc1, bf1⟩ := hE1.bcell)
        | (go_at_call 35; refine (many_any css _ _ _ h5 H6.out (HL.out.ext ?h1)).mono ?_; (case h1 => exact ((Ext.refl _).alloc _).trans hE1); rintro e w2 ⟨rfl, hE2⟩))
      have hE12 := hE1.trans hE2
      have l0 := fun d os => cell_regrown (hE12.cell (cell_new w #[.int .i64 p, .int .i64 t, .slice DA Dn Dc] _ 0 _ rfl)) d os
      have l1 := fun d os => cell_regrown (hE12.cell (cell_new w #[.int .i64 p, .int .i64 t, .slice DA Dn Dc] _ 1 _ rfl)) d os
      have l2 := fun d os => cell_regrown (hE12.cell (cell_new w #[.int .i64 p, .int .i64 t, .slice DA Dn Dc] _ 2 _ rfl)) d os
      have HL2 := Lib.hid (HL.out.ext (((Ext.refl _).alloc _).trans hE12))
      clear bc1 bf1
      refine wp_region_quiet_below (by kernel_rfl) (by kernel_rfl) ?_
      repeat (go_big_quiet_step ((first
        | (go_at_call 20; exact Calls.regrown_of (steps_any p t (.slice DA Dn Dc) _ hD'))
        | (go_at_call 18; exact Calls.regrown_of (total_any p t (.slice DA Dn Dc) css _ rfl _ _ _ hn (HL2.out.ext (below_regrown _ _ _)) hD')))))
      refine wpQuiet_nil ?_
      intro _ hw'
      obtain ⟨⟨dq, osq⟩, hw''⟩ := hw'
      subst hw''
      go_wp2
      go_ret
      exact ⟨ret_int (by rw [HB.out]), (((Ext.refl _).alloc _).trans hE12).trans (below_regrown w2 dq osq)⟩
    · have hB : bndC p t css k = 0 := if_neg (fun h => hR h.1)
      have HB := Lib.hid hB
      have hR1 : (rightC p t css != 0) = true := by simp [hR]
      have hR2 : (rightC p t css == 0) = false := by simp [hR]
      clear hB hR
      go_enter Try.func19, Try.ntmps19
      go_wp2_with (go_at_call 34; refine (right_any p t (.slice DA Dn Dc) css _ _ _ hn (HL.out.ext ?h1) hD').mono ?_; (case h1 => exact (Ext.refl _).alloc _); rintro e w1 ⟨rfl, hE1⟩)
      go_ret
      exact ⟨ret_int (by rw [HB.out]), ((Ext.refl _).alloc _).trans hE1⟩
  · have hB : bndC p t css k = 0 := if_neg (fun h => hk h.2)
    have HB := Lib.hid hB
    clear hB
    by_cases hk1 : k < 1
    · clear hk
      go_enter Try.func19, Try.ntmps19
      go_wp2
      go_ret
      exact ⟨ret_int (by rw [HB.out]), (Ext.refl _).alloc _⟩
    · have hk2 : 8192 < k := by omega
      clear hk
      go_enter Try.func19, Try.ntmps19
      go_wp2
      go_ret
      exact ⟨ret_int (by rw [HB.out]), (Ext.refl _).alloc _⟩
end Go.Proofs.Ytmpiodlkhjjbfaa
