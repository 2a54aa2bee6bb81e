/- FairRight: the plain law, and the walk. -/
import Derived.Test.YtmpiodlkhjjbfaaRows
import Derived.Test.YtmpiodlkhjjbfaaFairAll
import Derived.Test.YtmpiodlkhjjbfaaCalls
namespace Go.Proofs.Ytmpiodlkhjjbfaa
open Go.RowKit Go.Sort
set_option linter.unusedVariables false
set_option linter.unusedSimpArgs false

theorem right_zero {p t : Int} {css : List (List CallD)} (hL : LayMay p t) (hc : (css.length : Int) = t) (h : ∀ i, i < css.length → ¬ BadCalls (ix [] css i)) : rightC p t css = 0 := by
  unfold rightC
  rw [if_pos (B_yes hL), if_neg]
  rw [B_iff]
  rintro (h1 | ⟨i, hi, hb⟩)
  · exact h1 hc
  · exact h i hi hb
theorem rm_right {P T : Nat} {R : Nat → List CallD} (h1 : 1 ≤ P) (h2 : P ≤ 4096) (h3 : 1 ≤ T) (h4 : T ≤ 6) (hR : ∀ u, u < T → (R u).length ≤ 40 ∧ ∀ i, i < (R u).length → MayOk (ix noCall (R u) i)) : rightC P T ((List.range T).map R) = 0 := by
  refine right_zero ⟨by omega, by omega, by omega, by omega⟩ (by simp) (fun i hi => ?_)
  rw [List.length_map, List.length_range] at hi
  have e : ix [] ((List.range T).map R) i = R i := by rw [ix_lt (by simpa using hi)]; simp
  rw [e]
  rintro (hb | ⟨j, hj, hb⟩)
  · have := (hR i hi).1; omega
  · exact hb ((hR i hi).2 j hj)
theorem less_right {P T : Nat} (h1 : 1 ≤ P) (h2 : P ≤ 4096) (h3 : 1 ≤ T) (h4 : T ≤ 6) : rightC P T (List.replicate T []) = 0 := by
  rw [right_made, if_pos (B_yes ⟨by omega, by omega, by omega, by omega⟩)]
theorem less_many (T : Nat) : ∀ i, i ≤ T → manyTo (List.replicate T []) i = 0 ∧ cycTo (List.replicate T []) i = 0
  | 0, _ => ⟨rfl, rfl⟩
  | i + 1, h => by
    have h2 := less_many T i (by omega)
    have e : ix ([] : List CallD) (List.replicate T []) i = [] := by rw [ix_lt (by simp; omega)]; simp
    simp only [manyTo, cycTo, e, h2.1, h2.2]
    simp [cycIn]
theorem less_n (T : Nat) : nCalls (List.replicate T []) = 0 ∧ nCycs (List.replicate T []) = 0 := by
  unfold nCalls nCycs
  rw [List.length_replicate]
  exact less_many T T (Nat.le_refl _)

/-- All that the law asks of the bounds. -/
theorem fr_plain {P T : Nat} {k : Int} {css : List (List CallD)} (h1 : 1 ≤ P) (h2 : P ≤ 4096) (h3 : 1 ≤ T) (h4 : T ≤ 6) (hk1 : 1 ≤ k) (hk2 : k ≤ 256) (hr : rightC P T css = 0) :
    0 < totC P T css ∧ totC P T css < bndC P T css k ∧ totC P T (List.replicate T []) ≤ totC P T css ∧ bndC P T (List.replicate T []) k ≤ bndC P T css k ∧ 0 < stepsC P T ∧ bndC P T css 0 = 0 ∧ bndC P T css 8193 = 0 := by
  have hL : LayMay P T := ⟨by omega, by omega, by omega, by omega⟩
  have hr2 := less_right h1 h2 h3 h4
  obtain ⟨hn1, hn2⟩ := less_n T
  have es : stepsC P T = 4 * P + 14 * T + 200 := by unfold stepsC; rw [if_pos (B_yes hL)]
  have ea : totC P T css = totV P T (nCalls css) (nCycs css) := by unfold totC; rw [if_pos hr]
  have eb : bndC P T css k = k * stepsC P T * (totC P T css + nCalls css + 1) := by unfold bndC; rw [if_pos ⟨hr, hk1, by omega⟩]
  have ea2 : totC P T (List.replicate T []) = totV P T 0 0 := by unfold totC; rw [if_pos hr2, hn1, hn2]; rfl
  have eb2 : bndC P T (List.replicate T []) k = k * stepsC P T * (totV P T 0 0 + 0 + 1) := by unfold bndC; rw [if_pos ⟨hr2, hk1, by omega⟩, ea2, hn1]; rfl
  have hT : (0 : Int) < (T : Int) + 2 := by omega
  have ht0 : totV P T 0 0 = ((T : Int) + 2) * (30 * P + 100 * T + 10) := by unfold totV; simp
  have hp0 : (0 : Int) < 30 * (P : Int) + 100 * T + 10 := by omega
  have hpos : 0 < totV P T 0 0 := by rw [ht0]; exact Int.mul_pos hT hp0
  have hle : totV P T 0 0 ≤ totV P T (nCalls css) (nCycs css) := by
    rw [ht0]
    unfold totV
    refine Int.mul_le_mul_of_nonneg_left ?_ (by omega)
    have q1 : (0 : Int) ≤ (nCalls css : Int) * (3 * P + 2 * (nCalls css : Int) + 350) := Int.mul_nonneg (by omega) (by omega)
    have q2 : (1 : Int) * (30 * P + 100 * T + 10) ≤ ((nCycs css : Int) + 1) * (30 * P + 100 * T + 10) := Int.mul_le_mul_of_nonneg_right (by omega) (by omega)
    omega
  have hks : (1 : Int) ≤ k * stepsC P T := by
    have : (1 : Int) * 1 ≤ k * stepsC P T := Int.mul_le_mul hk1 (by omega) (by omega) (by omega)
    omega
  refine ⟨by omega, ?_, by omega, ?_, by omega, ?_, ?_⟩
  · rw [eb]
    have : (1 : Int) * (totC P T css + nCalls css + 1) ≤ k * stepsC P T * (totC P T css + nCalls css + 1) := Int.mul_le_mul_of_nonneg_right hks (by omega)
    omega
  · rw [eb, eb2]
    exact Int.mul_le_mul_of_nonneg_left (by omega) (by omega)
  · unfold bndC; rw [if_neg (by omega)]
  · unfold bndC; rw [if_neg (by omega)]
theorem fr_none {p t k : Int} {css : List (List CallD)} (hr : rightC p t css ≠ 0) : totC p t css = 0 ∧ bndC p t css k = 0 := by
  unfold totC bndC
  rw [if_neg hr, if_neg (fun h => hr h.1)]
  exact ⟨rfl, rfl⟩
theorem fr_free : freeC 0 1 = 0 ∧ freeC 1 0 = 0 := by
  unfold freeC
  rw [if_neg (by rw [B_iff]; rintro ⟨h1, h2, h3, h4⟩; omega), if_neg (by rw [B_iff]; rintro ⟨h1, h2, h3, h4⟩; omega)]
  exact ⟨rfl, rfl⟩
theorem less_callss {w : World} {g T : Nat} (hT : T ≤ maxLen) (hg : w.heap.size = g) : CallssR (w.alloc (.cells (madeCells #[.slice none 0 0] T) 77)) (some ⟨g, 0, none⟩) (List.replicate T []) := by
  have h := (CRows.made (w := w) (w' := w) hT g hg).callss (fun u hu => by simp)
  have e : (List.range T).map (fun _ => ([] : List CallD)) = List.replicate T [] := by
    apply List.ext_getElem <;> simp
  rwa [e] at h
theorem nil_bytes (w : World) (A : Option Addr) : BytesR2 w A [] := ⟨SlR.nil, fun i => by simp [ix]⟩

set_option maxHeartbeats 4000000 in
set_option maxRecDepth 100000 in
theorem fairRight_any (pg th : Nat) (A : Option Addr) (xs : List Nat) (c : Nat) (sp st : Int) (SA : Option Addr) (Sn Sc : Nat) (k : Nat) (w : World) (hpg : pg < 256) (hth : th < 256) (hk : k < 256) (hn : xs.length ≤ maxLen) (hl : BytesR2 w A xs) :
    Calls Try.prog 6 #[.int .u8 pg, .int .u8 th, .slice A xs.length c, .agg #[.int .i64 sp, .int .i64 st, .slice SA Sn Sc], .int .u8 k] w fun e w' => e = .returned (.bool true) ∧ Ext w w' := by
  have HL := Lib.hid hl
  clear hl
  go_enter Try.func6, Try.ntmps6
  go_wp2_with fail
  refine (setup_any pg th 200 none [] 0 0 _ hpg hth (by omega) (by omega) (by simp) rfl (nil_bytes _ _)).mono ?_
  rintro e w1 ⟨⟨DA, Dc, rfl, hO⟩, hE1⟩
  clear hO
  have hE1' := ((Ext.refl w).alloc (.cells #[.int .i64 sp, .int .i64 st, .slice SA Sn Sc] 47)).trans hE1
  have HS := Lib.hid (fun i v h => hE1.cell (cell_new w #[.int .i64 sp, .int .i64 st, .slice SA Sn Sc] 47 i v h))
  have hlt := hE1.size
  rw [World.size_alloc] at hlt
  obtain ⟨P, hP⟩ : ∃ P, 1 + pg % 200 = P := ⟨_, rfl⟩
  obtain ⟨T, hT⟩ : ∃ T, 1 + th % 6 = T := ⟨_, rfl⟩
  have hP1 : 1 ≤ P := by omega
  have hP2 : P ≤ 200 := by omega
  have hT1 : 1 ≤ T := by omega
  have hT2 : T ≤ 6 := by omega
  rw [hP, hT]
  clear hP hT hE1
  go_wp2_with fail
  refine (calls_any P T _ A xs c _ hT1 hT2 hn ⟨HL.out.1.ext (hE1'.alloc _), HL.out.2⟩ ⟨_, _, _, rfl⟩).mono ?_
  rintro e w2 ⟨⟨g, R, rfl, hcs, hRm⟩, hE2⟩
  have HS2 := Lib.hid (fun i v h => hE2.cell (((Ext.refl w1).alloc (.cells #[.int .i64 P, .int .i64 T, .slice DA 0 Dc] 47)).cell (HS.out i v h)))
  have HT2 := Lib.hid (fun i v h => hE2.cell (cell_new w1 #[.int .i64 P, .int .i64 T, .slice DA 0 Dc] 47 i v h))
  have hE := (hE1'.alloc (.cells #[.int .i64 P, .int .i64 T, .slice DA 0 Dc] 47)).trans hE2
  have hz2 := hE2.size
  rw [World.size_alloc] at hz2
  have hrz := rm_right (P := P) hP1 (by omega) hT1 hT2 hRm
  have hcl : ((List.range T).map R).length = T := by simp
  generalize (List.range T).map R = css at hcs hrz hcl
  generalize w1.heap.size = gT at *
  have HPl := Lib.hid (fr_plain (k := 1 + (k : Int)) hP1 (by omega) hT1 hT2 (by omega) (by omega) hrz)
  have HC := Lib.hid (And.intro hcs (And.intro hrz hcl))
  clear hcs hrz hcl hE1' HS HL hRm hE2
  obtain ⟨sg, hsg⟩ : ∃ sg, w.heap.size = sg := ⟨_, rfl⟩
  rw [hsg] at HS2 hlt ⊢
  have HSG := Lib.hid hsg
  clear hsg
  have l0 := fun d os => cell_regrown (HT2.out 0 _ rfl) d os
  have l1 := fun d os => cell_regrown (HT2.out 1 _ rfl) d os
  have l2 := fun d os => cell_regrown (HT2.out 2 _ rfl) d os
  have hTm : T ≤ maxLen := by unfold maxLen; omega
  go_wp2_with fail
  refine wp_region_quiet_below (by kernel_rfl) (by kernel_rfl) ?_
  repeat (go_big_quiet_step ((first
    | (go_at_call 18; exact Calls.regrown_of (total_any P T (.slice DA 0 Dc) css T HC.out.2.2 (some ⟨g, 0, none⟩) T _ hTm (HC.out.1.ext (below_regrown _ _ _)) ⟨_, _, _, rfl⟩))
    | (go_at_call 19; exact Calls.regrown_of (bound_any P T (1 + (k : Int)) (.slice DA 0 Dc) css T HC.out.2.2 (some ⟨g, 0, none⟩) T _ hTm (HC.out.1.ext (below_regrown _ _ _)) ⟨_, _, _, rfl⟩)))))
  refine wpQuiet_nil ?_
  intro _ hw'
  obtain ⟨⟨dq, osq⟩, hw''⟩ := hw'
  subst hw''
  clear l0 l1 l2
  have hE3 := hE.trans (below_regrown w2 dq osq)
  have HS3 := Lib.hid (fun i v h => cell_regrown (HS2.out i v h) dq osq)
  have HT3 := Lib.hid (fun i v h => cell_regrown (HT2.out i v h) dq osq)
  have HC3 := Lib.hid (And.intro (HC.out.1.ext (below_regrown w2 dq osq)) HC.out.2)
  have hz3 := (below_regrown w2 dq osq).size
  generalize grow (redrawn w2 dq) osq = w3 at *
  clear HS2 HT2 HC hE
  have hmk := run_make_row' (P := Try.prog) 49 77 (.slice none 0 0) 24 Try.underlying49 Try.infoCalls rfl .i64 .i64 T (by omega) (by omega)
  have c1 := HT3.out 1 _ rfl
  obtain ⟨p1, p2, p3, p4, p5, p6, p7⟩ := HPl.out
  have p6' := Lib.hid p6
  have p7' := Lib.hid p7
  have d1 : decide (totC P T css ≤ 0) = false := by simp; omega
  have d2 : decide (bndC P T css (1 + (k : Int)) ≤ totC P T css) = false := by simp; omega
  have d3 : decide (totC P T css < totC P T (List.replicate T [])) = false := by simp; omega
  have d4 : decide (bndC P T css (1 + (k : Int)) < bndC P T (List.replicate T []) (1 + (k : Int))) = false := by simp; omega
  have d5 : decide (stepsC P T ≤ 0) = false := by simp; omega
  clear p6 p7
  have t0 := HT3.out 0 _ rfl
  have t2 := HT3.out 2 _ rfl
  have hE4 := hE3.alloc (.cells (madeCells #[.slice none 0 0] T) 77)
  have HT4 := Lib.hid (fun i v h => ((Ext.refl w3).alloc (.cells (madeCells #[.slice none 0 0] T) 77)).cell (HT3.out i v h))
  have HS4 := Lib.hid (fun i v h => ((Ext.refl w3).alloc (.cells (madeCells #[.slice none 0 0] T) 77)).cell (HS3.out i v h))
  have HC4 := Lib.hid (And.intro (HC3.out.1.ext ((Ext.refl w3).alloc (.cells (madeCells #[.slice none 0 0] T) 77))) HC3.out.2)
  have HL4 := Lib.hid (less_callss (w := w3) hTm rfl)
  have t0' := HT4.out 0 _ rfl
  have t1' := HT4.out 1 _ rfl
  have t2' := HT4.out 2 _ rfl
  go_wp2_with fail
  clear hmk c1 t0 t2
  generalize w3.alloc (.cells (madeCells #[.slice none 0 0] T) 77) = w4 at *
  refine (total_any P T (.slice DA 0 Dc) (List.replicate T []) T (List.length_replicate ..) (some ⟨w3.heap.size, 0, none⟩) T _ hTm HL4.out ⟨_, _, _, rfl⟩).mono ?_
  rintro e w5 ⟨rfl, hE5⟩
  have u0 := hE5.cell t0'
  have u1 := hE5.cell t1'
  have u2 := hE5.cell t2'
  go_wp2_with fail
  refine (bound_any P T (1 + (k : Int)) (.slice DA 0 Dc) (List.replicate T []) T (List.length_replicate ..) (some ⟨w3.heap.size, 0, none⟩) T _ hTm (HL4.out.ext hE5) ⟨_, _, _, rfl⟩).mono ?_
  rintro e w6 ⟨rfl, hE6⟩
  have hE46 := hE5.trans hE6
  have u0 := hE46.cell t0'
  have u1 := hE46.cell t1'
  have u2 := hE46.cell t2'
  go_wp2_with fail
  refine (steps_any P T (.slice DA 0 Dc) _ ⟨_, _, _, rfl⟩).mono ?_
  rintro e w7 ⟨rfl, hE7⟩
  have hE47 := hE46.trans hE7
  have s0 := hE47.cell (HS4.out 0 _ rfl)
  have s1 := hE47.cell (HS4.out 1 _ rfl)
  have s2 := hE47.cell (HS4.out 2 _ rfl)
  go_wp2_with fail
  have hC7 := HC4.out.1.ext hE47
  refine (right26_any sp st (.slice SA Sn Sc) css T HC4.out.2.2 (some ⟨g, 0, none⟩) T _ hTm hC7 ⟨_, _, _, rfl⟩).mono ?_
  rintro e w8 ⟨rfl, hE8⟩
  have HC7 := Lib.hid hC7
  clear hC7 s0 s1 s2 u0 u1 u2
  have hE48 := hE47.trans hE8
  have hE48' := Lib.hid (hE4.trans hE48)
  by_cases hr : rightC sp st css = 0
  · have r1 : (rightC sp st css != 0) = false := by simpa using hr
    clear hr
    have hEz := hE48
    have u0 := hEz.cell t0'
    have u1 := hEz.cell t1'
    have u2 := hEz.cell t2'
    go_wp2_with fail
    refine (bound_any P T 0 (.slice DA 0 Dc) css T HC4.out.2.2 (some ⟨g, 0, none⟩) T _ hTm (HC4.out.1.ext hEz) ⟨_, _, _, rfl⟩).mono ?_
    rintro e wa ⟨rfl, hEa⟩
    rw [p6'.out]
    have hEy := hEz.trans hEa
    have u0 := hEy.cell t0'
    have u1 := hEy.cell t1'
    have u2 := hEy.cell t2'
    go_wp2_with fail
    refine (bound_any P T 8193 (.slice DA 0 Dc) css T HC4.out.2.2 (some ⟨g, 0, none⟩) T _ hTm (HC4.out.1.ext hEy) ⟨_, _, _, rfl⟩).mono ?_
    rintro e wb ⟨rfl, hEb⟩
    rw [p7'.out]
    go_wp2_with fail
    refine (free_any 0 1 _).mono ?_
    rintro e _ ⟨rfl, rfl⟩
    rw [fr_free.1]
    go_wp2_with fail
    refine (free_any 1 0 _).mono ?_
    rintro e _ ⟨rfl, rfl⟩
    rw [fr_free.2]
    go_wp2_with fail
    refine (awake31_any _).mono ?_
    rintro e wc ⟨rfl, hEc⟩
    go_wp2
    go_ret
    exact ⟨rfl, hE4.trans ((hEy.trans hEb).trans hEc)⟩
  · have r1 : (rightC sp st css != 0) = true := by simpa using hr
    have HN := Lib.hid (fr_none (k := 1 + (k : Int)) hr)
    clear hr
    have s0 := hE48.cell (HS4.out 0 _ rfl)
    have s1 := hE48.cell (HS4.out 1 _ rfl)
    have s2 := hE48.cell (HS4.out 2 _ rfl)
    go_wp2_with fail
    refine (total_any sp st (.slice SA Sn Sc) css T HC4.out.2.2 (some ⟨g, 0, none⟩) T _ hTm (HC4.out.1.ext hE48) ⟨_, _, _, rfl⟩).mono ?_
    rintro e w9 ⟨rfl, hE9⟩
    rw [HN.out.1]
    have hE49 := hE48.trans hE9
    have s0 := hE49.cell (HS4.out 0 _ rfl)
    have s1 := hE49.cell (HS4.out 1 _ rfl)
    have s2 := hE49.cell (HS4.out 2 _ rfl)
    go_wp2_with fail
    refine (bound_any sp st (1 + (k : Int)) (.slice SA Sn Sc) css T HC4.out.2.2 (some ⟨g, 0, none⟩) T _ hTm (HC4.out.1.ext hE49) ⟨_, _, _, rfl⟩).mono ?_
    rintro e w10 ⟨rfl, hE10⟩
    rw [HN.out.2]
    have hEz := hE49.trans hE10
    have u0 := hEz.cell t0'
    have u1 := hEz.cell t1'
    have u2 := hEz.cell t2'
    go_wp2_with fail
    refine (bound_any P T 0 (.slice DA 0 Dc) css T HC4.out.2.2 (some ⟨g, 0, none⟩) T _ hTm (HC4.out.1.ext hEz) ⟨_, _, _, rfl⟩).mono ?_
    rintro e wa ⟨rfl, hEa⟩
    rw [p6'.out]
    have hEy := hEz.trans hEa
    have u0 := hEy.cell t0'
    have u1 := hEy.cell t1'
    have u2 := hEy.cell t2'
    go_wp2_with fail
    refine (bound_any P T 8193 (.slice DA 0 Dc) css T HC4.out.2.2 (some ⟨g, 0, none⟩) T _ hTm (HC4.out.1.ext hEy) ⟨_, _, _, rfl⟩).mono ?_
    rintro e wb ⟨rfl, hEb⟩
    rw [p7'.out]
    go_wp2_with fail
    refine (free_any 0 1 _).mono ?_
    rintro e _ ⟨rfl, rfl⟩
    rw [fr_free.1]
    go_wp2_with fail
    refine (free_any 1 0 _).mono ?_
    rintro e _ ⟨rfl, rfl⟩
    rw [fr_free.2]
    go_wp2_with fail
    refine (awake31_any _).mono ?_
    rintro e wc ⟨rfl, hEc⟩
    go_wp2
    go_ret
    exact ⟨rfl, hE4.trans ((hEy.trans hEb).trans hEc)⟩
end Go.Proofs.Ytmpiodlkhjjbfaa
