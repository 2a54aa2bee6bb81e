/- FairAll: the walk. -/
import Derived.Test.YtmpiodlkhjjbfaaRows
import Derived.Test.YtmpiodlkhjjbfaaFair8
import Derived.Test.YtmpiodlkhjjbfaaFair3
namespace Go.Proofs.Ytmpiodlkhjjbfaa
open Go.RowKit Go.Sort
set_option linter.unusedVariables false
set_option linter.unusedSimpArgs false

theorem same_ext {P : Program} {f : FuncId} {args : Array Value} {w : World} {v : Value} (h : Calls P f args w fun e w' => e = .returned v ∧ w = w') : Calls P f args w fun e w' => e = .returned v ∧ Ext w w' :=
  h.mono fun _ _ ⟨he, hw⟩ => ⟨he, hw ▸ Ext.refl _⟩

set_option maxHeartbeats 4000000 in
set_option maxRecDepth 100000 in
theorem fairAll_any (A : Option Addr) (n c : Nat) (f : Nat → Int) (g : Nat → Nat) (k : Int) (dk da : Int) (dold dnew : Nat) (p t : Int) (DA : Option Addr) (Dn Dc : Nat) (css : List (List CallD)) (CA : Option Addr) (cc : Nat) (th pg : Int) (w : World)
    (hl : SlR w A n 2 (pkv f g)) (hg : ∀ i, g i < 18446744073709551616) (hk2 : k ≤ 9223372036854775807) (hn : n ≤ maxLen) (hcn : css.length ≤ maxLen) (hcl : CallssR w CA css) :
    Calls Try.prog 7 #[.slice A n c, .int .i64 k, .agg #[.int .i64 dk, .int .i64 da, .int .u64 dold, .int .u64 dnew], .agg #[.int .i64 p, .int .i64 t, .slice DA Dn Dc], .slice CA css.length cc, .int .i64 th, .int .i64 pg] w fun e w' => e = .returned (.bool true) ∧ Ext w w' := by
  have hn' : n ≤ 9223372036854775807 := hn
  have hcn' : css.length ≤ 9223372036854775807 := hcn
  have HL := Lib.hid hl
  have HC := Lib.hid (And.intro hcl hg)
  clear hl hcl hg
  by_cases h1 : 300 < n
  · have d1 : decide ((300 : Int) < (n : Int)) = true := by rw [decide_eq_true_eq]; omega
    go_enter Try.func7, Try.ntmps7
    go_wp2_with (go_at_call 15; refine (awake31_any _).mono ?_; rintro e w1 ⟨rfl, hE1⟩)
    go_ret
    exact ⟨rfl, (((Ext.refl _).alloc _).alloc _).trans hE1⟩
  have d1 : decide ((300 : Int) < (n : Int)) = false := by rw [decide_eq_false_iff_not]; omega
  by_cases h2 : 70 < css.length
  · have d2 : decide ((70 : Int) < (css.length : Int)) = true := by rw [decide_eq_true_eq]; omega
    go_enter Try.func7, Try.ntmps7
    go_wp2_with (go_at_call 15; refine (awake31_any _).mono ?_; rintro e w1 ⟨rfl, hE1⟩)
    go_ret
    exact ⟨rfl, (((Ext.refl _).alloc _).alloc _).trans hE1⟩
  have d2 : decide ((70 : Int) < (css.length : Int)) = false := by rw [decide_eq_false_iff_not]; omega
  have hD : ∃ A n c, Value.slice DA Dn Dc = .slice A n c := ⟨_, _, _, rfl⟩
  have HD := Lib.hid hD
  clear hD
  go_enter Try.func7, Try.ntmps7
  go_wp2_with fail
  have e0 : Ext w ((w.alloc (.cells #[.int .i64 dk, .int .i64 da, .int .u64 dold, .int .u64 dnew] 59)).alloc (.cells #[.int .i64 p, .int .i64 t, .slice DA Dn Dc] 47)) := ((Ext.refl _).alloc _).alloc _
  have b0 : ∀ i v, #[Value.int .i64 dk, .int .i64 da, .int .u64 dold, .int .u64 dnew][i]? = some v → ((w.alloc (.cells #[.int .i64 dk, .int .i64 da, .int .u64 dold, .int .u64 dnew] 59)).alloc (.cells #[.int .i64 p, .int .i64 t, .slice DA Dn Dc] 47)).cell? ⟨w.heap.size, i, none⟩ = some v := fun i v h => ((Ext.refl _).alloc _).cell (cell_new w _ _ i v h)
  have b1 : ∀ i v, #[Value.int .i64 p, .int .i64 t, .slice DA Dn Dc][i]? = some v → ((w.alloc (.cells #[.int .i64 dk, .int .i64 da, .int .u64 dold, .int .u64 dnew] 59)).alloc (.cells #[.int .i64 p, .int .i64 t, .slice DA Dn Dc] 47)).cell? ⟨w.heap.size + 1, i, none⟩ = some v := fun i v h => by
    have := cell_new (w.alloc (.cells #[.int .i64 dk, .int .i64 da, .int .u64 dold, .int .u64 dnew] 59)) _ 47 i v h
    rwa [World.size_alloc] at this
  generalize ((w.alloc (.cells #[.int .i64 dk, .int .i64 da, .int .u64 dold, .int .u64 dnew] 59)).alloc (.cells #[.int .i64 p, .int .i64 t, .slice DA Dn Dc] 47)) = W at e0 b0 b1 ⊢
  have l0 := fun d os => cell_regrown (b0 0 _ rfl) d os
  have l1 := fun d os => cell_regrown (b0 1 _ rfl) d os
  have l2 := fun d os => cell_regrown (b0 2 _ rfl) d os
  have l3 := fun d os => cell_regrown (b0 3 _ rfl) d os
  have s0 := fun d os => cell_regrown (b1 0 _ rfl) d os
  have s1 := fun d os => cell_regrown (b1 1 _ rfl) d os
  have s2 := fun d os => cell_regrown (b1 2 _ rfl) d os
  have HLW := Lib.hid (HL.out.ext e0)
  have HCW := Lib.hid (HC.out.1.ext e0)
  clear b0 b1
  refine wp_region_quiet_below (by kernel_rfl) (by kernel_rfl) ?_
  repeat (go_big_quiet_step ((first
    | (go_at_call 14; exact Calls.regrown_of (fair_any A n c f g k _ (by omega) (HLW.out.ext (below_regrown _ _ _)) HC.out.2 hk2))
    | (go_at_call 23; exact Calls.regrown_of (same_ext (fair30_any A n c f g k _ (by omega) (HLW.out.ext (below_regrown _ _ _)) HC.out.2 hk2)))
    | (go_at_call 24; exact Calls.regrown_of (turns_any dk da dold dnew _))
    | (go_at_call 25; exact Calls.regrown_of (turns30_any dk da dold dnew _))
    | (go_at_call 20; exact Calls.regrown_of (steps_any p t (.slice DA Dn Dc) _ HD.out))
    | (go_at_call 26; exact Calls.regrown_of (steps30_any p t (.slice DA Dn Dc) _ HD.out))
    | (go_at_call 18; exact Calls.regrown_of (total_any p t (.slice DA Dn Dc) css _ rfl _ _ _ hcn (HCW.out.ext (below_regrown _ _ _)) HD.out))
    | (go_at_call 27; exact Calls.regrown_of (total30_any p t (.slice DA Dn Dc) css _ rfl _ _ _ hcn (HCW.out.ext (below_regrown _ _ _)) HD.out))
    | (go_at_call 19; exact Calls.regrown_of (bound_any p t k (.slice DA Dn Dc) css _ rfl _ _ _ hcn (HCW.out.ext (below_regrown _ _ _)) HD.out))
    | (go_at_call 28; exact Calls.regrown_of (bound30_any p t k (.slice DA Dn Dc) css _ rfl _ _ _ hcn (HCW.out.ext (below_regrown _ _ _)) HD.out))
    | (go_at_call 22; exact Calls.regrown_of (same_ext (free_any _ _ _)))
    | (go_at_call 29; exact Calls.regrown_of (free30_any _ _ _))
    | (go_at_call 15; exact Calls.regrown_of (awake31_any _)))))
  refine wpQuiet_nil ?_
  intro _ hw'
  obtain ⟨⟨dq, osq⟩, hw''⟩ := hw'
  subst hw''
  go_wp2
  go_ret
  exact ⟨rfl, e0.trans (below_regrown W dq osq)⟩
end Go.Proofs.Ytmpiodlkhjjbfaa
