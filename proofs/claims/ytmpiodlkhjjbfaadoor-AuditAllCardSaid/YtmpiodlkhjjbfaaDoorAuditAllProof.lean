/-
  PROVED: dustpanlaw30.AuditAll returns true at every input, and leaves its arguments as they were.
  CONDITIONS: the two tables that the row lists, tied to the program's text by the card ('AuditAllCardSaid').
-/
import Derived.Test.YtmpiodlkhjjbfaaDoorRows
import Derived.Test.YtmpiodlkhjjbfaaDoorTie
import Derived.Test.YtmpiodlkhjjbfaaDoorCards
import Derived.Test.YtmpiodlkhjjbfaaDoorLaid
import Derived.Test.YtmpiodlkhjjbfaaDoorOpenD
import Derived.Test.YtmpiodlkhjjbfaaDoorAuditAll
import Derived.WalkKit
import Derived.ProofKit
import Derived.OpenShut
import Derived.Lay
import Derived.MakeChecks
import Derived.Below
import Derived.SevenTiedAt
namespace Go.Proofs.YtmpiodlkhjjbfaaDoor.auditAll
open Go.ChangeShapes Go.WideShapes Go.ChangeAt Go.RowKit
set_option linter.unusedVariables false

theorem own : ownKnob Tryd.prog.godebug = none := by kernel_rfl
theorem laidOut : laidOutB Tryd.prog = true := by kernel_rfl
theorem bytesR : Tryd.prog.bytesOf 54 = 16 := by kernel_rfl
theorem bytesS : Tryd.prog.bytesOf 25 = 56 := by kernel_rfl
theorem bytesH : Tryd.prog.bytesOf 61 = 24 := by kernel_rfl
/-- The form's reach bounds a slice's length. -/
theorem len_le {H : Type} {ts : List TypeId} {ds : List (DataW H)} (h : (DataW.weightsEach Tryd.prog ts ds).all (· ≤ reachBytes) = true) {j : Nat} {t e : TypeId} {d : DataW H} {len b : Nat} (ht : ts[j]? = some t) (hd : ds[j]? = some d) (hu : Tryd.prog.underlying t = some (.slice e))
    (hb : Tryd.prog.bytesOf e = b) (hb1 : 16 ≤ b) (hl : (len = 0 ∧ d = .nil) ∨ ∃ es sp, d = .slice es sp ∧ es.length = len) : len ≤ 140737488355328 := by
  rcases hl with ⟨rfl, _⟩ | ⟨es, sp, rfl, rfl⟩
  · omega
  · have h1 := sized_slice h ht hd hu
    rw [hb] at h1
    have h2 := reachBytes_lt
    have h3 : es.length * 16 ≤ (es.length + sp.length) * b := Nat.mul_le_mul (by omega) hb1
    omega

set_option maxRecDepth 100000 in
theorem lifted (os : Os) (started : os.Started) (H : Type) (enc : TypeId × Value → H) :
    ReturnsInHanded {} Tryd.checked os 4 .any (fun w args => (Rows.auditAllSpec.pre enc Tryd.prog Tryd.f4 [] false w args ∧ laidMetH Tryd.prog laidBoth w) ∧ sizedMet enc Tryd.prog Tryd.f4 (OpenSpec.ofChange Rows.auditAllSpec) false w args)
      (Rows.auditAllSpec.post enc Tryd.prog Tryd.f4 false true false false) := by
  refine returnsInHanded_of_change_and (C := Tryd.checked) (X := fun w _ => laidMetH Tryd.prog laidBoth w) (fun _ _ _ hh h => h.of_heap hh) own started (by kernel_rfl) Tryd.func4
    (ChangeSpec.witness_shaped (enc := enc) (C := Tryd.checked) (os := os) (X := fun w _ => laidMetH Tryd.prog laidBoth w) false (World.laidAll Tryd.prog os laidBoth) #[.slice none 0 0, .slice none 0 0, .slice none 0 0, .int .i64 0, .int .i64 0, .int .i64 0, .int .i64 0] 8 (World.laidAll_os _ _ _)
      (World.shaped_of_ZipB (by kernel_rfl) (by kernel_rfl)) (by kernel_rfl) (by kernel_rfl) (by kernel_rfl)
      (by rw [MakeChecks.laidMetH_plain _ _ _ (by kernel_rfl)]; exact laidMet_laidAll _ (by kernel_rfl) (by kernel_rfl))) ?_
  intro W base args ds gs before hval0 hW _ hsz hL _
  have hval : ∀ (j : Nat) t v, Tryd.f4.params[j]? = some t → args[j]? = some v → Value.okWide Tryd.prog W .any base t v := hval0
  have hW' := hW
  obtain ⟨p, q, hA0, hV, rfl, hfz, hnd⟩ := hW
  have hA : DataW.TrodAll enc Tryd.prog W 0 (fun _ => true) true Tryd.f4.params.toList args.toList ds p := hA0
  rw [Tryd.params4] at hA hval
  obtain ⟨v0, vs0, d0, ds0, p0, q0, hargs, rfl, rfl, h0, r0⟩ := trodAll_cons hA
  obtain ⟨v1, vs1, d1, ds1, p1, q1, rfl, rfl, rfl, h1, r1⟩ := trodAll_cons r0
  obtain ⟨v2, vs2, d2, ds2, p2, q2, rfl, rfl, rfl, h2, r2⟩ := trodAll_cons r1
  obtain ⟨v3, vs3, d3, ds3, p3, q3, rfl, rfl, rfl, h3, r3⟩ := trodAll_cons r2
  obtain ⟨v4, vs4, d4, ds4, p4, q4, rfl, rfl, rfl, h4, r4⟩ := trodAll_cons r3
  obtain ⟨v5, vs5, d5, ds5, p5, q5, rfl, rfl, rfl, h5, r5⟩ := trodAll_cons r4
  obtain ⟨v6, vs6, d6, ds6, p6, q6, rfl, rfl, rfl, h6, r6⟩ := trodAll_cons r5
  obtain ⟨rfl, rfl, rfl⟩ := trodAll_nil r6
  obtain rfl : args = #[v0, v1, v2, v3, v4, v5, v6] := by cases args; simp_all
  obtain ⟨rfl, rfl⟩ := trodVars_none hV
  obtain ⟨b0, len0, cap0, rfl⟩ := okWide_slice Tryd.underlying39 (hval 0 39 v0 rfl rfl)
  obtain ⟨b1, len1, cap1, rfl⟩ := okWide_slice Tryd.underlying36 (hval 1 36 v1 rfl rfl)
  obtain ⟨b2, len2, cap2, rfl⟩ := okWide_slice Tryd.underlying40 (hval 2 40 v2 rfl rfl)
  have kk0 := h0
  have kk1 := h1
  have kk2 := h2
  have lt0 : ∀ x ∈ p0, x.block < W.heap.size := by obtain ⟨m, hm⟩ := kk0; exact DataW.trod_lt m _ _ _ hm
  have lt1 : ∀ x ∈ p1, x.block < W.heap.size := by obtain ⟨m, hm⟩ := kk1; exact DataW.trod_lt m _ _ _ hm
  have lt2 : ∀ x ∈ p2, x.block < W.heap.size := by obtain ⟨m, hm⟩ := kk2; exact DataW.trod_lt m _ _ _ hm
  obtain ⟨e0, hf0⟩ := h0
  obtain ⟨e1, hf1⟩ := h1
  obtain ⟨e2, hf2⟩ := h2
  obtain ⟨A0, l0, c0, Z0, hv0, _, hR0, _, hl0⟩ := open_nums (ks := kRun) Tryd.underlying39 Tryd.underlying54 (by kernel_rfl) (by kernel_rfl) (fun j f hj => by
    rcases j with _ | _ | j
    all_goals simp at hj
    all_goals (subst hj; exact Tryd.underlying3)) (by decide) hf0
  obtain ⟨A1, l1, c1, Z1, hv1, _, hR1, hwf1, hl1⟩ := open_nums (ks := kSpan) Tryd.underlying36 Tryd.underlying25 (by kernel_rfl) (by kernel_rfl) (fun j f hj => by
    rcases j with _ | _ | _ | _ | _ | _ | _ | j
    all_goals simp at hj
    all_goals (subst hj; first | exact Tryd.underlying3 | exact Tryd.underlying23)) (by decide) hf1
  obtain ⟨A2, l2, c2, Z2, hv2, _, hR2, _, hl2⟩ := open_nums (ks := kRun) Tryd.underlying40 Tryd.underlying61 (by kernel_rfl) (by kernel_rfl) (fun j f hj => by
    rcases j with _ | _ | _ | j
    all_goals simp at hj
    all_goals (subst hj; exact Tryd.underlying3)) (by decide) hf2
  simp [Value.cells] at hv0 hv1 hv2
  obtain ⟨rfl, rfl, rfl⟩ := hv0
  obtain ⟨rfl, rfl, rfl⟩ := hv1
  obtain ⟨rfl, rfl, rfl⟩ := hv2
  obtain ⟨a3, rfl, rfl, rfl, w3⟩ := open_int Tryd.underlying3 (hval 3 3 v3 rfl rfl) h3
  obtain ⟨a4, rfl, rfl, rfl, w4⟩ := open_int Tryd.underlying3 (hval 4 3 v4 rfl rfl) h4
  obtain ⟨a5, rfl, rfl, rfl, w5⟩ := open_int Tryd.underlying3 (hval 5 3 v5 rfl rfl) h5
  obtain ⟨a6, rfl, rfl, rfl, w6⟩ := open_int Tryd.underlying3 (hval 6 3 v6 rfl rfl) h6
  clear hA0 hval0
  have hT := tabs_of_laid hL
  rw [Tryd.params4] at hsz
  have n0 := len_le hsz (j := 0) rfl rfl Tryd.underlying39 bytesR (by omega) hl0
  have n1 := len_le hsz (j := 1) rfl rfl Tryd.underlying36 bytesS (by omega) hl1
  have n2 := len_le hsz (j := 2) rfl rfl Tryd.underlying40 bytesH (by omega) hl2
  refine Calls.mono (R := fun e w' => e = .returned (.bool true) ∧ Below W.heap.size W w') ?hwalk (fun e W' ⟨he, bel⟩ => ?_)
  case hwalk =>
    have hr := runs_of hR0
    obtain ⟨hs, hsb⟩ := spans_of hR1 hwf1
    have hh := hands_of hR2
    have b4 := bounds_i64 w4
    have h := auditAll_any ((List.range len0).map fun i => ⟨Z0 i 0, Z0 i 1⟩) ((List.range len1).map fun i => ⟨Z1 i 0, Z1 i 1, Z1 i 2, Z1 i 3, Z1 i 4, (Z1 i 5).toNat, (Z1 i 6).toNat⟩) ((List.range len2).map fun i => ⟨Z2 i 0, Z2 i 1, Z2 i 2⟩) b0 b1 b2 cap0 cap1 cap2 a3 a4 a5 a6 W (by omega) (by simp; omega) hr hs hh (fun i hi => by
      rw [List.length_map, List.length_range] at hi
      rw [ix_map_range _ _ _ _ hi]
      exact hsb i hi) hT.1 hT.2
    rw [List.length_map, List.length_map, List.length_map, List.length_range, List.length_range, List.length_range] at h
    exact h
  subst he
  exact ⟨_, rfl, _, _, _, [], _, [], hW', trodAll_mk1 (shut_bool Tryd.underlying4 _), (trodAll_cons_mk (Below.trod laidOut (by kernel_rfl) (of_decide_eq_true (by kernel_rfl)) kk0 bel lt0) (trodAll_cons_mk (Below.trod laidOut (by kernel_rfl) (of_decide_eq_true (by kernel_rfl)) kk1 bel lt1) (trodAll_cons_mk (Below.trod laidOut (by kernel_rfl) (of_decide_eq_true (by kernel_rfl)) kk2 bel lt2) (trodAll_cons_mk (shut_int Tryd.underlying3 w3) (trodAll_cons_mk (shut_int Tryd.underlying3 w4) (trodAll_cons_mk (shut_int Tryd.underlying3 w5) (trodAll_cons_mk (shut_int Tryd.underlying3 w6) trodAll_mk0))))))), rfl, bel.frame _, fun h => by cases h⟩

theorem over : Rows.AuditAllSaid :=
  OpenClaim.holds_of_wide 4 Tryd.f4 rfl rfl rfl rfl rfl rfl rfl ⟨rfl, rfl, rfl, rfl, rfl⟩ rfl rfl rfl rfl rfl (by kernel_rfl) Tryd.func4 (by kernel_rfl)
    (of_decide_eq_true (by kernel_rfl)) (by unfold Func.isWrapper; first | (rw [if_pos (by decide +kernel)]; kernel_rfl) | (rw [if_neg (by decide +kernel)]; exact ⟨rfl, rfl⟩))
    (fun os started H enc _ => lifted os started H enc)

theorem proved : Rows.AuditAllCardSaid :=
  Claim7.holds_tied_plain_at .later [] [.data, .data] true (true, "eeaae89dd79c6841e3ba38000cf41d854dff08b2ea542897b9da1329089063e5") false
    over (fun _ h => by cases h) (by kernel_rfl) (fun _ h => by cases h) auditAll_row_tie rfl ⟨rfl, rfl⟩ (by kernel_rfl) rfl
    (fun f fn hf hfn => by
      obtain rfl : f = 4 := Option.some.inj ((show Tryd.prog.funcNamed "dustpan/dustpanlaw30.AuditAll" = some 4 by kernel_rfl).symm.trans hf) |>.symm
      obtain rfl : fn = Tryd.f4 := (Option.some.inj (Tryd.func4.symm.trans hfn)).symm
      exact ⟨by kernel_rfl, fun j t ht => by
        rw [Tryd.params4] at ht
        rcases j with _ | _ | _ | _ | _ | _ | _ | j
        all_goals simp at ht
        all_goals (subst ht; kernel_rfl)⟩)
    (by kernel_rfl)
#print axioms proved
end Go.Proofs.YtmpiodlkhjjbfaaDoor.auditAll
