/- Reflection, 23: a call with values that are not looked into and long rows, its run in pieces. No program is named here. -/
import Derived.Test.YtfppinabdalblaaGreatRefl22
import Derived.Test.YtfppinabdalblaaGreatRefl19
namespace Go.Proofs.YtfppinabdalblaaGreat
open Go.RowKit Go.IntWalk
set_option linter.unusedVariables false
set_option linter.unusedSimpArgs false
section
variable {P : Program} {σ : Nat → Value} {G : Nat}
theorem calls_of_segT (hσ : ∀ j, OneC (σ j)) {w : World} {tabs : List (Nat × Array Value)} (hG : G ≤ w.heap.size) (hT : TabR w tabs) {f : FuncId} {fn : Func} {c : Code} {e : Ex} {args : Array Value} {a1 : Act} {w1 : World} {v : Value} (hf : P.funcs[f]? = some fn) (hb : fn.body = some c)
    (ha : args.toList.all (tokC 4) = true) (hs : Seg1 P σ w w.heap.size G #[] (.code c) { tmps := args ++ Array.replicate (fn.ntmps - args.size) undef, defers := [] } (baseWorld G tabs) e #[] a1 w1) (hex : e = .normal ∨ e = .ret) (hv : retVal P fn a1.tmps w1 = some v) (hc : closedN 8 v = true) :
    Calls P f (args.toList.map (tokV σ 4)).toArray w fun e w' => e = .returned v ∧ Ext w w' := by
  have hrel : RAr σ ⟨id, (· < G), fun _ => False, fun _ _ _ => False⟩ args (args.toList.map (tokV σ 4)).toArray := by
    refine ⟨by simp, fun i u u' h1 h2 => ?_⟩
    have h3 : u' = tokV σ 4 u := by
      rw [List.getElem?_toArray, List.getElem?_map] at h2
      rw [← Array.getElem?_toList] at h1
      rw [h1] at h2
      simpa using h2.symm
    subst h3
    exact tok_rv (all_get ha h1)
  refine (callsIn_wide (n := 0)).1 ?_
  refine callsIn_of_wp_marks (F := FW none) hf hb trivial ?_ rfl
  refine hs [] [] ⟨id, (· < G), fun _ => False, fun _ _ _ => False⟩ _ w #[] (fun k hk => hk) RAr.nil ⟨rar_undef hrel fn.ntmps, rfl, [], rfl, List.nodup_nil, fun k hk => (by cases hk)⟩ (fun g hg => ⟨hg, rfl⟩) (base_rel hG hT) _ ?_
  intro B D a1' w1' _ _ ha1 hG1 hw1
  obtain ⟨hat, _, ks, hks, hnd, hkk⟩ := ha1
  have fin : LeavesInM (FW none) 0 P fn a1'.tmps (fun e w' => e = .returned v ∧ Ext w w') a1'.defers .returning w1' := by
    rw [hks]
    refine leaves_marks (D0 := []) (E := []) (Rs := []) (fun g hg => (by cases hg)) (fun w2 hw2 => ?_) ks D w1' hnd hkk (fun k hk => (by cases hk)) hw1
    obtain ⟨C, v', h1, h2, h3, h4⟩ := retVal_sound (P := P) hσ hat hw2 hv
    rw [closed_eq hc h3] at h1
    exact ⟨v, h1, rfl, h4.ext⟩
  rcases hex with rfl | rfl <;> exact fin
theorem seg_tokG {l : List Value} (hl : TokL l) {es : List Ent} {fs : List FnEnt} {w : World} (hes : AllOK P (sgV l) es) (hfs : ∀ e ∈ fs, FnOK P (sgV l) w w.heap.size e) {L : Int} (h0 : l[0]? = some (.int .i64 L)) (h1 : 77 ≤ L) (h2 : L ≤ 1000000) {tabs : List (Nat × Array Value)} (hG : G ≤ w.heap.size) (hT : TabR w tabs)
    {f : FuncId} {fn : Func} {c : Code} {e : Ex} {args : Array Value} {a1 : Act} {w1 : World} {v : Value} (hf : P.funcs[f]? = some fn) (hb : fn.body = some c) (hc : closedN 8 v = true) (ha : args.toList.all (tokC 4) = true)
    (hs : (∀ j, OneC (sgV l j)) → OrcOK P (sgV l) w w.heap.size (orcG es fs noMk) → Seg1 P (sgV l) w w.heap.size G #[] (.code c) { tmps := args ++ Array.replicate (fn.ntmps - args.size) undef, defers := [] } (baseWorld G tabs) e #[] a1 w1) (hex : e = .normal ∨ e = .ret) (hv : retVal P fn a1.tmps w1 = some v) :
    Calls P f (args.toList.map (tokV (sgV l) 4)).toArray w fun e w' => e = .returned v ∧ Ext w w' :=
  calls_of_segT (sgV_one hl) hG hT hf hb ha (hs (sgV_one hl) (orcG_ok hes (sgV_ne hl) hfs ⟨L, by unfold sgV; rw [h0]; rfl, h1, h2⟩)) hex hv hc
end
end Go.Proofs.YtfppinabdalblaaGreat
