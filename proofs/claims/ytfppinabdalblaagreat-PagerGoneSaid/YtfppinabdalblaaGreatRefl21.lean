/- Reflection, 21: the caller's row read by places that are not looked into. No program is named here. -/
import Derived.Test.YtfppinabdalblaaGreatRefl20
namespace Go.Proofs.YtfppinabdalblaaGreat
open Go.RowKit
set_option linter.unusedVariables false
set_option linter.unusedSimpArgs false
section
variable {P : Program} {σ : Nat → Value} {W0 : World} {H : Nat}
def AllOKW (P : Program) (σ : Nat → Value) (W0 : World) (H : Nat) (l : List Ent) : Prop := ∀ e ∈ l, EntOKW P σ W0 H e
theorem AllOK.w {l : List Ent} (h : AllOK P σ l) : AllOKW P σ W0 H l := fun e he => (h e he).w
theorem AllOKW.nil : AllOKW P σ W0 H [] := fun e he => by cases he
theorem AllOKW.app {l k : List Ent} (h1 : AllOKW P σ W0 H l) (h2 : AllOKW P σ W0 H k) : AllOKW P σ W0 H (l ++ k) := fun e he => by
  rcases List.mem_append.1 he with h | h
  · exact h1 e h
  · exact h2 e h
theorem AllOKW.cons {x : Ent} {l : List Ent} (h1 : EntOKW P σ W0 H x) (h2 : AllOKW P σ W0 H l) : AllOKW P σ W0 H (x :: l) := fun e he => by
  rcases List.mem_cons.1 he with h | h
  · exact h ▸ h1
  · exact h2 e h
/-- A place in a row. -/
theorem ent_idx {t u : TypeId} {x i r : Value} {b off n c k : Nat} (ht : P.underlying t = some (.slice u)) (hz : ∀ w, (sizeOf u).run P w = .ok 1 w) (h1 : tokV σ 4 x = .slice (some ⟨b, off, none⟩) n c) (h2 : tokV σ 4 i = .int .i64 (k : Int)) (hk : k < n)
    (hr : tokV σ 4 r = .pointer (some ⟨b, off + k, none⟩)) (hc : tokC 4 r = true) : EntOK P σ ⟨.idx t, [x, i], r⟩ := by
  refine ⟨_, fun w => ?_, fun A => tok_rv hc⟩
  simp only [List.map_cons, List.map_nil, h1, h2, hr, semK]
  have h3 : (0 : Int) ≤ (k : Int) ∧ (k : Int) < (n : Int) := ⟨by omega, by omega⟩
  simp [Instr.indexAt, asIntOf, run_underlying ht, hz, Sem.run_bind, Result.andThen, h3, go_sem, Addr.add]
  rw [if_pos hk]
  by_cases h0 : k = 0
  · subst h0; simp
  · rw [if_neg h0]
/-- What lies at a place of the caller's. -/
theorem ent_load {t : TypeId} {x r v : Value} {b o : Nat} (ha : ∀ w, (isAgg t).run P w = .ok false w) (h1 : tokV σ 4 x = .pointer (some ⟨b, o, none⟩)) (hb : b < H) (hv : W0.cell? ⟨b, o, none⟩ = some v) (hr : tokV σ 4 r = v) (hc : tokC 4 r = true) : EntOKW P σ W0 H ⟨.load t, [x], r⟩ := by
  refine ⟨_, fun w hw => ?_, fun A => tok_rv hc⟩
  have h2 : w.cell? ⟨b, o, none⟩ = some v := by rw [hw.cell (p := ⟨b, o, none⟩) hb]; exact hv
  simp only [List.map_cons, List.map_nil, h1, hr, semK]
  simp [Instr.loadAt, Instr.sureAddr, loadVar, ha, Sem.run_bind, Result.andThen, h2, go_sem]
theorem TokL.ptr {a : Option Addr} {l : List Value} (h : TokL l) : TokL (.pointer a :: l) := .cons trivial (fun h => by cases h) h
/-- A call with values that are not looked into, some of which lie in the caller's memory. -/
theorem ev_tokX {l : List Value} (hl : TokL l) {es : List Ent} {fs : List FnEnt} {w : World} (hes : AllOKW P (sgV l) w w.heap.size es) (hfs : ∀ e ∈ fs, FnOK P (sgV l) w w.heap.size e) {G : Nat} {tabs : List (Nat × Array Value)} (hG : G ≤ w.heap.size) (hT : TabR w tabs) {n : Nat} {f : FuncId} {args : Array Value} {v : Value}
    (hc : closedN 8 v = true) (ha : args.toList.all (tokC 4) = true) (h : (evCall (ev P (orcL es (fsL fs)) G n) P (orcL es (fsL fs)) [] f args (baseWorld G tabs)).map (·.1) = some v) :
    Calls P f (args.toList.map (tokV (sgV l) 4)).toArray w fun e w' => e = .returned v ∧ Ext w w' :=
  ev_val (sgV_one hl) (orcL_okW hes (sgV_ne hl) (fsL_ok hfs)) hG hT hc ha h
end
end Go.Proofs.YtfppinabdalblaaGreat
