/- Reflection, 22: calls with long rows. No program is named here. -/
import Derived.Test.YtfppinabdalblaaGreatRefl21
import Derived.IntWalk
namespace Go.Proofs.YtfppinabdalblaaGreat
open Go.RowKit Go.IntWalk
set_option linter.unusedVariables false
set_option linter.unusedSimpArgs false
section
variable {P : Program} {σ : Nat → Value}
theorem quoC {a c q : Int} (hc : 0 < c) (h1 : c * q ≤ a) (h2 : a < c * q + c) (h3 : 0 ≤ q) (h4 : q ≤ 1000000) : IntKind.i64.wrap (Int.tdiv a c) = q := by
  have ha : 0 ≤ a := Int.le_trans (Int.mul_nonneg (by omega) h3) h1
  have : Int.tdiv a c = q := by
    rw [Int.tdiv_eq_ediv_of_nonneg ha]
    refine Int.le_antisymm ?_ ?_
    · have : a / c < q + 1 := Int.ediv_lt_of_lt_mul hc (by rw [Int.add_mul, Int.mul_comm]; omega)
      omega
    · exact Int.le_ediv_of_mul_le hc (by rw [Int.mul_comm]; exact h1)
  rw [this]
  exact i64_in _ (by omega)
def orcG (es : List Ent) (fs : List FnEnt) (mk : FuncId → Array Value → World → Option (Array Value × TypeId)) : Orc := { orcL es (fsL fs) with long := true, mkL := mk }
def noMk : FuncId → Array Value → World → Option (Array Value × TypeId) := fun _ _ _ => none
theorem orcG_ok {W0 : World} {H : Nat} {es : List Ent} {fs : List FnEnt} (hes : AllOK P σ es) (hσ : ∀ j, σ j ≠ .nilIface) (hfs : ∀ e ∈ fs, FnOK P σ W0 H e) (hL : ∃ L : Int, σ 0 = .int .i64 L ∧ 77 ≤ L ∧ L ≤ 1000000) : OrcOK P σ W0 H (orcG es fs noMk) := by
  have h := orcL_ok (W0 := W0) (H := H) hes hσ (fsL_ok hfs)
  refine ⟨h.op, h.fn, fun _ => ?_, fun f args args' cs e Γ A w w' h => (by cases h), fun f args args' cs e n Γ A w w' h => (by cases h)⟩
  obtain ⟨L, h1, h2, h3⟩ := hL
  exact ⟨L, h1, h2, h3, Nat.zero_le _, fun j hj => absurd hj (Nat.not_lt_zero j)⟩
/-- The same, some places of the long rows told apart; and calls that read alone. -/
def orcS (es : List Ent) (fs : List FnEnt) (sp : Nat) (rd : FuncId → Array Value → World → Option Value) (mk : FuncId → Array Value → World → Option (Array Value × TypeId × Nat)) : Orc :=
  { op := (orcL es (fsL fs)).op, fn := fun f args w => match (orcL es (fsL fs)).fn f args w with | some v => some v | none => rd f args w, long := true, sp := sp, mkL := noMk, mkS := mk }
def RdOK (P : Program) (σ : Nat → Value) (W0 : World) (H : Nat) (rd : FuncId → Array Value → World → Option Value) : Prop :=
  ∀ (f : FuncId) (args args' : Array Value) (v : Value) (Γ : Gst) (A : Ren) (w w' : World), rd f args w = some v → RAr σ A args args' → WR σ W0 H Γ A w w' → Calls P f args' w' fun e w'' => ∃ v', e = .returned v' ∧ RV σ A v v' ∧ Ext w' w''
def noRd : FuncId → Array Value → World → Option Value := fun _ _ _ => none
theorem noRd_ok {W0 : World} {H : Nat} : RdOK P σ W0 H noRd := fun f args args' v Γ A w w' h => (by cases h)
def MkOK (P : Program) (σ : Nat → Value) (W0 : World) (H : Nat) (mk : FuncId → Array Value → World → Option (Array Value × TypeId × Nat)) : Prop :=
  ∀ (f : FuncId) (args args' : Array Value) (cs : Array Value) (e : TypeId) (n : Nat) (Γ : Gst) (A : Ren) (w w' : World), mk f args w = some (cs, e, n) → RAr σ A args args' → WR σ W0 H Γ A w w' →
    Calls P f args' w' fun x w'' => ∃ (g c' : Nat) (cs' : Array Value) (e' : TypeId), x = .returned (.slice (some ⟨g, 0, none⟩) n c') ∧ Ext w' w'' ∧ w'.heap.size ≤ g ∧ w''.heap[g]? = some (.cells cs' e') ∧ CR σ A cs cs' ∧ n ≤ c' ∧ 0 < n
def noMkS : FuncId → Array Value → World → Option (Array Value × TypeId × Nat) := fun _ _ _ => none
theorem noMkS_ok {W0 : World} {H : Nat} : MkOK P σ W0 H noMkS := fun f args args' cs e n Γ A w w' h => (by cases h)
/-- Where the places stand. -/
def SpOK (σ : Nat → Value) (sp : Nat) : Prop := ∃ L : Int, σ 0 = .int .i64 L ∧ 77 ≤ L ∧ L ≤ 1000000 ∧ sp ≤ 4 ∧ ∀ j, j < sp → ∃ p : Nat, σ (1 + j) = .int .i64 (p : Int) ∧ 77 ≤ p ∧ (p : Int) < L ∧ ∀ k, k < j → σ (1 + k) ≠ σ (1 + j)
theorem orcS_ok {W0 : World} {H : Nat} {es : List Ent} {fs : List FnEnt} {sp : Nat} {rd : FuncId → Array Value → World → Option Value} {mk : FuncId → Array Value → World → Option (Array Value × TypeId × Nat)} (hes : AllOK P σ es) (hσ : ∀ j, σ j ≠ .nilIface) (hfs : ∀ e ∈ fs, FnOK P σ W0 H e) (hL : SpOK σ sp) (hr : RdOK P σ W0 H rd) (hm : MkOK P σ W0 H mk) : OrcOK P σ W0 H (orcS es fs sp rd mk) := by
  have h := orcL_ok (W0 := W0) (H := H) hes hσ (fsL_ok hfs)
  refine ⟨h.op, fun f args args' v Γ A w w' hv ha hw => ?_, fun _ => hL, fun f args args' cs e Γ A w w' h => (by cases h), hm⟩
  simp only [orcS] at hv
  split at hv
  · rename_i u hu
    cases hv
    exact h.fn f args args' _ Γ A w w' hu ha hw
  · exact hr f args args' v Γ A w w' hv ha hw
/-- A call with values that are not looked into, and long rows. -/
theorem ev_tokG {l : List Value} (hl : TokL l) {es : List Ent} {fs : List FnEnt} {w : World} (hes : AllOK P (sgV l) es) (hfs : ∀ e ∈ fs, FnOK P (sgV l) w w.heap.size e) {L : Int} (h0 : l[0]? = some (.int .i64 L)) (h1 : 77 ≤ L) (h2 : L ≤ 1000000) {G : Nat} {tabs : List (Nat × Array Value)} (hG : G ≤ w.heap.size) (hT : TabR w tabs) {n : Nat} {f : FuncId} {args : Array Value} {v : Value}
    (hc : closedN 8 v = true) (ha : args.toList.all (tokC 4) = true) (h : (evCall (ev P (orcG es fs noMk) G n) P (orcG es fs noMk) [] f args (baseWorld G tabs)).map (·.1) = some v) :
    Calls P f (args.toList.map (tokV (sgV l) 4)).toArray w fun e w' => e = .returned v ∧ Ext w w' :=
  ev_val (sgV_one hl) (orcG_ok hes (sgV_ne hl) hfs ⟨L, by unfold sgV; rw [h0]; rfl, h1, h2⟩) hG hT hc ha h
end
end Go.Proofs.YtfppinabdalblaaGreat
