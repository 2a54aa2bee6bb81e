/- Reflection, 24: a call that is handed two blocks of the world's. No program is named here. -/
import Derived.Test.YtclnmihpelaalaaGreatDoorRefl23
import Derived.Test.YtclnmihpelaalaaGreatDoorBlk
namespace Go.Proofs.YtclnmihpelaalaaGreatDoor
open Go.RowKit Go.IntWalk
set_option linter.unusedVariables false
set_option linter.unusedSimpArgs false
/-- The small world's blocks 0 and 1 are these two. -/
def twoR (r T : Nat) : Ren := ⟨fun b => if b = 0 then r else T, fun b => b < 2, fun _ => False, fun _ _ _ => False⟩
section
variable {P : Program} {σ : Nat → Value} {O : Orc}
theorem WR.two {W0 w : World} (hE : Ext W0 w) {r T : Nat} {tr tT : TypeId} {x y x' y' : Array Value} (hr : Blk w r tr x') (hT : Blk w T tT y') (hlr : W0.heap.size ≤ r) (hlT : W0.heap.size ≤ T) (hne : r ≠ T) (hx : RAr σ (twoR r T) x x') (hy : RAr σ (twoR r T) y y') :
    WR σ W0 W0.heap.size ⟨[], [], []⟩ (twoR r T) (mkW [.cells x tr, .cells y tT]) w where
  tape := rfl
  size := fun b hb => hb
  full := fun b hb => .inl hb
  lt := fun b hb => by
    show (if b = 0 then r else T) < _
    split
    · exact hr.lt
    · exact hT.lt
  inj := fun b c hb hc e => by
    have hb : b < 2 := hb
    have hc : c < 2 := hc
    have e : (if b = 0 then r else T) = (if c = 0 then r else T) := e
    by_cases h1 : b = 0 <;> by_cases h2 : c = 0
    · omega
    · rw [if_pos h1, if_neg h2] at e; exact absurd e hne
    · rw [if_neg h1, if_pos h2] at e; exact absurd e.symm hne
    · omega
  obj := fun b o ho => by
    rcases b with _ | _ | b
    · cases ho
      exact .inr ⟨x, tr, (0, 0), x', tr, (0, 0), rfl, hr, hx.cr, .inl ⟨rfl, rfl, hlr⟩⟩
    · cases ho
      exact .inr ⟨y, tT, (0, 0), y', tT, (0, 0), rfl, hT, hy.cr, .inl ⟨rfl, rfl, hlT⟩⟩
    · have : (mkW [Obj.cells x tr, Obj.cells y tT]).heap[b + 2]? = none := by simp [mkW]
      have h2 : b + 1 + 1 = b + 2 := rfl
      rw [h2, this] at ho
      cases ho
  ext := hE
  hle := hE.size
  loops := fun g hg => by cases hg
  resv := fun p hp => by cases hp
  resd := fun b hb ho => by
    rcases b with _ | _ | b
    · cases ho
    · cases ho
    · have hb : b + 2 < 2 := hb
      omega
  dead := fun k hk => by cases hk
  long := fun b hb => by cases hb
  grow := fun b n v hb => by cases hb
  gun := fun b n v v2 hb => by cases hb
  gone := fun b n v b2 n2 v2 hb => by cases hb
/-- The call, run in the small world. -/
theorem ev_callsW (hσ : ∀ j, OneC (σ j)) {W0 w : World} (hO : OrcOK P σ W0 W0.heap.size O) {A : Ren} {ws : World} (hW : WR σ W0 W0.heap.size ⟨[], [], []⟩ A ws w) {n : Nat} {f : FuncId} {args args' : Array Value}
    (h : (evCall (ev P O 0 n) P O [] f args ws).isSome = true) (ha : RAr σ A args args') :
    Calls P f args' w fun e w' => (∃ v', e = .returned v') ∧ Ext W0 w' := by
  cases hc : evCall (ev P O 0 n) P O [] f args ws with
  | none => rw [hc] at h; cases h
  | some p =>
    obtain ⟨u, w1⟩ := p
    refine (callsIn_wide (n := 0)).1 ?_
    refine evCall_sound hσ hO (ev_ok hσ hO n) (Γ := ⟨[], [], []⟩) rfl hc ha (fun g hg => absurd hg (by omega)) hW ?_
    intro B v' w1' hB hv hw
    exact ⟨⟨v', rfl⟩, hw.ext⟩
end
end Go.Proofs.YtclnmihpelaalaaGreatDoor
