/- Reflection, 15: a run in pieces: what the world is between two of them is written down. No program is named here. -/
import Derived.Test.YtfppinabdalblaaGreatRefl14
namespace Go.Proofs.YtfppinabdalblaaGreat
open Go.RowKit
set_option linter.unusedVariables false
set_option linter.unusedSimpArgs false

/-- A piece of a run: of a task, from here to there. -/
def Seg (P : Program) (σ : Nat → Value) (W0 : World) (H G : Nat) (E : List LoopI) (t : Task) (a : Act) (w : World) (e : Ex) (a1 : Act) (w1 : World) : Prop :=
  ∀ (r : Option Nat) (Γ : Gst) (D0 : List Nat) (A : Ren) (a' : Act) (w' : World), Γ.E.map (·.L) = E → (∀ l, r = some l → ∃ g ∈ Γ.E, A.f g.L.b = l) → (∀ k ∈ D0, k ∈ Γ.D) → (∀ g ∈ Γ.E, g.dd ∈ D0) →
    RAct σ A D0 Γ.D a a' → GR G A → WR σ W0 H Γ A w w' → ∀ Q : Exit → Act → World → Prop,
    (∀ B D a1' w1', A.le B → (∀ k ∈ Γ.D, k ∈ D) → RAct σ B D0 D a1 a1' → WR σ W0 H ⟨Γ.E, D, Γ.R⟩ B w1 w1' → Q e.of a1' w1') → TaskWp r P t Q a' w'
section
variable {P : Program} {σ : Nat → Value} {W0 : World} {H G : Nat} {O : Orc} {E : List LoopI}

theorem seg_of_ih {ih : Ih} (hih : IhOK P σ W0 H G ih) {t : Task} {a a1 : Act} {w w1 : World} {e : Ex} (h : ih E t a w = some (e, a1, w1)) : Seg P σ W0 H G E t a w e a1 w1 :=
  fun r Γ D0 A a' w' h1 h2 h3 h4 h5 h6 h7 Q hQ => hih E t a w e a1 w1 h r Γ D0 A a' w' h1 h2 h3 h4 h5 h6 h7 Q hQ
theorem Seg.to {t : Task} {a a1 : Act} {w w1 w2 : World} {e : Ex} (h : Seg P σ W0 H G E t a w e a1 w1) (he : w2.heap = w1.heap) (ht : w2.tape = fun _ _ => 0) : Seg P σ W0 H G E t a w e a1 w2 :=
  fun r Γ D0 A a' w' h1 h2 h3 h4 h5 h6 h7 Q hQ => h r Γ D0 A a' w' h1 h2 h3 h4 h5 h6 h7 Q fun B D a1' w1' hB hD ha hw => hQ B D a1' w1' hB hD ha (hw.same he ht)
theorem Seg.two {t1 t2 : Task} {a a1 a2 : Act} {w w1 w2 : World} {e : Ex} (h1 : Seg P σ W0 H G E t1 a w .normal a1 w1) (h2 : Seg P σ W0 H G E t2 a1 w1 e a2 w2) {t : Task}
    (hc : ∀ (r : Option Nat) (Q : Exit → Act → World → Prop) (a' : Act) (w' : World), TaskWp r P t1 (Exit.then (TaskWp r P t2 Q) Q) a' w' → TaskWp r P t Q a' w') : Seg P σ W0 H G E t a w e a2 w2 := by
  intro r Γ D0 A a' w' hE hr hD0 hdd ha hG hw Q hQ
  refine hc r Q a' w' (h1 r Γ D0 A a' w' hE hr hD0 hdd ha hG hw _ fun B D a1' w1' hB hD ha1 hw1 => ?_)
  refine h2 r ⟨Γ.E, D, Γ.R⟩ D0 B a1' w1' hE (fun l hl => ?_) (fun k hk => hD k (hD0 k hk)) hdd ha1 (hG.mono hB) hw1 Q fun C D' a2' w2' hC hD' ha2 hw2 => hQ C D' a2' w2' (hB.trans hC) (fun k hk => hD' k (hD k hk)) ha2 hw2
  obtain ⟨g, hg, hl⟩ := hr l hl
  exact ⟨g, hg, (hB.2 _ (hw.loops g hg).1).trans hl⟩
theorem Seg.stop {t1 t : Task} {a a1 : Act} {w w1 : World} {e f : Ex} (h1 : Seg P σ W0 H G E t1 a w e a1 w1)
    (hc : ∀ (r : Option Nat) (Q : Exit → Act → World → Prop) (a' : Act) (w' : World), TaskWp r P t1 (fun x a w => x = e.of ∧ Q f.of a w) a' w' → TaskWp r P t Q a' w') : Seg P σ W0 H G E t a w f a1 w1 := by
  intro r Γ D0 A a' w' hE hr hD0 hdd ha hG hw Q hQ
  exact hc r Q a' w' (h1 r Γ D0 A a' w' hE hr hD0 hdd ha hG hw _ fun B D a1' w1' hB hD ha1 hw1 => ⟨rfl, hQ B D a1' w1' hB hD ha1 hw1⟩)
theorem Seg.seq {x y : Code} {a a1 a2 : Act} {w w1 w2 : World} {e : Ex} (h1 : Seg P σ W0 H G E (.code x) a w .normal a1 w1) (h2 : Seg P σ W0 H G E (.code y) a1 w1 e a2 w2) : Seg P σ W0 H G E (.code (.seq x y)) a w e a2 w2 :=
  h1.two h2 fun r Q a' w' h => wpIn_seq h
theorem Seg.loopNext {c : Code} {a a1 a2 : Act} {w w1 w2 : World} {e : Ex} (h1 : Seg P σ W0 H G E (.code c) a w .normal a1 w1) (h2 : Seg P σ W0 H G E (.loop c) a1 w1 e a2 w2) : Seg P σ W0 H G E (.loop c) a w e a2 w2 :=
  h1.two h2 fun r Q a' w' h => Loop1.step h
theorem Seg.loopExit {c : Code} {id : Nat} {a a1 : Act} {w w1 : World} (h1 : Seg P σ W0 H G E (.code c) a w (.exit id) a1 w1) : Seg P σ W0 H G E (.loop c) a w (.exit id) a1 w1 :=
  h1.stop fun r Q a' w' h => Loop1.step (wpIn_mono h fun x a w hx => by obtain ⟨rfl, hq⟩ := hx; exact hq)
theorem Seg.loop {c : Code} {a a1 : Act} {w w1 : World} {e : Ex} (h1 : Seg P σ W0 H G E (.loop c) a w e a1 w1) : Seg P σ W0 H G E (.code (.loop c)) a w e a1 w1 :=
  fun r Γ D0 A a' w' k1 k2 k3 k4 k5 k6 k7 Q hQ => wp_of_loop1 (h1 r Γ D0 A a' w' k1 k2 k3 k4 k5 k6 k7 Q hQ)
theorem Seg.blockExit {c : Code} {id : Nat} {a a1 : Act} {w w1 : World} (h1 : Seg P σ W0 H G E (.code c) a w (.exit id) a1 w1) : Seg P σ W0 H G E (.code (.block id c)) a w .normal a1 w1 :=
  h1.stop fun r Q a' w' h => wpIn_block (wpIn_mono h fun x a w hx => by
    obtain ⟨rfl, hq⟩ := hx
    simp only [Ex.of, Exit.inBlock, if_pos]
    exact hq)
theorem Seg.block {c : Code} {id : Nat} {a a1 : Act} {w w1 : World} (h1 : Seg P σ W0 H G E (.code c) a w .normal a1 w1) : Seg P σ W0 H G E (.code (.block id c)) a w .normal a1 w1 :=
  h1.stop fun r Q a' w' h => wpIn_block (wpIn_mono h fun x a w hx => by
    obtain ⟨rfl, hq⟩ := hx
    exact hq)

/-- Parts of a text. -/
def bodyOf (P : Program) (f : FuncId) : Code := match P.funcs[f]? with
  | some fn => fn.body.getD .skip
  | none => .skip
def seqL : Code → Code
  | .seq x _ => x
  | c => c
def seqR : Code → Code
  | .seq _ y => y
  | c => c
def inB : Code → Code
  | .block _ c => c
  | c => c
def inL : Code → Code
  | .loop c => c
  | c => c
def isSeq : Code → Bool
  | .seq _ _ => true
  | _ => false
def isLoopB : Nat → Code → Bool
  | id, .block i (.loop _) => i == id
  | _, _ => false
theorem Seg.seqP {c : Code} (hc : isSeq c = true) {a a1 a2 : Act} {w w1 w2 : World} {e : Ex} (h1 : Seg P σ W0 H G E (.code (seqL c)) a w .normal a1 w1) (h2 : Seg P σ W0 H G E (.code (seqR c)) a1 w1 e a2 w2) : Seg P σ W0 H G E (.code c) a w e a2 w2 := by
  cases c with
  | seq x y => exact h1.seq h2
  | _ => cases hc
theorem Seg.loopP {c : Code} {id : Nat} (hc : isLoopB id c = true) {a a1 : Act} {w w1 : World} (h : Seg P σ W0 H G E (.loop (inL (inB c))) a w (.exit id) a1 w1) : Seg P σ W0 H G E (.code c) a w .normal a1 w1 := by
  cases c with
  | block i c =>
    cases c with
    | loop c =>
      have e : i = id := eq_of_beq hc
      subst e
      exact h.loop.blockExit
    | _ => cases hc
  | _ => cases hc

/-- The world between two pieces. -/
def mkW (h : List Obj) : World := { heap := ⟨h⟩, tape := fun _ _ => 0, drawn := 0, os := default, output := #[] }
def mkA (l : List Value) : Act := { tmps := ⟨l⟩, defers := [] }
def exEq : Ex → Ex → Bool
  | .normal, .normal => true
  | .ret, .ret => true
  | .exit i, .exit j => i == j
  | _, _ => false
theorem exEq_eq {x y : Ex} (h : exEq x y = true) : x = y := by
  unfold exEq at h
  split at h
  · rfl
  · rfl
  · rw [eq_of_beq h]
  · cases h
def heapEq : List Obj → List Obj → Bool
  | [], [] => true
  | x :: xs, y :: ys => objEq (some x) (some y) && heapEq xs ys
  | _, _ => false
theorem heapEq_eq : ∀ {x y : List Obj}, heapEq x y = true → x = y
  | [], [], _ => rfl
  | x :: xs, y :: ys, h => by
    simp only [heapEq, Bool.and_eq_true] at h
    rw [Option.some.inj (objEq_eq h.1), heapEq_eq h.2]
  | [], _ :: _, h => by cases h
  | _ :: _, [], h => by cases h
def sameSt (r : Option (Ex × Act × World)) (e : Ex) (l : List Value) (h : List Obj) : Bool := match r with
  | some (f, a1, w1) => exEq f e && beqL (beqV 12) a1.tmps.toList l && a1.defers.isEmpty && heapEq w1.heap.toList h
  | none => false
theorem sameSt_eq {r : Option (Ex × Act × World)} {e : Ex} {l : List Value} {h : List Obj} (hs : sameSt r e l h = true) : ∃ w1, r = some (e, mkA l, w1) ∧ (mkW h).heap = w1.heap := by
  unfold sameSt at hs
  split at hs
  case h_2 => cases hs
  rename_i f a1 w1
  simp only [Bool.and_eq_true] at hs
  obtain ⟨⟨⟨h1, h2⟩, h3⟩, h4⟩ := hs
  have e1 := exEq_eq h1
  have e2 := beqL_eq (fun x y hxy => beqV_eq hxy) h2
  have e3 : a1.defers = [] := by simpa using h3
  have e4 := heapEq_eq h4
  subst e1
  refine ⟨w1, ?_, ?_⟩
  · obtain ⟨⟨t⟩, d⟩ := a1
    simp only [] at e2 e3
    subst e2 e3
    rfl
  · obtain ⟨⟨hp⟩, _, _, _, _⟩ := w1
    simp only [] at e4
    subst e4
    rfl
def vI (n : Int) : Value := .int .i64 n
def vU (n : Int) : Value := .int .u64 n
def vB (b : Bool) : Value := .bool b
def vP (b o : Nat) : Value := .pointer (some ⟨b, o, none⟩)
def vN : Value := .pointer none
def vX : Value := undef
def vS (b o n c : Nat) : Value := .slice (some ⟨b, o, none⟩) n c
def vE (b o : Nat) : Value := .slice (some ⟨b, o, some 0⟩) 0 0
def vM (b : Nat) : Value := .map (some b)
def vZ : Value := .slice none 0 0
def vF (f : Nat) (x y : List Value) : Value := .func (.func f) ⟨x⟩ ⟨y⟩
def vG (x : List Value) : Value := .agg ⟨x⟩
def vT (x : List Value) : Value := .tuple ⟨x⟩
def oC (e : Nat) (x : List Value) : Obj := .cells ⟨x⟩ e
def oF (e k l : Nat) (x : List Value) : Obj := .cells ⟨x⟩ e (k, l)
def oP (c : Nat) : Obj := .pending #[] c
/-- A piece that the evaluation tells. -/
theorem seg_ev (hσ : ∀ j, OneC (σ j)) (hO : OrcOK P σ W0 H O) {n : Nat} {t : Task} {a : Act} {w : World} {e : Ex} {l : List Value} {h : List Obj} (hs : sameSt (ev P O G n E t a w) e l h = true) : Seg P σ W0 H G E t a w e (mkA l) (mkW h) := by
  obtain ⟨w1, h1, h2⟩ := sameSt_eq hs
  exact (seg_of_ih (ev_ok hσ hO n) h1).to h2 rfl
def retTrue (r : Option Value) : Bool := match r with
  | some (.bool true) => true
  | _ => false
theorem retTrue_eq {r : Option Value} (h : retTrue r = true) : r = some (.bool true) := by
  unfold retTrue at h
  split at h
  · rfl
  · cases h
/-- A call, from the run of its body. -/
theorem calls_of_seg (hσ : ∀ j, OneC (σ j)) {w : World} {tabs : List (Nat × Array Value)} (hG : G ≤ w.heap.size) (hT : TabR w tabs) {f : FuncId} {fn : Func} {c : Code} {e : Ex} {a1 : Act} {w1 : World} {v : Value} (hf : P.funcs[f]? = some fn) (hb : fn.body = some c)
    (hs : Seg P σ w w.heap.size G [] (.code c) { tmps := #[] ++ Array.replicate (fn.ntmps - 0) undef, defers := [] } (baseWorld G tabs) e a1 w1) (hex : e = .normal ∨ e = .ret) (hv : retVal P fn a1.tmps w1 = some v) (hc : closedN 8 v = true) :
    Calls P f #[] w fun e w' => e = .returned v ∧ Ext w w' := by
  refine (callsIn_wide (n := 0)).1 ?_
  refine callsIn_of_wp_marks (F := FW none) hf hb trivial ?_ rfl
  refine hs none ⟨[], [], []⟩ [] ⟨id, (· < G), fun _ => False, fun _ _ _ => False⟩ _ w rfl (fun l hl => (by cases hl)) (fun k hk => hk) (fun g hg => (by cases hg)) ⟨⟨rfl, fun i u u' h1 h2 => ?_⟩, rfl, [], rfl, List.nodup_nil, fun k hk => (by cases hk)⟩ (fun g hg => ⟨hg, rfl⟩) (base_rel hG hT) _ ?_
  · have h1' : (Array.replicate (fn.ntmps - 0) undef)[i]? = some u := by simpa using h1
    have h2' : (Array.replicate (fn.ntmps - 0) undef)[i]? = some u' := by simpa using h2
    rw [h1'] at h2'
    cases h2'
    rw [Array.getElem?_replicate] at h1'
    split at h1'
    · cases h1'; exact rv_undef
    · cases h1'
  · intro B D a1' w1' hB hD ha1 hw1
    obtain ⟨hat, _, ks, hks, hnd, hkk⟩ := ha1
    have fin : LeavesInM (FW none) 0 P fn a1'.tmps (fun e w' => e = .returned v ∧ Ext w w') a1'.defers .returning w1' := by
      rw [hks]
      refine leaves_marks (D0 := []) (E := []) (Rs := []) (fun g hg => (by cases hg)) (fun w2 hw2 => ?_) ks D w1' hnd hkk (fun k hk => (by cases hk)) hw1
      obtain ⟨C, v', h1, h2, h3, h4⟩ := retVal_sound (P := P) hσ hat hw2 hv
      rw [closed_eq hc h3] at h1
      exact ⟨v, h1, rfl, h4.ext⟩
    rcases hex with rfl | rfl <;> exact fin
end
end Go.Proofs.YtfppinabdalblaaGreat
