/- Reflection, 12: the evaluator, whole. No program is named here. -/
import Derived.Test.YtfppinabdalblaaGreatRefl11b
import Derived.RangeFuncNested
namespace Go.Proofs.YtfppinabdalblaaGreat
open Go.RowKit
set_option linter.unusedVariables false
set_option linter.unusedSimpArgs false

def evGo (P : Program) (O : Orc) (G : Nat) (ih : Ih) : Ih
  | E, .code c, a, w => match c with
    | .skip => some (.normal, a, w)
    | .label _ => some (.normal, a, w)
    | .ret => some (.ret, a, w)
    | .exit id => some (.exit id, a, w)
    | .seq x y => match ih E (.code x) a w with
      | some (.normal, a1, w1) => ih E (.code y) a1 w1
      | r => r
    | .cond c x y => match a.eval c with
      | .bool true => ih E (.code x) a w
      | .bool false => ih E (.code y) a w
      | _ => none
    | .block id c => match ih E (.code c) a w with
      | some (.exit i, a1, w1) => if i = id then some (.normal, a1, w1) else some (.exit i, a1, w1)
      | r => r
    | .loop c => ih E (.loop c) a w
    | .region _ ops false => ih E (.ops ops (List.range ops.size)) a w
    | .region _ ops true => if P.follows .mixedOrders then ih E (.draw ops) a { w with drawn := w.drawn + 1 } else none
    | .rangeFunc g ps assign body =>
      if !constOk G g then none else
      match a.eval g with
      | .func (.func gf) x y =>
        if !bodyOk P gf then none else
        match evCall ih P O (⟨w.heap.size, a.tmps, ps, assign, body⟩ :: E) gf (x ++ #[.func (.yield w.heap.size) #[] #[]] ++ y) { w with heap := w.heap.push (.pending #[] 0) } with
        | some (_, w1) => match pcode w1 w.heap.size with
          | some 0 => some (.normal, a, w1)
          | some 2 => some (.ret, a, w1)
          | some k => if 10 ≤ k then some (.exit (k - 10), a, w1) else none
          | _ => none
        | none => none
      | _ => none
    | _ => none
  | E, .loop c, a, w => match ih E (.code c) a w with
    | some (.normal, a1, w1) => ih E (.loop c) a1 w1
    | r => r
  | E, .ops ops [], a, w => some (.normal, a, w)
  | E, .ops ops (i :: l), a, w => match ops[i]? with
    | none => ih E (.ops ops l) a w
    | some o => match evStep ih P O E G ops o a w with
      | some (a1, w1) => ih E (.ops ops l) a1 w1
      | none => none
  | E, .draw ops, a, w => match evDraw ih P O E G ops a w with
    | some (a1, w1) => some (.normal, a1, w1)
    | none => none
def ev (P : Program) (O : Orc) (G : Nat) : Nat → Ih
  | 0, _, _, _, _ => none
  | n + 1, E, t, a, w => evGo P O G (ev P O G n) E t a w

section
variable {P : Program} {σ : Nat → Value} {W0 : World} {H : Nat} {O : Orc} {G : Nat} {ih : Ih} {r : Option Nat}

theorem Loop1.step {c : Code} {Q : Exit → Act → World → Prop} {a : Act} {w : World} (h : c.wpIn (FW r) 0 P (Exit.then (Loop1 r P c Q) Q) a w) : Loop1 r P c Q a w := by
  intro b k cs hro
  have hb : (FW r).fn b.fn := trivial
  have hr : (FW r).room (cs.length + 1 + 0) := fun d hd => by cases hd
  obtain ⟨e, a₁, w₁, hq, harr⟩ := h b (.inLoop c :: k) cs hro hb hr
  cases e with
  | normal =>
    obtain ⟨e₂, a₂, w₂, hq₂, harr₂⟩ := hq b k cs hro
    exact ⟨e₂, a₂, w₂, hq₂, .of_steps (StepsIn.trans harr (.one (fenced_calm hb hr rfl) stepR_inLoop)) harr₂⟩
  | exit id => exact ⟨_, a₁, w₁, hq, .pass (x := .inLoop c) rfl (fun _ _ => .inl (by simp)) harr⟩
  | goto l => exact ⟨_, a₁, w₁, hq, .pass (x := .inLoop c) rfl (fun _ _ => .inl (by simp)) harr⟩
  | ret => exact ⟨_, a₁, w₁, hq, .pass (x := .inLoop c) rfl (fun _ _ => .inl (by simp)) harr⟩
  | panic ch => exact ⟨_, a₁, w₁, hq, .pass (x := .inLoop c) rfl (fun _ _ => .inl (by simp)) harr⟩
  | outgrown => exact ⟨_, a₁, w₁, hq, .pass (x := .inLoop c) rfl (fun _ _ => .inl (by simp)) harr⟩
theorem wp_of_loop1 {c : Code} {Q : Exit → Act → World → Prop} {a : Act} {w : World} (h : Loop1 r P c Q a w) : (Code.loop c).wpIn (FW r) 0 P Q a w := fun b k cs hro hb hr => by
  obtain ⟨e, a', w', hq, harr⟩ := h b k cs hro
  exact ⟨e, a', w', hq, .of_steps (.one (fenced_calm hb hr rfl) stepR_loop) harr⟩

theorem cond_key {σ : Nat → Value} {A : Ren} {D0 D : List Nat} {a a' : Act} (ha : RAct σ A D0 D a a') {c : Operand} {b : Bool} (hb : a.eval c = .bool b) : a'.eval c = .bool b := by
  cases c with
  | tmp t =>
    have := RAct.eval (G := 0) (x := .tmp t) (fun g hg => absurd hg (by omega)) ha rfl
    rw [hb] at this
    generalize a'.eval (.tmp t) = u at this
    cases this
    rfl
  | const v => exact hb
  | global g => exact hb
  | func f => exact hb
theorem range_ok (hσ : ∀ j, OneC (σ j)) (hO : OrcOK P σ W0 H O) (hih : IhOK P σ W0 H G ih) {Γ : Gst} {D0 : List Nat} {g : Operand} {ps : Array Tmp} {assign body : Code} {a a' : Act} {w w1 w' : World} {A : Ren} {e : Ex} {gf : FuncId} {x y : Array Value} {v : Value} {c : Nat}
    (hg : constOk G g = true) (hv : a.eval g = .func (.func gf) x y) (hb : bodyOk P gf = true)
    (hcall : evCall ih P O (⟨w.heap.size, a.tmps, ps, assign, body⟩ :: Γ.E.map (·.L)) gf (x ++ #[.func (.yield w.heap.size) #[] #[]] ++ y) { w with heap := w.heap.push (.pending #[] 0) } = some (v, w1))
    (hc : pcode w1 w.heap.size = some c) (hec : e.num = c)
    (hr : ∀ l, r = some l → ∃ g ∈ Γ.E, A.f g.L.b = l) (hD0 : ∀ k ∈ D0, k ∈ Γ.D) (hdd : ∀ g ∈ Γ.E, g.dd ∈ D0) (ha : RAct σ A D0 Γ.D a a') (hG : GR G A) (hw : WR σ W0 H Γ A w w') {Q : Exit → Act → World → Prop}
    (hQ : ∀ B D a1' w1', A.le B → (∀ k ∈ Γ.D, k ∈ D) → RAct σ B D0 D a a1' → WR σ W0 H ⟨Γ.E, D, Γ.R⟩ B w1 w1' → Q e.of a1' w1') : (Code.rangeFunc g ps assign body).wpIn (FW r) 0 P Q a' w' := by
  have hgv := ha.eval hG hg
  rw [hv] at hgv
  generalize hu : a'.eval g = u at hgv
  cases hgv with
  | func _ _ x' _ y' h1 h2 h3 h4 =>
  have hbl : ∀ g ∈ Γ.E, g.L.b ≠ w.heap.size := fun g hg => by have := hw.size _ (hw.loops g hg).1; omega
  refine wpIn_rangeFunc ?_
  intro fn _
  -- the loop is laid
  obtain ⟨D1, dd, mark, W1, hent, hD1, hdd1, hWR, hmark⟩ : ∃ (D1 : List Nat) (dd : Nat) (mark : List Deferred) (W1 : World),
      (Instr.enterLoop fn a'.tmps ps assign body (FW r).round).run P w' = .ok (W1.heap.size, mark) (W1.alloc (.loop ((LoopG.mk ⟨w.heap.size, a.tmps, ps, assign, body⟩ fn a'.tmps dd).row 0))) ∧
      (∀ k ∈ Γ.D, k ∈ D1) ∧ dd ∈ D1 ∧ WR σ W0 H ⟨Γ.E, D1, Γ.R⟩ A w W1 ∧
      (∀ B, A.le B → RAct σ B D0 D1 a { a' with defers := mark ++ a'.defers }) := by
    cases r with
    | none =>
      refine ⟨w'.heap.size :: Γ.D, w'.heap.size, [{ target := .collected w'.heap.size, args := #[] }], w'.alloc (.deferred (some [])), ?_, fun k hk => List.mem_cons_of_mem _ hk, by simp, hw.addD, fun B hB => ?_⟩
      · have := run_enterLoop_outer (P := P) (w := w') fn a'.tmps ps assign body
        rw [World.size_alloc]
        exact this
      · obtain ⟨t1, t2, ks, t3, t4, t5⟩ := ha
        have hnew : ∀ k ∈ Γ.D, k < w'.heap.size := fun k hk => (Array.getElem?_eq_some_iff.1 (hw.dead k hk).1).1
        refine ⟨t1.mono hB, t2, w'.heap.size :: ks, by simp [t3], ?_, fun k hk => ?_⟩
        · rw [List.nodup_cons]
          exact ⟨fun hm => by have := hnew _ (t5 _ hm).1; omega, t4⟩
        · rcases List.mem_cons.1 hk with rfl | hk
          · exact ⟨by simp, fun hm => by have := hnew _ (hD0 _ hm); omega⟩
          · exact ⟨List.mem_cons_of_mem _ (t5 k hk).1, (t5 k hk).2⟩
    | some l0 =>
      obtain ⟨g0, hg0, hl0⟩ := hr l0 rfl
      obtain ⟨m1, ⟨c0, m2, m3⟩, m4, m5, m6⟩ := hw.loops g0 hg0
      rw [hl0] at m3
      refine ⟨Γ.D, g0.dd, [], w', ?_, fun k hk => hk, m6, hw, fun B hB => by simpa using ha.mono hB fun k hk => hk⟩
      exact run_enterLoop_inner m3 fn a'.tmps ps assign body
  have hdd2 : ∀ g ∈ Γ.E, g.dd ∈ D1 := fun g hg => hD1 _ ((hw.loops g hg).2.2.2.2)
  let gg : LoopG := ⟨⟨w.heap.size, a.tmps, ps, assign, body⟩, fn, a'.tmps, dd⟩
  have hw2 := hWR.newLoop gg rfl ha.1 hdd1
  have hle := A.push_le (fun hd => by have := hw.size _ hd; omega : ¬ A.d w.heap.size) W1.heap.size
  have hl : (A.push w.heap.size W1.heap.size).f w.heap.size = W1.heap.size := A.push_at _ _
  have hargs : RAr σ (A.push w.heap.size W1.heap.size) (x ++ #[.func (.yield w.heap.size) #[] #[]] ++ y) (x' ++ #[.func (.yield W1.heap.size) #[] #[]] ++ y') := by
    have hy : RV σ (A.push w.heap.size W1.heap.size) (.func (.yield w.heap.size) #[] #[]) (.func (.yield W1.heap.size) #[] #[]) := by
      have := RV.yield (σ := σ) (A := A.push w.heap.size W1.heap.size) w.heap.size (.inr rfl)
      rw [hl] at this
      exact this
    exact (RAr.app (RAr.app (RAr.mono hle ⟨h1, h2⟩) (RAr.one hy)) (RAr.mono hle ⟨h3, h4⟩))
  have hbd : ∀ args W, (callFunc gf args).run P W = .ok (.enter gf args) W := by
    intro args W
    unfold bodyOk at hb
    split at hb
    case h_2 => cases hb
    rename_i fn2 hf2
    rw [Bool.and_eq_true] at hb
    obtain ⟨b1, b2⟩ := hb
    have b3 : (fn2.name == "runtime.NumGoroutine") = false := by simpa using b2
    have b4 : fn2.body.isNone = false := by cases hh : fn2.body <;> simp_all
    have b5 : fn2.name ≠ "runtime.NumGoroutine" := by simpa using b3
    have b6 : fn2.body ≠ none := fun hh => by rw [hh] at b4; cases b4
    simp [callFunc, hf2, b5, b6]
  refine ⟨W1.heap.size, mark, W1.alloc (.loop (gg.row 0)), { target := .fn (.func gf) y', args := x' ++ #[.func (.yield W1.heap.size) #[] #[]] }, W1.alloc (.loop (gg.row 0)), gf, x' ++ #[.func (.yield W1.heap.size) #[] #[]] ++ y', W1.alloc (.loop (gg.row 0)), hent, ?_, fun _ _ => trivial, ?_, fun hh => (by cases hh), ?_⟩
  · have he : a'.eval (.const (.func (.yield W1.heap.size) #[] #[])) = .func (.yield W1.heap.size) #[] #[] := rfl
    simp [resolve, rangeCall, Deferred.ofValue, hu, he]
  · simp only [invoke]
    exact hbd _ _
  · have hcl := evCall_sound hσ hO hih (Γ := ⟨gg :: Γ.E, D1, Γ.R⟩) rfl hcall hargs (hG.mono hle) hw2 (R := rangePost (FW r) 0 P W1.heap.size Q { a' with defers := mark ++ a'.defers }) ?_
    · exact hcl
    · intro B v' w1' hB _ hw3
      obtain ⟨n1, ⟨c2, n2, n3⟩, n4, n5, n6⟩ := hw3.loops gg (by simp)
      have hfb : B.f w.heap.size = W1.heap.size := by
        have : B.f w.heap.size = (A.push w.heap.size W1.heap.size).f w.heap.size := hB.2 _ (.inr rfl)
        rw [this, hl]
      have n2' : w1.heap[w.heap.size]? = some (.pending #[] c2) := n2
      rw [pcode_some hc] at n2'
      cases n2'
      have n3' : w1'.heap[W1.heap.size]? = some (.loop (gg.row c)) := by rw [← hfb]; exact n3
      have hbusy : (gg.row c).state ≠ .busy := by
        subst hec
        cases e <;> simp [LoopG.row, stOf, Ex.num]
      have hw4 : WR σ W0 H ⟨Γ.E, D1, Γ.R⟩ B w1 (w1'.putObj W1.heap.size (.loop { gg.row c with state := .exhausted })) := by
        rw [← hfb]
        refine (hw3.sub (Γ' := ⟨Γ.E, D1, Γ.R⟩) (fun g hg => List.mem_cons_of_mem _ hg) (fun k hk => hk) (fun p hp => hp) (fun p hp _ => ⟨p, hp, rfl⟩) hdd2).putR (pcode_some hc) n1 ?_ hbl (by rw [← hec]; exact num_ne e) _
        exact n5
      refine ⟨(gg.row c).pending, _, run_endLoop n3' hbusy, ?_⟩
      have hfin := hQ B D1 _ _ (hle.trans hB) hD1 (hmark B (hle.trans hB)) hw4
      subst hec
      cases e with
      | normal => exact hfin
      | ret => exact wpIn_ret hfin
      | exit id => exact wpIn_exit hfin
theorem evGo_ok (hσ : ∀ j, OneC (σ j)) (hO : OrcOK P σ W0 H O) (hih : IhOK P σ W0 H G ih) : IhOK P σ W0 H G (evGo P O G ih) := by
  intro E t a w e a1 w1 h r Γ D0 A a' w' hE hr hD0 hdd ha hG hw Q hQ
  have hid : ∀ k ∈ Γ.D, k ∈ Γ.D := fun k hk => hk
  -- one task, then another one
  have two : ∀ (t1 : Task) (a2 : Act) (w2 : World), ih E t1 a w = some (.normal, a2, w2) → ∀ (t2 : Task), ih E t2 a2 w2 = some (e, a1, w1) → ∀ K : Exit → Act → World → Prop,
      (∀ a3 w3, TaskWp r P t2 Q a3 w3 → K .normal a3 w3) → TaskWp r P t1 K a' w' := by
    intro t1 a2 w2 h1 t2 h2 K hK
    refine hih E t1 _ _ _ a2 w2 h1 r Γ D0 A a' w' hE hr hD0 hdd ha hG hw K fun B D a2' w2' hB hD ha2 hw2 => ?_
    refine hK _ _ (hih E t2 _ _ e a1 w1 h2 r ⟨Γ.E, D, Γ.R⟩ D0 B a2' w2' hE (fun l hl => ?_) (fun k hk => hD k (hD0 k hk)) hdd ha2 (hG.mono hB) hw2 Q fun C D' a1' w1' hC hD' ha1 hw1 => hQ C D' a1' w1' (hB.trans hC) (fun k hk => hD' k (hD k hk)) ha1 hw1)
    obtain ⟨g, hg, hl⟩ := hr l hl
    exact ⟨g, hg, (hB.2 _ (hw.loops g hg).1).trans hl⟩
  have one : ∀ (t1 : Task) (e1 : Ex) (a2 : Act) (w2 : World), ih E t1 a w = some (e1, a2, w2) → ∀ K : Exit → Act → World → Prop,
      (∀ B D a1' w1', A.le B → (∀ k ∈ Γ.D, k ∈ D) → RAct σ B D0 D a2 a1' → WR σ W0 H ⟨Γ.E, D, Γ.R⟩ B w2 w1' → K e1.of a1' w1') → TaskWp r P t1 K a' w' :=
    fun t1 e1 a2 w2 h1 K hK => hih E t1 _ _ e1 a2 w2 h1 r Γ D0 A a' w' hE hr hD0 hdd ha hG hw K hK
  cases t with
  | code c =>
    cases c with
    | skip => cases h; exact wpIn_skip (hQ A _ a' w' (Ren.le.refl A) hid ha hw)
    | label l => cases h; exact wpIn_label (hQ A _ a' w' (Ren.le.refl A) hid ha hw)
    | ret => cases h; exact wpIn_ret (hQ A _ a' w' (Ren.le.refl A) hid ha hw)
    | exit id => cases h; exact wpIn_exit (hQ A _ a' w' (Ren.le.refl A) hid ha hw)
    | seq x y =>
      simp only [evGo] at h
      refine wpIn_seq ?_
      split at h
      · rename_i a2 w2 hx
        exact two (.code x) a2 w2 hx (.code y) h _ fun a3 w3 h3 => h3
      · rename_i hne
        refine one (.code x) e a1 w1 h _ fun B D a2' w2' hB hD ha2 hw2 => ?_
        have := hQ B D a2' w2' hB hD ha2 hw2
        cases e with
        | normal => exact absurd h (hne a1 w1)
        | exit id => exact this
        | ret => exact this
    | cond c x y =>
      simp only [evGo] at h
      split at h
      · rename_i hb
        exact wpIn_cond_true (cond_key ha hb) (one (.code x) e a1 w1 h Q hQ)
      · rename_i hb
        exact wpIn_cond_false (cond_key ha hb) (one (.code y) e a1 w1 h Q hQ)
      · cases h
    | block id c =>
      simp only [evGo] at h
      refine wpIn_block ?_
      split at h
      · rename_i i a2 w2 hx
        refine one (.code c) _ a2 w2 hx _ fun B D a2' w2' hB hD ha2 hw2 => ?_
        simp only [Ex.of, Exit.inBlock]
        split at h
        · rename_i hi
          rw [if_pos hi]
          cases h
          exact hQ B D a2' w2' hB hD ha2 hw2
        · rename_i hi
          rw [if_neg hi]
          cases h
          exact hQ B D a2' w2' hB hD ha2 hw2
      · rename_i hne
        refine one (.code c) e a1 w1 h _ fun B D a2' w2' hB hD ha2 hw2 => ?_
        have := hQ B D a2' w2' hB hD ha2 hw2
        cases e with
        | normal => exact this
        | exit id => exact absurd h (hne id a1 w1)
        | ret => exact this
    | loop c => exact wp_of_loop1 (one (.loop c) e a1 w1 h Q hQ)
    | region id ops draw =>
      cases draw with
      | false => exact wpIn_region (one (.ops ops (List.range ops.size)) e a1 w1 h Q hQ)
      | true =>
        simp only [evGo] at h
        split at h
        · rename_i hm
          exact wpIn_region_any hm (hih E (.draw ops) _ _ e a1 w1 h r Γ D0 A a' { w' with drawn := w'.drawn + 1 } hE hr hD0 hdd ha hG (hw.drawn _ _) Q hQ)
        · cases h
    | rangeFunc g ps assign body =>
      simp only [evGo] at h
      split at h
      · cases h
      rename_i hg
      split at h
      case h_2 => cases h
      rename_i gf x y hv
      split at h
      · cases h
      rename_i hb
      split at h
      case h_2 => cases h
      rename_i v w2 hcall
      subst hE
      split at h
      · rename_i hc
        cases h
        exact range_ok hσ hO hih (e := .normal) (by simpa using hg) hv (by simpa using hb) hcall hc rfl hr hD0 hdd ha hG hw hQ
      · rename_i hc
        cases h
        exact range_ok hσ hO hih (e := .ret) (by simpa using hg) hv (by simpa using hb) hcall hc rfl hr hD0 hdd ha hG hw hQ
      · rename_i k _ _ hc
        split at h
        case isFalse => cases h
        rename_i hk
        cases h
        exact range_ok hσ hO hih (e := .exit (k - 10)) (by simpa using hg) hv (by simpa using hb) hcall hc (by simp [Ex.num]; omega) hr hD0 hdd ha hG hw hQ
      · cases h
    | _ => cases h
  | loop c =>
    simp only [evGo] at h
    refine Loop1.step ?_
    split at h
    · rename_i a2 w2 hx
      exact two (.code c) a2 w2 hx (.loop c) h _ fun a3 w3 h3 => h3
    · rename_i hne
      refine one (.code c) e a1 w1 h _ fun B D a2' w2' hB hD ha2 hw2 => ?_
      have := hQ B D a2' w2' hB hD ha2 hw2
      cases e with
      | normal => exact absurd h (hne a1 w1)
      | exit id => exact this
      | ret => exact this
  | ops ops l =>
    cases l with
    | nil => cases h; exact hQ A _ a' w' (Ren.le.refl A) hid ha hw
    | cons i l =>
      simp only [evGo] at h
      simp only [TaskWp]
      rw [wpOpsIn_cons]
      split at h
      · rename_i ho
        unfold wpOpIn
        simp only [ho]
        exact one (.ops ops l) e a1 w1 h Q hQ
      · rename_i o ho
        split at h
        · rename_i a2 w2 hs
          unfold evStep at hs
          cases hv : evVal ih P O E G ops o a w with
          | none => rw [hv] at hs; cases hs
          | some p =>
            obtain ⟨v, w3⟩ := p
            rw [hv] at hs
            cases hs
            refine evVal_sound hσ hO hih hE ho hv ha hG hw r fun B a2' w2' hB ha2 hw2 => ?_
            refine hih E (.ops ops l) _ _ e a1 w1 h r Γ D0 B a2' w2' hE (fun l hl => ?_) hD0 hdd ha2 (hG.mono hB) hw2 Q fun C D' a1' w1' hC hD' ha1 hw1 => hQ C D' a1' w1' (hB.trans hC) hD' ha1 hw1
            obtain ⟨g, hg, hl⟩ := hr l hl
            exact ⟨g, hg, (hB.2 _ (hw.loops g hg).1).trans hl⟩
        · cases h
  | draw ops =>
    simp only [evGo] at h
    split at h
    · rename_i a2 w2 hd
      cases h
      exact evDraw_sound hσ hO hih hE r hd ha hG hw fun B F' w1' hB hF hw1 => hQ B Γ.D F' w1' hB hid hF hw1
    · cases h
theorem ev_ok (hσ : ∀ j, OneC (σ j)) (hO : OrcOK P σ W0 H O) : ∀ n, IhOK P σ W0 H G (ev P O G n)
  | 0 => fun E t a w e a1 w1 h => by cases h
  | n + 1 => evGo_ok hσ hO (ev_ok hσ hO n)

/-- The world in which the evaluation begins: G blocks that are the program's variables, of which some read as told. -/
def baseWorld (G : Nat) (tabs : List (Nat × Array Value)) : World :=
  { heap := (Array.range G).map fun g => match tabs.find? (fun p => p.1 == g) with | some p => .cells p.2 0 (0, p.2.size) | none => .pending #[] 0, tape := fun _ _ => 0, drawn := 0, os := default, output := #[] }
/-- A variable reads as told. -/
def TabR (w : World) (tabs : List (Nat × Array Value)) : Prop :=
  ∀ p ∈ tabs, p.2.toList.all (closedN 8) = true ∧ ∃ (cs : Array Value) (e : TypeId) (fz : Nat × Nat), w.heap[p.1]? = some (.cells cs e fz) ∧ ∀ (i : Nat) (v : Value), p.2[i]? = some v → cs[i]? = some v
theorem base_rel {w : World} {tabs : List (Nat × Array Value)} {G : Nat} (hG : G ≤ w.heap.size) (hT : TabR w tabs) : WR σ w w.heap.size ⟨[], [], []⟩ ⟨id, (· < G), fun _ => False, fun _ _ _ => False⟩ (baseWorld G tabs) w := by
  refine { tape := rfl, size := fun b hb => by simpa [baseWorld] using hb, full := fun b hb => .inl (by simpa [baseWorld] using hb), resv := fun p hp => (by cases hp), resd := fun b _ hb => ?_, lt := fun b hb => Nat.lt_of_lt_of_le hb hG, inj := fun b c _ _ e => e, obj := fun b o ho => ?_, ext := Below.refl _ _, hle := Nat.le_refl _, loops := fun g hg => (by cases hg), dead := fun k hk => (by cases hk), long := fun b hb => hb.elim, grow := fun b n u hb => hb.elim, gun := fun b n u v hb => hb.elim, gone := fun b n u b2 n2 u2 hb => hb.elim }
  case refine_2 =>
    simp only [baseWorld, Array.getElem?_map] at hb
    cases hr : (Array.range G)[b]? with
    | none => rw [hr] at hb; cases hb
    | some g =>
      rw [hr] at hb
      simp only [Option.map_some, Option.some.injEq] at hb
      split at hb <;> cases hb
  simp only [baseWorld, Array.getElem?_map] at ho
  cases hr : (Array.range G)[b]? with
  | none => rw [hr] at ho; cases ho
  | some g =>
    rw [hr] at ho
    simp only [Option.map_some, Option.some.injEq] at ho
    have hg : g = b := by
      have := Array.getElem?_eq_some_iff.1 hr
      obtain ⟨h1, h2⟩ := this
      simpa using h2.symm
    subst hg
    split at ho
    · rename_i p hp
      subst ho
      have hpm := List.mem_of_find?_eq_some hp
      have hpe : p.1 = g := by simpa using List.find?_some hp
      obtain ⟨h1, cs, e, fz, h2, h3⟩ := hT p hpm
      rw [hpe] at h2
      refine .inr ⟨p.2, 0, (0, p.2.size), cs, e, fz, rfl, h2, ⟨?_, fun i v hv => ⟨v, h3 i v hv, closed_rv (all_get h1 hv)⟩⟩, .inr fun i hi => ⟨Nat.zero_le _, hi⟩⟩
      rcases Nat.lt_or_ge cs.size p.2.size with h5 | h5
      · exfalso
        have h6 := h3 cs.size _ (Array.getElem?_eq_getElem h5)
        rw [Array.getElem?_eq_none (Nat.le_refl _)] at h6
        cases h6
      · exact h5
    · exact .inl ⟨_, _, ho.symm⟩
/-- WHAT THE EVALUATOR FINDS OF A CALL IS SO IN EVERY WORLD. -/
theorem ev_calls (hσ : ∀ j, OneC (σ j)) {w : World} (hO : OrcOK P σ w w.heap.size O) {tabs : List (Nat × Array Value)} (hG : G ≤ w.heap.size) (hT : TabR w tabs) {n : Nat} {f : FuncId} {args args' : Array Value} {v : Value}
    (h : (evCall (ev P O G n) P O [] f args (baseWorld G tabs)).map (·.1) = some v) (ha : RAr σ ⟨id, (· < G), fun _ => False, fun _ _ _ => False⟩ args args') :
    Calls P f args' w fun e w' => ∃ v' B, e = .returned v' ∧ RV σ B v v' ∧ Ext w w' := by
  cases hc : evCall (ev P O G n) P O [] f args (baseWorld G tabs) with
  | none => rw [hc] at h; cases h
  | some p =>
    obtain ⟨u, w1⟩ := p
    rw [hc] at h
    cases h
    refine (callsIn_wide (n := 0)).1 ?_
    refine evCall_sound hσ hO (ev_ok hσ hO n) (Γ := ⟨[], [], []⟩) rfl hc ha (fun g hg => ⟨hg, rfl⟩) (base_rel hG hT) ?_
    intro B v' w1' hB hv hw
    exact ⟨v', B, rfl, hv, hw.ext⟩
end
end Go.Proofs.YtfppinabdalblaaGreat
