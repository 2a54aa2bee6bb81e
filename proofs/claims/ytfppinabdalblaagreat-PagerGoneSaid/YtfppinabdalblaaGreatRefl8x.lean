/- Reflection, 8x: calls, rounds, single operations. No program is named here. -/
import Derived.Test.YtfppinabdalblaaGreatRefl8w
import Derived.OwnWalkIn
namespace Go.Proofs.YtfppinabdalblaaGreat
open Go.RowKit
set_option linter.unusedVariables false
set_option linter.unusedSimpArgs false
section
variable {P : Program} {σ : Nat → Value} {W0 : World} {H : Nat} {O : Orc} {G : Nat} {ih : Ih}

/-- A tree that only reads. -/
def Ron {α : Type} : Sem α → Prop
  | .pure _ => True
  | .program k => ∀ P, Ron (k P)
  | .mark _ k => Ron k
  | .load _ _ k => ∀ v, Ron (k v)
  | .halt _ => True
  | _ => False
theorem Ron.run {α : Type} (s : Sem α) : Ron s → ∀ {w : World} {a : α} {w1 : World}, s.run P w = .ok a w1 → w1 = w := by
  induction s with
  | pure a => intro _ w b w1 h; cases h; rfl
  | program k ih => intro hr w b w1 h; exact ih P (hr P) h
  | mark m k ih => intro hr w b w1 h; exact ih hr h
  | load m a k ih =>
    intro hr w b w1 h
    simp only [Sem.run] at h
    cases hc : w.cell? a with
    | some v => rw [hc] at h; exact ih v (hr v) h
    | none =>
      rw [hc] at h
      simp only [] at h
      split at h
      · exact ih _ (hr _) h
      · cases h
  | halt x => intro _ w b w1 h; cases h
  | _ => intro hr; exact hr.elim
theorem Ron.bind {α β : Type} {f : α → Sem β} : ∀ {s : Sem α}, Ron s → (∀ a, Ron (f a)) → Ron (s >>= f) := by
  intro s
  induction s with
  | pure a => intro _ hf; exact hf a
  | program k ih => intro hs hf; exact fun P => ih P (hs P) hf
  | mark m k ih => intro hs hf; exact ih hs hf
  | load m a k ih => intro hs hf; exact fun v => ih v (hs v) hf
  | halt x => intro _ _; exact trivial
  | _ => intro hs; exact hs.elim
theorem ro_program : Ron program := fun P => trivial
theorem ro_typeInfo (t : TypeId) : Ron (typeInfo t) := by
  unfold typeInfo
  refine Ron.bind ro_program fun p => ?_
  split
  · exact trivial
  · exact trivial
theorem ro_sizeOf (t : TypeId) : Ron (sizeOf t) := by
  unfold sizeOf
  exact Ron.bind (ro_typeInfo t) fun i => trivial
theorem ro_isAgg (t : TypeId) : Ron (isAgg t) := by
  unfold isAgg underlying
  refine Ron.bind (Ron.bind ro_program fun p => ?_) fun d => ?_
  · split <;> exact trivial
  · split <;> exact trivial
theorem ro_loadFrom : ∀ (n : Nat) (a : Addr) (i : Nat) (acc : Array Value), Ron (loadCellsFrom a i n acc)
  | 0, a, i, acc => trivial
  | n + 1, a, i, acc => Ron.bind (s := load (a.add i)) (fun v => trivial) fun v => ro_loadFrom n a (i + 1) _
theorem ro_loadVar (t : TypeId) (a : Addr) : Ron (loadVar t a) := by
  unfold loadVar
  refine Ron.bind (ro_isAgg t) fun b => ?_
  split
  · refine Ron.bind (ro_sizeOf t) fun n => ?_
    exact Ron.bind (ro_loadFrom n a 0 #[]) fun cs => trivial
  · exact fun v => trivial
theorem ro_panic {α : Type} (e : RuntimeError) (h : Ron (runtimePanic e : Sem α)) : Ron (runtimePanic e : Sem α) := h
def one (tmps : Array Value) : ResultVar → Sem Value
  | .tmp t => pure (tmps.getD t undef)
  | .cell a t => do loadVar t (← asAddr (tmps.getD a undef))
theorem rel_one {A : Ren} {tmps tmps' : Array Value} (h : RAr σ A tmps tmps') (x : ResultVar) : SemRel P σ (RV σ) A (one tmps x) (one tmps' x) := by
  have g : ∀ t, RV σ A (tmps.getD t undef) (tmps'.getD t undef) := fun t => RAct.eval (G := 0) (D0 := []) (D := []) (a := ⟨tmps, []⟩) (a' := ⟨tmps', []⟩) (x := .tmp t) (fun g hg => absurd hg (by omega)) ⟨h, rfl, [], rfl, List.nodup_nil, fun k hk => (by cases hk)⟩ rfl
  cases x with
  | tmp t => exact .ret (g t)
  | cell a t =>
    refine SemRel.bnd (rel_asAddr (g a)) ?_
    rintro B p _ hB ⟨hp, rfl⟩
    exact rel_loadVar t p hp
theorem rel_ones {A : Ren} {tmps tmps' : Array Value} : ∀ (l : List ResultVar) {A : Ren}, RAr σ A tmps tmps' → SemRel P σ (fun B x y => RAr σ B x.toArray y.toArray) A (l.mapM (one tmps)) (l.mapM (one tmps'))
  | [], A, h => .ret RAr.nil
  | x :: l, A, h => by
    simp only [List.mapM_cons]
    refine SemRel.bnd (rel_one h x) ?_
    intro B v v' hB hv
    refine SemRel.bnd (rel_ones (A := B) l (h.mono hB)) ?_
    intro C vs vs' hC hvs
    have := (RAr.one (hv.mono hC)).app hvs
    exact .ret (by simpa using this)
theorem results_eq (fn : Func) (tmps : Array Value) : results fn tmps = (fn.results.toList.mapM (one tmps) >>= fun l => pure (if h : l.toArray.size = 1 then l.toArray[0] else .tuple l.toArray)) := by
  have e : results fn tmps = (fn.results.mapM (one tmps) >>= fun vs => pure (if h : vs.size = 1 then vs[0] else .tuple vs)) := by
    unfold results
    congr 2
  rw [e, Array.mapM_eq_mapM_toList]
  simp
theorem rel_results {A : Ren} (fn : Func) {tmps tmps' : Array Value} (h : RAr σ A tmps tmps') : SemRel P σ (RV σ) A (results fn tmps) (results fn tmps') := by
  rw [results_eq, results_eq]
  refine SemRel.bnd (rel_ones (A := A) fn.results.toList h) ?_
  intro B x y hB hxy
  refine .ret ?_
  by_cases hs : x.toArray.size = 1
  · have hs' : y.toArray.size = 1 := hxy.1 ▸ hs
    rw [dif_pos hs, dif_pos hs']
    exact hxy.2 0 _ _ (Array.getElem?_eq_getElem (by omega)) (Array.getElem?_eq_getElem (by omega))
  · have hs' : ¬ y.toArray.size = 1 := hxy.1 ▸ hs
    rw [dif_neg hs, dif_neg hs']
    exact .tuple _ _ hxy.1 hxy.2
theorem ro_one (tmps : Array Value) (hp : ∀ v, Ron (asAddr v)) (x : ResultVar) : Ron (one tmps x) := by
  cases x with
  | tmp t => exact trivial
  | cell a t => exact Ron.bind (hp _) fun p => ro_loadVar t p
theorem results_same {fn : Func} {tmps : Array Value} {w w1 : World} {v : Value} (h : (results fn tmps).run P w = .ok v w1) : w1 = w := by
  rw [results_eq, Sem.run_bind] at h
  have key : ∀ (l : List ResultVar) {u : List Value} {w w1 : World}, (l.mapM (one tmps)).run P w = .ok u w1 → w1 = w := by
    intro l
    induction l with
    | nil => intro u w w1 h; cases h; rfl
    | cons x l ih =>
      intro u w w1 h
      simp only [List.mapM_cons, Sem.run_bind] at h
      have k1 : ∀ {u : Value} {w1 : World}, (one tmps x).run P w = .ok u w1 → w1 = w := by
        intro u w1 h
        cases x with
        | tmp t => cases h; rfl
        | cell a t =>
          simp only [one, Sem.run_bind] at h
          cases hv : tmps.getD a undef with
          | pointer p =>
            rw [hv] at h
            cases p with
            | none => exact absurd h (andThen_deadL (fun a w2 => (show (runtimePanic .nilDeref : Sem Addr).run P _ ≠ .ok a w2 from dead_panic _ _ _ _)))
            | some p => exact Ron.run _ (ro_loadVar t p) h
          | _ => rw [hv] at h; cases h
      generalize hr : (one tmps x).run P w = r at h
      cases r with
      | halt y w2 => cases h
      | ok y w2 =>
        have := k1 hr
        subst this
        simp only [Result.andThen] at h
        generalize hr2 : (l.mapM (one tmps)).run P w2 = r2 at h
        cases r2 with
        | halt y w2 => cases h
        | ok y w3 => have := ih hr2; subst this; cases h; rfl
  generalize hr : (fn.results.toList.mapM (one tmps)).run P w = r at h
  cases r with
  | halt y w2 => cases h
  | ok y w2 => have := key _ hr; subst this; cases h; rfl
theorem retVal_sound (hσ : ∀ j, OneC (σ j)) {Γ : Gst} {fn : Func} {A : Ren} {tmps tmps' : Array Value} {w w' : World} {v : Value} (h : RAr σ A tmps tmps') (hw : WR σ W0 H Γ A w w') (hv : retVal P fn tmps w = some v) :
    ∃ B v', (results fn tmps').run P w' = .ok v' w' ∧ A.le B ∧ RV σ B v v' ∧ WR σ W0 H Γ B w w' := by
  unfold retVal at hv
  split at hv
  case h_2 => cases hv
  rename_i u w1 hrun
  cases hv
  obtain ⟨B, v', w1', h1, h2, h3, h4⟩ := (rel_results (P := P) fn h).sound hσ hw hrun
  have e1 := results_same hrun
  have e2 := results_same h1
  subst e1 e2
  exact ⟨B, v', h1, h2, h4, h3⟩
theorem rar_undef {A : Ren} {x x' : Array Value} (h : RAr σ A x x') (n : Nat) : RAr σ A (x ++ Array.replicate (n - x.size) undef) (x' ++ Array.replicate (n - x'.size) undef) := by
  rw [← h.1]
  refine h.app ⟨rfl, fun i v v' h1 h2 => ?_⟩
  rw [h1] at h2
  cases h2
  rw [Array.getElem?_replicate] at h1
  split at h1
  · cases h1; exact rv_undef
  · cases h1
theorem wanted_rel {A : Ren} {D0 D : List Nat} {a a' : Act} {ops : Array Oper} {o : Oper} (h : RAct σ A D0 D a a') (hg : guardOk ops o a.tmps = true) : Region.wanted o (yielded ops a'.tmps) = Region.wanted o (yielded ops a.tmps) := by
  unfold Region.wanted
  unfold guardOk at hg
  cases hgd : o.guard with
  | none => rfl
  | some p =>
    obtain ⟨j, want⟩ := p
    rw [hgd] at hg
    simp only [] at hg ⊢
    have : yielded ops a'.tmps j = yielded ops a.tmps j := by
      unfold yielded
      cases hd : (ops[j]?).bind (·.dst) with
      | none => rfl
      | some t =>
        rw [hd] at hg
        simp only [Option.bind_some] at hg ⊢
        cases ht : a.tmps[t]? with
        | none =>
          have : a'.tmps[t]? = none := by
            rw [Array.getElem?_eq_none_iff] at ht ⊢
            rw [← h.1.1]; exact ht
          rw [this]
        | some v =>
          obtain ⟨v', h1, h2⟩ := h.1.get ht
          rw [h1]
          rw [ht] at hg
          cases h2 <;> first | rfl | (cases hg; done)
    rw [this]

theorem leaves_marks {fn : Func} {tmps : Array Value} {R : Ending → World → Prop} {D0 : List Nat} {A : Ren} {w1 : World} {E : List LoopG} {Rs : List ResG} (hdd : ∀ g ∈ E, g.dd ∈ D0)
    (hR : ∀ w2, WR σ W0 H ⟨E, D0, Rs⟩ A w1 w2 → ∃ v', (results fn tmps).run P w2 = .ok v' w2 ∧ R (.returned v') w2) :
    ∀ (ks : List Nat) (D : List Nat) (w : World), ks.Nodup → (∀ k ∈ ks, k ∈ D ∧ k ∉ D0) → (∀ k ∈ D0, k ∈ D) → WR σ W0 H ⟨E, D, Rs⟩ A w1 w →
      LeavesInM (FW none) 0 P fn tmps R (ks.map fun k => { target := .collected k, args := #[] }) .returning w
  | [], D, w, _, _, h0, hw => by
    have h2 := hw.sub (Γ' := ⟨E, D0, Rs⟩) (fun g hg => hg) h0 (fun p hp => hp) (fun p hp _ => ⟨p, hp, rfl⟩) hdd
    exact hR w h2
  | k :: ks, D, w, hn, hk, h0, hw => by
    rw [List.nodup_cons] at hn
    have hk1 := hk k (by simp)
    obtain ⟨d1, _, _⟩ := hw.dead k hk1.1
    refine ⟨by simp, .inl ⟨k, _, rfl, run_takeDeferred d1, ?_⟩⟩
    refine leaves_marks hdd hR ks (D.filter (· ≠ k)) _ hn.2 (fun j hj => ?_) (fun j hj => ?_) (hw.putK (D := D.filter (· ≠ k)) hk1.1 (fun j hj => (List.mem_filter.1 hj).1) (by simp) (fun g hg => ?_) _)
    · refine ⟨List.mem_filter.2 ⟨(hk j (by simp [hj])).1, ?_⟩, (hk j (by simp [hj])).2⟩
      have : j ≠ k := fun e => hn.1 (e ▸ hj)
      simpa using this
    · have : j ≠ k := fun e => hk1.2 (e ▸ hj)
      exact List.mem_filter.2 ⟨h0 j hj, by simpa using this⟩
    · have : g.dd ≠ k := fun e => hk1.2 (e ▸ hdd g hg)
      exact List.mem_filter.2 ⟨h0 _ (hdd g hg), by simpa using this⟩

theorem evCall_sound (hσ : ∀ j, OneC (σ j)) (hO : OrcOK P σ W0 H O) (hih : IhOK P σ W0 H G ih) {Γ : Gst} {E : List LoopI} (hE : Γ.E.map (·.L) = E) {f : FuncId} {args args' : Array Value} {A : Ren} {w w1 w' : World} {v : Value} (h : evCall ih P O E f args w = some (v, w1)) (ha : RAr σ A args args') (hG : GR G A) (hw : WR σ W0 H Γ A w w')
    {R : Ending → World → Prop} (hR : ∀ B v' w1', A.le B → RV σ B v v' → WR σ W0 H Γ B w1 w1' → R (.returned v') w1') : CallsIn (FW none) 0 P f args' w' R := by
  unfold evCall at h
  split at h
  · rename_i v2 hv
    cases h
    show CallsIn Fence.wide 0 P f args' w' R
    refine callsIn_wide.2 ((hO.fn f args args' v Γ A _ w' hv ha hw).mono ?_)
    rintro e w'' ⟨v', rfl, h1, h2⟩
    exact hR A v' w'' (Ren.le.refl A) h1 (hw.extR h2)
  split at h
  · rename_i p hp
    cases h
    show CallsIn Fence.wide 0 P f args' w' R
    refine callsIn_wide.2 ((hO.mkL f args args' p.1 p.2 Γ A w w' hp ha hw).mono ?_)
    rintro e w'' ⟨g, L, c', cs', e', rfl, h1, h2, h3, h4, h5, h6, h7, h8, h9⟩
    have hi : ¬ A.d w.heap.size := fun hd => by have := hw.size _ hd; omega
    refine hR (A.pushT w.heap.size g) _ w'' (A.pushT_le hi g) ?_ (hw.newLong (hw.extR h1) h1 h2 h3 h4 h5 h6 h7 h8 h9)
    have := RV.long (σ := σ) (A := A.pushT w.heap.size g) w.heap.size c' L (.inr rfl) (.inr rfl) h5
    rw [A.pushT_at] at this
    exact this
  split at h
  · rename_i p hp
    cases h
    show CallsIn Fence.wide 0 P f args' w' R
    refine callsIn_wide.2 ((hO.mkS f args args' p.1 p.2.1 p.2.2 Γ A w w' hp ha hw).mono ?_)
    rintro e w'' ⟨g, c', cs', e', rfl, h1, h2, h3, h4, h5, h6⟩
    have hi : ¬ A.d w.heap.size := fun hd => by have := hw.size _ hd; omega
    refine hR (A.push w.heap.size g) _ w'' (A.push_le hi g) ?_ (hw.newS (hw.extR h1) h1 h2 h3 h4)
    have := RV.slice (σ := σ) (A := A.push w.heap.size g) ⟨w.heap.size, 0, none⟩ p.2.2 p.2.2 c' (.inr rfl) h5 (by omega) rfl
    unfold Ren.addr at this
    rw [A.push_at] at this
    exact this
  · split at h
    · cases h
    · rename_i fn hf
      split at h
      · cases h
      · rename_i c hb
        have key : ∀ e a1 w2, ih E (.code c) { tmps := args ++ Array.replicate (fn.ntmps - args.size) undef, defers := [] } w = some (e, a1, w2) → (e.of = .normal ∨ e.of = .ret) → (retVal P fn a1.tmps w2).map (fun v => (v, w2)) = some (v, w1) → CallsIn (FW none) 0 P f args' w' R := by
          intro e a1 w2 he hex hv
          cases hrv : retVal P fn a1.tmps w2 with
          | none => rw [hrv] at hv; cases hv
          | some v2 =>
            rw [hrv] at hv
            cases hv
            refine callsIn_of_wp_marks hf hb trivial ?_ rfl
            have hdd : ∀ g ∈ Γ.E, g.dd ∈ Γ.D := fun g hg => (hw.loops g hg).2.2.2.2
            refine hih E (.code c) _ _ e a1 w1 he none Γ Γ.D A _ w' hE (fun l hl => (by cases hl)) (fun k hk => hk) hdd ⟨rar_undef ha fn.ntmps, rfl, [], rfl, List.nodup_nil, fun k hk => (by cases hk)⟩ hG hw _ ?_
            intro B D a1' w1' hB hD ha1 hw1
            obtain ⟨hat, _, ks, hks, hnd, hkk⟩ := ha1
            have fin : LeavesInM (FW none) 0 P fn a1'.tmps R a1'.defers .returning w1' := by
              rw [hks]
              refine leaves_marks hdd (fun w2 hw2 => ?_) ks D w1' hnd hkk hD hw1
              obtain ⟨C, v', h1, h2, h3, h4⟩ := retVal_sound (P := P) hσ hat hw2 hrv
              exact ⟨v', h1, hR C v' w2 (hB.trans h2) h3 h4⟩
            rcases hex with hex | hex <;> (rw [hex]; exact fin)
        split at h
        · rename_i a1 w2 he
          exact key _ _ _ he (.inl rfl) h
        · rename_i a1 w2 he
          exact key _ _ _ he (.inr rfl) h
        · cases h
theorem rar_params {A : Ren} : ∀ {ps : List Tmp} {x x' : List Value} {t t' : Array Value}, RAr σ A x.toArray x'.toArray → RAr σ A t t' →
    RAr σ A ((ps.zip x).foldl (fun tmps (p : Tmp × Value) => tmps.setIfInBounds p.1 p.2) t) ((ps.zip x').foldl (fun tmps (p : Tmp × Value) => tmps.setIfInBounds p.1 p.2) t')
  | [], _, _, _, _, _, ht => by simpa using ht
  | p :: ps, [], x', t, t', hx, ht => by
    have : x' = [] := by have := hx.1; simp at this; exact List.length_eq_zero_iff.1 this.symm
    subst this
    simpa using ht
  | p :: ps, v :: x, [], t, t', hx, ht => by have := hx.1; simp at this
  | p :: ps, v :: x, v' :: x', t, t', hx, ht => by
    simp only [List.zip_cons_cons, List.foldl_cons]
    have hv : RV σ A v v' := hx.2 0 v v' (by simp) (by simp)
    have htl : RAr σ A x.toArray x'.toArray := ⟨by have := hx.1; simpa using this, fun j u u' h1 h2 => hx.2 (j + 1) u u' (by simpa using h1) (by simpa using h2)⟩
    exact rar_params htl (ht.set p hv)
theorem num_ne (e : Ex) : e.num ≠ 9 := by cases e <;> simp [Ex.num]
theorem evYield_sound (hih : IhOK P σ W0 H G ih) {Γ : Gst} {E : List LoopI} (hE : Γ.E.map (·.L) = E) {g : LoopG} (hg : g ∈ Γ.E) {args args' : Array Value} {A : Ren} {w w1 w' : World} {v : Value} (h : evYield ih E g.L args w = some (v, w1)) (ha : RAr σ A args args') (hG : GR G A) (hw : WR σ W0 H Γ A w w') (r : Option Nat)
    {R : Ending → World → Prop} (hR : ∀ B v' w1', A.le B → RV σ B v v' → WR σ W0 H Γ B w1 w1' → R (.returned v') w1') :
    ∃ T, (Instr.yield (A.f g.L.b) args').run P w' = .ok (.round (A.f g.L.b) g.fn T g.L.assign g.L.body) w' ∧ RoundIn (FW r) 0 P (A.f g.L.b) g.fn T g.L.assign g.L.body w' R := by
  unfold evYield at h
  split at h
  · cases h
  rename_i hsz
  split at h
  · cases h
  rename_i hp0
  have hsz : args.size = g.L.ps.size := by simpa using hsz
  have hp0 := pcode_some (by simpa using hp0)
  obtain ⟨l1, ⟨c, l2, l3⟩, l4, l5, l6⟩ := hw.loops g hg
  have hdd : ∀ g ∈ Γ.E, g.dd ∈ Γ.D := fun g hg => (hw.loops g hg).2.2.2.2
  refine ⟨_, run_yield l3 (ha.1.symm.trans hsz), ?_⟩
  split at h
  case h_2 => cases h
  rename_i a1 w2 he1
  split at h
  · cases h
  rename_i hp1
  have hp1 := pcode_some (by simpa using hp1)
  split at h
  case h_2 => cases h
  rename_i e a2 w3 he2
  split at h
  · cases h
  rename_i hp2
  have hp2 := pcode_some (by simpa using hp2)
  cases h
  refine roundIn_of_wpIn (F := FW r) trivial ?_
  have hT : RAr σ A ((g.L.ps.zip args).foldl (fun tmps (p : Tmp × Value) => tmps.setIfInBounds p.1 p.2) g.L.tmps) ((g.L.ps.zip args').foldl (fun tmps (p : Tmp × Value) => tmps.setIfInBounds p.1 p.2) g.tmps) := by
    rw [← Array.foldl_toList, ← Array.foldl_toList, Array.toList_zip, Array.toList_zip]
    exact rar_params (by simpa using ha) l4
  refine hih E (.code g.L.assign) _ _ .normal a1 w2 he1 (some (A.f g.L.b)) Γ Γ.D A _ w' hE (fun l hl => ⟨g, hg, by cases hl; rfl⟩) (fun k hk => hk) hdd ⟨hT, rfl, [], rfl, List.nodup_nil, fun k hk => (by cases hk)⟩ hG hw _ ?_
  intro B D a1' w1' hB hD ha1 hw1
  obtain ⟨m1, ⟨c1, m2, m3⟩, _⟩ := hw1.loops g hg
  have hfb : B.f g.L.b = A.f g.L.b := hB.2 _ l1
  rw [hfb] at m3
  rw [hp1] at m2
  cases m2
  refine ⟨_, run_beginRound m3 rfl, ?_⟩
  have hw3 := hw1.setLoop hg 1 hp1 (by decide) (by decide)
  rw [hfb] at hw3
  refine hih E (.code g.L.body) _ _ e a2 w3 he2 (some (A.f g.L.b)) ⟨Γ.E, D, Γ.R⟩ Γ.D B _ _ hE (fun l hl => ⟨g, hg, by cases hl; exact hfb⟩) hD hdd ha1 (hG.mono hB) hw3 _ ?_
  intro C D' a2' w2' hC hD' ha2 hw4
  obtain ⟨n1, ⟨c2, n2, n3⟩, _⟩ := hw4.loops g hg
  have hfc : C.f g.L.b = A.f g.L.b := (hC.2 _ m1).trans hfb
  rw [hfc] at n3
  rw [hp2] at n2
  cases n2
  have hw5 := (hw4.setLoop hg e.num hp2 (by decide) (num_ne e)).sub (Γ' := Γ) (fun g hg => hg) (fun k hk => hD' k (hD k hk)) (fun p hp => hp) (fun p hp _ => ⟨p, hp, rfl⟩) hdd
  rw [hfc] at hw5
  cases e with
  | normal => exact ⟨_, _, run_endRound none n3, hR C _ _ (hB.trans hC) (.bool true) hw5⟩
  | ret => exact ⟨_, _, run_endRound (some .ret) n3, hR C _ _ (hB.trans hC) (.bool false) hw5⟩
  | exit id =>
    refine ⟨_, _, run_endRound (some (.exit id)) n3, hR C _ _ (hB.trans hC) (.bool false) ?_⟩
    have e1 : ({ g.row 1 with state := if (some (Code.exit id)).isNone then .ready else .done, pending := some (.exit id) } : Loop) = g.row (Ex.exit id).num := by
      simp [LoopG.row, Ex.num, stOf, pendOf]
    rw [e1]
    exact hw5
theorem yCall_sound {A : Ren} {ρ ρ' : Operand → Value} {o : Oper} {b : Nat} {args : Array Value} (h : yCall ρ o.op = some (b, args)) (hr : ∀ x ∈ o.op.operands, RV σ A (ρ x) (ρ' x)) :
    ∃ args', RAr σ A args args' ∧ ∀ w, (execOp ρ' o).run P w = (Instr.yield (A.f b) args').run P w := by
  unfold yCall at h
  obtain ⟨dst, op, type, pos, after, guard⟩ := o
  simp only [] at h hr
  cases op <;> first | (cases h; done) | skip
  rename_i c
  simp only [] at h
  cases hc : c.callee with
  | builtin b => rw [hc] at h; cases h
  | invoke x n => rw [hc] at h; cases h
  | value f =>
    rw [hc] at h
    simp only [] at h
    have hf := hr f (by simp [Op.operands, Call.operands, hc])
    split at h
    case h_2 => cases h
    rename_i b2 x y hv
    split at h
    case isFalse => cases h
    rename_i he
    cases h
    rw [Bool.and_eq_true] at he
    have hx : x = #[] := by simpa using he.1
    have hy : y = #[] := by simpa using he.2
    subst hx hy
    rw [hv] at hf
    generalize hw : ρ' f = u at hf
    cases hf with
    | yield _ hb =>
      refine ⟨c.args.map ρ', rar_map fun y hy => hr y (by simp [Op.operands, Call.operands, hy]), fun w => ?_⟩
      simp [execOp, resolve, hc, hw, Deferred.ofValue, invoke, Sem.run_bind, Result.andThen]
theorem evRun_sound (hσ : ∀ j, OneC (σ j)) (hO : OrcOK P σ W0 H O) (hih : IhOK P σ W0 H G ih) {Γ : Gst} {E : List LoopI} (hE : Γ.E.map (·.L) = E) {o : Oper} {ρ : Operand → Value} {A : Ren} {a' : Act} {w w1 w' : World} {v : Value} (h : evRun ih P O E ρ o w = some (v, w1))
    (hr : ∀ x ∈ o.op.operands, RV σ A (ρ x) (a'.eval x)) (hG : GR G A) (hw : WR σ W0 H Γ A w w') (r : Option Nat)
    {K : Act → World → Prop} {Q : Exit → Act → World → Prop} (hK : ∀ B v' w1', A.le B → RV σ B v v' → WR σ W0 H Γ B w1 w1' → K (a'.put o.dst v') w1') : o.wpIn (FW r) 0 P a' w' K Q := by
  refine ⟨fun _ _ => trivial, ?_⟩
  unfold evRun at h
  split at h
  · cases h
  rename_i hd
  rw [Oper.semAt_plain (FW r) a'.eval o (fun c hc => hd (by rw [hc]; rfl))]
  split at h
  · rename_i b args hy
    split at h
    case h_2 => cases h
    rename_i L hL
    have hLm := List.mem_of_find?_eq_some hL
    have hLb : L.b = b := by simpa using List.find?_some hL
    rw [← hE] at hLm
    obtain ⟨g, hg, rfl⟩ := List.mem_map.1 hLm
    obtain ⟨args', ha, hex⟩ := yCall_sound (P := P) hy hr
    rw [hex]
    obtain ⟨T, hy1, hround⟩ := evYield_sound (r := r) hih hE hg h ha hG hw (R := fun e w'' => match e with | .returned v => K (a'.put o.dst v) w'' | .panicked chain => Q (.panic chain) a' w'' | .outgrown => LetsOut Q) (fun B v' w1' hB hv hw1 => hK B v' w1' hB hv hw1)
    rw [← hLb, hy1]
    rw [Oper.uponIn_round]
    refine ⟨fun hh => (by cases hh), hround.mono ?_⟩
    intro e w2 he
    cases e <;> exact he
  · split at h
    · rename_i v2 w2 he
      cases h
      obtain ⟨B, n', w1', h1, h2, h3, h4⟩ := evOp_sound hσ hO hr hw he
      cases h4 with
      | value _ v' hv =>
        rw [h1]
        exact hK B _ w1' h2 hv h3
    · rename_i w2 he
      cases h
      obtain ⟨B, n', w1', h1, h2, h3, h4⟩ := evOp_sound hσ hO hr hw he
      cases h4
      rw [h1]
      exact hK B _ w1' h2 rv_undef h3
    · rename_i f args w2 he
      obtain ⟨B, n', w1', h1, h2, h3, h4⟩ := evOp_sound hσ hO hr hw he
      cases h4 with
      | enter _ _ args' hargs =>
        rw [h1, Oper.uponIn_enter]
        refine ⟨fun hh => (by cases hh), ?_⟩
        have := evCall_sound hσ hO hih hE h hargs (hG.mono h2) h3 (R := fun e w'' => match e with | .returned v => K (a'.put o.dst v) w'' | .panicked chain => Q (.panic chain) a' w'' | .outgrown => LetsOut Q)
          (fun C v' w3' hC hv hw3 => hK C v' w3' (h2.trans hC) hv hw3)
        refine CallsIn.mono (F := FW r) this ?_
        intro e w2 he
        cases e <;> exact he
    · cases h
theorem evVal_sound (hσ : ∀ j, OneC (σ j)) (hO : OrcOK P σ W0 H O) (hih : IhOK P σ W0 H G ih) {Γ : Gst} {E : List LoopI} (hE : Γ.E.map (·.L) = E) {ops : Array Oper} {i : Nat} {o : Oper} (hi : ops[i]? = some o) {A : Ren} {D0 : List Nat} {a a' : Act} {w w1 w' : World} {v : Value} (h : evVal ih P O E G ops o a w = some (v, w1)) (ha : RAct σ A D0 Γ.D a a') (hG : GR G A) (hw : WR σ W0 H Γ A w w') (r : Option Nat)
    {K : Act → World → Prop} {Q : Exit → Act → World → Prop} (hK : ∀ B a1' w1', A.le B → RAct σ B D0 Γ.D (a.put o.dst v) a1' → WR σ W0 H Γ B w1 w1' → K a1' w1') : wpOpIn (FW r) 0 P ops Q i K a' w' := by
  unfold evVal at h
  split at h
  · cases h
  rename_i hg
  have hwant := wanted_rel (ops := ops) (o := o) ha (by simpa using hg)
  unfold wpOpIn
  simp only [hi]
  split at h
  · rename_i hwt
    rw [if_pos (by rw [hwant]; exact hwt)]
    split at h
    · cases h
    rename_i hc
    have hr : ∀ x ∈ o.op.operands, RV σ A (a.eval x) (a'.eval x) := fun x hx => ha.eval hG (by
      have : o.op.operands.toList.all (constOk G) = true := by simpa using hc
      rw [List.all_eq_true] at this
      exact this x (by simpa using hx))
    exact evRun_sound hσ hO hih hE h hr hG hw r fun B v' w1' hB hv hw1 => hK B _ w1' hB ((ha.mono hB fun k hk => hk).put _ hv) hw1
  · rename_i hwt
    rw [if_neg (by rw [hwant]; exact hwt)]
    cases h
    exact ⟨fun _ _ => trivial, hK A _ w' (Ren.le.refl A) (ha.put _ rv_undef) hw⟩
end
end Go.Proofs.YtfppinabdalblaaGreat
