/- Reflection, 19: pieces of a run within a called function, the caller's values kept beside. No program is named here. -/
import Derived.Test.YtfppinabdalblaaGreatRefl17
namespace Go.Proofs.YtfppinabdalblaaGreat
open Go.RowKit
set_option linter.unusedVariables false
set_option linter.unusedSimpArgs false
section
variable {P : Program} {σ : Nat → Value} {W0 : World} {H G : Nat} {O : Orc}

/-- A piece of a run: xs, values that a caller holds, are ys behind it. -/
def Seg1 (P : Program) (σ : Nat → Value) (W0 : World) (H G : Nat) (xs : Array Value) (t : Task) (a : Act) (w : World) (e : Ex) (ys : Array Value) (a1 : Act) (w1 : World) : Prop :=
  ∀ (D0 D : List Nat) (A : Ren) (a' : Act) (w' : World) (xs' : Array Value), (∀ k ∈ D0, k ∈ D) → RAr σ A xs xs' → RAct σ A D0 D a a' → GR G A → WR σ W0 H ⟨[], D, []⟩ A w w' → ∀ Q : Exit → Act → World → Prop,
    (∀ B D1 a1' w1', (∀ k ∈ D, k ∈ D1) → RAr σ B ys xs' → RAct σ B D0 D1 a1 a1' → GR G B → WR σ W0 H ⟨[], D1, []⟩ B w1 w1' → Q e.of a1' w1') → TaskWp none P t Q a' w'
theorem Seg1.two {xs ys zs : Array Value} {t1 t2 t : Task} {a a1 a2 : Act} {w w1 w2 : World} {e : Ex} (h1 : Seg1 P σ W0 H G xs t1 a w .normal ys a1 w1) (h2 : Seg1 P σ W0 H G ys t2 a1 w1 e zs a2 w2)
    (hc : ∀ (Q : Exit → Act → World → Prop) (a' : Act) (w' : World), TaskWp none P t1 (Exit.then (TaskWp none P t2 Q) Q) a' w' → TaskWp none P t Q a' w') : Seg1 P σ W0 H G xs t a w e zs a2 w2 :=
  fun D0 D A a' w' xs' h0 hx ha hG hw Q hQ => hc Q a' w' (h1 D0 D A a' w' xs' h0 hx ha hG hw _ fun B D1 a1' w1' hD hx1 ha1 hG1 hw1 =>
    h2 D0 D1 B a1' w1' xs' (fun k hk => hD k (h0 k hk)) hx1 ha1 hG1 hw1 Q fun C D2 a2' w2' hD2 hx2 ha2 hG2 hw2 => hQ C D2 a2' w2' (fun k hk => hD2 k (hD k hk)) hx2 ha2 hG2 hw2)
theorem Seg1.stop {xs ys : Array Value} {t1 t : Task} {a a1 : Act} {w w1 : World} {e f : Ex} (h1 : Seg1 P σ W0 H G xs t1 a w e ys a1 w1)
    (hc : ∀ (Q : Exit → Act → World → Prop) (a' : Act) (w' : World), TaskWp none P t1 (fun x a w => x = e.of ∧ Q f.of a w) a' w' → TaskWp none P t Q a' w') : Seg1 P σ W0 H G xs t a w f ys a1 w1 :=
  fun D0 D A a' w' xs' h0 hx ha hG hw Q hQ => hc Q a' w' (h1 D0 D A a' w' xs' h0 hx ha hG hw _ fun B D1 a1' w1' hD hx1 ha1 hG1 hw1 => ⟨rfl, hQ B D1 a1' w1' hD hx1 ha1 hG1 hw1⟩)
theorem Seg1.seqP {xs ys zs : Array Value} {c : Code} (hc : isSeq c = true) {a a1 a2 : Act} {w w1 w2 : World} {e : Ex} (h1 : Seg1 P σ W0 H G xs (.code (seqL c)) a w .normal ys a1 w1) (h2 : Seg1 P σ W0 H G ys (.code (seqR c)) a1 w1 e zs a2 w2) : Seg1 P σ W0 H G xs (.code c) a w e zs a2 w2 := by
  cases c with
  | seq x y => exact h1.two h2 fun Q a' w' h => wpIn_seq h
  | _ => cases hc
theorem Seg1.loopNext {xs ys zs : Array Value} {c : Code} {a a1 a2 : Act} {w w1 w2 : World} {e : Ex} (h1 : Seg1 P σ W0 H G xs (.code c) a w .normal ys a1 w1) (h2 : Seg1 P σ W0 H G ys (.loop c) a1 w1 e zs a2 w2) : Seg1 P σ W0 H G xs (.loop c) a w e zs a2 w2 :=
  h1.two h2 fun Q a' w' h => Loop1.step h
theorem Seg1.loopExit {xs ys : Array Value} {c : Code} {id : Nat} {a a1 : Act} {w w1 : World} (h1 : Seg1 P σ W0 H G xs (.code c) a w (.exit id) ys a1 w1) : Seg1 P σ W0 H G xs (.loop c) a w (.exit id) ys a1 w1 :=
  h1.stop fun Q a' w' h => Loop1.step (wpIn_mono h fun x a w hx => by obtain ⟨rfl, hq⟩ := hx; exact hq)
theorem Seg1.loopP {xs ys : Array Value} {c : Code} {id : Nat} (hc : isLoopB id c = true) {a a1 : Act} {w w1 : World} (h : Seg1 P σ W0 H G xs (.loop (inL (inB c))) a w (.exit id) ys a1 w1) : Seg1 P σ W0 H G xs (.code c) a w .normal ys a1 w1 := by
  cases c with
  | block i c =>
    cases c with
    | loop c =>
      have e : i = id := eq_of_beq hc
      subst e
      refine h.stop fun Q a' w' hh => ?_
      refine wpIn_block (wp_of_loop1 ?_)
      intro b k cs hro
      obtain ⟨e, a2, w2, hq, harr⟩ := hh b k cs hro
      refine ⟨e, a2, w2, ?_, harr⟩
      obtain ⟨rfl, hq⟩ := hq
      simp only [Ex.of, Exit.inBlock, if_pos]
      exact hq
    | _ => cases hc
  | _ => cases hc
def cutSt1 (G : Nat) (xs : Array Value) (r : Option (Ex × Act × World)) (e : Ex) (m : List Nat) (ys l : List Value) (h : List Obj) : Bool :=
  beqL (beqV 12) xs.toList (ys.map (mapV (gL m) 12)) && ys.all (lowV m.length 12) && cutSt G r e m l h
/-- A piece that the evaluation tells. -/
theorem seg1_ev (hσ : ∀ j, OneC (σ j)) (hO : OrcOK P σ W0 H O) {n : Nat} {t : Task} {xs : Array Value} {a : Act} {w : World} {e : Ex} {m : List Nat} {ys l : List Value} {h : List Obj} (hs : cutSt1 G xs (ev P O G n [] t a w) e m ys l h = true) : Seg1 P σ W0 H G xs t a w e ys.toArray (mkA l) (mkW h) := by
  unfold cutSt1 at hs
  rw [Bool.and_eq_true, Bool.and_eq_true] at hs
  obtain ⟨⟨y1, y2⟩, hs⟩ := hs
  have y3 := beqL_eq (fun x y hxy => beqV_eq hxy) y1
  unfold cutSt at hs
  split at hs
  case h_2 => cases hs
  rename_i f a1 w1 hev
  simp only [Bool.and_eq_true] at hs
  obtain ⟨⟨⟨⟨⟨⟨h1, h2⟩, h3⟩, h4⟩, h5⟩, h6⟩, h7⟩ := hs
  have e1 := exEq_eq h1
  subst e1
  have e2 := beqL_eq (fun x y hxy => beqV_eq hxy) h2
  have e3 : a1.defers = [] := by simpa using h3
  intro D0 D A a' w' xs' h0 hx ha hG hw Q hQ
  refine (ev_ok hσ hO n) [] t a w f a1 w1 hev none ⟨[], D, []⟩ D0 A a' w' rfl (fun l hl => by cases hl) h0 (fun g hg => by cases hg) ha hG hw Q fun B D1 a1' w1' hB hD ha1 hw1 => ?_
  refine hQ (B.cut (gL m) m.length) D1 a1' w1' hD ⟨?_, fun i u u' hu hu' => ?_⟩ ⟨⟨?_, fun i u u' hu hu' => ?_⟩, rfl, ha1.2.2⟩ (fun g hg => ?_) (hw1.cut h5 h6)
  · have := hx.1
    rw [← this]
    have h8 : xs.size = xs.toList.length := by simp
    rw [h8, y3]
    simp
  · have hu2 : ys[i]? = some u := by simpa using hu
    have hl : lowV m.length 12 u = true := by
      rw [List.all_eq_true] at y2
      exact y2 u (List.mem_of_getElem? hu2)
    refine cut_rv 12 hl ((hx.mono hB).2 i _ u' ?_ hu')
    rw [← Array.getElem?_toList, y3, List.getElem?_map, hu2]
    rfl
  · have := ha1.1.1
    rw [← this]
    have h8 : a1.tmps.size = a1.tmps.toList.length := by simp
    rw [h8, e2]
    simp [mkA]
  · have hu2 : l[i]? = some u := by simpa [mkA] using hu
    have hl : lowV m.length 12 u = true := by
      rw [List.all_eq_true] at h4
      exact h4 u (List.mem_of_getElem? hu2)
    refine cut_rv 12 hl (ha1.1.2 i _ u' ?_ hu')
    rw [← Array.getElem?_toList, e2, List.getElem?_map, hu2]
    rfl
  · rw [List.all_eq_true] at h7
    have := h7 g (List.mem_range.2 hg)
    simp only [Bool.and_eq_true, decide_eq_true_eq] at this
    have e4 : gL m g = g := eq_of_beq this.2
    have hG1 := hG.mono hB
    exact ⟨⟨this.1, by rw [e4]; exact (hG1 g hg).1⟩, by show B.f (gL m g) = g; rw [e4]; exact (hG1 g hg).2⟩
theorem Seg1.zero {t : Task} {a a1 : Act} {w w1 : World} {e : Ex} (h : Seg1 P σ W0 H G #[] t a w e #[] a1 w1) : Seg0 P σ W0 H G t a w e a1 w1 :=
  fun D A a' w' ha hG hw Q hQ => h [] D A a' w' #[] (fun k hk => by cases hk) RAr.nil ha hG hw Q fun B D1 a1' w1' _ _ ha1 hG1 hw1 => hQ B D1 a1' w1' ha1 hG1 hw1
theorem rar_split {A : Ren} {zs ys xs' us' : Array Value} (hs : zs.size = xs'.size) (h : RAr σ A (zs ++ ys) (xs' ++ us')) : RAr σ A zs xs' ∧ RAr σ A ys us' := by
  have h1 := h.1
  simp only [Array.size_append] at h1
  refine ⟨⟨hs, fun i v v' hv hv' => ?_⟩, ⟨by omega, fun i v v' hv hv' => ?_⟩⟩
  · have i1 := (Array.getElem?_eq_some_iff.1 hv).1
    exact h.2 i v v' (by rw [Array.getElem?_append_left i1]; exact hv) (by rw [Array.getElem?_append_left (by omega)]; exact hv')
  · refine h.2 (zs.size + i) v v' ?_ ?_
    · rw [Array.getElem?_append_right (by omega)]; simpa using hv
    · rw [Array.getElem?_append_right (by omega), hs]; simpa using hv'
/-- One operation, a call, whose body is run in pieces; then the others. -/
theorem Seg1.opCall (hσ : ∀ j, OneC (σ j)) {xs zs : Array Value} {us : Array Value} {ops : Array Oper} {i : Nat} {l : List Nat} {o : Oper} {a : Act} {w wc : World} {h0 : List Obj} {f : FuncId} {args : Array Value} {fn : Func} {c : Code} {e : Ex} {ys : List Value} {a2 : Act} {w2 : World} {v : Value} {e3 : Ex} {a3 : Act} {w3 : World}
    (hi : ops[i]? = some o) (hda : a.defers = []) (hg : guardOk ops o a.tmps = true) (hwt : Region.wanted o (yielded ops a.tmps) = true) (hc : o.op.operands.toList.all (constOk G) = true) (hd : isDefer o.op = false)
    (he : evOp P Orc.none a.eval o w = some (.enter f args, wc)) (hwc : wc.heap.toList = h0) (hf : P.funcs[f]? = some fn) (hb : fn.body = some c) (hz : zs.size = xs.size)
    (hs : Seg1 P σ W0 H G (xs ++ a.tmps) (.code c) { tmps := args ++ Array.replicate (fn.ntmps - args.size) undef, defers := [] } (mkW h0) e (zs ++ ys.toArray) a2 w2) (hex : e = .normal ∨ e = .ret) (hv : retVal P fn a2.tmps w2 = some v)
    (h2 : Seg1 P σ W0 H G zs (.ops ops l) ((mkA ys).put o.dst v) w2 e3 us a3 w3) : Seg1 P σ W0 H G xs (.ops ops (i :: l)) a w e3 us a3 w3 := by
  intro D0 D A a' w' xs' h0D hx ha hG hw Q hQ
  show wpOpsIn (FW none) 0 P ops Q (i :: l) a' w'
  rw [wpOpsIn_cons]
  have hwant := wanted_rel (ops := ops) (o := o) ha hg
  unfold wpOpIn
  simp only [hi]
  rw [if_pos (by rw [hwant]; exact hwt)]
  have hr : ∀ x ∈ o.op.operands, RV σ A (a.eval x) (a'.eval x) := fun x hx => ha.eval hG (by
    rw [List.all_eq_true] at hc
    exact hc x (by simpa using hx))
  refine ⟨fun _ _ => trivial, ?_⟩
  rw [Oper.semAt_plain (FW none) a'.eval o (fun c hc => by rw [hc] at hd; cases hd)]
  obtain ⟨B, n', w1', k1, k2, k3, k4⟩ := evOp_sound hσ (OrcOK.none P σ W0 H) hr hw he
  cases k4 with
  | enter _ _ args' hargs =>
    rw [k1, Oper.uponIn_enter]
    refine ⟨fun hh => (by cases hh), ?_⟩
    refine CallsIn.mono (F := FW none) (callsIn_of_wp_marks (R := fun e w'' => match e with | .returned v => wpOpsIn (FW none) 0 P ops Q l (a'.put o.dst v) w'' | .panicked chain => Q (.panic chain) a' w'' | .outgrown => LetsOut Q) (F := FW none) hf hb trivial ?_ rfl) ?_
    · refine hs D D B _ w1' (xs' ++ a'.tmps) (fun k hk => hk) ((hx.mono k2).app (ha.1.mono k2)) ⟨rar_undef hargs fn.ntmps, rfl, [], rfl, List.nodup_nil, fun k hk => (by cases hk)⟩ (hG.mono k2) (k3.same (by rw [← hwc]; rfl) rfl) _ ?_
      intro C D1 a1' w2' hD hys ha1 hG1 hw1
      obtain ⟨hat, _, ks, hks, hnd, hkk⟩ := ha1
      obtain ⟨hzs, hys⟩ := rar_split (hz.trans hx.1) hys
      have fin : LeavesInM (FW none) 0 P fn a1'.tmps (fun e w'' => match e with | .returned v => wpOpsIn (FW none) 0 P ops Q l (a'.put o.dst v) w'' | .panicked chain => Q (.panic chain) a' w'' | .outgrown => LetsOut Q) a1'.defers .returning w2' := by
        rw [hks]
        refine leaves_marks (D0 := D) (E := []) (Rs := []) (fun g hg => (by cases hg)) (fun w3' hw3 => ?_) ks D1 w2' hnd hkk hD hw1
        obtain ⟨B3, v', h1, h4, h5, h6⟩ := retVal_sound (P := P) hσ hat hw3 hv
        refine ⟨v', h1, ?_⟩
        refine h2 D0 D B3 (a'.put o.dst v') w3' xs' h0D (hzs.mono h4) ?_ (hG1.mono h4) h6 Q hQ
        exact RAct.put (a := mkA ys) (a' := a') ⟨hys.mono h4, rfl, ha.2.2⟩ o.dst h5
      rcases hex with rfl | rfl <;> exact fin
    · intro e w2 he
      cases e <;> exact he
/-- Operations in two lots. -/
theorem upon_then {F : Fence} {n : Nat} {o : Oper} {a : Act} {next : Act → World → Prop} {R : Act → World → Prop} {Q : Exit → Act → World → Prop} (r : Result Next) : o.uponIn F n P a next (Exit.then R Q) r = o.uponIn F n P a next Q r := by
  cases r with
  | ok m w => cases m <;> rfl
  | halt x w => cases x <;> rfl
theorem opIn_then {F : Fence} {n : Nat} {ops : Array Oper} {i : Nat} {K : Act → World → Prop} {R : Act → World → Prop} {Q : Exit → Act → World → Prop} {a : Act} {w : World} (h : wpOpIn F n P ops (Exit.then R Q) i K a w) : wpOpIn F n P ops Q i K a w := by
  unfold wpOpIn at h ⊢
  split
  · rename_i hn
    rw [hn] at h
    exact h
  · rename_i o ho
    rw [ho] at h
    simp only [] at h
    split
    · rename_i hw
      rw [if_pos hw] at h
      refine ⟨h.1, ?_⟩
      have := h.2
      rw [upon_then] at this
      exact this
    · rename_i hw
      rw [if_neg hw] at h
      exact h
theorem Seg1.opsApp {xs ys zs : Array Value} {ops : Array Oper} {l1 l2 : List Nat} {a a1 a2 : Act} {w w1 w2 : World} {e : Ex} (h1 : Seg1 P σ W0 H G xs (.ops ops l1) a w .normal ys a1 w1) (h2 : Seg1 P σ W0 H G ys (.ops ops l2) a1 w1 e zs a2 w2) : Seg1 P σ W0 H G xs (.ops ops (l1 ++ l2)) a w e zs a2 w2 := by
  refine h1.two h2 fun Q a' w' h => ?_
  show wpOpsIn (FW none) 0 P ops Q (l1 ++ l2) a' w'
  have h : wpOpsIn (FW none) 0 P ops (Exit.then (wpOpsIn (FW none) 0 P ops Q l2) Q) l1 a' w' := h
  clear h1 h2
  induction l1 generalizing a' w' with
  | nil => exact h
  | cons i l ih =>
    rw [List.cons_append, wpOpsIn_cons]
    rw [wpOpsIn_cons] at h
    exact wpOpIn_mono (fun a w hh => ih a w hh hh) (opIn_then h)
def isReg : Code → Bool
  | .region _ _ false => true
  | _ => false
def regOps : Code → Array Oper
  | .region _ ops _ => ops
  | _ => #[]
theorem Seg1.regionP {xs ys : Array Value} {c : Code} (hc : isReg c = true) {a a1 : Act} {w w1 : World} {e : Ex} (h : Seg1 P σ W0 H G xs (.ops (regOps c) (List.range (regOps c).size)) a w e ys a1 w1) : Seg1 P σ W0 H G xs (.code c) a w e ys a1 w1 := by
  unfold isReg at hc
  split at hc
  · exact fun D0 D A a' w' xs' h0 hx ha hG hw Q hQ => wpIn_region (h D0 D A a' w' xs' h0 hx ha hG hw Q hQ)
  · cases hc
/-- Operation i calls f: its frame. -/
def callChk (P : Program) (G : Nat) (ops : Array Oper) (i : Nat) (l : List Value) (h : List Obj) (f : FuncId) (l0 : List Value) : Bool := match ops[i]?, P.funcs[f]? with
  | some o, some fn => fn.body.isSome && guardOk ops o (mkA l).tmps && Region.wanted o (yielded ops (mkA l).tmps) && o.op.operands.toList.all (constOk G) && !isDefer o.op &&
    (match evOp P Orc.none (mkA l).eval o (mkW h) with
     | some (.enter g as, w1) => g == f && beqL (beqV 12) (as ++ Array.replicate (fn.ntmps - as.size) undef).toList l0 && heapEq w1.heap.toList h
     | _ => false)
  | _, _ => false
def retChk (P : Program) (ops : Array Oper) (i : Nat) (f : FuncId) (l2 : List Value) (h2 : List Obj) (ys l' : List Value) : Bool := match ops[i]?, P.funcs[f]? with
  | some o, some fn => (match retVal P fn (mkA l2).tmps (mkW h2) with
    | some v => beqL (beqV 12) ((mkA ys).put o.dst v).tmps.toList l'
    | none => false)
  | _, _ => false
theorem Seg1.regionCall (hσ : ∀ j, OneC (σ j)) {xs r R : List Value} {n : Nat} {us : Array Value} {c : Code} (hr : isReg c = true) {i : Nat} {a : Act} {w : World} {l : List Value} {h : List Obj} {f : FuncId} {l0 l2 l' : List Value} {h2 : List Obj} {e e3 : Ex} {a3 : Act} {w3 : World}
    (hl : List.range (regOps c).size = List.range i ++ i :: (List.range (regOps c).size).drop (i + 1))
    (hpre : Seg1 P σ W0 H G xs.toArray (.ops (regOps c) (List.range i)) a w .normal r.toArray (mkA l) (mkW h))
    (hc : callChk P G (regOps c) i l h f l0 = true) (hz : n = r.length) (hz2 : n ≤ R.length)
    (hs : Seg1 P σ W0 H G (r ++ l).toArray (.code (bodyOf P f)) (mkA l0) (mkW h) e R.toArray (mkA l2) (mkW h2)) (hex : e = .normal ∨ e = .ret)
    (hv : retChk P (regOps c) i f l2 h2 (R.drop n) l' = true)
    (hpost : Seg1 P σ W0 H G (R.take n).toArray (.ops (regOps c) ((List.range (regOps c).size).drop (i + 1))) (mkA l') (mkW h2) e3 us a3 w3) : Seg1 P σ W0 H G xs.toArray (.code c) a w e3 us a3 w3 := by
  refine Seg1.regionP hr ?_
  rw [hl]
  refine Seg1.opsApp hpre ?_
  generalize regOps c = ops at *
  unfold callChk at hc
  unfold retChk at hv
  split at hc
  case h_2 => cases hc
  rename_i o fn ho hf
  rw [ho, hf] at hv
  simp only [] at hv
  simp only [Bool.and_eq_true] at hc
  obtain ⟨⟨⟨⟨⟨hb, hg⟩, hwt⟩, hco⟩, hd⟩, hm⟩ := hc
  split at hm
  case h_2 => cases hm
  rename_i g as w1 he
  simp only [Bool.and_eq_true] at hm
  obtain ⟨⟨m1, m2⟩, m3⟩ := hm
  have m1 := eq_of_beq m1
  subst m1
  have m2 := beqL_eq (fun x y hxy => beqV_eq hxy) m2
  have m3 := heapEq_eq m3
  split at hv
  case h_2 => cases hv
  rename_i v hrv
  have hv := beqL_eq (fun x y hxy => beqV_eq hxy) hv
  obtain ⟨cb, hcb⟩ := Option.isSome_iff_exists.1 hb
  have eb : bodyOf P g = cb := by
    unfold bodyOf
    rw [hf]
    simp [hcb]
  rw [eb] at hs
  have ef : mkA l0 = { tmps := as ++ Array.replicate (fn.ntmps - as.size) undef, defers := [] } := by
    unfold mkA
    congr 1
    rw [← m2]
  rw [ef] at hs
  have ep : mkA l' = (mkA (R.drop n)).put o.dst v := by
    have e1 : ((mkA (R.drop n)).put o.dst v).defers = [] := by
      cases o.dst <;> rfl
    generalize (mkA (R.drop n)).put o.dst v = q at hv e1
    obtain ⟨⟨t⟩, d⟩ := q
    simp only [] at hv e1
    subst hv e1
    rfl
  rw [ep] at hpost
  have e1 : (r ++ l).toArray = r.toArray ++ (mkA l).tmps := by simp [mkA]
  have e2 : R.toArray = (R.take n).toArray ++ (R.drop n).toArray := by rw [List.append_toArray, List.take_append_drop]
  rw [e1, e2] at hs
  exact Seg1.opCall hσ ho rfl hg hwt hco (by simpa using hd) he m3 hf hcb (by simp; omega) hs hex hrv hpost
end
end Go.Proofs.YtfppinabdalblaaGreat
