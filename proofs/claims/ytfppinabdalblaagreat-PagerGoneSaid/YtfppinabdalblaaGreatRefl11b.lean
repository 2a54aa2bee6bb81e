/- Reflection, 11b: a region that draws its order, whole. No program is named here. -/
import Derived.Test.YtfppinabdalblaaGreatRefl11
namespace Go.Proofs.YtfppinabdalblaaGreat
open Go.RowKit
set_option linter.unusedVariables false
set_option linter.unusedSimpArgs false
section
variable {P : Program} {σ : Nat → Value} {W0 : World} {H : Nat} {O : Orc} {E : List LoopI} {G : Nat} {ih : Ih} {ops : Array Oper}

/-- Blocks that the other side has made already are made here too. -/
theorem flush {base : Nat} {a0 F : Act} {w0 : World} {vs : List Value} {ls : List Loud} (D : DrawFacts ih P O E G ops base a0 F w0 vs ls) {Γ : Gst} {A : Ren} {w' : World} {s : Nat} : ∀ (n : Nat),
    WR σ W0 H Γ A (worldAt w0 ls s) w' → (∀ (j : Nat) (k : Loud), s ≤ j → j < s + n → ls[j]? = some k → ∃ b cs e sh, k.k = some (b, cs, e, sh) ∧ ⟨b, cs, e, sh⟩ ∈ Γ.R) → s + n ≤ ls.length →
    ∃ R, WR σ W0 H ⟨Γ.E, Γ.D, R⟩ A (worldAt w0 ls (s + n)) w' ∧ ∀ p : ResG, p ∈ R ↔ p ∈ Γ.R ∧ ∀ (j : Nat) (k : Loud) (b : Nat) (cs : Array Value) (e : TypeId) (sh : Shp), s ≤ j → j < s + n → ls[j]? = some k → k.k = some (b, cs, e, sh) → p.b ≠ b
  | 0, hw, hk, hl => ⟨Γ.R, hw, fun p => ⟨fun hp => ⟨hp, fun j k b cs e sh h1 h2 => by omega⟩, fun hp => hp.1⟩⟩
  | n + 1, hw, hk, hl => by
    obtain ⟨R, h1, h2⟩ := flush D n hw (fun j k hj1 hj2 => hk j k hj1 (by omega)) (by omega)
    obtain ⟨l, hll⟩ : ∃ l, ls[s + n]? = some l := ⟨ls[s + n]'(by omega), List.getElem?_eq_getElem _⟩
    obtain ⟨b, cs, e, sh, hlk, hmem⟩ := hk (s + n) l (by omega) (by omega) hll
    obtain ⟨o, v, q1, q2, q3⟩ := loudsOk_at D.louds hll
    rw [hlk] at q3
    simp only [] at q3
    obtain ⟨k1, k2, k3, kc, k4, k5⟩ := q3
    have hcl := maker_closed k1
    have hmem2 : (⟨b, cs, e, sh⟩ : ResG) ∈ R := (h2 _).2 ⟨hmem, fun j k b' cs' e' sh' hj1 hj2 hjk hkk => by
      have := (chain_at D.chain hjk hll hj2).2.2 _ _ hlk hkk
      exact this⟩
    have hf := h1.fill hmem2 hcl
    have hwe : worldAt w0 ls (s + (n + 1)) = (worldAt w0 ls (s + n)).putObj b (smallO cs e sh) := by
      rw [← k5]
      show worldAt w0 ls (s + n + 1) = l.w
      simp [worldAt, hll]
    refine ⟨R.filter (fun p => p.b ≠ b), by rw [hwe]; exact hf, fun p => ?_⟩
    rw [List.mem_filter, h2]
    constructor
    · rintro ⟨⟨m1, m2⟩, m3⟩
      refine ⟨m1, fun j k b' cs' e' sh' hj1 hj2 hjk hkk => ?_⟩
      rcases Nat.lt_or_ge j (s + n) with h5 | h5
      · exact m2 j k b' cs' e' sh' hj1 h5 hjk hkk
      · have : j = s + n := by omega
        subst this
        rw [hll] at hjk
        cases hjk
        rw [hlk] at hkk
        cases hkk
        simpa using m3
    · rintro ⟨m1, m2⟩
      exact ⟨⟨m1, fun j k b' cs' e' sh' hj1 hj2 => m2 j k b' cs' e' sh' hj1 (by omega)⟩, by simpa using m2 (s + n) l b cs e sh (by omega) (by omega) hll hlk⟩

/-- What the other side has made already. -/
structure Ahead (ls : List Loud) (base : Nat) (R0 : List ResG) (s : Nat) (listed : Array Bool) (R : List ResG) : Prop where
  low : ∀ p ∈ R0, p.b < base
  old : ∀ p ∈ R0, p ∈ R
  only : ∀ p ∈ R, p ∈ R0 ∨ ∃ (m : Nat) (l : Loud) (b : Nat) (cs : Array Value) (e : TypeId) (sh : Shp), ls[m]? = some l ∧ s ≤ m ∧ listed.getD l.i false = true ∧ l.k = some (b, cs, e, sh) ∧ p = ⟨b, cs, e, sh⟩
  each : ∀ (m : Nat) (l : Loud) (b : Nat) (cs : Array Value) (e : TypeId) (sh : Shp), ls[m]? = some l → s ≤ m → listed.getD l.i false = true → l.k = some (b, cs, e, sh) → ⟨b, cs, e, sh⟩ ∈ R

theorem draw_any {base : Nat} {a0 F : Act} {w0 : World} {vs : List Value} {ls : List Loud} (hσ : ∀ j, OneC (σ j)) (hO : OrcOK P σ W0 H O) (hih : IhOK P σ W0 H G ih) {Γ : Gst} (hE : Γ.E.map (·.L) = E) {D0 : List Nat} (r : Option Nat) (D : DrawFacts ih P O E G ops base a0 F w0 vs ls) {Q : Exit → Act → World → Prop} {A0 : Ren}
    (hQ : ∀ B F' w1', A0.le B → RAct σ B D0 Γ.D F F' → WR σ W0 H Γ B (lastW w0 ls) w1' → Q .normal F' w1') : ∀ (fuel s : Nat) (listed : Array Bool) (a a' : Act) (w w' : World) (A : Ren) (R : List ResG), left ops.size listed ≤ fuel → Inv ops a0 F w0 ls s listed a w → Ahead ls base Γ.R s listed R →
    A0.le A → RAct σ A D0 Γ.D a a' → GR G A → WR σ W0 H ⟨Γ.E, Γ.D, R⟩ A w w' → wpAnyIn (FW r) 0 P .any ops Q fuel listed a' w' := by
  have fin : ∀ (s : Nat) (listed : Array Bool) (a a' : Act) (w w' : World) (A : Ren) (R : List ResG), Inv ops a0 F w0 ls s listed a w → Ahead ls base Γ.R s listed R → A0.le A → RAct σ A D0 Γ.D a a' → WR σ W0 H ⟨Γ.E, Γ.D, R⟩ A w w' → Region.ready .any ops listed = [] → Q .normal a' w' := by
    intro s listed a a' w w' A R I hR hA ha hw hr
    obtain ⟨rfl, hall⟩ := draw_end D I hr
    rw [I.hw] at hw
    have hdd : ∀ g ∈ Γ.E, g.dd ∈ Γ.D := fun g hg => (hw.loops g hg).2.2.2.2
    obtain ⟨R', h1, h2⟩ := flush D (ls.length - s) hw (fun j k hj1 hj2 hjk => by
      obtain ⟨k1, k2⟩ := hall j k hj1 hjk
      cases hk : k.k with
      | none => rw [hk] at k1; cases k1
      | some x => exact ⟨x.1, x.2.1, x.2.2.1, x.2.2.2, rfl, hR.each j k x.1 x.2.1 x.2.2.1 x.2.2.2 hjk hj1 k2 hk⟩) (by have := I.le; omega)
    have e : s + (ls.length - s) = ls.length := by have := I.le; omega
    rw [e, lastW_at] at h1
    refine hQ A a' w' hA ha (h1.sub (Γ' := Γ) (fun g hg => hg) (fun k hk => hk) (fun p hp => ?_) (fun p hp _ => ?_) hdd)
    · refine (h2 p).2 ⟨hR.old p hp, fun j k b cs e sh hj1 hj2 hjk hkk hb => ?_⟩
      have := (D.apart j k b cs e sh hjk hkk).1
      have := hR.low p hp
      omega
    · obtain ⟨m1, m2⟩ := (h2 p).1 hp
      rcases hR.only p m1 with h3 | ⟨m, l, b, cs, e, sh, h3, h4, h5, h6, rfl⟩
      · exact ⟨p, h3, rfl⟩
      · refine absurd rfl (m2 m l b cs e sh h4 ?_ h3 h6)
        have : m < ls.length := by
          rcases Nat.lt_or_ge m ls.length with h8 | h8
          · exact h8
          · rw [List.getElem?_eq_none h8] at h3; cases h3
        omega
  intro fuel
  induction fuel with
  | zero =>
    intro s listed a a' w w' A R hl I hR hA ha hG hw
    have hr : Region.ready .any ops listed = [] := by
      cases hrd : Region.ready .any ops listed with
      | nil => rfl
      | cons i rs =>
        have : i ∈ Region.ready .any ops listed := by rw [hrd]; simp
        obtain ⟨hun, o, ho, _⟩ := mem_ready.1 this
        have hm : i ∈ (List.range ops.size).filter fun i => !listed.getD i true := by
          rw [List.mem_filter, List.mem_range]
          exact ⟨(Array.getElem?_eq_some_iff.1 ho).1, by rw [hun]; rfl⟩
        unfold left at hl
        have := List.length_pos_of_mem hm
        omega
    exact ⟨hr, fin s listed a a' w w' A R I hR hA ha hw hr⟩
  | succ fuel ihf =>
    intro s listed a a' w w' A R hl I hR hA ha hG hw
    refine ⟨fin s listed a a' w w' A R I hR hA ha hw, fun i hi => ?_⟩
    have hless : left ops.size (listed.setIfInBounds i true) ≤ fuel := by
      obtain ⟨hun, _⟩ := mem_ready.1 hi
      obtain ⟨_, o, ho, _⟩ := mem_ready.1 hi
      have hil : i < ops.size := (Array.getElem?_eq_some_iff.1 ho).1
      have : left ops.size (listed.setIfInBounds i true) < left ops.size listed := by
        unfold left
        refine filter_lt (fun x hx h => ?_) ⟨i, List.mem_range.2 hil, by rw [hun]; rfl, ?_⟩
        · by_cases e : i = x
          · subst e; rw [hun]; rfl
          · rw [getD_set_ne _ e] at h; exact h
        · have hiL : i < listed.size := by rw [I.sz]; exact hil
          simp [Array.getD_eq_getD_getElem?, Array.getElem?_setIfInBounds, hiL]
      omega
    have hiL : i < listed.size := by
      obtain ⟨_, o, ho, _⟩ := mem_ready.1 hi
      rw [I.sz]; exact (Array.getElem?_eq_some_iff.1 ho).1
    have hun' : listed.getD i false = false := by
      obtain ⟨hun, _⟩ := mem_ready.1 hi
      simp only [Array.getD_eq_getD_getElem?, Array.getElem?_eq_getElem hiL, Option.getD_some] at hun ⊢
      exact hun
    obtain ⟨o, ho, hcase⟩ := draw_step D I hi
    rcases hcase with ⟨v, w1, hv, hcl, hsame, hno, I'⟩ | ⟨v, m, l, hm, hli, hk, hsm, hfl, hv, I'⟩ | ⟨m, l, b, cs, e, sh, hm, hli, hk, hsm, hal, hg, hwt, hco, I'⟩
    · have hR' : Ahead ls base Γ.R s (listed.setIfInBounds i true) R := by
        have same : ∀ l : Loud, l ∈ ls → (listed.setIfInBounds i true).getD l.i false = listed.getD l.i false := fun l hl => by
          rw [listed_set hiL, if_neg (fun e => hno l hl e.symm)]
        refine ⟨hR.low, hR.old, fun p hp => ?_, fun m l b cs e sh h1 h2 h3 h4 => hR.each m l b cs e sh h1 h2 (by rw [same l (List.mem_of_getElem? h1)] at h3; exact h3) h4⟩
        rcases hR.only p hp with h1 | ⟨m, l, b, cs, e, sh, h1, h2, h3, h4⟩
        · exact .inl h1
        · exact .inr ⟨m, l, b, cs, e, sh, h1, h2, by rw [same l (List.mem_of_getElem? h1)]; exact h3, h4⟩
      refine evVal_sound (Γ := ⟨Γ.E, Γ.D, R⟩) hσ hO hih hE ho hv ha hG hw r ?_
      intro B a1' w1' hB ha1 hw1
      rcases hcl with hcl | hcl
      · exact ihf s _ _ a1' _ w1' B R hless I' hR' (hA.trans hB) ha1 (hG.mono hB) (hw1.same hcl.symm hw.tape)
      · refine ihf s _ _ a1' _ w1' A R hless I' hR' hA ⟨⟨ha1.1.1, fun j u u' hu hu' => ?_⟩, ha1.2⟩ hG (hw.restrict hw1 hB hsame)
        have h0 := ha.put o.dst (closed_rv (σ := σ) (A := A) hcl)
        obtain ⟨u0, h1, h2⟩ := h0.1.get hu
        exact h2.back hB hw1.gun (ha1.1.2 j u u' hu hu')
    · have hmlt : m < ls.length := by
        rcases Nat.lt_or_ge m ls.length with h5 | h5
        · exact h5
        · rw [List.getElem?_eq_none h5] at hm; cases hm
      rw [I.hw] at hw
      obtain ⟨R', h1, h2⟩ := flush D (m - s) hw (fun j k hj1 hj2 hjk => by
        obtain ⟨k1, k2⟩ := hfl j k hj1 (by omega) hjk
        cases hkk : k.k with
        | none => rw [hkk] at k1; cases k1
        | some x => exact ⟨x.1, x.2.1, x.2.2.1, x.2.2.2, rfl, hR.each j k x.1 x.2.1 x.2.2.1 x.2.2.2 hjk hj1 k2 hkk⟩) (by omega)
      have e : s + (m - s) = m := by omega
      rw [e] at h1 h2
      have hne : ∀ m' l', ls[m']? = some l' → m' ≠ m → l'.i ≠ i := by
        intro m' l' hm' e
        rw [← hli]
        rcases Nat.lt_or_gt_of_ne e with h5 | h5
        · exact ((chain_at D.chain hm' hm h5).2.1).symm
        · exact (chain_at D.chain hm hm' h5).2.1
      have hR' : Ahead ls base Γ.R (m + 1) (listed.setIfInBounds i true) R' := by
        refine ⟨hR.low, fun p hp => (h2 p).2 ⟨hR.old p hp, fun j k b cs e sh hj1 hj2 hjk hkk hb => ?_⟩, fun p hp => ?_, fun m' l' b cs e sh h3 h4 h5 h6 => ?_⟩
        · have := (D.apart j k b cs e sh hjk hkk).1
          have := hR.low p hp
          omega
        · obtain ⟨m1, m2⟩ := (h2 p).1 hp
          rcases hR.only p m1 with h3 | ⟨m', l', b, cs, e, sh, h3, h4, h5, h6, rfl⟩
          · exact .inl h3
          · rcases Nat.lt_trichotomy m' m with h7 | h7 | h7
            · exact absurd rfl (m2 m' l' b cs e sh h4 h7 h3 h6)
            · subst h7; rw [hm] at h3; cases h3; rw [hk] at h6; cases h6
            · refine .inr ⟨m', l', b, cs, e, sh, h3, h7, ?_, h6, rfl⟩
              rw [listed_set hiL, if_neg (fun e2 => hne m' l' h3 (by omega) e2.symm)]
              exact h5
        · have hne2 : m' ≠ m := by omega
          rw [listed_set hiL, if_neg (fun e2 => hne m' l' h3 hne2 e2.symm)] at h5
          refine (h2 _).2 ⟨hR.each m' l' b cs e sh h3 (by omega) h5 h6, fun j k b' cs' e' sh' hj1 hj2 hjk hkk => ?_⟩
          exact (chain_at D.chain hjk h3 (by omega)).2.2 _ _ h6 hkk
      refine evVal_sound (Γ := ⟨Γ.E, Γ.D, R'⟩) hσ hO hih hE ho hv ha hG h1 r ?_
      intro B a1' w1' hB ha1 hw1
      exact ihf (m + 1) _ _ a1' _ w1' B R' hless I' hR' (hA.trans hB) ha1 (hG.mono hB) hw1
    · obtain ⟨hbase, h9⟩ := D.apart m l b cs e sh hm hk
      have p9 := h9 s hsm
      rw [← I.hw] at p9
      have p9 := pcode_some p9
      have hd : ¬ A.d b := fun hdb => by
        obtain ⟨p, hp, hpb⟩ := hw.resd b hdb p9
        rcases hR.only p hp with h3 | ⟨m', l', b', cs', e', sh', h3, h4, h5, h6, rfl⟩
        · have := hR.low p h3; omega
        · have hpb : b' = b := hpb
          rcases Nat.lt_trichotomy m' m with h7 | h7 | h7
          · exact (chain_at D.chain h3 hm h7).2.2 _ _ hk h6 hpb.symm
          · subst h7; rw [hm] at h3; cases h3; rw [hli, hun'] at h5; cases h5
          · exact (chain_at D.chain hm h3 h7).2.2 _ _ h6 hk hpb
      have hle := A.push_le hd w'.heap.size
      have hwant := wanted_rel (ops := ops) (o := o) ha hg
      unfold wpOpIn
      simp only [ho]
      rw [if_pos (by rw [hwant]; exact hwt)]
      refine ⟨fun _ _ => trivial, ?_⟩
      have hops : ∀ x ∈ o.op.operands, RV σ A (a.eval x) (a'.eval x) := fun x hx => ha.eval hG (by
        rw [List.all_eq_true] at hco
        exact hco x (by simpa using hx))
      rw [Oper.semAt_plain (FW r) a'.eval o (fun c hc => by have := maker_isMaker hal; rw [hc] at this; cases this), (run_maker hσ hal hops _).1, Oper.uponIn_value]
      have hv : RV σ (A.push b w'.heap.size) (mkv b sh) (mkv w'.heap.size sh) := by
        cases sh with
        | mp =>
          have := RV.map (σ := σ) (A := A.push b w'.heap.size) b (.inr rfl)
          rw [A.push_at] at this
          exact this
        | ptr =>
          have := RV.ptr (σ := σ) (A := A.push b w'.heap.size) ⟨b, 0, none⟩ (.inr rfl)
          unfold Ren.addr at this
          rw [A.push_at] at this
          exact this
        | sl n =>
          have := RV.slice (σ := σ) (A := A.push b w'.heap.size) ⟨b, 0, none⟩ n n n (.inr rfl) (Nat.le_refl _) id rfl
          unfold Ren.addr at this
          rw [A.push_at] at this
          exact this
      refine ihf s _ _ _ _ _ (A.push b w'.heap.size) (⟨b, cs, e, sh⟩ :: R) hless I' ⟨hR.low, fun p hp => List.mem_cons_of_mem _ (hR.old p hp), fun p hp => ?_, fun m' l' b' cs' e' sh' h3 h4 h5 h6 => ?_⟩ (hA.trans hle) ((ha.mono hle fun k hk => hk).put _ hv) (hG.mono hle) (hw.early p9 hd cs e sh)
      · rcases List.mem_cons.1 hp with rfl | hp
        · exact .inr ⟨m, l, b, cs, e, sh, hm, hsm, by rw [hli, listed_set hiL, if_pos rfl], hk, rfl⟩
        · rcases hR.only p hp with h3 | ⟨m', l', b', cs', e', sh', h3, h4, h5, h6⟩
          · exact .inl h3
          · refine .inr ⟨m', l', b', cs', e', sh', h3, h4, ?_, h6⟩
            rw [listed_set hiL]
            split
            · rfl
            · exact h5
      · rw [listed_set hiL] at h5
        split at h5
        · rename_i e2
          rcases Nat.lt_trichotomy m' m with h7 | h7 | h7
          · exact absurd (hli.trans e2) (chain_at D.chain h3 hm h7).2.1
          · subst h7; rw [hm] at h3; cases h3; rw [hk] at h6; cases h6; exact List.mem_cons_self
          · exact absurd (hli.trans e2).symm (chain_at D.chain hm h3 h7).2.1
        · exact List.mem_cons_of_mem _ (hR.each m' l' b' cs' e' sh' h3 h4 h5 h6)
theorem reserveN_rel : ∀ (n : Nat) {Γ : Gst} {A : Ren} {w w' : World}, WR σ W0 H Γ A w w' → WR σ W0 H Γ A (reserveN n w) w'
  | 0, _, _, _, _, h => h
  | n + 1, _, _, _, _, h => reserveN_rel n h.reserve
theorem evDraw_sound (hσ : ∀ j, OneC (σ j)) (hO : OrcOK P σ W0 H O) (hih : IhOK P σ W0 H G ih) {Γ : Gst} (hE : Γ.E.map (·.L) = E) {D0 : List Nat} (r : Option Nat) {a F a' : Act} {w w1 w' : World} (h : evDraw ih P O E G ops a w = some (F, w1)) {A : Ren} (ha : RAct σ A D0 Γ.D a a') (hG : GR G A) (hw : WR σ W0 H Γ A w w') {Q : Exit → Act → World → Prop}
    (hQ : ∀ B F' w1', A.le B → RAct σ B D0 Γ.D F F' → WR σ W0 H Γ B w1 w1' → Q .normal F' w1') : wpAnyIn (FW r) 0 P .any ops Q ops.size (Array.replicate ops.size false) a' w' := by
  unfold evDraw at h
  split at h
  case h_2 => cases h
  rename_i F0 w2 vs ls hrun
  split at h
  case isFalse => cases h
  rename_i hd
  cases h
  obtain ⟨us, ls2, h1, h2, h3, h4, h5⟩ := runC_spec ops.toList 0 a _ [] [] _ F w1 vs ls hrun (fun j => by simp) rfl
  simp only [List.nil_append] at h1 h3
  subst h1; subst h3
  have D := drawFacts hd h4
  have hf : ∀ j, (Array.replicate ops.size false).getD j false = false := fun j => by
    simp only [Array.getD_eq_getD_getElem?, Array.getElem?_replicate]
    split <;> rfl
  refine draw_any hσ hO hih hE r D (A0 := A) (fun B F' w1' hB hF hw1 => hQ B F' w1' hB hF (by rw [← h5]; exact hw1)) ops.size 0 (Array.replicate ops.size false) a a' (reserveN (allocs P ops) w) w' A Γ.R ?_ ?_ ?_ (Ren.le.refl A) ha hG (reserveN_rel (allocs P ops) hw)
  · unfold left
    exact Nat.le_trans (List.length_filter_le _ _) (by simp)
  · refine { sz := by simp, dc := fun i o ho hl => (by rw [hf] at hl; cases hl), le := Nat.zero_le _, hw := rfl, lo := fun m l hm h => absurd h (by omega), hi := fun m l hm _ hl => (by rw [hf] at hl; cases hl), tsz := D.size.symm, ton := fun i o t ho hd hl => (by rw [hf] at hl; cases hl), toff := fun t _ => rfl, df := ha.2.1 }
  · exact ⟨fun p hp => hw.size _ (hw.resv p hp).1, fun p hp => hp, fun p hp => .inl hp, fun m l b cs e sh _ _ hl => (by rw [hf] at hl; cases hl)⟩
end
end Go.Proofs.YtfppinabdalblaaGreat
