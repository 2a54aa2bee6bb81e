/- Reflection, 8w: what loops over functions do to related worlds. No program is named here. -/
import Derived.Test.YtfppinabdalblaaGreatRefl8
namespace Go.Proofs.YtfppinabdalblaaGreat
open Go.RowKit
set_option linter.unusedVariables false
set_option linter.unusedSimpArgs false
section
variable {P : Program} {σ : Nat → Value} {W0 : World} {H : Nat} {Γ : Gst} {A : Ren} {w w' : World}

theorem WR.sub {Γ' : Gst} (h : WR σ W0 H Γ A w w') (hE : ∀ g ∈ Γ'.E, g ∈ Γ.E) (hD : ∀ k ∈ Γ'.D, k ∈ Γ.D) (hR : ∀ p ∈ Γ'.R, p ∈ Γ.R) (hR2 : ∀ p ∈ Γ.R, w.heap[p.b]? = some (.pending #[] 9) → ∃ q ∈ Γ'.R, q.b = p.b) (hdd : ∀ g ∈ Γ'.E, g.dd ∈ Γ'.D) : WR σ W0 H Γ' A w w' :=
  { tape := h.tape, size := h.size, full := h.full, lt := h.lt, inj := h.inj, obj := h.obj, ext := h.ext, hle := h.hle,
    loops := fun g hg => (fun ⟨h1, h2, h3, h4, _⟩ => ⟨h1, h2, h3, h4, hdd g hg⟩) (h.loops g (hE g hg)),
    resv := fun p hp => h.resv p (hR p hp),
    resd := fun b hd hb => by
      obtain ⟨p, hp, e⟩ := h.resd b hd hb
      obtain ⟨q, hq, e2⟩ := hR2 p hp (by rw [e]; exact hb)
      exact ⟨q, hq, e2.trans e⟩,
    dead := fun k hk => h.dead k (hD k hk), long := h.long, grow := h.grow, gun := h.gun, gone := h.gone }
/-- A block for deferred calls, that this side alone has. -/
theorem WR.addD (h : WR σ W0 H Γ A w w') : WR σ W0 H ⟨Γ.E, w'.heap.size :: Γ.D, Γ.R⟩ A w (w'.alloc (.deferred (some []))) := by
  have h2 : WR σ W0 H Γ A w (w'.alloc (.deferred (some []))) := h.extR ((Ext.refl _).alloc _)
  exact
  { tape := h2.tape, size := h2.size, full := h2.full, lt := h2.lt, inj := h2.inj, obj := h2.obj, ext := h2.ext, hle := h2.hle,
    loops := fun g hg => (fun ⟨h1, h3, h4, h5, h6⟩ => ⟨h1, h3, h4, h5, List.mem_cons_of_mem _ h6⟩) (h2.loops g hg),
    resv := h2.resv, resd := h2.resd,
    dead := fun k hk => by
      rcases List.mem_cons.1 hk with rfl | hk
      · exact ⟨World.alloc_heap_new w' _, h.hle, fun b hb => by have := h.lt b hb; omega⟩
      · exact h2.dead k hk,
    long := h2.long, grow := h2.grow, gun := h2.gun, gone := h2.gone }
/-- A loop begins. -/
theorem WR.newLoop (h : WR σ W0 H Γ A w w') (g : LoopG) (hb : g.L.b = w.heap.size) (hg : RAr σ A g.L.tmps g.tmps) (hd : g.dd ∈ Γ.D) :
    WR σ W0 H ⟨g :: Γ.E, Γ.D, Γ.R⟩ (A.push w.heap.size w'.heap.size) { w with heap := w.heap.push (.pending #[] 0) } (w'.alloc (.loop (g.row 0))) := by
  have hi : ¬ A.d w.heap.size := fun hd => by have := h.size _ hd; omega
  have hle := A.push_le hi w'.heap.size
  have hf : ∀ b, A.d b → (A.push w.heap.size w'.heap.size).f b = A.f b := fun b hb => hle.2 b hb
  have hnew : (A.push w.heap.size w'.heap.size).f g.L.b = w'.heap.size := by rw [hb]; exact A.push_at _ _
  have h2 : WR σ W0 H Γ A w (w'.alloc (.loop (g.row 0))) := h.extR ((Ext.refl _).alloc _)
  refine { tape := h2.tape, size := fun b hb => ?_, full := fun b hb => ?_, lt := fun b hb => ?_, inj := push_inj hi (fun b hb e => by have := h.lt b hb; omega) h.inj, obj := fun b o ho => ?_, ext := h2.ext, hle := h2.hle, loops := fun k hk => ?_, resv := fun p hp => ?_, resd := fun b hd hpb => ?_, dead := fun k hk => ?_, long := fun b hb => (h2.long b hb).of (.inl (h2.long b hb).1) (hf b (h2.long b hb).1) (by simp only [Array.getElem?_push]; rw [if_neg (by have := h.size _ (h2.long b hb).1; omega)]) rfl, grow := fun b n u hb => (h.grow b n u hb).pushR hi rfl (by simp only [Array.getElem?_push]; rw [if_neg (by have := h.size _ (h.grow b n u hb).1; omega)]) (fun g2 hg2 => ((Ext.refl w').alloc (.loop (g.row 0))).block g2 hg2), gun := h.gun, gone := h.gone }
  · rcases hb with hb | hb
    · have := h.size b hb; simp; omega
    · subst hb; simp
  · simp at hb
    by_cases e : b = w.heap.size
    · exact .inl (.inr e)
    · rcases h.full b (by omega) with h1 | h1
      · exact .inl (.inl h1)
      · exact .inr (by rw [Array.getElem?_push, if_neg (by omega)]; exact h1)
  · rcases hb with hb | hb
    · rw [hle.2 b hb]; have := h.lt b hb; simp; omega
    · subst hb; rw [A.push_at]; simp
  · rw [Array.getElem?_push] at ho
    split at ho
    · cases ho
      exact .inl ⟨_, _, rfl⟩
    · rename_i hb2
      rcases h2.obj b o ho with h1 | ⟨cs1, e1, fz1, cs1', e1', fz1', h1, h2, h3, h4⟩
      · exact .inl h1
      · have hbn : A.d b := h.has (h1 ▸ ho)
        refine .inr ⟨cs1, e1, fz1, cs1', e1', fz1', h1, ?_, h3.mono hle, ?_⟩
        · rw [hf b hbn]; exact h2
        · rw [hf b hbn]; exact h4
  · rcases List.mem_cons.1 hk with rfl | hk
    · refine ⟨.inr hb, ⟨0, ?_, ?_⟩, hg.mono hle, by rw [hnew]; exact h.hle, hd⟩
      · rw [hb]; simp
      · rw [hnew]; exact World.alloc_heap_new w' _
    · obtain ⟨h1, ⟨c, h3, h4⟩, h5, h6, h7⟩ := h2.loops k hk
      refine ⟨.inl h1, ⟨c, ?_, ?_⟩, h5.mono hle, by rw [hf _ h1]; exact h6, h7⟩
      · rw [Array.getElem?_push, if_neg (by have := h.size _ h1; omega)]; exact h3
      · rw [hf _ h1]; exact h4
  · obtain ⟨h1, h3, h4, h5⟩ := h2.resv p hp
    refine ⟨.inl h1, ?_, ?_, by rw [hf _ h1]; exact h5⟩
    · rw [Array.getElem?_push, if_neg (by have := h.size _ h1; omega)]; exact h3
    · rw [hf _ h1]; exact h4
  · rw [Array.getElem?_push] at hpb
    split at hpb
    · cases hpb
    · rename_i hne
      rcases hd with hd | hd
      · exact h.resd b hd hpb
      · exact absurd hd hne
  · obtain ⟨h1, h3, h4⟩ := h2.dead k hk
    have hk2 := (Array.getElem?_eq_some_iff.1 (h.dead k hk).1).1
    refine ⟨h1, h3, fun b hb => ?_⟩
    rcases hb with hb | hb
    · rw [hf b hb]; exact h4 b hb
    · subst hb; rw [A.push_at]; omega
theorem pcode_some {b c : Nat} (h : pcode w b = some c) : w.heap[b]? = some (.pending #[] c) := by
  unfold pcode at h
  split at h
  · rename_i cs d hb
    split at h
    · rename_i he
      cases h
      have : cs = #[] := by simpa using he
      subst this
      exact hb
    · cases h
  · cases h
theorem WR.below_put (h : WR σ W0 H Γ A w w') {l : Nat} (hl : H ≤ l) (o : Obj) : Below H W0 (w'.putObj l o) :=
  h.ext.trans ⟨rfl, rfl, rfl, by simp, fun k hk => World.putObj_heap_other (by omega)⟩
/-- A loop's state is turned, on both sides. -/
theorem WR.setLoop (h : WR σ W0 H Γ A w w') {g : LoopG} (hg : g ∈ Γ.E) (c' : Nat) {d : Nat} (hdd : w.heap[g.L.b]? = some (.pending #[] d)) (hd9 : d ≠ 9) (hc' : c' ≠ 9) : WR σ W0 H Γ A (pset w g.L.b c') (w'.putObj (A.f g.L.b) (.loop (g.row c'))) := by
  obtain ⟨h1, ⟨c, h2, h3⟩, h4, h5, h6⟩ := h.loops g hg
  have hlt : A.f g.L.b < w'.heap.size := h.lt _ h1
  have hwl : g.L.b < w.heap.size := h.size _ h1
  have hc9 : ∀ p ∈ Γ.R, p.b ≠ g.L.b := fun p hp e => by
    have := (h.resv p hp).2.1
    rw [e, hdd] at this
    cases this
    exact hd9 rfl
  refine { tape := h.tape, size := fun b hb => by simpa [pset] using h.size b hb, full := fun b hb => ?_, lt := fun b hb => by simpa using h.lt b hb, inj := h.inj, obj := fun b o ho => ?_, ext := h.below_put h5 _, hle := by simpa using h.hle, loops := fun k hk => ?_, resv := fun p hp => ?_, resd := fun b hd hpb => ?_, dead := fun k hk => ?_, long := fun b hb => (h.long b hb).of (h.long b hb).1 rfl (by unfold pset; exact World.putObj_heap_other ((h.long b hb).ne hdd)) (World.putObj_heap_other (fun e2 => (h.long b hb).ne hdd (h.inj _ _ (h.long b hb).1 h1 e2))), grow := fun b n u hb => (h.grow b n u hb).of (Ren.le.refl A) (by unfold pset; exact World.putObj_heap_other ((h.grow b n u hb).ne h2 (fun cs e e3 => by cases e3; rfl))) (fun g2 _ _ _ _ hg2 hx => World.putObj_heap_other (fun e2 => hx g.L.b h1 (fun e3 => (h.grow b n u hb).ne h2 (fun cs e e4 => by cases e4; rfl) e3.symm) e2.symm)) (fun b' g2 hb' hne _ hg2 => hg2 b' hb' hne), gun := h.gun, gone := h.gone }
  · by_cases e : b = g.L.b
    · exact .inl (e ▸ h1)
    · rcases h.full b (by simpa [pset] using hb) with h7 | h7
      · exact .inl h7
      · exact .inr (by unfold pset; rw [World.putObj_heap_other e]; exact h7)
  · by_cases e : b = g.L.b
    · subst e
      unfold pset at ho
      rw [World.putObj_heap_same hwl] at ho
      cases ho
      exact .inl ⟨_, _, rfl⟩
    · unfold pset at ho
      rw [World.putObj_heap_other e] at ho
      rcases h.obj b o ho with h7 | ⟨cs1, e1, fz1, cs1', e1', fz1', h7, h8, h9, h10⟩
      · exact .inl h7
      · have hbn : A.d b := h.has (h7 ▸ ho)
        refine .inr ⟨cs1, e1, fz1, cs1', e1', fz1', h7, ?_, h9, h10⟩
        rw [World.putObj_heap_other (fun e2 => e (h.inj _ _ hbn h1 e2))]
        exact h8
  · obtain ⟨k1, ⟨d, k2, k3⟩, k4, k5, k6⟩ := h.loops k hk
    refine ⟨k1, ?_, k4, k5, k6⟩
    by_cases e : k.L.b = g.L.b
    · refine ⟨c', by rw [e]; exact World.putObj_heap_same hwl, ?_⟩
      rw [e, World.putObj_heap_same hlt]
      rw [e, h2] at k2
      cases k2
      rw [e, h3] at k3
      simp only [LoopG.row, Option.some.injEq, Obj.loop.injEq, Loop.mk.injEq, true_and] at k3 ⊢
      exact k3
    · refine ⟨d, ?_, ?_⟩
      · unfold pset; rw [World.putObj_heap_other e]; exact k2
      · rw [World.putObj_heap_other (fun e2 => e (h.inj _ _ k1 h1 e2))]; exact k3
  · obtain ⟨k1, k2, k3, k4⟩ := h.resv p hp
    refine ⟨k1, ?_, ?_, k4⟩
    · unfold pset; rw [World.putObj_heap_other (hc9 p hp)]; exact k2
    · rw [World.putObj_heap_other (fun e2 => hc9 p hp (h.inj _ _ k1 h1 e2))]; exact k3
  · unfold pset at hpb
    by_cases e : b = g.L.b
    · rw [e, World.putObj_heap_same hwl] at hpb
      cases hpb
      exact absurd rfl hc'
    · rw [World.putObj_heap_other e] at hpb
      exact h.resd b hd hpb
  · obtain ⟨k1, k2, k3⟩ := h.dead k hk
    exact ⟨(World.putObj_heap_other (fun e => k3 _ h1 e.symm)).trans k1, k2, k3⟩
/-- A loop that has ended. -/
theorem WR.putR (h : WR σ W0 H Γ A w w') {b c : Nat} (hb : w.heap[b]? = some (.pending #[] c)) (hbn : A.d b) (hH : H ≤ A.f b) (hE : ∀ g ∈ Γ.E, g.L.b ≠ b) (hc9 : c ≠ 9) (o : Obj) : WR σ W0 H Γ A w (w'.putObj (A.f b) o) := by
  have hR : ∀ p ∈ Γ.R, p.b ≠ b := fun p hp e => by
    have := (h.resv p hp).2.1
    rw [e, hb] at this
    cases this
    exact hc9 rfl
  refine { tape := h.tape, size := h.size, full := h.full, lt := fun b hb => by simpa using h.lt b hb, inj := h.inj, obj := fun k o2 ho => ?_, ext := h.below_put hH _, hle := by simpa using h.hle, loops := fun k hk => ?_, resv := fun p hp => ?_, resd := fun b hd hpb => ?_, dead := fun k hk => ?_, long := fun k hk => (h.long k hk).of (h.long k hk).1 rfl rfl (World.putObj_heap_other (fun e2 => (h.long k hk).ne hb (h.inj _ _ (h.long k hk).1 hbn e2))), grow := fun k n u hk => (h.grow k n u hk).of (Ren.le.refl A) rfl (fun g2 cs t fz _ hg2 hx => World.putObj_heap_other (fun e2 => hx b hbn (fun e3 => (h.grow k n u hk).ne hb (fun cs e e4 => by cases e4; rfl) e3.symm) e2.symm)) (fun b' g2 hb' hne _ hg2 => hg2 b' hb' hne), gun := h.gun, gone := h.gone }
  · rcases h.obj k o2 ho with h7 | ⟨cs1, e1, fz1, cs1', e1', fz1', h7, h8, h9, h10⟩
    · exact .inl h7
    · have hkn : A.d k := h.has (h7 ▸ ho)
      refine .inr ⟨cs1, e1, fz1, cs1', e1', fz1', h7, ?_, h9, h10⟩
      have hne : k ≠ b := fun e => by subst e; rw [hb] at ho; cases ho; cases h7
      rw [World.putObj_heap_other (fun e2 => hne (h.inj _ _ hkn hbn e2))]
      exact h8
  · obtain ⟨k1, ⟨d, k2, k3⟩, k4⟩ := h.loops k hk
    refine ⟨k1, ⟨d, k2, ?_⟩, k4⟩
    rw [World.putObj_heap_other (fun e2 => hE k hk (h.inj _ _ k1 hbn e2))]; exact k3
  · obtain ⟨k1, k2, k3, k4⟩ := h.resv p hp
    exact ⟨k1, k2, (World.putObj_heap_other (fun e2 => hR p hp (h.inj _ _ k1 hbn e2))).trans k3, k4⟩
  · exact h.resd b hd hpb
  · obtain ⟨k1, k2, k3⟩ := h.dead k hk
    exact ⟨(World.putObj_heap_other (fun e => k3 _ hbn e.symm)).trans k1, k2, k3⟩
/-- A block for deferred calls is shut. -/
theorem WR.putK {k : Nat} {D : List Nat} (h : WR σ W0 H Γ A w w') (hk : k ∈ Γ.D) (hD : ∀ j ∈ D, j ∈ Γ.D) (hkD : k ∉ D) (hdd : ∀ g ∈ Γ.E, g.dd ∈ D) (o : Obj) : WR σ W0 H ⟨Γ.E, D, Γ.R⟩ A w (w'.putObj k o) := by
  obtain ⟨k1, k2, k3⟩ := h.dead k hk
  refine { tape := h.tape, size := h.size, full := h.full, lt := fun b hb => by simpa using h.lt b hb, inj := h.inj, obj := fun j o2 ho => ?_, ext := h.below_put k2 _, hle := by simpa using h.hle, loops := fun g hg => ?_, resv := fun p hp => ?_, resd := fun b hd hpb => ?_, dead := fun j hj => ?_, long := fun b hb => (h.long b hb).of (h.long b hb).1 rfl rfl (World.putObj_heap_other (k3 _ (h.long b hb).1)), grow := fun b n u hb => (h.grow b n u hb).of (Ren.le.refl A) rfl (fun g2 cs t fz _ hg2 hx => World.putObj_heap_other (fun e2 => by rw [e2, k1] at hg2; cases hg2)) (fun b' g2 hb' hne _ hg2 => hg2 b' hb' hne), gun := h.gun, gone := h.gone }
  · rcases h.obj j o2 ho with h7 | ⟨cs1, e1, fz1, cs1', e1', fz1', h7, h8, h9, h10⟩
    · exact .inl h7
    · have hkn : A.d j := h.has (h7 ▸ ho)
      refine .inr ⟨cs1, e1, fz1, cs1', e1', fz1', h7, ?_, h9, h10⟩
      rw [World.putObj_heap_other (k3 _ hkn)]
      exact h8
  · obtain ⟨g1, ⟨d, g2, g3⟩, g4, g5, _⟩ := h.loops g hg
    refine ⟨g1, ⟨d, g2, ?_⟩, g4, g5, hdd g hg⟩
    rw [World.putObj_heap_other (k3 _ g1)]; exact g3
  · obtain ⟨r1, r2, r3, r4⟩ := h.resv p hp
    exact ⟨r1, r2, (World.putObj_heap_other (k3 _ r1)).trans r3, r4⟩
  · exact h.resd b hd hpb
  · obtain ⟨j1, j2, j3⟩ := h.dead j (hD j hj)
    exact ⟨(World.putObj_heap_other (fun e => hkD (by rw [← e]; exact hj))).trans j1, j2, j3⟩
end
end Go.Proofs.YtfppinabdalblaaGreat
