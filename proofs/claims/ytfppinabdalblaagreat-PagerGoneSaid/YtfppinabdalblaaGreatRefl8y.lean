/- Reflection, 8y: blocks that one side makes ahead of the other; calls that leave all blocks as they were. No program is named here. -/
import Derived.Test.YtfppinabdalblaaGreatRefl8x
namespace Go.Proofs.YtfppinabdalblaaGreat
open Go.RowKit
set_option linter.unusedVariables false
set_option linter.unusedSimpArgs false
section
variable {P : Program} {σ : Nat → Value} {W0 : World} {H : Nat} {Γ : Gst} {A : Ren} {w w' : World}

theorem RV.back {σ : Nat → Value} {A B : Ren} (hle : A.le B) (hu : ∀ b n v v2, B.g b n v → B.g b n v2 → v = v2) : ∀ {v v0 : Value}, RV σ A v v0 → ∀ {v' : Value}, RV σ B v v' → RV σ A v v' := by
  intro v v0 h
  induction h with
  | tok k j => intro v' h2; cases h2; exact .tok k j
  | bool b => intro v' h2; cases h2; exact .bool b
  | int k n => intro v' h2; cases h2; exact .int k n
  | str s => intro v' h2; cases h2; exact .str s
  | nilp => intro v' h2; cases h2; exact .nilp
  | ptr a ha => intro v' h2; cases h2 with | ptr _ _ => rw [hle.addr ha]; exact .ptr a ha
  | slice0 n c => intro v' h2; cases h2; exact .slice0 n c
  | slice a n c c' ha h1 h2 hs => intro v' h3; cases h3 with
    | slice _ _ _ c2 _ k1 k2 _ => (first | (rw [hle.addr ha]; exact .slice a n c c2 ha k1 k2 hs))
    | sliceE _ b c2 _ hs2 => exact .sliceE a b c2 ha hs2
  | sliceE a b c' ha hs => intro v' h3; cases h3 with
    | sliceE _ b2 c2 _ _ => exact .sliceE a b2 c2 ha hs
    | slice _ _ _ c2 _ k1 k2 hs2 => exact absurd hs2 hs
  | yield b hb => intro v' h2; cases h2 with | yield _ _ => rw [hle.2 b hb]; exact .yield b hb
  | nilFunc => intro v' h2; cases h2; exact .nilFunc
  | nilMap => intro v' h2; cases h2; exact .nilMap
  | map b hb => intro v' h2; cases h2 with | map _ _ => rw [hle.2 b hb]; exact .map b hb
  | any x y v0 ho => intro v' h2; cases h2 with | any _ _ _ ho2 => exact .any x y v' ho2
  | long b c' L hd ht hs => intro v' h2; cases h2 with 
    | long _ c2 L2 _ _ hs2 => rw [hle.2 b hd]; exact .long b c2 L2 hd ht hs2
    | grow _ _ n r c q1 q2 => exfalso; omega
    | gptr _ _ n i r c q1 q2 q3 q4 => exfalso; omega
    | lptr _ _ j p q1 q2 q3 q4 => exfalso; omega
  | grow b k n r c hk hg => intro v' h2; cases h2 with
    | long _ c2 L2 _ _ hs2 => exfalso; omega
    | gptr _ _ n i r c q1 q2 q3 q4 => exfalso; omega
    | lptr _ _ j p q1 q2 q3 q4 => exfalso; omega
    | grow _ _ n2 r2 c2 q1 q2 =>
      obtain rfl : n = n2 := by omega
      have := hu _ _ _ _ (hle.4 _ _ _ hg) q2
      cases this
      exact .grow b k n r c hk hg
  | gptr b k n i r c hk hg hi hn => intro v' h2; cases h2 with
    | long _ c2 L2 _ _ hs2 => exfalso; omega
    | grow _ _ n r c q1 q2 => exfalso; omega
    | lptr _ _ j p q1 q2 q3 q4 => exfalso; omega
    | gptr _ _ n2 i2 r2 c2 q1 q2 q3 q4 =>
      obtain rfl : n = n2 := by omega
      obtain rfl : i = i2 := by omega
      have := hu _ _ _ _ (hle.4 _ _ _ hg) q2
      cases this
      exact .gptr b k n i r c hk hg hi hn
  | lptr b k j p hk hd ht hp => intro v' h2; cases h2 with
    | long _ c2 L2 _ _ hs2 => exfalso; omega
    | grow _ _ n r c q1 q2 => exfalso; omega
    | gptr _ _ n2 i2 r2 c2 q1 q2 q3 q4 => exfalso; omega
    | lptr _ _ j2 p2 q1 q2 q3 q4 => rw [hle.2 b hd]; exact .lptr b k j2 p2 q1 hd ht q4
  | nilIface => intro v' h2; cases h2; exact .nilIface
  | iface t u u' _ ih => intro v' h2; cases h2 with | iface _ _ u2 k => exact .iface t u u2 (ih k)
  | func f x x0 y y0 h1 _ h3 _ ih1 ih2 =>
    intro v' h2
    cases h2 with
    | func _ _ x' _ y' k1 k2 k3 k4 =>
      refine .func f x x' y y' k1 (fun i u u' e1 e2 => ?_) k3 (fun i u u' e1 e2 => ?_)
      · have hi : i < x0.size := by rw [← h1]; exact (Array.getElem?_eq_some_iff.1 e1).1
        exact ih1 i u _ e1 (Array.getElem?_eq_getElem hi) (k2 i u u' e1 e2)
      · have hi : i < y0.size := by rw [← h3]; exact (Array.getElem?_eq_some_iff.1 e1).1
        exact ih2 i u _ e1 (Array.getElem?_eq_getElem hi) (k4 i u u' e1 e2)
  | meth f x x0 y y0 h1 _ h3 _ ih1 ih2 =>
    intro v' h2
    cases h2 with
    | meth _ _ x' _ y' k1 k2 k3 k4 =>
      refine .meth f x x' y y' k1 (fun i u u' e1 e2 => ?_) k3 (fun i u u' e1 e2 => ?_)
      · have hi : i < x0.size := by rw [← h1]; exact (Array.getElem?_eq_some_iff.1 e1).1
        exact ih1 i u _ e1 (Array.getElem?_eq_getElem hi) (k2 i u u' e1 e2)
      · have hi : i < y0.size := by rw [← h3]; exact (Array.getElem?_eq_some_iff.1 e1).1
        exact ih2 i u _ e1 (Array.getElem?_eq_getElem hi) (k4 i u u' e1 e2)
  | agg x x0 h1 _ ih =>
    intro v' h2
    cases h2 with
    | agg _ x' k1 k2 =>
      refine .agg x x' k1 (fun i u u' e1 e2 => ?_)
      have hi : i < x0.size := by rw [← h1]; exact (Array.getElem?_eq_some_iff.1 e1).1
      exact ih i u _ e1 (Array.getElem?_eq_getElem hi) (k2 i u u' e1 e2)
  | tuple x x0 h1 _ ih =>
    intro v' h2
    cases h2 with
    | tuple _ x' k1 k2 =>
      refine .tuple x x' k1 (fun i u u' e1 e2 => ?_)
      have hi : i < x0.size := by rw [← h1]; exact (Array.getElem?_eq_some_iff.1 e1).1
      exact ih i u _ e1 (Array.getElem?_eq_getElem hi) (k2 i u u' e1 e2)

/-- What left all blocks as they were on the one side did so on the other one, but for new ones. -/
theorem WR.restrict {B : Ren} {w1 w1' : World} (h : WR σ W0 H Γ A w w') (h1 : WR σ W0 H Γ B w1 w1') (hle : A.le B) (hs : ∀ b, b < w.heap.size → w1.heap[b]? = w.heap[b]?) : WR σ W0 H Γ A w w1' := by
  refine { tape := h.tape, size := h.size, full := h.full, lt := fun b hb => by rw [← hle.2 b hb]; exact h1.lt b (hle.1 b hb), inj := h.inj, obj := fun b o ho => ?_, ext := h1.ext, hle := h1.hle, loops := fun g hg => ?_, resv := fun p hp => ?_, resd := h.resd, dead := fun k hk => ?_, long := fun b hb => (h1.long b (hle.3 b hb)).of (h.long b hb).1 (hle.2 b (h.long b hb).1).symm (hs b (h.size _ (h.long b hb).1)).symm rfl, grow := fun b n u hb => ?_, gun := h.gun, gone := h.gone }
  · have hb : b < w.heap.size := (Array.getElem?_eq_some_iff.1 ho).1
    rcases h.obj b o ho with k1 | ⟨cs, e, fz, cs', e', fz', k1, k2, k3, k4⟩
    · exact .inl k1
    · have hbn : A.d b := h.has (k1 ▸ ho)
      rcases h1.obj b o (by rw [hs b hb]; exact ho) with m1 | ⟨cs2, e2, fz2, cs2', e2', fz2', m1, m2, m3, m4⟩
      · exact .inl m1
      · rw [k1] at m1
        cases m1
        rw [hle.2 b hbn] at m2 m4
        exact .inr ⟨cs, e, fz, cs2', e2', fz2', k1, m2, ⟨m3.1, fun i v hv => by
          obtain ⟨v0, _, n2⟩ := k3.2 i v hv
          obtain ⟨v', n3, n4⟩ := m3.2 i v hv
          exact ⟨v', n3, n2.back hle h1.gun n4⟩⟩, m4⟩
  · obtain ⟨k1, ⟨c, k2, k3⟩, k4, k5, k6⟩ := h.loops g hg
    obtain ⟨m1, ⟨d, m2, m3⟩, _⟩ := h1.loops g hg
    rw [hs _ (h.size _ k1), k2] at m2
    cases m2
    rw [hle.2 _ k1] at m3
    exact ⟨k1, ⟨c, k2, m3⟩, k4, k5, k6⟩
  · obtain ⟨k1, k2, k3, k4⟩ := h.resv p hp
    obtain ⟨m1, m2, m3, m4⟩ := h1.resv p hp
    rw [hle.2 _ k1] at m3
    exact ⟨k1, k2, m3, k4⟩
  · obtain ⟨k1, k2, k3⟩ := h.dead k hk
    exact ⟨(h1.dead k hk).1, k2, k3⟩
  · obtain ⟨hd, cs, e, k1, k2, k3, k4, k5⟩ := h.grow b n u hb
    obtain ⟨_, cs2, e2, m1, m2, m3, m4, m5⟩ := h1.grow b n u (hle.4 _ _ _ hb)
    rw [hs b (h.size b hd), k1] at m1
    cases m1
    refine ⟨hd, cs, e, k1, k2, k3, k4, fun hn => ?_⟩
    obtain ⟨xs, q1, q2, q3⟩ := k5 hn
    obtain ⟨xs2, p1, p2, p3⟩ := m5 hn
    refine ⟨xs2, p1, fun hsz i v hv => ?_, fun b' hb' hne e9 => p3 b' (hle.1 _ hb') hne (by rw [hle.2 _ hb']; exact e9)⟩
    obtain ⟨y, y1, y2⟩ := q2 hsz i v hv
    obtain ⟨z, z1, z2⟩ := p2 hsz i v hv
    exact ⟨z, z1, y2.back hle h1.gun z2⟩

/-- A block is set apart. -/
def reserve (w : World) : World := { w with heap := w.heap.push (.pending #[] 9) }
theorem WR.reserve (h : WR σ W0 H Γ A w w') : WR σ W0 H Γ A (reserve w) w' := by
  have old : ∀ b, A.d b → (Go.Proofs.YtfppinabdalblaaGreat.reserve w).heap[b]? = w.heap[b]? := fun b hb => by
    have := h.size b hb
    simp only [Go.Proofs.YtfppinabdalblaaGreat.reserve, Array.getElem?_push]
    rw [if_neg (by omega)]
  refine { tape := h.tape, size := fun b hb => by have := h.size b hb; simp [Go.Proofs.YtfppinabdalblaaGreat.reserve]; omega, full := fun b hb => ?_, lt := h.lt, inj := h.inj, obj := fun b o ho => ?_, ext := h.ext, hle := h.hle, loops := fun g hg => ?_, resv := fun p hp => ?_, resd := fun b hd hb => h.resd b hd (by rw [← old b hd]; exact hb), dead := h.dead, long := fun b hb => (h.long b hb).of (h.long b hb).1 rfl (old b (h.long b hb).1) rfl, grow := fun b n u hb => (h.grow b n u hb).of (Ren.le.refl A) (old b (h.grow b n u hb).1) (fun g2 _ _ _ _ _ _ => rfl) (fun b' g2 hb' hne _ hg2 => hg2 b' hb' hne), gun := h.gun, gone := h.gone }
  · simp only [Go.Proofs.YtfppinabdalblaaGreat.reserve, Array.size_push] at hb
    simp only [Go.Proofs.YtfppinabdalblaaGreat.reserve, Array.getElem?_push]
    by_cases e : b = w.heap.size
    · exact .inr (by rw [if_pos e])
    · rw [if_neg e]; exact h.full b (by omega)
  · simp only [Go.Proofs.YtfppinabdalblaaGreat.reserve, Array.getElem?_push] at ho
    split at ho
    · cases ho; exact .inl ⟨_, _, rfl⟩
    · exact h.obj b o ho
  · obtain ⟨k1, ⟨c, k2, k3⟩, k4⟩ := h.loops g hg
    exact ⟨k1, ⟨c, (old _ k1).trans k2, k3⟩, k4⟩
  · obtain ⟨k1, k2, k3⟩ := h.resv p hp
    exact ⟨k1, (old _ k1).trans k2, k3⟩
/-- The other side makes its block first. -/
theorem WR.early (h : WR σ W0 H Γ A w w') {b : Nat} (hb : w.heap[b]? = some (.pending #[] 9)) (hd : ¬ A.d b) (cs : Array Value) (e : TypeId) (sh : Shp) :
    WR σ W0 H ⟨Γ.E, Γ.D, ⟨b, cs, e, sh⟩ :: Γ.R⟩ (A.push b w'.heap.size) w (w'.alloc (realO (tokA σ cs) e sh)) := by
  have hle := A.push_le hd w'.heap.size
  have h2 : WR σ W0 H Γ A w (w'.alloc (realO (tokA σ cs) e sh)) := h.extR ((Ext.refl _).alloc _)
  have hlt : b < w.heap.size := (Array.getElem?_eq_some_iff.1 hb).1
  refine { tape := h.tape, size := fun c hc => ?_, full := fun c hc => ?_, lt := fun c hc => ?_, inj := push_inj hd (fun c hc e => by have := h.lt c hc; omega) h.inj, obj := fun c o ho => ?_, ext := h2.ext, hle := h2.hle, loops := fun g hg => ?_, resv := fun p hp => ?_, resd := fun c hc hb2 => ?_, dead := fun k hk => ?_, long := fun c hc => (h2.long c hc).of (.inl (h2.long c hc).1) (hle.2 c (h2.long c hc).1) rfl rfl, grow := fun c n u hc => (h.grow c n u hc).pushR hd rfl rfl (fun g2 hg2 => ((Ext.refl w').alloc _).block g2 hg2), gun := h.gun, gone := h.gone }
  · rcases hc with hc | hc
    · exact h.size c hc
    · rw [hc]; exact hlt
  · rcases h.full c hc with k1 | k1
    · exact .inl (.inl k1)
    · exact .inr k1
  · rcases hc with hc | hc
    · rw [hle.2 c hc]; exact h2.lt c hc
    · subst hc; rw [A.push_at]; simp
  · rcases h2.obj c o ho with k1 | ⟨cs1, e1, fz1, cs1', e1', fz1', k1, k2, k3, k4⟩
    · exact .inl k1
    · have hbn : A.d c := h.has (k1 ▸ ho)
      refine .inr ⟨cs1, e1, fz1, cs1', e1', fz1', k1, ?_, k3.mono hle, ?_⟩
      · rw [hle.2 c hbn]; exact k2
      · rw [hle.2 c hbn]; exact k4
  · obtain ⟨k1, ⟨c, k2, k3⟩, k4, k5, k6⟩ := h2.loops g hg
    exact ⟨.inl k1, ⟨c, k2, by rw [hle.2 _ k1]; exact k3⟩, k4.mono hle, by rw [hle.2 _ k1]; exact k5, k6⟩
  · rcases List.mem_cons.1 hp with rfl | hp
    · refine ⟨.inr rfl, hb, ?_, ?_⟩
      · show (w'.alloc (realO (tokA σ cs) e sh)).heap[(A.push b w'.heap.size).f b]? = _
        rw [A.push_at]; exact World.alloc_heap_new w' _
      · show H ≤ (A.push b w'.heap.size).f b
        rw [A.push_at]; exact h.hle
    · obtain ⟨k1, k2, k3, k4⟩ := h2.resv p hp
      exact ⟨.inl k1, k2, by rw [hle.2 _ k1]; exact k3, by rw [hle.2 _ k1]; exact k4⟩
  · rcases hc with hc | hc
    · obtain ⟨p, hp, e2⟩ := h.resd c hc hb2
      exact ⟨p, List.mem_cons_of_mem _ hp, e2⟩
    · exact ⟨_, List.mem_cons_self, hc.symm⟩
  · obtain ⟨k1, k2, k3⟩ := h2.dead k hk
    have hk2 := (Array.getElem?_eq_some_iff.1 (h.dead k hk).1).1
    refine ⟨k1, k2, fun c hc => ?_⟩
    rcases hc with hc | hc
    · rw [hle.2 c hc]; exact k3 c hc
    · subst hc; rw [A.push_at]; omega
/-- And this side makes its own. -/
theorem WR.fill (h : WR σ W0 H Γ A w w') {b : Nat} {cs : Array Value} {e : TypeId} {sh : Shp} (hp : ⟨b, cs, e, sh⟩ ∈ Γ.R) (hc : cs.toList.all clT = true) :
    WR σ W0 H ⟨Γ.E, Γ.D, Γ.R.filter (fun p => p.b ≠ b)⟩ A (w.putObj b (smallO cs e sh)) w' := by
  obtain ⟨h1, h2, h3, h4⟩ := h.resv _ hp
  have h2 : w.heap[b]? = some (.pending #[] 9) := h2
  have hlt : b < w.heap.size := h.size _ h1
  refine { tape := h.tape, size := fun c hc => by simpa using h.size c hc, full := fun c hc => ?_, lt := h.lt, inj := h.inj, obj := fun c o ho => ?_, ext := h.ext, hle := h.hle, loops := fun g hg => ?_, resv := fun p hp => ?_, resd := fun c hd hb2 => ?_, dead := h.dead, long := fun c hc => (h.long c hc).of (h.long c hc).1 rfl (World.putObj_heap_other ((h.long c hc).ne h2)) rfl, grow := fun c n u hc => (h.grow c n u hc).of (Ren.le.refl A) (World.putObj_heap_other ((h.grow c n u hc).ne h2 (fun cs e e4 => by cases e4; rfl))) (fun g2 _ _ _ _ _ _ => rfl) (fun b' g2 hb' hne _ hg2 => hg2 b' hb' hne), gun := h.gun, gone := h.gone }
  · by_cases e2 : c = b
    · exact .inl (e2 ▸ h1)
    · rw [World.putObj_heap_other e2]; exact h.full c (by simpa using hc)
  · by_cases e2 : c = b
    · subst e2
      rw [World.putObj_heap_same hlt] at ho
      cases ho
      have h3 : w'.heap[A.f c]? = some (realO (tokA σ cs) e sh) := h3
      cases sh with
      | mp => exact .inl ⟨_, _, rfl⟩
      | _ => exact .inr ⟨cs, e, (0, 0), tokA σ cs, e, (0, 0), rfl, h3, (tokA_cr hc).cr, .inl ⟨rfl, rfl, h4⟩⟩
    · rw [World.putObj_heap_other e2] at ho
      exact h.obj c o ho
  · obtain ⟨k1, ⟨c, k2, k3⟩, k4, k5, k6⟩ := h.loops g hg
    by_cases e2 : g.L.b = b
    · exfalso
      rw [e2] at k3
      have h3 : w'.heap[A.f b]? = some (realO (tokA σ cs) e sh) := h3
      rw [h3] at k3
      cases sh <;> cases k3
    · exact ⟨k1, ⟨c, by rw [World.putObj_heap_other e2]; exact k2, k3⟩, k4, k5, k6⟩
  · rw [List.mem_filter] at hp
    have hne : p.b ≠ b := by simpa using hp.2
    obtain ⟨k1, k2, k3, k4⟩ := h.resv p hp.1
    exact ⟨k1, by rw [World.putObj_heap_other hne]; exact k2, k3, k4⟩
  · by_cases e2 : c = b
    · subst e2
      rw [World.putObj_heap_same hlt] at hb2
      cases sh <;> cases hb2
    · rw [World.putObj_heap_other e2] at hb2
      obtain ⟨p, hp, e3⟩ := h.resd c hd hb2
      exact ⟨p, List.mem_filter.2 ⟨hp, by simpa [e3] using e2⟩, e3⟩

/-- What an 'alloc' lays. -/
def allocOf (P : Program) (o : Op) : Option (Array Value × TypeId) := match o with
  | .alloc t => match (P.info? t).bind (·.zero) with
    | some z => if z.cells.toList.all (closedN 8) then some (z.cells, t) else none
    | none => none
  | _ => none
theorem run_allocOf {o : Oper} {cs : Array Value} {e : TypeId} (h : allocOf P o.op = some (cs, e)) (ρ : Operand → Value) (w : World) :
    (execOp ρ o).run P w = .ok (.value (.pointer (some ⟨w.heap.size, 0, none⟩))) (w.alloc (.cells cs e)) ∧ cs.toList.all (closedN 8) = true := by
  unfold allocOf at h
  obtain ⟨dst, op, type, pos, after, guard⟩ := o
  simp only [] at h
  cases op
  case alloc t =>
    simp only [] at h
    cases hz : (P.info? t).bind (·.zero) with
    | none => rw [hz] at h; cases h
    | some z =>
      rw [hz] at h
      simp only [] at h
      split at h
      case isFalse => cases h
      rename_i hc
      injection h with h
      injection h with h1 h2
      subst h1 h2
      refine ⟨?_, hc⟩
      cases hi : P.info? t with
      | none => rw [hi] at hz; cases hz
      | some i =>
        rw [hi] at hz
        have hz' : i.zero = some z := hz
        simp [execOp, Instr.alloc, zeroValue, typeInfo, hi, hz', newVar, newRow, Sem.run_bind, Result.andThen, go_sem]
  all_goals cases h

/-- Operations that make one block, out of values alone. -/
def isMaker : Op → Bool
  | .alloc _ => true
  | .buildSlice _ n _ => n != 2
  | .makeMap _ _ => true
  | _ => false
def preB (P : Program) (t : TypeId) (len : Nat) (parts : List (Nat × Value)) : Option (Array Value × TypeId) := match P.underlying t with
  | some (.slice elem) => match P.info? elem with
    | some i =>
      if len * i.size > 2 ^ 24 then none else
      match (if len * i.size = 0 then some #[] else i.zero.map (·.cells)) with
      | some zero => (Instr.fill (fun j => some (j * i.size, i.size)) ((Array.range (len * i.size)).map (zero[· % zero.size]!)) parts).map fun cs => (cs, elem)
      | none => none
    | none => none
  | _ => none
def makerOf (P : Program) (ρ : Operand → Value) (o : Op) : Option (Array Value × TypeId × Shp) := match o with
  | .makeMap _ none => some (#[], 0, .mp)
  | .alloc t => (allocOf P (.alloc t)).map fun p => (p.1, p.2, .ptr)
  | .buildSlice t len parts =>
    if len != 2 then if elemZeroOk P t then
      match preB P t len (parts.toList.map fun (i, x) => (i, ρ x)) with
      | some p => if p.1.toList.all clT then some (p.1, p.2, .sl len) else none
      | none => none
    else none else none
  | _ => none
def mkv (b : Nat) : Shp → Value
  | .ptr => .pointer (some ⟨b, 0, none⟩)
  | .sl n => .slice (some ⟨b, 0, none⟩) n n
  | .mp => .map (some b)
theorem run_preB {t : TypeId} {len : Nat} {parts : Array (Nat × Value)} {cs : Array Value} {e : TypeId} (h : preB P t len parts.toList = some (cs, e)) (w : World) :
    (Instr.buildSlice t len parts).run P w = .ok (.slice (some ⟨w.heap.size, 0, none⟩) len len) (w.alloc (.cells cs e)) := by
  unfold preB at h
  split at h
  case h_2 => cases h
  rename_i elem hu
  split at h
  case h_2 => cases h
  rename_i i hi
  split at h
  · cases h
  rename_i hlen
  split at h
  case h_2 => cases h
  rename_i zero hz
  cases hf : Instr.fill (fun j => some (j * i.size, i.size)) ((Array.range (len * i.size)).map (zero[· % zero.size]!)) parts.toList with
  | none => rw [hf] at h; cases h
  | some cs2 =>
    rw [hf] at h
    cases h
    unfold Instr.buildSlice
    rw [Sem.run_bind, run_underlying hu]
    simp only [Result.andThen_ok]
    rw [Sem.run_bind, run_size hi]
    simp only [Result.andThen_ok, if_neg hlen]
    by_cases h0 : len * i.size = 0
    · rw [if_pos h0] at hz ⊢
      cases hz
      rw [Sem.run_bind]
      simp only [Sem.run_pure, Result.andThen_ok, hf]
      simp [newRow, Sem.run_bind, Result.andThen, go_sem]
    · rw [if_neg h0] at hz ⊢
      cases hzz : i.zero with
      | none => rw [hzz] at hz; cases hz
      | some z =>
        rw [hzz] at hz
        cases hz
        have hv : (zeroValue e).run P w = .ok z w := by simp [zeroValue, typeInfo, hi, hzz, Sem.run_bind, Result.andThen, go_sem]
        rw [Sem.run_bind, hv]
        simp only [Result.andThen_ok]
        rw [Sem.run_bind]
        simp only [Sem.run_pure, Result.andThen_ok, hf]
        simp [newRow, Sem.run_bind, Result.andThen, go_sem]
theorem preB_rel (hσ : ∀ j, OneC (σ j)) {A : Ren} {t : TypeId} {len : Nat} {l l' : List (Nat × Value)} {cs : Array Value} {e : TypeId} (hz : elemZeroOk P t = true) (h : preB P t len l = some (cs, e)) (hr : RPs σ A l l') :
    ∃ cs', preB P t len l' = some (cs', e) ∧ RAr σ A cs cs' := by
  unfold preB at h ⊢
  split at h
  case h_2 => cases h
  rename_i elem hu
  have hze := elem_of hz hu
  split at h
  case h_2 => cases h
  rename_i i hi
  split at h
  · cases h
  rename_i hlen
  split at h
  case h_2 => cases h
  rename_i zero hzz
  rw [if_neg hlen]
  have hzr : RAr σ A zero zero := by
    by_cases h0 : len * i.size = 0
    · rw [if_pos h0] at hzz
      cases hzz
      exact RAr.nil
    · rw [if_neg h0] at hzz
      cases hz2 : i.zero with
      | none => rw [hz2] at hzz; cases hzz
      | some z =>
        rw [hz2] at hzz
        cases hzz
        unfold zeroOk at hze
        rw [hi] at hze
        simp only [Option.bind_some, hz2] at hze
        exact (closed_rv hze).cells hσ
  cases hf : Instr.fill (fun j => some (j * i.size, i.size)) ((Array.range (len * i.size)).map (zero[· % zero.size]!)) l with
  | none => rw [hf] at h; cases h
  | some cs2 =>
    rw [hf] at h
    cases h
    obtain ⟨x', h1, h2⟩ := rel_fill hσ (fun j => some (j * i.size, i.size)) hr (cr_zero hzr (len * i.size)) _ hf
    rw [h1]
    exact ⟨x', rfl, h2⟩
theorem run_maker (hσ : ∀ j, OneC (σ j)) {A : Ren} {o : Oper} {cs : Array Value} {e : TypeId} {sh : Shp} {ρ ρ' : Operand → Value} (h : makerOf P ρ o.op = some (cs, e, sh)) (hr : ∀ x ∈ o.op.operands, RV σ A (ρ x) (ρ' x)) (w : World) :
    (execOp ρ' o).run P w = .ok (.value (mkv w.heap.size sh)) (w.alloc (realO (tokA σ cs) e sh)) ∧ cs.toList.all clT = true := by
  obtain ⟨dst, op, type, pos, after, guard⟩ := o
  unfold makerOf at h
  simp only [] at h hr
  cases op
  case makeMap t rs =>
    cases rs with
    | some x => cases h
    | none => cases h; exact ⟨run_makeMap (o := ⟨dst, .makeMap t none, type, pos, after, guard⟩) rfl ρ' w, rfl⟩
  case alloc t =>
    simp only [] at h
    cases ha : allocOf P (.alloc t) with
    | none => rw [ha] at h; cases h
    | some p =>
      rw [ha] at h
      cases h
      obtain ⟨h1, h2⟩ := run_allocOf (o := ⟨dst, .alloc t, type, pos, after, guard⟩) ha ρ' w
      obtain ⟨h3, h4⟩ := tokA_closed (σ := σ) h2
      rw [h4]
      exact ⟨h1, h3⟩
  case buildSlice t len parts =>
    simp only [] at h
    split at h
    case isFalse => cases h
    split at h
    case isFalse => cases h
    rename_i hz
    split at h
    case h_2 => cases h
    rename_i p hp
    split at h
    case isFalse => cases h
    rename_i hc
    cases h
    refine ⟨?_, hc⟩
    have hl : RPs σ A (parts.toList.map fun (i, x) => (i, ρ x)) (parts.toList.map fun (i, x) => (i, ρ' x)) := rps_map fun p hp => hr p.2 (by simp [Op.operands]; exact ⟨p.1, by simpa using hp⟩)
    obtain ⟨cs', h1, h2⟩ := preB_rel hσ hz hp hl
    rw [← tokA_eq hc h2]
    have hp' : preB P t len (parts.map fun (i, x) => (i, ρ' x)).toList = some (cs', p.2) := by simpa using h1
    simp only [execOp]
    show Sem.run P (do pure (Next.value (← Instr.buildSlice t len (parts.map fun (i, x) => (i, ρ' x))))) w = _
    rw [Sem.run_bind, run_preB hp']
    rfl
  all_goals cases h
theorem makerOf_congr {ρ ρ' : Operand → Value} {o : Op} (h : ∀ x ∈ o.operands, ρ x = ρ' x) : makerOf P ρ o = makerOf P ρ' o := by
  unfold makerOf
  cases o <;> first | rfl | skip
  case makeMap t rs => cases rs <;> rfl
  case buildSlice t len parts =>
    have e : ∀ q ∈ parts.toList, ρ q.2 = ρ' q.2 := fun q hq => h q.2 (by simp [Op.operands]; exact ⟨q.1, by simpa using hq⟩)
    have e2 : (parts.toList.map fun (i, x) => (i, ρ x)) = parts.toList.map fun (i, x) => (i, ρ' x) := List.map_congr_left fun q hq => by
      obtain ⟨q1, q2⟩ := q
      have := e _ hq
      simp only at this ⊢
      rw [this]
    simp only [e2]
theorem maker_isMaker {ρ : Operand → Value} {o : Op} {p : Array Value × TypeId × Shp} (h : makerOf P ρ o = some p) : isMaker o = true := by
  cases o <;> first | rfl | (cases h; done) | skip
  case buildSlice t len parts =>
    unfold makerOf at h
    simp only [] at h
    split at h
    case isFalse => cases h
    rename_i hl
    exact hl
theorem maker_closed {ρ : Operand → Value} {o : Op} {cs : Array Value} {e : TypeId} {sh : Shp} (h : makerOf P ρ o = some (cs, e, sh)) : cs.toList.all clT = true := by
  unfold makerOf at h
  cases o
  case makeMap t rs =>
    cases rs with
    | some x => cases h
    | none => cases h; rfl
  case alloc t =>
    simp only [] at h
    cases ha : allocOf P (.alloc t) with
    | none => rw [ha] at h; cases h
    | some p =>
      rw [ha] at h
      cases h
      exact (tokA_closed (σ := fun _ => .bool true) (run_allocOf (o := ⟨none, .alloc t, 0, "", #[], none⟩) ha (fun _ => undef) ⟨#[], fun _ _ => 0, 0, default, #[]⟩).2).1
  case buildSlice t len parts =>
    simp only [] at h
    split at h
    case isFalse => cases h
    split at h
    case isFalse => cases h
    split at h
    case h_2 => cases h
    split at h
    case isFalse => cases h
    rename_i hc
    cases h
    exact hc
  all_goals cases h
theorem WR.same {w2 : World} (h : WR σ W0 H Γ A w w') (e : w2.heap = w.heap) (t : w2.tape = fun _ _ => 0) : WR σ W0 H Γ A w2 w' :=
  { tape := t, size := by rw [e]; exact h.size, full := by rw [e]; exact h.full, lt := h.lt, inj := h.inj, obj := by rw [e]; exact h.obj, ext := h.ext, hle := h.hle, loops := by rw [e]; exact h.loops, resv := by rw [e]; exact h.resv, resd := by rw [e]; exact h.resd, dead := h.dead, long := fun b hb => (h.long b hb).of (h.long b hb).1 rfl (by rw [e]) rfl, grow := fun b n u hb => (h.grow b n u hb).of (Ren.le.refl A) (by rw [e]) (fun g2 _ _ _ _ _ _ => rfl) (fun b' g2 hb' hne _ hg2 => hg2 b' hb' hne), gun := h.gun, gone := h.gone }
end
end Go.Proofs.YtfppinabdalblaaGreat
