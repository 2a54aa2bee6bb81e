/- Reflection, 8y: blocks that one side makes ahead of the other; calls that leave all blocks as they were. No program is named here. -/
import Derived.Test.YtickhjoakbldpaaGreatDoorRefl8x
namespace Go.Proofs.YtickhjoakbldpaaGreatDoor
open Go.RowKit
set_option linter.unusedVariables false
set_option linter.unusedSimpArgs false
section
variable {P : Program} {σ : Nat → Value} {W0 : World} {H : Nat} {Γ : Gst} {A : Ren} {w w' : World}

theorem RV.back {σ : Nat → Value} {A B : Ren} (hle : A.le B) : ∀ {v v0 : Value}, RV σ A v v0 → ∀ {v' : Value}, RV σ B v v' → RV σ A v v' := by
  intro v v0 h
  induction h with
  | tok k j => intro v' h2; cases h2; exact .tok k j
  | bool b => intro v' h2; cases h2; exact .bool b
  | int k n => intro v' h2; cases h2; exact .int k n
  | str s => intro v' h2; cases h2; exact .str s
  | nilp => intro v' h2; cases h2; exact .nilp
  | ptr a ha => intro v' h2; cases h2 with | ptr _ _ => rw [hle.addr ha]; exact .ptr a ha
  | slice0 n c => intro v' h2; cases h2; exact .slice0 n c
  | slice a n c c' ha h1 h2 => intro v' h3; cases h3 with | slice _ _ _ c2 _ k1 k2 => rw [hle.addr ha]; exact .slice a n c c2 ha k1 k2
  | yield b hb => intro v' h2; cases h2 with | yield _ _ => rw [hle.2 b hb]; exact .yield b hb
  | nilFunc => intro v' h2; cases h2; exact .nilFunc
  | nilIface => intro v' h2; cases h2; exact .nilIface
  | iface t u u' _ ih => intro v' h2; cases h2 with | iface _ _ u2 k => exact .iface t u u2 (ih k)
  | func f x x0 y y0 h1 _ h3 _ ih1 ih2 =>
    intro v' h2
    cases h2 with
    | func _ _ x' _ y' k1 k2 k3 k4 =>
      refine .func f x x' y y' k1 (fun i u u' e1 e2 => ?_) k3 (fun i u u' e1 e2 => ?_)
      · have hi : i < x0.size := by rw [← h1]; exact (Array.getElem?_eq_some_iff.1 e1).1
        exact ih1 i u _ e1 (Array.getElem?_eq_getElem hi) (k2 i u u' e1 e2)
      · have hi : i < y0.size := by rw [← h3]; exact (Array.getElem?_eq_some_iff.1 e1).1
        exact ih2 i u _ e1 (Array.getElem?_eq_getElem hi) (k4 i u u' e1 e2)
  | meth f x x0 y y0 h1 _ h3 _ ih1 ih2 =>
    intro v' h2
    cases h2 with
    | meth _ _ x' _ y' k1 k2 k3 k4 =>
      refine .meth f x x' y y' k1 (fun i u u' e1 e2 => ?_) k3 (fun i u u' e1 e2 => ?_)
      · have hi : i < x0.size := by rw [← h1]; exact (Array.getElem?_eq_some_iff.1 e1).1
        exact ih1 i u _ e1 (Array.getElem?_eq_getElem hi) (k2 i u u' e1 e2)
      · have hi : i < y0.size := by rw [← h3]; exact (Array.getElem?_eq_some_iff.1 e1).1
        exact ih2 i u _ e1 (Array.getElem?_eq_getElem hi) (k4 i u u' e1 e2)
  | agg x x0 h1 _ ih =>
    intro v' h2
    cases h2 with
    | agg _ x' k1 k2 =>
      refine .agg x x' k1 (fun i u u' e1 e2 => ?_)
      have hi : i < x0.size := by rw [← h1]; exact (Array.getElem?_eq_some_iff.1 e1).1
      exact ih i u _ e1 (Array.getElem?_eq_getElem hi) (k2 i u u' e1 e2)
  | tuple x x0 h1 _ ih =>
    intro v' h2
    cases h2 with
    | tuple _ x' k1 k2 =>
      refine .tuple x x' k1 (fun i u u' e1 e2 => ?_)
      have hi : i < x0.size := by rw [← h1]; exact (Array.getElem?_eq_some_iff.1 e1).1
      exact ih i u _ e1 (Array.getElem?_eq_getElem hi) (k2 i u u' e1 e2)

/-- What left all blocks as they were on the one side did so on the other one, but for new ones. -/
theorem WR.restrict {B : Ren} {w1 w1' : World} (h : WR σ W0 H Γ A w w') (h1 : WR σ W0 H Γ B w1 w1') (hle : A.le B) (hs : ∀ b, b < w.heap.size → w1.heap[b]? = w.heap[b]?) : WR σ W0 H Γ A w w1' := by
  refine { tape := h.tape, size := h.size, full := h.full, lt := fun b hb => by rw [← hle.2 b hb]; exact h1.lt b (hle.1 b hb), inj := h.inj, obj := fun b o ho => ?_, ext := h1.ext, hle := h1.hle, loops := fun g hg => ?_, resv := fun p hp => ?_, resd := h.resd, dead := fun k hk => ?_ }
  · have hb : b < w.heap.size := (Array.getElem?_eq_some_iff.1 ho).1
    rcases h.obj b o ho with k1 | ⟨cs, e, fz, cs', e', fz', k1, k2, k3, k4⟩
    · exact .inl k1
    · have hbn : A.d b := h.has (k1 ▸ ho)
      rcases h1.obj b o (by rw [hs b hb]; exact ho) with m1 | ⟨cs2, e2, fz2, cs2', e2', fz2', m1, m2, m3, m4⟩
      · exact .inl m1
      · rw [k1] at m1
        cases m1
        rw [hle.2 b hbn] at m2 m4
        exact .inr ⟨cs, e, fz, cs2', e2', fz2', k1, m2, ⟨m3.1, fun i v hv => by
          obtain ⟨v0, _, n2⟩ := k3.2 i v hv
          obtain ⟨v', n3, n4⟩ := m3.2 i v hv
          exact ⟨v', n3, n2.back hle n4⟩⟩, m4⟩
  · obtain ⟨k1, ⟨c, k2, k3⟩, k4, k5, k6⟩ := h.loops g hg
    obtain ⟨m1, ⟨d, m2, m3⟩, _⟩ := h1.loops g hg
    rw [hs _ (h.size _ k1), k2] at m2
    cases m2
    rw [hle.2 _ k1] at m3
    exact ⟨k1, ⟨c, k2, m3⟩, k4, k5, k6⟩
  · obtain ⟨k1, k2, k3, k4⟩ := h.resv p hp
    obtain ⟨m1, m2, m3, m4⟩ := h1.resv p hp
    rw [hle.2 _ k1] at m3
    exact ⟨k1, k2, m3, k4⟩
  · obtain ⟨k1, k2, k3⟩ := h.dead k hk
    exact ⟨(h1.dead k hk).1, k2, k3⟩

/-- A block is set apart. -/
def reserve (w : World) : World := { w with heap := w.heap.push (.pending #[] 9) }
theorem WR.reserve (h : WR σ W0 H Γ A w w') : WR σ W0 H Γ A (reserve w) w' := by
  have old : ∀ b, A.d b → (Go.Proofs.YtickhjoakbldpaaGreatDoor.reserve w).heap[b]? = w.heap[b]? := fun b hb => by
    have := h.size b hb
    simp only [Go.Proofs.YtickhjoakbldpaaGreatDoor.reserve, Array.getElem?_push]
    rw [if_neg (by omega)]
  refine { tape := h.tape, size := fun b hb => by have := h.size b hb; simp [Go.Proofs.YtickhjoakbldpaaGreatDoor.reserve]; omega, full := fun b hb => ?_, lt := h.lt, inj := h.inj, obj := fun b o ho => ?_, ext := h.ext, hle := h.hle, loops := fun g hg => ?_, resv := fun p hp => ?_, resd := fun b hd hb => h.resd b hd (by rw [← old b hd]; exact hb), dead := h.dead }
  · simp only [Go.Proofs.YtickhjoakbldpaaGreatDoor.reserve, Array.size_push] at hb
    simp only [Go.Proofs.YtickhjoakbldpaaGreatDoor.reserve, Array.getElem?_push]
    by_cases e : b = w.heap.size
    · exact .inr (by rw [if_pos e])
    · rw [if_neg e]; exact h.full b (by omega)
  · simp only [Go.Proofs.YtickhjoakbldpaaGreatDoor.reserve, Array.getElem?_push] at ho
    split at ho
    · cases ho; exact .inl ⟨_, _, rfl⟩
    · exact h.obj b o ho
  · obtain ⟨k1, ⟨c, k2, k3⟩, k4⟩ := h.loops g hg
    exact ⟨k1, ⟨c, (old _ k1).trans k2, k3⟩, k4⟩
  · obtain ⟨k1, k2, k3⟩ := h.resv p hp
    exact ⟨k1, (old _ k1).trans k2, k3⟩
/-- The other side makes its block first. -/
theorem WR.early (h : WR σ W0 H Γ A w w') {b : Nat} (hb : w.heap[b]? = some (.pending #[] 9)) (hd : ¬ A.d b) (cs : Array Value) (e : TypeId) :
    WR σ W0 H ⟨Γ.E, Γ.D, ⟨b, cs, e⟩ :: Γ.R⟩ (A.push b w'.heap.size) w (w'.alloc (.cells cs e)) := by
  have hle := A.push_le hd w'.heap.size
  have h2 : WR σ W0 H Γ A w (w'.alloc (.cells cs e)) := h.extR ((Ext.refl _).alloc _)
  have hlt : b < w.heap.size := (Array.getElem?_eq_some_iff.1 hb).1
  refine { tape := h.tape, size := fun c hc => ?_, full := fun c hc => ?_, lt := fun c hc => ?_, inj := push_inj hd (fun c hc e => by have := h.lt c hc; omega) h.inj, obj := fun c o ho => ?_, ext := h2.ext, hle := h2.hle, loops := fun g hg => ?_, resv := fun p hp => ?_, resd := fun c hc hb2 => ?_, dead := fun k hk => ?_ }
  · rcases hc with hc | hc
    · exact h.size c hc
    · rw [hc]; exact hlt
  · rcases h.full c hc with k1 | k1
    · exact .inl (.inl k1)
    · exact .inr k1
  · rcases hc with hc | hc
    · rw [hle.2 c hc]; exact h2.lt c hc
    · subst hc; rw [A.push_at]; simp
  · rcases h2.obj c o ho with k1 | ⟨cs1, e1, fz1, cs1', e1', fz1', k1, k2, k3, k4⟩
    · exact .inl k1
    · have hbn : A.d c := h.has (k1 ▸ ho)
      refine .inr ⟨cs1, e1, fz1, cs1', e1', fz1', k1, ?_, k3.mono hle, ?_⟩
      · rw [hle.2 c hbn]; exact k2
      · rw [hle.2 c hbn]; exact k4
  · obtain ⟨k1, ⟨c, k2, k3⟩, k4, k5, k6⟩ := h2.loops g hg
    exact ⟨.inl k1, ⟨c, k2, by rw [hle.2 _ k1]; exact k3⟩, k4.mono hle, by rw [hle.2 _ k1]; exact k5, k6⟩
  · rcases List.mem_cons.1 hp with rfl | hp
    · refine ⟨.inr rfl, hb, ?_, ?_⟩
      · show (w'.alloc (.cells cs e)).heap[(A.push b w'.heap.size).f b]? = _
        rw [A.push_at]; exact World.alloc_heap_new w' _
      · show H ≤ (A.push b w'.heap.size).f b
        rw [A.push_at]; exact h.hle
    · obtain ⟨k1, k2, k3, k4⟩ := h2.resv p hp
      exact ⟨.inl k1, k2, by rw [hle.2 _ k1]; exact k3, by rw [hle.2 _ k1]; exact k4⟩
  · rcases hc with hc | hc
    · obtain ⟨p, hp, e2⟩ := h.resd c hc hb2
      exact ⟨p, List.mem_cons_of_mem _ hp, e2⟩
    · exact ⟨_, List.mem_cons_self, hc.symm⟩
  · obtain ⟨k1, k2, k3⟩ := h2.dead k hk
    have hk2 := (Array.getElem?_eq_some_iff.1 (h.dead k hk).1).1
    refine ⟨k1, k2, fun c hc => ?_⟩
    rcases hc with hc | hc
    · rw [hle.2 c hc]; exact k3 c hc
    · subst hc; rw [A.push_at]; omega
/-- And this side makes its own. -/
theorem WR.fill (h : WR σ W0 H Γ A w w') {b : Nat} {cs : Array Value} {e : TypeId} (hp : ⟨b, cs, e⟩ ∈ Γ.R) (hc : cs.toList.all (closedN 8) = true) :
    WR σ W0 H ⟨Γ.E, Γ.D, Γ.R.filter (fun p => p.b ≠ b)⟩ A (w.putObj b (.cells cs e)) w' := by
  obtain ⟨h1, h2, h3, h4⟩ := h.resv _ hp
  have h2 : w.heap[b]? = some (.pending #[] 9) := h2
  have hlt : b < w.heap.size := h.size _ h1
  refine { tape := h.tape, size := fun c hc => by simpa using h.size c hc, full := fun c hc => ?_, lt := h.lt, inj := h.inj, obj := fun c o ho => ?_, ext := h.ext, hle := h.hle, loops := fun g hg => ?_, resv := fun p hp => ?_, resd := fun c hd hb2 => ?_, dead := h.dead }
  · by_cases e2 : c = b
    · exact .inl (e2 ▸ h1)
    · rw [World.putObj_heap_other e2]; exact h.full c (by simpa using hc)
  · by_cases e2 : c = b
    · subst e2
      rw [World.putObj_heap_same hlt] at ho
      cases ho
      exact .inr ⟨cs, e, (0, 0), cs, e, (0, 0), rfl, h3, ⟨Nat.le_refl _, fun i v hv => ⟨v, hv, closed_rv (all_get hc hv)⟩⟩, .inl ⟨rfl, rfl, h4⟩⟩
    · rw [World.putObj_heap_other e2] at ho
      exact h.obj c o ho
  · obtain ⟨k1, ⟨c, k2, k3⟩, k4, k5, k6⟩ := h.loops g hg
    by_cases e2 : g.L.b = b
    · exfalso
      rw [e2] at k3
      have h3 : w'.heap[A.f b]? = some (.cells cs e) := h3
      rw [h3] at k3
      cases k3
    · exact ⟨k1, ⟨c, by rw [World.putObj_heap_other e2]; exact k2, k3⟩, k4, k5, k6⟩
  · rw [List.mem_filter] at hp
    have hne : p.b ≠ b := by simpa using hp.2
    obtain ⟨k1, k2, k3, k4⟩ := h.resv p hp.1
    exact ⟨k1, by rw [World.putObj_heap_other hne]; exact k2, k3, k4⟩
  · by_cases e2 : c = b
    · subst e2
      rw [World.putObj_heap_same hlt] at hb2
      cases hb2
    · rw [World.putObj_heap_other e2] at hb2
      obtain ⟨p, hp, e3⟩ := h.resd c hd hb2
      exact ⟨p, List.mem_filter.2 ⟨hp, by simpa [e3] using e2⟩, e3⟩

/-- What an 'alloc' lays. -/
def allocOf (P : Program) (o : Op) : Option (Array Value × TypeId) := match o with
  | .alloc t => match (P.info? t).bind (·.zero) with
    | some z => if z.cells.toList.all (closedN 8) then some (z.cells, t) else none
    | none => none
  | _ => none
theorem run_allocOf {o : Oper} {cs : Array Value} {e : TypeId} (h : allocOf P o.op = some (cs, e)) (ρ : Operand → Value) (w : World) :
    (execOp ρ o).run P w = .ok (.value (.pointer (some ⟨w.heap.size, 0, none⟩))) (w.alloc (.cells cs e)) ∧ cs.toList.all (closedN 8) = true := by
  unfold allocOf at h
  obtain ⟨dst, op, type, pos, after, guard⟩ := o
  simp only [] at h
  cases op
  case alloc t =>
    simp only [] at h
    cases hz : (P.info? t).bind (·.zero) with
    | none => rw [hz] at h; cases h
    | some z =>
      rw [hz] at h
      simp only [] at h
      split at h
      case isFalse => cases h
      rename_i hc
      injection h with h
      injection h with h1 h2
      subst h1 h2
      refine ⟨?_, hc⟩
      cases hi : P.info? t with
      | none => rw [hi] at hz; cases hz
      | some i =>
        rw [hi] at hz
        have hz' : i.zero = some z := hz
        simp [execOp, Instr.alloc, zeroValue, typeInfo, hi, hz', newVar, newRow, Sem.run_bind, Result.andThen, go_sem]
  all_goals cases h
end
end Go.Proofs.YtickhjoakbldpaaGreatDoor
