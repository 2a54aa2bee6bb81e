/- Plain law: what audit.Live and the document's Live tell are one. -/
import Derived.Test.YtpohnehcnonjhaaDoorLiveD
namespace Go.Proofs.YtpohnehcnonjhaaDoor
open Go.RowKit Go.Sort
set_option linter.unusedVariables false
set_option linter.unusedSimpArgs false

theorem putL_law {x : Int} : ∀ {l : List Int}, l.Pairwise (· < ·) → (putL l x).Pairwise (· < ·) ∧ ∀ y, y ∈ putL l x ↔ y = x ∨ y ∈ l
  | [], _ => by simp [putL]
  | z :: zs, h => by
    have hz := List.pairwise_cons.1 h
    obtain ⟨i1, i2⟩ := putL_law (x := x) hz.2
    unfold putL
    by_cases h1 : z < x
    · rw [if_pos h1]
      refine ⟨List.pairwise_cons.2 ⟨fun y hy => ?_, i1⟩, fun y => ?_⟩
      · rcases (i2 y).1 hy with e | hm
        · omega
        · exact hz.1 y hm
      · simp only [List.mem_cons, i2]
        constructor
        · rintro (h | h | h)
          · exact .inr (.inl h)
          · exact .inl h
          · exact .inr (.inr h)
        · rintro (h | h | h)
          · exact .inr (.inl h)
          · exact .inl h
          · exact .inr (.inr h)
    · rw [if_neg h1]
      by_cases h2 : z = x
      · rw [if_pos h2]
        refine ⟨h, fun y => ?_⟩
        subst h2
        simp
      · rw [if_neg h2]
        refine ⟨List.pairwise_cons.2 ⟨fun y hy => ?_, h⟩, fun y => by simp⟩
        rcases List.mem_cons.1 hy with e | hm
        · omega
        · have := hz.1 y hm; omega

theorem get_mono {M : List Int} (h : M.Pairwise (· ≤ ·)) {i j : Nat} (hij : i < j) (hj : j < M.length) : M.toArray[i]! ≤ M.toArray[j]! := by
  have := List.pairwise_iff_getElem.1 h i j (by omega) hj hij
  simp [show i < M.length by omega, hj]
  exact this
theorem comp_law {M : List Int} (h : M.Pairwise (· ≤ ·)) : ∀ m, m ≤ M.length → (Lib.compactUpTo M.toArray m).Pairwise (· < ·) ∧ ∀ y, y ∈ Lib.compactUpTo M.toArray m ↔ ∃ i, i < m ∧ M.toArray[i]! = y
  | 0, _ => by simp [Lib.compactUpTo]
  | m + 1, hm => by
    obtain ⟨h1, h2⟩ := comp_law h m (by omega)
    rw [Lib.compactUpTo_succ]
    by_cases hk : Lib.keeps M.toArray m = true
    · rw [if_pos hk]
      refine ⟨List.pairwise_append.2 ⟨h1, by simp, fun y hy z hz => ?_⟩, fun y => ?_⟩
      · obtain ⟨i, hi, rfl⟩ := (h2 y).1 hy
        rw [List.mem_singleton] at hz
        subst hz
        have hk' := of_decide_eq_true hk
        rcases hk' with e | hne
        · omega
        · have a2 : M.toArray[m - 1]! ≤ M.toArray[m]! := get_mono h (by omega) (by omega)
          by_cases e : i = m - 1
          · subst e; omega
          · have a1 : M.toArray[i]! ≤ M.toArray[m - 1]! := get_mono h (by omega) (by omega)
            omega
      · rw [List.mem_append, h2, List.mem_singleton]
        constructor
        · rintro (⟨i, hi, e⟩ | e)
          · exact ⟨i, by omega, e⟩
          · exact ⟨m, by omega, e.symm⟩
        · rintro ⟨i, hi, e⟩
          by_cases em : i = m
          · subst em; exact .inr e.symm
          · exact .inl ⟨i, by omega, e⟩
    · rw [if_neg hk, List.append_nil]
      refine ⟨h1, fun y => ?_⟩
      have hk' : ¬ (m = 0 ∨ M.toArray[m]! ≠ M.toArray[m - 1]!) := fun hh => hk (decide_eq_true hh)
      have hm0 : m ≠ 0 := fun e => hk' (.inl e)
      have he : M.toArray[m]! = M.toArray[m - 1]! := by
        by_cases e : M.toArray[m]! = M.toArray[m - 1]!
        · exact e
        · exact absurd (.inr e) hk'
      rw [h2]
      constructor
      · rintro ⟨i, hi, e⟩
        exact ⟨i, by omega, e⟩
      · rintro ⟨i, hi, e⟩
        by_cases em : i = m
        · subst em; exact ⟨i - 1, by omega, by rw [← he]; exact e⟩
        · exact ⟨i, by omega, e⟩
theorem sort_comp (L : List Int) : (Lib.compact (L.mergeSort fun x y => decide (x ≤ y))).Pairwise (· < ·) ∧ ∀ y, y ∈ Lib.compact (L.mergeSort fun x y => decide (x ≤ y)) ↔ y ∈ L := by
  have hs : (L.mergeSort fun x y => decide (x ≤ y)).Pairwise (· ≤ ·) := by
    have := List.pairwise_mergeSort (le := fun x y : Int => decide (x ≤ y)) (fun a b c h1 h2 => by simp at *; omega) (fun a b => by simp; omega) L
    exact this.imp (fun h => by simpa using h)
  have hmem : ∀ y, y ∈ (L.mergeSort fun x y => decide (x ≤ y)) ↔ y ∈ L := fun y => List.mem_mergeSort
  generalize (L.mergeSort fun x y => decide (x ≤ y)) = M at hs hmem ⊢
  obtain ⟨h1, h2⟩ := comp_law hs M.length (Nat.le_refl _)
  refine ⟨h1, fun y => ?_⟩
  rw [show Lib.compact M = Lib.compactUpTo M.toArray M.length from rfl, h2, ← hmem]
  constructor
  · rintro ⟨i, hi, rfl⟩
    simp [hi]
  · intro hy
    obtain ⟨i, hi, rfl⟩ := List.getElem_of_mem hy
    exact ⟨i, hi, by simp [hi]⟩
theorem strict_ext : ∀ {l m : List Int}, l.Pairwise (· < ·) → m.Pairwise (· < ·) → (∀ y, y ∈ l ↔ y ∈ m) → l = m
  | [], [], _, _, _ => rfl
  | [], z :: zs, _, _, h => absurd ((h z).2 (by simp)) (by simp)
  | z :: zs, [], _, _, h => absurd ((h z).1 (by simp)) (by simp)
  | a :: l, b :: m, h1, h2, h => by
    have p1 := List.pairwise_cons.1 h1
    have p2 := List.pairwise_cons.1 h2
    have e : a = b := by
      rcases List.mem_cons.1 ((h a).1 (by simp)) with e | hm
      · exact e
      · rcases List.mem_cons.1 ((h b).2 (by simp)) with e | hl
        · exact e.symm
        · have := p2.1 a hm; have := p1.1 b hl; omega
    subst e
    rw [strict_ext p1.2 p2.2 (fun y => ?_)]
    constructor
    · intro hy
      rcases List.mem_cons.1 ((h y).1 (by simp [hy])) with e | hm
      · have := p1.1 y hy; omega
      · exact hm
    · intro hy
      rcases List.mem_cons.1 ((h y).2 (by simp [hy])) with e | hm
      · have := p2.1 y hy; omega
      · exact hm

/-- The slots that live. -/
def IsLive (x : SpanD) (g y : Int) : Prop := ∃ k : Nat, LivP x g k ∧ y = begC x.page x.cls k
theorem liv_lt {x : SpanD} {g : Int} {k : Nat} (h : LivP x g k) : (k : Int) < clsS x.cls := h.1.2.2.2.2.2
theorem liv_bit {x : SpanD} {g : Int} {k : Nat} (h : LivP x g k) : x.alloc.testBit k = true := by
  have h2 := h.2
  cases hb : x.alloc.testBit k
  · exact absurd (slotC_free (x := x) (g := g) (i := (k : Int)) ⟨by omega, liv_lt h⟩ hb) (by rw [h2]; decide)
  · rfl
theorem slotsTo_law (x : SpanD) (g : Int) {acc : List Int} (ha : acc.Pairwise (· < ·)) : ∀ k, (slotsTo x g acc k).Pairwise (· < ·) ∧ ∀ y, y ∈ slotsTo x g acc k ↔ y ∈ acc ∨ ∃ j : Nat, j < k ∧ LivP x g j ∧ y = begC x.page x.cls j
  | 0 => ⟨ha, fun y => by simp [slotsTo]⟩
  | k + 1 => by
    obtain ⟨h1, h2⟩ := slotsTo_law x g ha k
    by_cases h : LivP x g k
    · rw [slotsTo_yes h]
      obtain ⟨h3, h4⟩ := putL_law (x := begC x.page x.cls k) h1
      refine ⟨h3, fun y => ?_⟩
      rw [h4, h2]
      constructor
      · rintro (e | e | ⟨j, hj, e⟩)
        · exact .inr ⟨k, by omega, h, e⟩
        · exact .inl e
        · exact .inr ⟨j, by omega, e⟩
      · rintro (e | ⟨j, hj, hl, e⟩)
        · exact .inr (.inl e)
        · by_cases ej : j = k
          · subst ej; exact .inl e
          · exact .inr (.inr ⟨j, by omega, hl, e⟩)
    · rw [slotsTo_no h]
      refine ⟨h1, fun y => ?_⟩
      rw [h2]
      constructor
      · rintro (e | ⟨j, hj, e⟩)
        · exact .inl e
        · exact .inr ⟨j, by omega, e⟩
      · rintro (e | ⟨j, hj, hl, e⟩)
        · exact .inl e
        · by_cases ej : j = k
          · subst ej; exact absurd hl h
          · exact .inr ⟨j, by omega, hl, e⟩
theorem liveTo_law (sp : List SpanD) (g : Int) : ∀ n, (liveTo sp g n).Pairwise (· < ·) ∧ ∀ y, y ∈ liveTo sp g n ↔ ∃ i, i < n ∧ IsLive (ix noSpan sp i) g y
  | 0 => ⟨by simp [liveTo], fun y => by simp [liveTo]⟩
  | n + 1 => by
    obtain ⟨h1, h2⟩ := liveTo_law sp g n
    obtain ⟨h3, h4⟩ := slotsTo_law (ix noSpan sp n) g h1 (clsS (ix noSpan sp n).cls).toNat
    refine ⟨h3, fun y => ?_⟩
    rw [show liveTo sp g (n + 1) = slotsTo (ix noSpan sp n) g (liveTo sp g n) (clsS (ix noSpan sp n).cls).toNat from rfl, h4, h2]
    constructor
    · rintro (⟨i, hi, e⟩ | ⟨j, hj, e⟩)
      · exact ⟨i, by omega, e⟩
      · exact ⟨n, by omega, j, e⟩
    · rintro ⟨i, hi, j, hl, e⟩
      by_cases ei : i = n
      · subst ei
        exact .inr ⟨j, by have := liv_lt hl; omega, hl, e⟩
      · exact .inl ⟨i, by omega, j, hl, e⟩
theorem pushTo_law (x : SpanD) (g : Int) (acc : List Int) : ∀ k, k ≤ (places x.alloc).length → ∀ y, y ∈ pushTo x g acc k ↔ y ∈ acc ∨ ∃ j : Nat, j < k ∧ LivP x g (ix 0 (places x.alloc) j) ∧ y = begC x.page x.cls (ix 0 (places x.alloc) j : Nat)
  | 0, _, y => by simp [pushTo]
  | k + 1, hk, y => by
    have h2 := pushTo_law x g acc k (by omega) y
    by_cases h : LivP x g (ix 0 (places x.alloc) k)
    · rw [pushTo_yes rfl h, List.mem_append, List.mem_singleton, h2]
      constructor
      · rintro ((e | ⟨j, hj, e⟩) | e)
        · exact .inl e
        · exact .inr ⟨j, by omega, e⟩
        · exact .inr ⟨k, by omega, h, e⟩
      · rintro (e | ⟨j, hj, hl, e⟩)
        · exact .inl (.inl e)
        · by_cases ej : j = k
          · subst ej; exact .inr e
          · exact .inl (.inr ⟨j, by omega, hl, e⟩)
    · rw [pushTo_no rfl h, h2]
      constructor
      · rintro (e | ⟨j, hj, e⟩)
        · exact .inl e
        · exact .inr ⟨j, by omega, e⟩
      · rintro (e | ⟨j, hj, hl, e⟩)
        · exact .inl e
        · by_cases ej : j = k
          · subst ej; exact absurd hl h
          · exact .inr ⟨j, by omega, hl, e⟩
theorem appTo_law (sp : List SpanD) (g : Int) : ∀ n y, y ∈ appTo sp g n ↔ ∃ i, i < n ∧ IsLive (ix noSpan sp i) g y
  | 0, y => by simp [appTo]
  | n + 1, y => by
    have h2 := appTo_law sp g n y
    rw [show appTo sp g (n + 1) = pushTo (ix noSpan sp n) g (appTo sp g n) (places (ix noSpan sp n).alloc).length from rfl, pushTo_law _ _ _ _ (Nat.le_refl _), h2]
    constructor
    · rintro (⟨i, hi, e⟩ | ⟨j, hj, hl, e⟩)
      · exact ⟨i, by omega, e⟩
      · exact ⟨n, by omega, _, hl, e⟩
    · rintro ⟨i, hi, j, hl, e⟩
      by_cases ei : i = n
      · subst ei
        have hb := liv_bit hl
        have hj : j < 64 := by have := liv_lt hl; have := (clsS_bd (ix noSpan sp i).cls).2; omega
        have hm : j ∈ places (ix noSpan sp i).alloc := by
          unfold places
          exact List.mem_filter.2 ⟨List.mem_range.2 hj, hb⟩
        obtain ⟨q, hq, e'⟩ := List.getElem_of_mem hm
        refine .inr ⟨q, hq, ?_⟩
        rw [ix_lt hq, e']
        exact ⟨hl, e⟩
      · exact .inl ⟨i, by omega, j, hl, e⟩
/-- The two tell the same. -/
theorem live_same (sp : List SpanD) (g : Int) (n : Nat) : Lib.compact ((appTo sp g n).mergeSort fun x y => decide (x ≤ y)) = liveTo sp g n := by
  obtain ⟨a1, a2⟩ := sort_comp (appTo sp g n)
  obtain ⟨b1, b2⟩ := liveTo_law sp g n
  exact strict_ext a1 b1 (fun y => by rw [a2, b2, appTo_law])
end Go.Proofs.YtpohnehcnonjhaaDoor
