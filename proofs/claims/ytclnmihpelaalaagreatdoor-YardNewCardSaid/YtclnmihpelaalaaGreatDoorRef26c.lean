/- Walks: the document's Right of scripts. -/
import Derived.Test.YtclnmihpelaalaaGreatDoorRows
import Derived.Test.YtclnmihpelaalaaGreatDoorRef26b
namespace Go.Proofs.YtclnmihpelaalaaGreatDoor
open Go.RowKit
set_option linter.unusedVariables false
set_option linter.unusedSimpArgs false

theorem bad_iff {cs : List CallD} (h : cs.length ≤ 40) : BadCalls cs ↔ ∃ i, i < cs.length ∧ ¬ MayOk (ix noCall cs i) := by
  unfold BadCalls
  constructor
  · rintro (h2 | h2)
    · omega
    · exact h2
  · exact .inr

set_option maxHeartbeats 2000000 in
set_option maxRecDepth 100000 in
theorem right26_any (p t : Int) (D : Value) (css : List (List CallD)) (n : Nat) (hcn : css.length = n) (A : Option Addr) (cap : Nat) (w : World) (hn : n ≤ maxLen) (hl : CallssR w A css) (hD : ∃ A n c, D = .slice A n c) :
    Calls Tryz.prog 6 #[.agg #[.int .i64 p, .int .i64 t, D], .slice A n cap] w fun e w' => e = .returned (.int .i64 (rightC p t css)) ∧ Ext w w' := by
  obtain ⟨DA, Dn, Dc, rfl⟩ := hD
  subst hcn
  have hn' : css.length ≤ 9223372036854775807 := hn
  have HL := Lib.hid hl
  clear hl
  by_cases h1 : LayMay p t
  · have hB := B_yes h1
    by_cases h2 : (css.length : Int) = t
    · subst h2
      have hR : rightC p css.length css = if B (∃ i, i < css.length ∧ BadCalls (ix [] css i)) then 6 else 0 := by
        unfold rightC; rw [if_pos hB]; simp
      have HR := Lib.hid hR
      clear hR h1
      go_enter Tryz.func6, Tryz.ntmps6
      go_wp2_with (go_at_call 16; refine (r6May_any _ _ _).mono ?_; rintro e w1 ⟨rfl, hE1⟩; obtain ⟨bc1, bf1⟩ := hE1.bcell)
      have hE0 := ((Ext.refl w).alloc (.cells #[.int .i64 p, .int .i64 css.length, .slice DA Dn Dc] 24)).trans hE1
      clear bc1 bf1
      go_loopg [5] css.length (fun q i wr => ∃ i' : Nat, i' ≤ css.length ∧ q = css.length - i' ∧ i = .int .i64 i' ∧ Ext w wr ∧ ∀ j, j < i' → ¬ BadCalls (ix [] css j))
      case atStart => exact ⟨0, Nat.zero_le _, rfl, rfl, hE0, fun j hj => absurd hj (by omega)⟩
      case round =>
        obtain ⟨i, hi, rfl, rfl, hE, hok⟩ := hrel
        have HOK := Lib.hid hok
        clear hok
        by_cases hlt : i < css.length
        · obtain ⟨LA, LC, hl1, hl2⟩ := HL.out
          obtain ⟨b, off, rfl, hc⟩ := hl1 (by omega)
          have c0 := hc i (by omega)
          obtain ⟨⟨MA, MC, hm1, hm2⟩, hl4⟩ := hl2 i hlt
          obtain ⟨cs, hcs⟩ : ∃ cs, cs = ix [] css i := ⟨_, rfl⟩
          rw [← hcs] at hm1 hm2 hl4
          have c0' : w.cell? ⟨b, off + i, none⟩ = some (.slice (LA i) cs.length (LC i)) := by rw [hcs]; exact c0
          have c1 := hE.cell c0'
          generalize LA i = Ai at c0' hm1 c1
          generalize LC i = Ci at c0' c1
          have HCS := Lib.hid hcs
          have HM := Lib.hid (And.intro hm1 hm2)
          have C0 := Lib.hid c0'
          have hl4' : cs.length ≤ 9223372036854775807 := hl4
          clear hl1 hl2 hc c0 hcs hm1 hm2 hl4 c0'
          by_cases h40 : 40 < cs.length
          · have hbad : B (∃ i, i < css.length ∧ BadCalls (ix [] css i)) = true := B_yes ⟨i, hlt, by rw [← HCS.out]; exact .inl h40⟩
            have HB := Lib.hid hbad
            clear hbad
            go_wp2
            go_ret
            exact ⟨ret_int (by rw [HR.out, HB.out]; rfl), hE⟩
          · go_wp2
            go_loopg [6] cs.length (fun q j wx => ∃ j' : Nat, j' ≤ cs.length ∧ q = cs.length - j' ∧ j = .int .i64 j' ∧ Ext w wx ∧ ∀ m, m < j' → MayOk (ix noCall cs m))
            case atStart => exact ⟨0, Nat.zero_le _, rfl, rfl, hE, fun j hj => absurd hj (by omega)⟩
            case round =>
              obtain ⟨j, hj, rfl, rfl, hX, hok2⟩ := hrel
              have HOK2 := Lib.hid hok2
              clear hok2
              have c2 := hX.cell C0.out
              by_cases hjlt : j < cs.length
              · obtain ⟨b', off', rfl, hc'⟩ := HM.out.1 (by omega)
                have d0 := hX.cell (hc' (j * 3) (by omega))
                have d1 := hX.cell (hc' (j * 3 + 1) (by omega))
                have d2 := hX.cell (hc' (j * 3 + 2) (by omega))
                rw [callv0] at d0
                rw [callv1, ← Nat.add_assoc] at d1
                rw [callv2, ← Nat.add_assoc] at d2
                obtain ⟨hl3, hl5⟩ := HM.out.2 j hjlt
                have HL3 := Lib.hid (And.intro hl3 hl5)
                clear hc' hl3 hl5
                go_wp2_with (go_at_call 17; refine (may26_any _ _ _ _ _ _ HL3.out.2 ?h1).mono ?_; (case h1 => exact HL3.out.1.ext hX); rintro e w2 ⟨rfl, hE2⟩)
                · have ht : (!B (MayOk (ix noCall cs j))) = true := by assumption
                  rw [B_not, B_iff] at ht
                  have hbad : B (∃ i, i < css.length ∧ BadCalls (ix [] css i)) = true := B_yes ⟨i, hlt, by rw [← HCS.out]; exact .inr ⟨j, hjlt, ht⟩⟩
                  go_ret
                  exact ⟨ret_int (by rw [HR.out, hbad]; rfl), hX.trans hE2⟩
                · have ht : (!B (MayOk (ix noCall cs j))) = false := by assumption
                  rw [Bool.not_eq_false', B_iff] at ht
                  go_roundg (cs.length - (j + 1))
                  case measure => go_light; omega
                  case rel =>
                    refine ⟨j + 1, by omega, rfl, by go_num, hX.trans hE2, fun m hm => ?_⟩
                    by_cases e : m = j
                    · subst e; exact ht
                    · exact HOK2.out m (by omega)
              · obtain rfl : j = cs.length := by omega
                go_wp2
                go_roundg (css.length - (i + 1))
                case measure => go_light; omega
                case rel =>
                  refine ⟨i + 1, by omega, rfl, by go_num, hX, fun m hm => ?_⟩
                  by_cases e : m = i
                  · subst e
                    rw [← HCS.out]
                    rintro (h | ⟨q, hq, h⟩)
                    · omega
                    · exact h (HOK2.out q hq)
                  · exact HOK.out m (by omega)
        · obtain rfl : i = css.length := by omega
          have hgood : B (∃ i, i < css.length ∧ BadCalls (ix [] css i)) = false := B_no (fun ⟨j, hj, h⟩ => HOK.out j hj h)
          have HB := Lib.hid hgood
          clear hgood
          go_wp2
          go_ret
          exact ⟨ret_int (by rw [HR.out, HB.out]; rfl), hE⟩
    · have h2' : ((css.length : Int) == t) = false := by simp [h2]
      have h3' : ((css.length : Int) != t) = true := by simp [h2]
      have hR : rightC p t css = 6 := by
        unfold rightC; rw [if_pos hB, if_pos (B_yes (.inl h2))]
      have HR := Lib.hid hR
      clear hR h1 h2
      go_enter Tryz.func6, Tryz.ntmps6
      go_wp2_with (go_at_call 16; refine (r6May_any _ _ _).mono ?_; rintro e w1 ⟨rfl, hE1⟩; obtain ⟨bc1, bf1⟩ := hE1.bcell)
      all_goals go_ret
      all_goals exact ⟨ret_int (by rw [HR.out]), ((Ext.refl _).alloc _).trans hE1⟩
  · have hB := B_no h1
    have hR : rightC p t css = 1 := by
      unfold rightC; rw [if_neg (by simp [hB])]
    have HR := Lib.hid hR
    clear hR h1
    go_enter Tryz.func6, Tryz.ntmps6
    go_wp2_with (go_at_call 16; refine (r6May_any _ _ _).mono ?_; rintro e w1 ⟨rfl, hE1⟩)
    all_goals go_ret
    all_goals exact ⟨ret_int (by rw [HR.out]), ((Ext.refl _).alloc _).trans hE1⟩
end Go.Proofs.YtclnmihpelaalaaGreatDoor
