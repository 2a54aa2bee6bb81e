/- FairMore: the walk and the plain law. -/
import Derived.Test.YtmpiodlkhjjbfaaRows
import Derived.Test.YtmpiodlkhjjbfaaPicks
import Derived.Test.YtmpiodlkhjjbfaaBase2
import Derived.Test.YtmpiodlkhjjbfaaFair3
namespace Go.Proofs.Ytmpiodlkhjjbfaa
open Go.RowKit
set_option linter.unusedVariables false
set_option linter.unusedSimpArgs false

/-! the plain law -/
theorem cnt_off (f : Nat → Int) (g : Nat → Nat) (a t : Nat) : ∀ i, cnt (fun j => f (a + j)) (fun j => g (a + j)) t i ≤ cnt f g t (a + i)
  | 0 => Nat.zero_le _
  | i + 1 => by
    have ih := cnt_off f g a t i
    rw [show a + (i + 1) = (a + i) + 1 from rfl]
    show (if _ then _ else _) ≤ (if _ then _ else _)
    by_cases h : (g (a + i)).testBit t = false ∨ f (a + i) = t
    · rw [if_pos h]; exact Nat.zero_le _
    · rw [if_neg h, if_neg h]; omega
theorem cnt_less (f : Nat → Int) (g : Nat → Nat) (m t : Nat) : ∀ i, cnt f (fun j => g j &&& m) t i ≤ cnt f g t i
  | 0 => Nat.le_refl _
  | i + 1 => by
    have ih := cnt_less f g m t i
    simp only [cnt, Nat.testBit_and]
    by_cases h1 : (g i).testBit t = false ∨ f i = t
    · rw [if_pos h1, if_pos]
      · omega
      · rcases h1 with h1 | h1
        · exact .inl (by simp [h1])
        · exact .inr h1
    · rw [if_neg h1]
      split <;> omega
theorem fair_mono {f : Nat → Int} {g : Nat → Nat} {n : Nat} {k l : Int} (h : FairOk f g n k) (hl : k ≤ l) : FairOk f g n l :=
  ⟨by have := h.1; omega, fun i hi t ht => by have := h.2 i hi t ht; omega⟩
theorem fair_part {f : Nat → Int} {g : Nat → Nat} {n a b : Nat} {k : Int} (h : FairOk f g n k) (hb : b ≤ n) : FairOk (fun j => f (a + j)) (fun j => g (a + j)) (b - a) k :=
  ⟨h.1, fun i hi t ht => by
    have h1 := h.2 (a + i) (by omega) t ht
    have h2 := cnt_off f g a t (i + 1)
    rw [show a + (i + 1) = a + i + 1 by omega] at h2
    omega⟩
theorem fair_less {f : Nat → Int} {g : Nat → Nat} {n : Nat} (m : Nat) {k : Int} (h : FairOk f g n k) : FairOk f (fun j => g j &&& m) n k :=
  ⟨h.1, fun i hi t ht => by
    have h1 := h.2 i hi t ht
    have h2 := cnt_less f g m t (i + 1)
    omega⟩
theorem fair_zero (f : Nat → Int) (g : Nat → Nat) (n : Nat) : ¬ FairOk f g n 0 := fun h => by have := h.1; omega

theorem fair_z (A : Option Addr) (n c : Nat) (f : Nat → Int) (g : Nat → Nat) (k : Int) (w : World) (z : Bool) (hz : B (FairOk f g n k) = z) (hn : n ≤ 1000000) (hl : SlR w A n 2 (pkv f g)) (hg : ∀ i, g i < 18446744073709551616) (hk2 : k ≤ 9223372036854775807) :
    Calls Try.prog 14 #[.slice A n c, .int .i64 k] w fun e w' => e = .returned (.bool z) ∧ Ext w w' := fair_b A n c f g k w z hz hn hl (fun i => by have := hg i; omega) hk2
theorem pk_all (f : Nat → Int) (g : Nat → Nat) {m : Nat} : ∀ j, j < m → (pkv f g j).oneCell' = true := by
  intro j _
  unfold pkv
  split <;> rfl
theorem pg_lt (xs : List Nat) (i : Nat) : pg xs i < 18446744073709551616 := by unfold pg; omega

/-- The left ones, those of the first i picks masked. -/
def pgl (xs : List Nat) (m i j : Nat) : Nat := if j < i then pg xs j &&& m else pg xs j

theorem pgl_step (xs : List Nat) (m i : Nat) (f : Nat → Int) (j : Nat) : (if j = i * 2 + 1 then Value.int .u64 ((pg xs i &&& m : Nat) : Int) else pkv f (pgl xs m i) j) = pkv f (pgl xs m (i + 1)) j := by
  by_cases e : j = i * 2 + 1
  · subst e
    rw [if_pos rfl, pkv1]
    simp [pgl]
  · rw [if_neg e]
    unfold pkv
    by_cases h2 : j % 2 = 0
    · rw [if_pos h2, if_pos h2]
    · rw [if_neg h2, if_neg h2]
      unfold pgl
      by_cases h3 : j / 2 < i
      · rw [if_pos h3, if_pos (by omega)]
      · rw [if_neg h3, if_neg (by omega)]

theorem pgl_all (xs : List Nat) (m i : Nat) (f : Nat → Int) : ∀ j, j < i * 2 → pkv f (pgl xs m i) j = pkv f (fun j => pg xs j &&& m) j := by
  intro j hj
  unfold pkv pgl
  by_cases h2 : j % 2 = 0
  · rw [if_pos h2, if_pos h2]
  · rw [if_neg h2, if_neg h2, if_pos (by omega)]
theorem pkv_off (f : Nat → Int) (g : Nat → Nat) (a : Nat) : ∀ j, pkv f g (a * 2 + j) = pkv (fun i => f (a + i)) (fun i => g (a + i)) j := by
  intro j
  unfold pkv
  rw [show (a * 2 + j) % 2 = j % 2 by omega, show (a * 2 + j) / 2 = a + j / 2 by omega]

set_option maxHeartbeats 2000000 in
set_option maxRecDepth 100000 in
theorem fairMore_any (A : Option Addr) (xs : List Nat) (c : Nat) (k more a0 b0 : Nat) (w : World) (hn : xs.length ≤ maxLen) (hl : BytesR w A xs) (hk : k < 256) (hm : more < 256) (ha : a0 < 256) (hb : b0 < 256) :
    Calls Try.prog 4 #[.slice A xs.length c, .int .u8 k, .int .u8 more, .int .u8 a0, .int .u8 b0] w fun e w' => e = .returned (.bool true) ∧ Ext w w' := by
  obtain ⟨N, hN⟩ : ∃ N, N = min (xs.length / 2) 100 := ⟨_, rfl⟩
  have hN1 : 2 * N ≤ xs.length := by omega
  have hN2 : N ≤ 100 := by omega
  have hN3 : N < 100 → xs.length < 2 * N + 2 := by omega
  have HN := Lib.hid (And.intro hN1 hN3)
  clear hN hN1 hN3
  have hpg := pg_lt xs
  have HP := Lib.hid hpg
  clear hpg
  have HZ := Lib.hid (B_no (fair_zero (pf xs) (pg xs) N))
  by_cases hF : FairOk (pf xs) (pg xs) N (1 + (k : Int) % 20)
  · have hF0 := B_yes hF
    have hn0 : 0 ≤ 1 + (k : Int) % 20 := by omega
    have hn9 : 1 + (k : Int) % 20 ≤ 20 := by omega
    obtain ⟨a, hae⟩ : ∃ a, a0 % (N + 1) = a := ⟨_, rfl⟩
    obtain ⟨d, hde⟩ : ∃ d, b0 % (N - a + 1) = d := ⟨_, rfl⟩
    have haN : a ≤ N := by have := Nat.mod_lt a0 (show 0 < N + 1 by omega); omega
    have hdN : a + d ≤ N := by have := Nat.mod_lt b0 (show 0 < N - a + 1 by omega); omega
    have ea : ((a0 : Nat) : Int) % ((N : Int) + 1) = (a : Int) := by subst hae; simp
    have ed : ((b0 : Nat) : Int) % ((N : Int) - (a : Int) + 1) = (d : Int) := by
      rw [show (N : Int) - (a : Int) + 1 = ((N - a + 1 : Nat) : Int) by omega]; subst hde; simp
    clear hae hde
    have H1 := Lib.hid (B_yes (fair_mono (l := 1 + (k : Int) % 20 + more) hF (by omega)))
    have hpart := fair_part (a := a) (b := a + d) hF hdN
    rw [Nat.add_sub_cancel_left] at hpart
    have H2 := Lib.hid (B_yes hpart)
    clear hpart
    have H3 := Lib.hid (B_yes (fair_less more hF))
    have HF := Lib.hid hF0
    clear hF hF0
    have HL := Lib.hid hl
    clear hl
    go_enter Try.func4, Try.ntmps4
    go_wp2_with fail
    refine (picks_any _ _ _ N _ hn HN.out.1 hN2 HN.out.2 HL.out).mono ?_
    rintro e w1 ⟨v, rfl, hO, hE1⟩
    obtain ⟨Av, cv, rfl, hcv, hS⟩ := hO.form
    obtain ⟨i0, hi, hz0, hz1, hz2⟩ := info_parts Try.infoPick
    have HI := Lib.hid (And.intro hi (And.intro hz0 (And.intro hz1 hz2)))
    clear hi hz0 hz1 hz2
    go_wp2_with (first
      | (go_at_call 14; have _t := HF; refine (fair_z _ N _ _ _ _ _ true HF.out (by omega) ?h1 HP.out (by omega)).mono ?_; (case h1 => exact hS); clear HF; rintro e w2 ⟨rfl, hE2⟩)
      | (at_builtin; refine wpList_pushAll rfl _ _ 36 rfl w2.heap.size 41 i0 (.agg #[.int .i64 0, .int .u64 0]) 2 16 Try.underlying36 HI.out.1 HI.out.2.1 HI.out.2.2.1 HI.out.2.2.2 rfl (by decide) _ 0 (pkv (pf xs) (pg xs)) rfl (OwnS.lit0 _ _ _ _) Av N cv (pkv (pf xs) (pg xs)) rfl (hS.ext (hE2.trans ((Ext.refl _).alloc _))) (pk_all _ _) (by unfold maxLen; omega) (by omega) (by simp) (pkv (pf xs) (pg xs)) (fun j hj => absurd hj (by omega)) (fun j _ => by simp) N (by omega) ?_; intro A' c' w3 hO3 hg3 hX3 _))
    have hX2 := hX3 w2 ((Ext.refl _).alloc _) (Nat.le_refl _)
    clear hX3 hg3
    go_loopg [16] N (fun q i wr => ∃ i' : Nat, i' ≤ N ∧ q = N - i' ∧ i = .int .i64 i' ∧ Ext w2 wr ∧ OwnS wr w2.heap.size 41 2 (.slice A' N c') N (pkv (pf xs) (pgl xs more i')))
    case atStart => exact ⟨0, Nat.zero_le _, rfl, rfl, hX2, hO3.congr (fun j _ => by simp [pkv, pgl])⟩
    case round =>
      obtain ⟨i, hi, rfl, rfl, hX, hOw⟩ := hrel
      by_cases hlt : i < N
      · obtain ⟨g3, _, e3⟩ := hOw.form' (by omega)
        cases e3
        have c1 : wr.cell? ⟨g3, i * 2 + 1, none⟩ = some (.int .u64 (pg xs i : Nat)) := by
          rw [hOw.cellAt (by omega), pkv1]; simp [pgl]
        have fz := hOw.frozenAt (i * 2 + 1)
        have hbit := u64_and_nat (pg xs i) more (HP.out i) (by omega)
        go_wp2
        go_roundg (N - (i + 1))
        case measure => go_light; omega
        case rel => exact ⟨i + 1, by omega, rfl, by go_num, hX.setCell hOw.base_le _, (hOw.set (i * 2 + 1) _).congr (fun j _ => pgl_step _ _ _ _ j)⟩
      · obtain rfl : i = N := by omega
        have hS3 := hS.ext (hE2.trans hX)
        obtain ⟨_, _, e3, _, hSl⟩ := hOw.form
        cases e3
        by_cases hca : cv = a
        · obtain rfl : i = a := by omega
          obtain rfl : d = 0 := by omega
          obtain rfl : cv = i := by omega
          go_wp2_with (first
            | (go_at_call 14; have _t := H1; refine (fair_z _ cv _ _ _ _ _ true H1.out (by omega) ?h1 HP.out (by omega)).mono ?_; (case h1 => exact hS3); clear H1; rintro e w4 ⟨rfl, hE4⟩)
            | (go_at_call 14; have _t := H2; refine (fair_z _ 0 _ _ _ _ _ true H2.out (by omega) ?h1 (fun j => HP.out (cv + j)) (by omega)).mono ?_; (case h1 => exact SlR.nil); clear H2; rintro e w5 ⟨rfl, hE5⟩)
            | (go_at_call 14; have _t := H3; refine (fair_z _ cv _ _ _ _ _ true H3.out (by omega) ?h1 (fun j => Nat.lt_of_le_of_lt Nat.and_le_left (HP.out j)) (by omega)).mono ?_; (case h1 => exact (hSl.congr (pgl_all _ _ _ _)).ext (hE4.trans hE5)); clear H3; rintro e w6 ⟨rfl, hE6⟩)
            | (go_at_call 14; have _t := HZ; refine (fair_z _ cv _ _ _ 0 _ false HZ.out (by omega) ?h1 HP.out (by omega)).mono ?_; (case h1 => exact hS3.ext (hE4.trans (hE5.trans hE6))); clear HZ; rintro e w7 ⟨rfl, hE7⟩)
            | (go_at_call 15; refine (awake31_any _).mono ?_; rintro e w8 ⟨rfl, hE8⟩))
          go_ret
          exact ⟨rfl, hE1.trans (hE2.trans (hX.trans (hE4.trans (hE5.trans (hE6.trans (hE7.trans hE8))))))⟩
        · go_wp2_with (first
            | (go_at_call 14; have _t := H1; refine (fair_z _ i _ _ _ _ _ true H1.out (by omega) ?h1 HP.out (by omega)).mono ?_; (case h1 => exact hS3); clear H1; rintro e w4 ⟨rfl, hE4⟩)
            | (go_at_call 14; have _t := H2; refine (fair_z _ d _ _ _ _ _ true H2.out (by omega) ?h1 (fun j => HP.out (a + j)) (by omega)).mono ?_; (case h1 => exact (hS3.ext hE4).cut' hdN hcv hca _ (pkv_off _ _ _)); clear H2; rintro e w5 ⟨rfl, hE5⟩)
            | (go_at_call 14; have _t := H3; refine (fair_z _ i _ _ _ _ _ true H3.out (by omega) ?h1 (fun j => Nat.lt_of_le_of_lt Nat.and_le_left (HP.out j)) (by omega)).mono ?_; (case h1 => exact (hSl.congr (pgl_all _ _ _ _)).ext (hE4.trans hE5)); clear H3; rintro e w6 ⟨rfl, hE6⟩)
            | (go_at_call 14; have _t := HZ; refine (fair_z _ i _ _ _ 0 _ false HZ.out (by omega) ?h1 HP.out (by omega)).mono ?_; (case h1 => exact hS3.ext (hE4.trans (hE5.trans hE6))); clear HZ; rintro e w7 ⟨rfl, hE7⟩)
            | (go_at_call 15; refine (awake31_any _).mono ?_; rintro e w8 ⟨rfl, hE8⟩))
          go_ret
          exact ⟨rfl, hE1.trans (hE2.trans (hX.trans (hE4.trans (hE5.trans (hE6.trans (hE7.trans hE8))))))⟩
  · have HF := Lib.hid (B_no hF)
    clear hF
    have HL := Lib.hid hl
    clear hl
    go_enter Try.func4, Try.ntmps4
    go_wp2_with fail
    refine (picks_any _ _ _ N _ hn HN.out.1 hN2 HN.out.2 HL.out).mono ?_
    rintro e w1 ⟨v, rfl, hO, hE1⟩
    obtain ⟨Av, cv, rfl, hcv, hS⟩ := hO.form
    go_wp2_with (first
      | (go_at_call 14; have _t := HF; refine (fair_z _ N _ _ _ _ _ false HF.out (by omega) ?h1 HP.out (by omega)).mono ?_; (case h1 => exact hS); clear HF; rintro e w2 ⟨rfl, hE2⟩)
      | (go_at_call 14; have _t := HZ; refine (fair_z _ N _ _ _ 0 _ false HZ.out (by omega) ?h1 HP.out (by omega)).mono ?_; (case h1 => exact hS.ext hE2); clear HZ; rintro e w3 ⟨rfl, hE3⟩)
      | (go_at_call 15; refine (awake31_any _).mono ?_; rintro e w4 ⟨rfl, hE4⟩))
    go_ret
    exact ⟨rfl, hE1.trans (hE2.trans (hE3.trans hE4))⟩
end Go.Proofs.Ytmpiodlkhjjbfaa
