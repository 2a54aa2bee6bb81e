/- FrontGreat: the law (printed by gen_fg.py). -/
import Derived.Test.YthggcmhmjkmjnaaGreatDoorFgNpa
import Derived.Test.YthggcmhmjkmjnaaGreatDoorFgNpb
import Derived.Test.YthggcmhmjkmjnaaGreatDoorFgNna
import Derived.Test.YthggcmhmjkmjnaaGreatDoorFgNnb
import Derived.Test.YthggcmhmjkmjnaaGreatDoorRf
namespace Go.Proofs.YthggcmhmjkmjnaaGreatDoor
open Go.RowKit Go.IntWalk
set_option linter.unusedVariables false
set_option linter.unusedSimpArgs false
set_option maxRecDepth 100000
theorem quo8 {S k : Int} (h0 : 0 ≤ k) (h1 : k * 8192 ≤ S) (h2 : S ≤ 9223372036854775807) (h3 : k ≤ 100) : k ≤ IntKind.i64.wrap (Int.tdiv S 8192) ∧ IntKind.i64.wrap (Int.tdiv S 8192) ≤ 2000000000000000 := by
  rw [Int.tdiv_eq_ediv_of_nonneg (by omega), i64_in _ (by omega)]
  omega
theorem Fg_any (pg th sz : Int) (w : World) (hT : TabR w tabA) (hG : 2 ≤ w.heap.size) (hA : ∀ w', Below w.heap.size w w' → Calls Tryz.prog 7 #[] w' fun e w'' => e = .returned (.bool true) ∧ Ext w' w'') (hpg : 0 ≤ pg ∧ pg < 256) (hth : 0 ≤ th ∧ th < 256) (hsz : -9223372036854775808 ≤ sz ∧ sz ≤ 9223372036854775807) : Calls Tryz.prog 3 #[.int .u8 pg, .int .u8 th, .int .i64 sz] w fun e w' => e = .returned (.bool true) ∧ Ext w w' := by
  obtain ⟨r, hr⟩ : ∃ z, Int.tmod pg 60 = z := ⟨_, rfl⟩
  have hr2 : 0 ≤ r ∧ r < 60 := by rw [← hr]; exact ⟨Int.tmod_nonneg _ hpg.1, Int.tmod_lt_of_pos _ (by omega)⟩
  obtain ⟨v, hv⟩ : ∃ z, Int.tmod th 6 = z := ⟨_, rfl⟩
  have hv2 : 0 ≤ v ∧ v < 6 := by rw [← hv]; exact ⟨Int.tmod_nonneg _ hth.1, Int.tmod_lt_of_pos _ (by omega)⟩
  by_cases hs : 0 ≤ sz
  · by_cases hb : (1 + r) * 8192 < sz
    · by_cases hl : 12288 < sz
      · obtain ⟨Q, hQ⟩ : ∃ z, IntKind.i64.wrap (Int.tdiv (sz - 1) 8192) = z := ⟨_, rfl⟩
        have hQ2 : 1 + r ≤ Q ∧ Q ≤ 2000000000000000 := by rw [← hQ]; exact quo8 (by omega) (by omega) (by omega) (by omega)
        exact Fg_pal_any pg th sz r v Q w hT hG hA hpg hth hsz hr hr2 hv hv2 hs hb hl hQ hQ2
      · exact Fg_pas_any pg th sz r v w hT hG hA hpg hth hsz hr hr2 hv hv2 hs hb (by omega)
    · replace hb : sz ≤ (1 + r) * 8192 := by omega
      by_cases hl : 12288 < (8192 * (1 + r) + 1 + sz)
      · obtain ⟨Q, hQ⟩ : ∃ z, IntKind.i64.wrap (Int.tdiv ((((8192 * (1 + r)) + 1) + sz) - 1) 8192) = z := ⟨_, rfl⟩
        have hQ2 : 1 + r ≤ Q ∧ Q ≤ 2000000000000000 := by rw [← hQ]; exact quo8 (by omega) (by omega) (by omega) (by omega)
        exact Fg_pbl_any pg th sz r v Q w hT hG hA hpg hth hsz hr hr2 hv hv2 hs hb hl hQ hQ2
      · exact Fg_pbs_any pg th sz r v w hT hG hA hpg hth hsz hr hr2 hv hv2 hs hb (by omega)
  · replace hs : sz < 0 := by omega
    by_cases hb : (1 + r) * 8192 < (-1 - sz)
    · by_cases hl : 12288 < (-1 - sz)
      · obtain ⟨Q, hQ⟩ : ∃ z, IntKind.i64.wrap (Int.tdiv (((-1) - sz) - 1) 8192) = z := ⟨_, rfl⟩
        have hQ2 : 1 + r ≤ Q ∧ Q ≤ 2000000000000000 := by rw [← hQ]; exact quo8 (by omega) (by omega) (by omega) (by omega)
        exact Fg_nal_any pg th sz r v Q w hT hG hA hpg hth hsz hr hr2 hv hv2 hs hb hl hQ hQ2
      · exact Fg_nas_any pg th sz r v w hT hG hA hpg hth hsz hr hr2 hv hv2 hs hb (by omega)
    · replace hb : (-1 - sz) ≤ (1 + r) * 8192 := by omega
      by_cases hl : 12288 < (8192 * (1 + r) + 1 + (-1 - sz))
      · obtain ⟨Q, hQ⟩ : ∃ z, IntKind.i64.wrap (Int.tdiv ((((8192 * (1 + r)) + 1) + ((-1) - sz)) - 1) 8192) = z := ⟨_, rfl⟩
        have hQ2 : 1 + r ≤ Q ∧ Q ≤ 2000000000000000 := by rw [← hQ]; exact quo8 (by omega) (by omega) (by omega) (by omega)
        exact Fg_nbl_any pg th sz r v Q w hT hG hA hpg hth hsz hr hr2 hv hv2 hs hb hl hQ hQ2
      · exact Fg_nbs_any pg th sz r v w hT hG hA hpg hth hsz hr hr2 hv hv2 hs hb (by omega)
theorem Fg_card (pg th sz : Int) (w : World) (hT : TabR w tabA) (hG : 2 ≤ w.heap.size) (w0 : (Lit.int .u8 pg).wf = true) (w1 : (Lit.int .u8 th).wf = true) (w2 : (Lit.int .i64 sz).wf = true) : Calls Tryz.prog 3 #[.int .u8 pg, .int .u8 th, .int .i64 sz] w fun e w' => e = .returned (.bool true) ∧ Ext w w' := by
  have h0 : 0 ≤ pg ∧ pg ≤ 255 := by simpa [Lit.wf, IntKind.min, IntKind.max, IntKind.signed, IntKind.bits] using w0
  have h1 : 0 ≤ th ∧ th ≤ 255 := by simpa [Lit.wf, IntKind.min, IntKind.max, IntKind.signed, IntKind.bits] using w1
  have h2 : -9223372036854775808 ≤ sz ∧ sz ≤ 9223372036854775807 := by simpa [Lit.wf, IntKind.min, IntKind.max, IntKind.signed, IntKind.bits] using w2
  exact Fg_any pg th sz w hT hG (fun w' hw' => Rf_any w' (hT.keep hw') (Nat.le_trans hG hw'.size)) (by omega) (by omega) (by omega)
end Go.Proofs.YthggcmhmjkmjnaaGreatDoor
