/- PagerHeads: the law (printed by gen_ph.py). -/
import Derived.Test.YthggcmhmjkmjnaaGreatMqN0
import Derived.Test.YthggcmhmjkmjnaaGreatMqN1
import Derived.Test.YthggcmhmjkmjnaaGreatMqN2
import Derived.Test.YthggcmhmjkmjnaaGreatMqN3
import Derived.Test.YthggcmhmjkmjnaaGreatMqN4
import Derived.Test.YthggcmhmjkmjnaaGreatMqN5
import Derived.Test.YthggcmhmjkmjnaaGreatMqN6
import Derived.Test.YthggcmhmjkmjnaaGreatMqN7
import Derived.Test.YthggcmhmjkmjnaaGreatMqN8
import Derived.Test.YthggcmhmjkmjnaaGreatMqN9
import Derived.Test.YthggcmhmjkmjnaaGreatMqNa
import Derived.Test.YthggcmhmjkmjnaaGreatMqNb
import Derived.Test.YthggcmhmjkmjnaaGreatMqNc
import Derived.Test.YthggcmhmjkmjnaaGreatMqNd
import Derived.Test.YthggcmhmjkmjnaaGreatMqNe
import Derived.Test.YthggcmhmjkmjnaaGreatMqNf
namespace Go.Proofs.YthggcmhmjkmjnaaGreat
open Go.RowKit Go.IntWalk
set_option linter.unusedVariables false
set_option linter.unusedSimpArgs false
set_option maxRecDepth 100000
theorem Mq_any (pg n wh hw mn : Int) (w : World) (hpg : 0 ≤ pg ∧ pg < 256) (hn : 0 ≤ n ∧ n < 65536) (hwh : 0 ≤ wh ∧ wh < 256) (hhw : 0 ≤ hw ∧ hw < 256) (hmn : 0 ≤ mn ∧ mn < 256) : Calls Tryz.prog 3 #[.int .u8 pg, .int .u16 n, .int .u8 wh, .int .u8 hw, .int .u8 mn] w fun e w' => e = .returned (.bool true) ∧ Ext w w' := by
  obtain ⟨r, hr⟩ : ∃ z, Int.tmod pg 30 = z := ⟨_, rfl⟩
  have hr2 : 0 ≤ r ∧ r < 30 := by rw [← hr]; exact ⟨Int.tmod_nonneg _ hpg.1, Int.tmod_lt_of_pos _ (by omega)⟩
  obtain ⟨q, hq⟩ : ∃ z, Int.tmod n (4096 - (1 + r)) = z := ⟨_, rfl⟩
  have hq2 : 0 ≤ q ∧ q < (4096 - (1 + r)) := by rw [← hq]; exact ⟨Int.tmod_nonneg _ hn.1, Int.tmod_lt_of_pos _ (by omega)⟩
  obtain ⟨m, hm⟩ : ∃ z, Int.tmod mn 4 = z := ⟨_, rfl⟩
  have hm2 : 0 ≤ m ∧ m < 4 := by rw [← hm]; exact ⟨Int.tmod_nonneg _ hmn.1, Int.tmod_lt_of_pos _ (by omega)⟩
  obtain ⟨h, hh⟩ : ∃ z, Int.tmod hw 3 = z := ⟨_, rfl⟩
  have hh2 : 0 ≤ h ∧ h < 3 := by rw [← hh]; exact ⟨Int.tmod_nonneg _ hhw.1, Int.tmod_lt_of_pos _ (by omega)⟩
  have hm4 : m = 0 ∨ m = 1 ∨ m = 2 ∨ m = 3 := by omega
  have hh3 : h = 0 ∨ h = 1 ∨ h = 2 := by omega
  rcases hm4 with rfl | rfl | rfl | rfl
  · exact Mq0_any pg n wh hw mn r q w hpg hn hwh hmn hhw hr hr2 hq hq2 hm
  · obtain ⟨k, hk⟩ : ∃ z, Int.tmod wh 1 = z := ⟨_, rfl⟩
    have hk2 : 0 ≤ k ∧ k < 1 := by rw [← hk]; exact ⟨Int.tmod_nonneg _ hwh.1, Int.tmod_lt_of_pos _ (by omega)⟩
    rcases hh3 with rfl | rfl | rfl
    · exact Mq1h0_any pg n wh hw mn r q k w hpg hn hwh hmn hhw hr hr2 hq hq2 hm hk hh
    · obtain rfl : k = 0 := by omega
      exact Mq1h1k0_any pg n wh hw mn r q w hpg hn hwh hmn hhw hr hr2 hq hq2 hm hk hh
    · obtain rfl : k = 0 := by omega
      exact Mq1h2k0_any pg n wh hw mn r q w hpg hn hwh hmn hhw hr hr2 hq hq2 hm hk hh
  · obtain ⟨k, hk⟩ : ∃ z, Int.tmod wh 2 = z := ⟨_, rfl⟩
    have hk2 : 0 ≤ k ∧ k < 2 := by rw [← hk]; exact ⟨Int.tmod_nonneg _ hwh.1, Int.tmod_lt_of_pos _ (by omega)⟩
    rcases hh3 with rfl | rfl | rfl
    · exact Mq2h0_any pg n wh hw mn r q k w hpg hn hwh hmn hhw hr hr2 hq hq2 hm hk hh
    · rcases (show k = 0 ∨ k = 1 by omega) with rfl | rfl
      · exact Mq2h1k0_any pg n wh hw mn r q w hpg hn hwh hmn hhw hr hr2 hq hq2 hm hk hh
      · exact Mq2h1k1_any pg n wh hw mn r q w hpg hn hwh hmn hhw hr hr2 hq hq2 hm hk hh
    · rcases (show k = 0 ∨ k = 1 by omega) with rfl | rfl
      · exact Mq2h2k0_any pg n wh hw mn r q w hpg hn hwh hmn hhw hr hr2 hq hq2 hm hk hh
      · exact Mq2h2k1_any pg n wh hw mn r q w hpg hn hwh hmn hhw hr hr2 hq hq2 hm hk hh
  · obtain ⟨k, hk⟩ : ∃ z, Int.tmod wh 3 = z := ⟨_, rfl⟩
    have hk2 : 0 ≤ k ∧ k < 3 := by rw [← hk]; exact ⟨Int.tmod_nonneg _ hwh.1, Int.tmod_lt_of_pos _ (by omega)⟩
    rcases hh3 with rfl | rfl | rfl
    · exact Mq3h0_any pg n wh hw mn r q k w hpg hn hwh hmn hhw hr hr2 hq hq2 hm hk hh
    · rcases (show k = 0 ∨ k = 1 ∨ k = 2 by omega) with rfl | rfl | rfl
      · exact Mq3h1k0_any pg n wh hw mn r q w hpg hn hwh hmn hhw hr hr2 hq hq2 hm hk hh
      · exact Mq3h1k1_any pg n wh hw mn r q w hpg hn hwh hmn hhw hr hr2 hq hq2 hm hk hh
      · exact Mq3h1k2_any pg n wh hw mn r q w hpg hn hwh hmn hhw hr hr2 hq hq2 hm hk hh
    · rcases (show k = 0 ∨ k = 1 ∨ k = 2 by omega) with rfl | rfl | rfl
      · exact Mq3h2k0_any pg n wh hw mn r q w hpg hn hwh hmn hhw hr hr2 hq hq2 hm hk hh
      · exact Mq3h2k1_any pg n wh hw mn r q w hpg hn hwh hmn hhw hr hr2 hq hq2 hm hk hh
      · exact Mq3h2k2_any pg n wh hw mn r q w hpg hn hwh hmn hhw hr hr2 hq hq2 hm hk hh
end Go.Proofs.YthggcmhmjkmjnaaGreat
