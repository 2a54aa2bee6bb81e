/- PagerMay: the law (printed by gen_pager.py). -/
import Derived.Test.YthggcmhmjkmjnaaGreatMpLB
import Derived.Test.YthggcmhmjkmjnaaGreatMpLC
namespace Go.Proofs.YthggcmhmjkmjnaaGreat
open Go.RowKit Go.IntWalk
set_option linter.unusedVariables false
set_option linter.unusedSimpArgs false
set_option maxRecDepth 100000
theorem okb4 {t p n : Int} (h : OKB 3 2 t p n) : OKB 4 2 t p n := by
  obtain ⟨_, h1, h2, h3, h4⟩ := h
  exact ⟨⟨by omega, by omega, by omega, by omega⟩, h1, ⟨h2.1, by omega⟩, h3, by omega⟩
theorem okg4 {t n : Int} {nn : Nat} {z : Nat → Int} (h : OKG 3 2 t n nn z) : OKG 4 2 t n nn z := ⟨⟨by omega, by omega, by omega, by omega⟩, h.2⟩
theorem okg3 {t n : Int} {nn : Nat} {z : Nat → Int} (h : OKG 4 2 t n nn z) : OKG 3 2 t n nn z := ⟨⟨by omega, by omega, by omega, by omega⟩, h.2⟩
theorem Mp_any (P T t p n : Int) (nb : Option Addr) (nn nc : Nat) (z : Nat → Int) (w : World) (hG : 0 ≤ w.heap.size) (hH : HR w nb nn z) : Calls Tryz.prog 5 #[.agg #[.int .i64 P, .int .i64 T], .int .i64 t, .int .i64 p, .int .i64 n, .slice nb nn nc] w fun e w' => e = .returned (.bool true) ∧ Ext w w' := by
  by_cases hq : P = 3 ∧ T = 2
  · obtain ⟨rfl, rfl⟩ := hq
    by_cases hg : OKG 3 2 t n nn z
    · have hg4 := okg4 hg
      rcases (show nn = 0 ∨ nn = 1 ∨ nn = 2 ∨ nn = 3 ∨ nn = 4 from by have := hg.2.2.2.1; omega) with rfl | rfl | rfl | rfl | rfl
      · by_cases hk3 : OKB 3 2 t p n
        · exact MpC_k0_ook t p n nb nc z w hG hH hg hk3 hg4 (okb4 hk3)
        · by_cases hk4 : OKB 4 2 t p n
          · exact MpC_k0_bok t p n nb nc z w hG hH hg hk3 hg4 hk4
          · exact MpC_k0_bbk t p n nb nc z w hG hH hg hk3 hg4 hk4
      · by_cases hk3 : OKB 3 2 t p n
        · exact MpC_k1_ook t p n nb nc z w hG hH hg hk3 hg4 (okb4 hk3)
        · by_cases hk4 : OKB 4 2 t p n
          · exact MpC_k1_bok t p n nb nc z w hG hH hg hk3 hg4 hk4
          · exact MpC_k1_bbk t p n nb nc z w hG hH hg hk3 hg4 hk4
      · by_cases hk3 : OKB 3 2 t p n
        · exact MpC_k2_ook t p n nb nc z w hG hH hg hk3 hg4 (okb4 hk3)
        · by_cases hk4 : OKB 4 2 t p n
          · exact MpC_k2_bok t p n nb nc z w hG hH hg hk3 hg4 hk4
          · exact MpC_k2_bbk t p n nb nc z w hG hH hg hk3 hg4 hk4
      · by_cases hk3 : OKB 3 2 t p n
        · exact MpC_k3_ook t p n nb nc z w hG hH hg hk3 hg4 (okb4 hk3)
        · by_cases hk4 : OKB 4 2 t p n
          · exact MpC_k3_bok t p n nb nc z w hG hH hg hk3 hg4 hk4
          · exact MpC_k3_bbk t p n nb nc z w hG hH hg hk3 hg4 hk4
      · by_cases hk3 : OKB 3 2 t p n
        · exact MpC_k4_ook t p n nb nc z w hG hH hg hk3 hg4 (okb4 hk3)
        · by_cases hk4 : OKB 4 2 t p n
          · exact MpC_k4_bok t p n nb nc z w hG hH hg hk3 hg4 hk4
          · exact MpC_k4_bbk t p n nb nc z w hG hH hg hk3 hg4 hk4
    · have hg4 : ¬ OKG 4 2 t n nn z := fun h => hg (okg3 h)
      by_cases hk3 : OKB 3 2 t p n
      · exact MpC_b_ook t p n nb nn nc z w hG hH hg hk3 hg4 (okb4 hk3)
      · by_cases hk4 : OKB 4 2 t p n
        · exact MpC_b_bok t p n nb nn nc z w hG hH hg hk3 hg4 hk4
        · exact MpC_b_bbk t p n nb nn nc z w hG hH hg hk3 hg4 hk4
  · by_cases hg : OKG P T t n nn z
    · rcases (show nn = 0 ∨ nn = 1 ∨ nn = 2 ∨ nn = 3 ∨ nn = 4 from by have := hg.2.2.2.1; omega) with rfl | rfl | rfl | rfl | rfl
      · by_cases hk3 : OKB P T t p n
        · exact MpA_k0_ok P T t p n nb nc z w hG hH hq hg hk3
        · exact MpA_k0_bk P T t p n nb nc z w hG hH hq hg hk3
      · by_cases hk3 : OKB P T t p n
        · exact MpA_k1_ok P T t p n nb nc z w hG hH hq hg hk3
        · exact MpA_k1_bk P T t p n nb nc z w hG hH hq hg hk3
      · by_cases hk3 : OKB P T t p n
        · exact MpA_k2_ok P T t p n nb nc z w hG hH hq hg hk3
        · exact MpA_k2_bk P T t p n nb nc z w hG hH hq hg hk3
      · by_cases hk3 : OKB P T t p n
        · exact MpA_k3_ok P T t p n nb nc z w hG hH hq hg hk3
        · exact MpA_k3_bk P T t p n nb nc z w hG hH hq hg hk3
      · by_cases hk3 : OKB P T t p n
        · exact MpA_k4_ok P T t p n nb nc z w hG hH hq hg hk3
        · exact MpA_k4_bk P T t p n nb nc z w hG hH hq hg hk3
    · by_cases hk3 : OKB P T t p n
      · exact MpA_b_ok P T t p n nb nn nc z w hG hH hq hg hk3
      · exact MpA_b_bk P T t p n nb nn nc z w hG hH hq hg hk3
end Go.Proofs.YthggcmhmjkmjnaaGreat
