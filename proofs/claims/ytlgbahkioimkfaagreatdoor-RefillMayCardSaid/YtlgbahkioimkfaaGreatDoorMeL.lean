/- dustpan/dustpanlaw19.RefillMay, whole (printed by gen_may.py). -/
import Derived.Test.YtlgbahkioimkfaaGreatDoorMeA
import Derived.Test.YtlgbahkioimkfaaGreatDoorMeB
import Derived.Test.YtlgbahkioimkfaaGreatDoorMeC
import Derived.Test.YtlgbahkioimkfaaGreatDoorMeD
import Derived.Test.YtlgbahkioimkfaaGreatDoorRe
import Derived.Test.YtlgbahkioimkfaaGreatDoorLayEq
namespace Go.Proofs.YtlgbahkioimkfaaGreatDoor
open Go.RowKit
set_option linter.unusedVariables false
set_option maxRecDepth 100000
set_option maxHeartbeats 1000000 in
theorem Me_any (P T t c g : Int) (w : World) (hT : TabR w tabA) (hG : 2 ≤ w.heap.size) : Calls Tryz.prog 6 #[.agg #[.int .i64 P, .int .i64 T], .int .i64 t, .int .i64 c, .int .i64 g] w fun e w' => e = .returned (.bool true) ∧ Ext w w' := by
  have haw : ∀ (l : List (IntKind × Int)), FnOK Tryz.prog (sgI l) w w.heap.size ⟨30, [], .bool true⟩ := fun l => FnOK.mk rfl fun w' hw' => Re_any w' (hT.keep hw') (Nat.le_trans hG hw'.size)
  by_cases hq : P = 3 ∧ T = 2
  · obtain ⟨rfl, rfl⟩ := hq
    by_cases hok : MeOK 3 2 t c g
    · have hok' := hok
      unfold MeOK at hok'
      have hE : AllOK Tryz.prog (sgI [(.i64, 3), (.i64, 2), (.i64, t), (.i64, c), (.i64, g), (.i64, IntKind.i64.wrap (14 * t)), (.i64, IntKind.i64.wrap (68 + (IntKind.i64.wrap (14 * t)))), (.i64, IntKind.i64.wrap ((IntKind.i64.wrap (68 + (IntKind.i64.wrap (14 * t)))) + c))]) MeEC := (AllOK.app (AllOK.app (AllOK.app (AllOK.app (AllOK.app (AllOK.app (okGe rfl rfl (by omega)) (okLt rfl rfl (by omega))) (okGe rfl rfl (by omega))) (okLt rfl rfl (by omega))) (okGe rfl rfl (by omega))) (okLe rfl rfl (by omega))) (AllOK.cons (ent_mul (a := 14) (c := t) rfl rfl rfl rfl) (AllOK.cons (ent_add (a := 68) (c := IntKind.i64.wrap (14 * t)) rfl rfl rfl rfl) (AllOK.cons (ent_add (a := IntKind.i64.wrap (68 + (IntKind.i64.wrap (14 * t)))) (c := c) rfl rfl rfl rfl) AllOK.nil))))
      have hF : ∀ e ∈ MeFC, FnOK Tryz.prog (sgI [(.i64, 3), (.i64, 2), (.i64, t), (.i64, c), (.i64, g), (.i64, IntKind.i64.wrap (14 * t)), (.i64, IntKind.i64.wrap (68 + (IntKind.i64.wrap (14 * t)))), (.i64, IntKind.i64.wrap ((IntKind.i64.wrap (68 + (IntKind.i64.wrap (14 * t)))) + c))]) w w.heap.size e := by
        intro e he
        obtain rfl : e = ⟨30, [], .bool true⟩ := by simpa [MeFC] using he
        exact haw [(.i64, 3), (.i64, 2), (.i64, t), (.i64, c), (.i64, g), (.i64, IntKind.i64.wrap (14 * t)), (.i64, IntKind.i64.wrap (68 + (IntKind.i64.wrap (14 * t)))), (.i64, IntKind.i64.wrap ((IntKind.i64.wrap (68 + (IntKind.i64.wrap (14 * t)))) + c))]
      have key := ev_tok (P := Tryz.prog) (l := [(.i64, 3), (.i64, 2), (.i64, t), (.i64, c), (.i64, g), (.i64, IntKind.i64.wrap (14 * t)), (.i64, IntKind.i64.wrap (68 + (IntKind.i64.wrap (14 * t)))), (.i64, IntKind.i64.wrap ((IntKind.i64.wrap (68 + (IntKind.i64.wrap (14 * t)))) + c))]) (es := MeEC) (fs := MeFC) (w := w) (G := 2) (tabs := tabA) (n := 5000) (f := 6) (args := #[vG [vI 3, vI 2], kf 2, kf 3, kf 4]) (v := .bool true) hE hF hG hT rfl (by decide +kernel) (isTrue_eq MelC)
      exact key_Me rfl key
    · have hok4 : ¬ MeOK 4 2 t c g := by
        unfold MeOK at hok ⊢
        omega
      have hF : ∀ e ∈ MeFD, FnOK Tryz.prog (sgI [(.i64, 3), (.i64, 2), (.i64, t), (.i64, c), (.i64, g)]) w w.heap.size e := by
        intro e he
        simp only [MeFD, List.mem_cons, List.not_mem_nil, or_false] at he
        rcases he with rfl | rfl | rfl | rfl
        · exact haw [(.i64, 3), (.i64, 2), (.i64, t), (.i64, c), (.i64, g)]
        · exact FnOK.mk rfl fun w' hw' => key_Me rfl (Me_new 3 2 t c g w' (Nat.le_trans hG hw'.size) hok)
        · exact FnOK.mk rfl fun w' hw' => key_Me rfl (Me_new 4 2 t c g w' (Nat.le_trans hG hw'.size) hok4)
        · exact FnOK.mk rfl fun w' hw' => key_Me rfl (Me_right 3 2 t c g w' (Nat.le_trans hG hw'.size) hok)
      have key := ev_tok (P := Tryz.prog) (l := [(.i64, 3), (.i64, 2), (.i64, t), (.i64, c), (.i64, g)]) (es := MeED) (fs := MeFD) (w := w) (G := 2) (tabs := tabA) (n := 5000) (f := 6) (args := #[vG [vI 3, vI 2], kf 2, kf 3, kf 4]) (v := .bool true) AllOK.nil hF hG hT rfl (by decide +kernel) (isTrue_eq MelD)
      exact key_Me rfl key
  · by_cases hok : MeOK P T t c g
    · have hok' := hok
      unfold MeOK at hok'
      have hE : AllOK Tryz.prog (sgI [(.i64, P), (.i64, T), (.i64, t), (.i64, c), (.i64, g), (.i64, IntKind.i64.wrap (14 * t)), (.i64, IntKind.i64.wrap (68 + (IntKind.i64.wrap (14 * t)))), (.i64, IntKind.i64.wrap ((IntKind.i64.wrap (68 + (IntKind.i64.wrap (14 * t)))) + c))]) MeEA := (AllOK.app (AllOK.app (AllOK.app (AllOK.app (AllOK.app (AllOK.app (AllOK.app (AllOK.app (AllOK.app (AllOK.app (AllOK.app (AllOK.app (okGe rfl rfl (by omega)) (okLe rfl rfl (by omega))) (okGe rfl rfl (by omega))) (okLe rfl rfl (by omega))) (okGe rfl rfl (by omega))) (okLt rfl rfl (by omega))) (okGe rfl rfl (by omega))) (okLt rfl rfl (by omega))) (okGe rfl rfl (by omega))) (okLe rfl rfl (by omega))) (okLt rfl rfl (by omega))) (lay_eql hq rfl rfl)) (AllOK.cons (ent_mul (a := 14) (c := t) rfl rfl rfl rfl) (AllOK.cons (ent_add (a := 68) (c := IntKind.i64.wrap (14 * t)) rfl rfl rfl rfl) (AllOK.cons (ent_add (a := IntKind.i64.wrap (68 + (IntKind.i64.wrap (14 * t)))) (c := c) rfl rfl rfl rfl) AllOK.nil))))
      have hF : ∀ e ∈ MeFA, FnOK Tryz.prog (sgI [(.i64, P), (.i64, T), (.i64, t), (.i64, c), (.i64, g), (.i64, IntKind.i64.wrap (14 * t)), (.i64, IntKind.i64.wrap (68 + (IntKind.i64.wrap (14 * t)))), (.i64, IntKind.i64.wrap ((IntKind.i64.wrap (68 + (IntKind.i64.wrap (14 * t)))) + c))]) w w.heap.size e := by
        intro e he
        obtain rfl : e = ⟨30, [], .bool true⟩ := by simpa [MeFA] using he
        exact haw [(.i64, P), (.i64, T), (.i64, t), (.i64, c), (.i64, g), (.i64, IntKind.i64.wrap (14 * t)), (.i64, IntKind.i64.wrap (68 + (IntKind.i64.wrap (14 * t)))), (.i64, IntKind.i64.wrap ((IntKind.i64.wrap (68 + (IntKind.i64.wrap (14 * t)))) + c))]
      have key := ev_tok (P := Tryz.prog) (l := [(.i64, P), (.i64, T), (.i64, t), (.i64, c), (.i64, g), (.i64, IntKind.i64.wrap (14 * t)), (.i64, IntKind.i64.wrap (68 + (IntKind.i64.wrap (14 * t)))), (.i64, IntKind.i64.wrap ((IntKind.i64.wrap (68 + (IntKind.i64.wrap (14 * t)))) + c))]) (es := MeEA) (fs := MeFA) (w := w) (G := 2) (tabs := tabA) (n := 5000) (f := 6) (args := #[vG [kf 0, kf 1], kf 2, kf 3, kf 4]) (v := .bool true) hE hF hG hT rfl (by decide +kernel) (isTrue_eq MelA)
      exact key_Me rfl key
    · have hF : ∀ e ∈ MeFB, FnOK Tryz.prog (sgI [(.i64, P), (.i64, T), (.i64, t), (.i64, c), (.i64, g)]) w w.heap.size e := by
        intro e he
        simp only [MeFB, List.mem_cons, List.not_mem_nil, or_false] at he
        rcases he with rfl | rfl | rfl
        · exact haw [(.i64, P), (.i64, T), (.i64, t), (.i64, c), (.i64, g)]
        · exact FnOK.mk rfl fun w' hw' => key_Me rfl (Me_new P T t c g w' (Nat.le_trans hG hw'.size) hok)
        · exact FnOK.mk rfl fun w' hw' => key_Me rfl (Me_right P T t c g w' (Nat.le_trans hG hw'.size) hok)
      have key := ev_tok (P := Tryz.prog) (l := [(.i64, P), (.i64, T), (.i64, t), (.i64, c), (.i64, g)]) (es := MeEB) (fs := MeFB) (w := w) (G := 2) (tabs := tabA) (n := 5000) (f := 6) (args := #[vG [kf 0, kf 1], kf 2, kf 3, kf 4]) (v := .bool true) (lay_eql hq rfl rfl) hF hG hT rfl (by decide +kernel) (isTrue_eq MelB)
      exact key_Me rfl key
end Go.Proofs.YtlgbahkioimkfaaGreatDoor
