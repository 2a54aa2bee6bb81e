/- dustpan/dustpanlaw18.RouteMay, whole (printed by gen_may.py). -/
import Derived.Test.YtlgbahkioimkfaaGreatDoorMcA
import Derived.Test.YtlgbahkioimkfaaGreatDoorMcB
import Derived.Test.YtlgbahkioimkfaaGreatDoorMcC
import Derived.Test.YtlgbahkioimkfaaGreatDoorMcD
import Derived.Test.YtlgbahkioimkfaaGreatDoorMcE
import Derived.Test.YtlgbahkioimkfaaGreatDoorRc
import Derived.Test.YtlgbahkioimkfaaGreatDoorLayEq
namespace Go.Proofs.YtlgbahkioimkfaaGreatDoor
open Go.RowKit
set_option linter.unusedVariables false
set_option maxRecDepth 100000
set_option maxHeartbeats 1000000 in
theorem Mc_any (P T t p g : Int) (w : World) (hT : TabR w tabA) (hG : 2 ≤ w.heap.size) : Calls Tryz.prog 4 #[.agg #[.int .i64 P, .int .i64 T], .int .i64 t, .int .i64 p, .int .i64 g] w fun e w' => e = .returned (.bool true) ∧ Ext w w' := by
  have haw : ∀ (l : List (IntKind × Int)), FnOK Tryz.prog (sgI l) w w.heap.size ⟨12, [], .bool true⟩ := fun l => FnOK.mk rfl fun w' hw' => Rc_any w' (hT.keep hw') (Nat.le_trans hG hw'.size)
  by_cases hq : P = 3 ∧ T = 2
  · obtain ⟨rfl, rfl⟩ := hq
    by_cases hok : McOK 3 2 t p g
    · have hok' := hok
      unfold McOK at hok'
      have hE : AllOK Tryz.prog (sgI [(.i64, 3), (.i64, 2), (.i64, t), (.i64, p), (.i64, g), (.i64, IntKind.i64.wrap (5 * p)), (.i64, IntKind.i64.wrap (96 + (IntKind.i64.wrap (5 * p)))), (.i64, IntKind.i64.wrap ((IntKind.i64.wrap (96 + (IntKind.i64.wrap (5 * p)))) + 10)), (.i64, IntKind.i64.wrap ((IntKind.i64.wrap ((IntKind.i64.wrap (96 + (IntKind.i64.wrap (5 * p)))) + 10)) - 9))]) McEC := (AllOK.app (AllOK.app (AllOK.app (AllOK.app (AllOK.app (AllOK.app (AllOK.app (okGe rfl rfl (by omega)) (okLt rfl rfl (by omega))) (okGe rfl rfl (by omega))) (okLt rfl rfl (by omega))) (okGe rfl rfl (by omega))) (okLe rfl rfl (by omega))) (okLt rfl rfl (by omega))) (AllOK.cons (ent_mul (a := 5) (c := p) rfl rfl rfl rfl) (AllOK.cons (ent_add (a := 96) (c := IntKind.i64.wrap (5 * p)) rfl rfl rfl rfl) (AllOK.cons (ent_add (a := IntKind.i64.wrap (96 + (IntKind.i64.wrap (5 * p)))) (c := 10) rfl rfl rfl rfl) (AllOK.cons (ent_sub (a := IntKind.i64.wrap ((IntKind.i64.wrap (96 + (IntKind.i64.wrap (5 * p)))) + 10)) (c := 9) rfl rfl rfl rfl) AllOK.nil)))))
      have hF : ∀ e ∈ McFC, FnOK Tryz.prog (sgI [(.i64, 3), (.i64, 2), (.i64, t), (.i64, p), (.i64, g), (.i64, IntKind.i64.wrap (5 * p)), (.i64, IntKind.i64.wrap (96 + (IntKind.i64.wrap (5 * p)))), (.i64, IntKind.i64.wrap ((IntKind.i64.wrap (96 + (IntKind.i64.wrap (5 * p)))) + 10)), (.i64, IntKind.i64.wrap ((IntKind.i64.wrap ((IntKind.i64.wrap (96 + (IntKind.i64.wrap (5 * p)))) + 10)) - 9))]) w w.heap.size e := by
        intro e he
        obtain rfl : e = ⟨12, [], .bool true⟩ := by simpa [McFC] using he
        exact haw [(.i64, 3), (.i64, 2), (.i64, t), (.i64, p), (.i64, g), (.i64, IntKind.i64.wrap (5 * p)), (.i64, IntKind.i64.wrap (96 + (IntKind.i64.wrap (5 * p)))), (.i64, IntKind.i64.wrap ((IntKind.i64.wrap (96 + (IntKind.i64.wrap (5 * p)))) + 10)), (.i64, IntKind.i64.wrap ((IntKind.i64.wrap ((IntKind.i64.wrap (96 + (IntKind.i64.wrap (5 * p)))) + 10)) - 9))]
      have key := ev_tok (P := Tryz.prog) (l := [(.i64, 3), (.i64, 2), (.i64, t), (.i64, p), (.i64, g), (.i64, IntKind.i64.wrap (5 * p)), (.i64, IntKind.i64.wrap (96 + (IntKind.i64.wrap (5 * p)))), (.i64, IntKind.i64.wrap ((IntKind.i64.wrap (96 + (IntKind.i64.wrap (5 * p)))) + 10)), (.i64, IntKind.i64.wrap ((IntKind.i64.wrap ((IntKind.i64.wrap (96 + (IntKind.i64.wrap (5 * p)))) + 10)) - 9))]) (es := McEC) (fs := McFC) (w := w) (G := 2) (tabs := tabA) (n := 5000) (f := 4) (args := #[vG [vI 3, vI 2], kf 2, kf 3, kf 4]) (v := .bool true) hE hF hG hT rfl (by decide +kernel) (isTrue_eq MclC)
      exact key_Mc rfl key
    · by_cases hok4 : McOK 4 2 t p g
      · have hok' := hok4
        unfold McOK at hok'
        have hF : ∀ e ∈ McFE, FnOK Tryz.prog (sgI [(.i64, 3), (.i64, 2), (.i64, t), (.i64, p), (.i64, g), (.i64, IntKind.i64.wrap (5 * p)), (.i64, IntKind.i64.wrap (96 + (IntKind.i64.wrap (5 * p)))), (.i64, IntKind.i64.wrap ((IntKind.i64.wrap (96 + (IntKind.i64.wrap (5 * p)))) + 10)), (.i64, IntKind.i64.wrap ((IntKind.i64.wrap ((IntKind.i64.wrap (96 + (IntKind.i64.wrap (5 * p)))) + 10)) - 9))]) w w.heap.size e := by
          intro e he
          simp only [McFE, List.mem_cons, List.not_mem_nil, or_false] at he
          rcases he with rfl | rfl | rfl
          · exact haw [(.i64, 3), (.i64, 2), (.i64, t), (.i64, p), (.i64, g), (.i64, IntKind.i64.wrap (5 * p)), (.i64, IntKind.i64.wrap (96 + (IntKind.i64.wrap (5 * p)))), (.i64, IntKind.i64.wrap ((IntKind.i64.wrap (96 + (IntKind.i64.wrap (5 * p)))) + 10)), (.i64, IntKind.i64.wrap ((IntKind.i64.wrap ((IntKind.i64.wrap (96 + (IntKind.i64.wrap (5 * p)))) + 10)) - 9))]
          · exact FnOK.mk rfl fun w' hw' => key_Mc rfl (Mc_new 3 2 t p g w' (Nat.le_trans hG hw'.size) hok)
          · exact FnOK.mk rfl fun w' hw' => key_Mc rfl (Mc_right 3 2 t p g w' (Nat.le_trans hG hw'.size) hok)
        have key := ev_tok (P := Tryz.prog) (l := [(.i64, 3), (.i64, 2), (.i64, t), (.i64, p), (.i64, g), (.i64, IntKind.i64.wrap (5 * p)), (.i64, IntKind.i64.wrap (96 + (IntKind.i64.wrap (5 * p)))), (.i64, IntKind.i64.wrap ((IntKind.i64.wrap (96 + (IntKind.i64.wrap (5 * p)))) + 10)), (.i64, IntKind.i64.wrap ((IntKind.i64.wrap ((IntKind.i64.wrap (96 + (IntKind.i64.wrap (5 * p)))) + 10)) - 9))]) (es := McEE) (fs := McFE) (w := w) (G := 2) (tabs := tabA) (n := 5000) (f := 4) (args := #[vG [vI 3, vI 2], kf 2, kf 3, kf 4]) (v := .bool true) (AllOK.app (AllOK.app (AllOK.app (AllOK.app (AllOK.app (AllOK.app (okGe rfl rfl (by omega)) (okLt rfl rfl (by omega))) (okGe rfl rfl (by omega))) (okLt rfl rfl (by omega))) (okGe rfl rfl (by omega))) (okLe rfl rfl (by omega))) (AllOK.cons (ent_mul (a := 5) (c := p) rfl rfl rfl rfl) (AllOK.cons (ent_add (a := 96) (c := IntKind.i64.wrap (5 * p)) rfl rfl rfl rfl) (AllOK.cons (ent_add (a := IntKind.i64.wrap (96 + (IntKind.i64.wrap (5 * p)))) (c := 10) rfl rfl rfl rfl) (AllOK.cons (ent_sub (a := IntKind.i64.wrap ((IntKind.i64.wrap (96 + (IntKind.i64.wrap (5 * p)))) + 10)) (c := 9) rfl rfl rfl rfl) AllOK.nil))))) hF hG hT rfl (by decide +kernel) (isTrue_eq MclE)
        exact key_Mc rfl key
      · have hF : ∀ e ∈ McFD, FnOK Tryz.prog (sgI [(.i64, 3), (.i64, 2), (.i64, t), (.i64, p), (.i64, g)]) w w.heap.size e := by
          intro e he
          simp only [McFD, List.mem_cons, List.not_mem_nil, or_false] at he
          rcases he with rfl | rfl | rfl | rfl
          · exact haw [(.i64, 3), (.i64, 2), (.i64, t), (.i64, p), (.i64, g)]
          · exact FnOK.mk rfl fun w' hw' => key_Mc rfl (Mc_new 3 2 t p g w' (Nat.le_trans hG hw'.size) hok)
          · exact FnOK.mk rfl fun w' hw' => key_Mc rfl (Mc_new 4 2 t p g w' (Nat.le_trans hG hw'.size) hok4)
          · exact FnOK.mk rfl fun w' hw' => key_Mc rfl (Mc_right 3 2 t p g w' (Nat.le_trans hG hw'.size) hok)
        have key := ev_tok (P := Tryz.prog) (l := [(.i64, 3), (.i64, 2), (.i64, t), (.i64, p), (.i64, g)]) (es := McED) (fs := McFD) (w := w) (G := 2) (tabs := tabA) (n := 5000) (f := 4) (args := #[vG [vI 3, vI 2], kf 2, kf 3, kf 4]) (v := .bool true) AllOK.nil hF hG hT rfl (by decide +kernel) (isTrue_eq MclD)
        exact key_Mc rfl key
  · by_cases hok : McOK P T t p g
    · have hok' := hok
      unfold McOK at hok'
      have hE : AllOK Tryz.prog (sgI [(.i64, P), (.i64, T), (.i64, t), (.i64, p), (.i64, g), (.i64, IntKind.i64.wrap (14 * T)), (.i64, IntKind.i64.wrap (68 + (IntKind.i64.wrap (14 * T)))), (.i64, IntKind.i64.wrap (5 * p)), (.i64, IntKind.i64.wrap ((IntKind.i64.wrap (68 + (IntKind.i64.wrap (14 * T)))) + (IntKind.i64.wrap (5 * p)))), (.i64, IntKind.i64.wrap ((IntKind.i64.wrap ((IntKind.i64.wrap (68 + (IntKind.i64.wrap (14 * T)))) + (IntKind.i64.wrap (5 * p)))) + 10)), (.i64, IntKind.i64.wrap ((IntKind.i64.wrap ((IntKind.i64.wrap ((IntKind.i64.wrap (68 + (IntKind.i64.wrap (14 * T)))) + (IntKind.i64.wrap (5 * p)))) + 10)) - 9))]) McEA := (AllOK.app (AllOK.app (AllOK.app (AllOK.app (AllOK.app (AllOK.app (AllOK.app (AllOK.app (AllOK.app (AllOK.app (AllOK.app (AllOK.app (okGe rfl rfl (by omega)) (okLe rfl rfl (by omega))) (okGe rfl rfl (by omega))) (okLe rfl rfl (by omega))) (okGe rfl rfl (by omega))) (okLt rfl rfl (by omega))) (okGe rfl rfl (by omega))) (okLt rfl rfl (by omega))) (okGe rfl rfl (by omega))) (okLe rfl rfl (by omega))) (okLt rfl rfl (by omega))) (lay_eql hq rfl rfl)) (AllOK.cons (ent_mul (a := 14) (c := T) rfl rfl rfl rfl) (AllOK.cons (ent_add (a := 68) (c := IntKind.i64.wrap (14 * T)) rfl rfl rfl rfl) (AllOK.cons (ent_mul (a := 5) (c := p) rfl rfl rfl rfl) (AllOK.cons (ent_add (a := IntKind.i64.wrap (68 + (IntKind.i64.wrap (14 * T)))) (c := IntKind.i64.wrap (5 * p)) rfl rfl rfl rfl) (AllOK.cons (ent_add (a := IntKind.i64.wrap ((IntKind.i64.wrap (68 + (IntKind.i64.wrap (14 * T)))) + (IntKind.i64.wrap (5 * p)))) (c := 10) rfl rfl rfl rfl) (AllOK.cons (ent_sub (a := IntKind.i64.wrap ((IntKind.i64.wrap ((IntKind.i64.wrap (68 + (IntKind.i64.wrap (14 * T)))) + (IntKind.i64.wrap (5 * p)))) + 10)) (c := 9) rfl rfl rfl rfl) AllOK.nil)))))))
      have hF : ∀ e ∈ McFA, FnOK Tryz.prog (sgI [(.i64, P), (.i64, T), (.i64, t), (.i64, p), (.i64, g), (.i64, IntKind.i64.wrap (14 * T)), (.i64, IntKind.i64.wrap (68 + (IntKind.i64.wrap (14 * T)))), (.i64, IntKind.i64.wrap (5 * p)), (.i64, IntKind.i64.wrap ((IntKind.i64.wrap (68 + (IntKind.i64.wrap (14 * T)))) + (IntKind.i64.wrap (5 * p)))), (.i64, IntKind.i64.wrap ((IntKind.i64.wrap ((IntKind.i64.wrap (68 + (IntKind.i64.wrap (14 * T)))) + (IntKind.i64.wrap (5 * p)))) + 10)), (.i64, IntKind.i64.wrap ((IntKind.i64.wrap ((IntKind.i64.wrap ((IntKind.i64.wrap (68 + (IntKind.i64.wrap (14 * T)))) + (IntKind.i64.wrap (5 * p)))) + 10)) - 9))]) w w.heap.size e := by
        intro e he
        obtain rfl : e = ⟨12, [], .bool true⟩ := by simpa [McFA] using he
        exact haw [(.i64, P), (.i64, T), (.i64, t), (.i64, p), (.i64, g), (.i64, IntKind.i64.wrap (14 * T)), (.i64, IntKind.i64.wrap (68 + (IntKind.i64.wrap (14 * T)))), (.i64, IntKind.i64.wrap (5 * p)), (.i64, IntKind.i64.wrap ((IntKind.i64.wrap (68 + (IntKind.i64.wrap (14 * T)))) + (IntKind.i64.wrap (5 * p)))), (.i64, IntKind.i64.wrap ((IntKind.i64.wrap ((IntKind.i64.wrap (68 + (IntKind.i64.wrap (14 * T)))) + (IntKind.i64.wrap (5 * p)))) + 10)), (.i64, IntKind.i64.wrap ((IntKind.i64.wrap ((IntKind.i64.wrap ((IntKind.i64.wrap (68 + (IntKind.i64.wrap (14 * T)))) + (IntKind.i64.wrap (5 * p)))) + 10)) - 9))]
      have key := ev_tok (P := Tryz.prog) (l := [(.i64, P), (.i64, T), (.i64, t), (.i64, p), (.i64, g), (.i64, IntKind.i64.wrap (14 * T)), (.i64, IntKind.i64.wrap (68 + (IntKind.i64.wrap (14 * T)))), (.i64, IntKind.i64.wrap (5 * p)), (.i64, IntKind.i64.wrap ((IntKind.i64.wrap (68 + (IntKind.i64.wrap (14 * T)))) + (IntKind.i64.wrap (5 * p)))), (.i64, IntKind.i64.wrap ((IntKind.i64.wrap ((IntKind.i64.wrap (68 + (IntKind.i64.wrap (14 * T)))) + (IntKind.i64.wrap (5 * p)))) + 10)), (.i64, IntKind.i64.wrap ((IntKind.i64.wrap ((IntKind.i64.wrap ((IntKind.i64.wrap (68 + (IntKind.i64.wrap (14 * T)))) + (IntKind.i64.wrap (5 * p)))) + 10)) - 9))]) (es := McEA) (fs := McFA) (w := w) (G := 2) (tabs := tabA) (n := 5000) (f := 4) (args := #[vG [kf 0, kf 1], kf 2, kf 3, kf 4]) (v := .bool true) hE hF hG hT rfl (by decide +kernel) (isTrue_eq MclA)
      exact key_Mc rfl key
    · have hF : ∀ e ∈ McFB, FnOK Tryz.prog (sgI [(.i64, P), (.i64, T), (.i64, t), (.i64, p), (.i64, g)]) w w.heap.size e := by
        intro e he
        simp only [McFB, List.mem_cons, List.not_mem_nil, or_false] at he
        rcases he with rfl | rfl | rfl
        · exact haw [(.i64, P), (.i64, T), (.i64, t), (.i64, p), (.i64, g)]
        · exact FnOK.mk rfl fun w' hw' => key_Mc rfl (Mc_new P T t p g w' (Nat.le_trans hG hw'.size) hok)
        · exact FnOK.mk rfl fun w' hw' => key_Mc rfl (Mc_right P T t p g w' (Nat.le_trans hG hw'.size) hok)
      have key := ev_tok (P := Tryz.prog) (l := [(.i64, P), (.i64, T), (.i64, t), (.i64, p), (.i64, g)]) (es := McEB) (fs := McFB) (w := w) (G := 2) (tabs := tabA) (n := 5000) (f := 4) (args := #[vG [kf 0, kf 1], kf 2, kf 3, kf 4]) (v := .bool true) (lay_eql hq rfl rfl) hF hG hT rfl (by decide +kernel) (isTrue_eq MclB)
      exact key_Mc rfl key
end Go.Proofs.YtlgbahkioimkfaaGreatDoor
