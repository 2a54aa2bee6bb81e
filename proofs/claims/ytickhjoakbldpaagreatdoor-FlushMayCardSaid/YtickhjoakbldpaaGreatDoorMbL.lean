/- dustpan/dustpanlaw22.FlushMay, whole (printed by gen_may.py). -/
import Derived.Test.YtickhjoakbldpaaGreatDoorMbA
import Derived.Test.YtickhjoakbldpaaGreatDoorMbB
import Derived.Test.YtickhjoakbldpaaGreatDoorMbC
import Derived.Test.YtickhjoakbldpaaGreatDoorMbD
import Derived.Test.YtickhjoakbldpaaGreatDoorRb
import Derived.Test.YtickhjoakbldpaaGreatDoorLayEq
namespace Go.Proofs.YtickhjoakbldpaaGreatDoor
open Go.RowKit
set_option linter.unusedVariables false
set_option maxRecDepth 100000
theorem key_Mb {f : FuncId} {args args' : Array Value} {w : World} {R : Ending → World → Prop} (e : args = args') (h : Calls Tryz.prog f args w R) : Calls Tryz.prog f args' w R := e ▸ h
set_option maxHeartbeats 1000000 in
theorem Mb_any (P T t : Int) (w : World) (hT : TabR w tabA) (hG : 2 ≤ w.heap.size) : Calls Tryz.prog 5 #[.agg #[.int .i64 P, .int .i64 T], .int .i64 t] w fun e w' => e = .returned (.bool true) ∧ Ext w w' := by
  have haw : ∀ (l : List (IntKind × Int)), FnOK Tryz.prog (sgI l) w w.heap.size ⟨28, [], .bool true⟩ := fun l => ⟨rfl, fun w' hw' => Rb_any w' (hT.keep hw') (Nat.le_trans hG hw'.size)⟩
  by_cases hq : P = 3 ∧ T = 2
  · obtain ⟨rfl, rfl⟩ := hq
    by_cases hok : MbOK 3 2 t
    · have hok' := hok
      unfold MbOK at hok'
      have hE : AllOK Tryz.prog (sgI [(.i64, 3), (.i64, 2), (.i64, t), (.i64, IntKind.i64.wrap (t + 1)), (.u64, IntKind.u64.wrap (IntKind.i64.wrap (t + 1)))]) MbEC := (AllOK.app (AllOK.app (okGe rfl rfl (by omega)) (okLt rfl rfl (by omega))) (AllOK.two (ent_add rfl rfl rfl rfl) (ent_conv Tryz.underlying3 Tryz.underlying27 rfl rfl rfl)))
      have hF : ∀ e ∈ MbFC, FnOK Tryz.prog (sgI [(.i64, 3), (.i64, 2), (.i64, t), (.i64, IntKind.i64.wrap (t + 1)), (.u64, IntKind.u64.wrap (IntKind.i64.wrap (t + 1)))]) w w.heap.size e := by
        intro e he
        obtain rfl : e = ⟨28, [], .bool true⟩ := by simpa [MbFC] using he
        exact haw [(.i64, 3), (.i64, 2), (.i64, t), (.i64, IntKind.i64.wrap (t + 1)), (.u64, IntKind.u64.wrap (IntKind.i64.wrap (t + 1)))]
      have key := ev_tok (P := Tryz.prog) (l := [(.i64, 3), (.i64, 2), (.i64, t), (.i64, IntKind.i64.wrap (t + 1)), (.u64, IntKind.u64.wrap (IntKind.i64.wrap (t + 1)))]) (es := MbEC) (fs := MbFC) (w := w) (G := 2) (tabs := tabA) (n := 5000) (f := 5) (args := #[vG [vI 3, vI 2], kf 2]) (v := .bool true) hE hF hG hT rfl (by decide +kernel) (isTrue_eq MblC)
      exact key_Mb rfl key
    · have hok4 : ¬ MbOK 4 2 t := by
        unfold MbOK at hok ⊢
        omega
      have hF : ∀ e ∈ MbFD, FnOK Tryz.prog (sgI [(.i64, 3), (.i64, 2), (.i64, t)]) w w.heap.size e := by
        intro e he
        simp only [MbFD, List.mem_cons, List.not_mem_nil, or_false] at he
        rcases he with rfl | rfl | rfl | rfl
        · exact haw [(.i64, 3), (.i64, 2), (.i64, t)]
        · refine ⟨rfl, fun w' hw' => ?_⟩
          exact key_Mb rfl (Mb_new 3 2 t w' (Nat.le_trans hG hw'.size) hok)
        · refine ⟨rfl, fun w' hw' => ?_⟩
          exact key_Mb rfl (Mb_new 4 2 t w' (Nat.le_trans hG hw'.size) hok4)
        · refine ⟨rfl, fun w' hw' => ?_⟩
          exact key_Mb rfl (Mb_right 3 2 t w' (Nat.le_trans hG hw'.size) hok)
      have key := ev_tok (P := Tryz.prog) (l := [(.i64, 3), (.i64, 2), (.i64, t)]) (es := MbED) (fs := MbFD) (w := w) (G := 2) (tabs := tabA) (n := 5000) (f := 5) (args := #[vG [vI 3, vI 2], kf 2]) (v := .bool true) AllOK.nil hF hG hT rfl (by decide +kernel) (isTrue_eq MblD)
      exact key_Mb rfl key
  · by_cases hok : MbOK P T t
    · have hok' := hok
      unfold MbOK at hok'
      have hE : AllOK Tryz.prog (sgI [(.i64, P), (.i64, T), (.i64, t), (.i64, IntKind.i64.wrap (t + 1)), (.u64, IntKind.u64.wrap (IntKind.i64.wrap (t + 1)))]) MbEA := (AllOK.app (AllOK.app (AllOK.app (AllOK.app (AllOK.app (AllOK.app (AllOK.app (AllOK.app (okGe rfl rfl (by omega)) (okLe rfl rfl (by omega))) (okGe rfl rfl (by omega))) (okLe rfl rfl (by omega))) (okGe rfl rfl (by omega))) (okLt rfl rfl (by omega))) (okLt rfl rfl (by omega))) (lay_eql hq rfl rfl)) (AllOK.two (ent_add rfl rfl rfl rfl) (ent_conv Tryz.underlying3 Tryz.underlying27 rfl rfl rfl)))
      have hF : ∀ e ∈ MbFA, FnOK Tryz.prog (sgI [(.i64, P), (.i64, T), (.i64, t), (.i64, IntKind.i64.wrap (t + 1)), (.u64, IntKind.u64.wrap (IntKind.i64.wrap (t + 1)))]) w w.heap.size e := by
        intro e he
        obtain rfl : e = ⟨28, [], .bool true⟩ := by simpa [MbFA] using he
        exact haw [(.i64, P), (.i64, T), (.i64, t), (.i64, IntKind.i64.wrap (t + 1)), (.u64, IntKind.u64.wrap (IntKind.i64.wrap (t + 1)))]
      have key := ev_tok (P := Tryz.prog) (l := [(.i64, P), (.i64, T), (.i64, t), (.i64, IntKind.i64.wrap (t + 1)), (.u64, IntKind.u64.wrap (IntKind.i64.wrap (t + 1)))]) (es := MbEA) (fs := MbFA) (w := w) (G := 2) (tabs := tabA) (n := 5000) (f := 5) (args := #[vG [kf 0, kf 1], kf 2]) (v := .bool true) hE hF hG hT rfl (by decide +kernel) (isTrue_eq MblA)
      exact key_Mb rfl key
    · have hE : AllOK Tryz.prog (sgI [(.i64, P), (.i64, T), (.i64, t)]) MbEB := lay_eql (l := [(.i64, P), (.i64, T), (.i64, t)]) hq rfl rfl
      have hF : ∀ e ∈ MbFB, FnOK Tryz.prog (sgI [(.i64, P), (.i64, T), (.i64, t)]) w w.heap.size e := by
        intro e he
        simp only [MbFB, List.mem_cons, List.not_mem_nil, or_false] at he
        rcases he with rfl | rfl | rfl
        · exact haw [(.i64, P), (.i64, T), (.i64, t)]
        · refine ⟨rfl, fun w' hw' => ?_⟩
          exact key_Mb rfl (Mb_new P T t w' (Nat.le_trans hG hw'.size) hok)
        · refine ⟨rfl, fun w' hw' => ?_⟩
          exact key_Mb rfl (Mb_right P T t w' (Nat.le_trans hG hw'.size) hok)
      have key := ev_tok (P := Tryz.prog) (l := [(.i64, P), (.i64, T), (.i64, t)]) (es := MbEB) (fs := MbFB) (w := w) (G := 2) (tabs := tabA) (n := 5000) (f := 5) (args := #[vG [kf 0, kf 1], kf 2]) (v := .bool true) hE hF hG hT rfl (by decide +kernel) (isTrue_eq MblB)
      exact key_Mb rfl key
end Go.Proofs.YtickhjoakbldpaaGreatDoor
