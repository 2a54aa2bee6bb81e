/- dustpan/dustpanlaw24.ScavMay, whole (printed by gen_may.py). -/
import Derived.Test.YtickhjoakbldpaaGreatDoorMaA
import Derived.Test.YtickhjoakbldpaaGreatDoorMaB
import Derived.Test.YtickhjoakbldpaaGreatDoorMaC
import Derived.Test.YtickhjoakbldpaaGreatDoorMaD
import Derived.Test.YtickhjoakbldpaaGreatDoorRa
import Derived.Test.YtickhjoakbldpaaGreatDoorLayEq
namespace Go.Proofs.YtickhjoakbldpaaGreatDoor
open Go.RowKit
set_option linter.unusedVariables false
set_option maxRecDepth 100000
theorem key_Ma {f : FuncId} {args args' : Array Value} {w : World} {R : Ending → World → Prop} (e : args = args') (h : Calls Tryz.prog f args w R) : Calls Tryz.prog f args' w R := e ▸ h
set_option maxHeartbeats 1000000 in
theorem Ma_any (P T t m : Int) (w : World) (hT : TabR w tabB) (hG : 2 ≤ w.heap.size) : Calls Tryz.prog 3 #[.agg #[.int .i64 P, .int .i64 T], .int .i64 t, .int .i64 m] w fun e w' => e = .returned (.bool true) ∧ Ext w w' := by
  have haw : ∀ (l : List (IntKind × Int)), FnOK Tryz.prog (sgI l) w w.heap.size ⟨19, [], .bool true⟩ := fun l => ⟨rfl, fun w' hw' => Ra_any w' (hT.keep hw') (Nat.le_trans hG hw'.size)⟩
  by_cases hq : P = 3 ∧ T = 2
  · obtain ⟨rfl, rfl⟩ := hq
    by_cases hok : MaOK 3 2 t m
    · have hok' := hok
      unfold MaOK at hok'
      have hE : AllOK Tryz.prog (sgI [(.i64, 3), (.i64, 2), (.i64, t), (.i64, m), (.i64, IntKind.i64.wrap (t + 1)), (.u64, IntKind.u64.wrap (IntKind.i64.wrap (t + 1)))]) MaEC := (AllOK.app (AllOK.app (AllOK.app (AllOK.app (okGe rfl rfl (by omega)) (okLt rfl rfl (by omega))) (okGe rfl rfl (by omega))) (okLe rfl rfl (by omega))) (AllOK.two (ent_add rfl rfl rfl rfl) (ent_conv Tryz.underlying3 Tryz.underlying27 rfl rfl rfl)))
      have hF : ∀ e ∈ MaFC, FnOK Tryz.prog (sgI [(.i64, 3), (.i64, 2), (.i64, t), (.i64, m), (.i64, IntKind.i64.wrap (t + 1)), (.u64, IntKind.u64.wrap (IntKind.i64.wrap (t + 1)))]) w w.heap.size e := by
        intro e he
        obtain rfl : e = ⟨19, [], .bool true⟩ := by simpa [MaFC] using he
        exact haw [(.i64, 3), (.i64, 2), (.i64, t), (.i64, m), (.i64, IntKind.i64.wrap (t + 1)), (.u64, IntKind.u64.wrap (IntKind.i64.wrap (t + 1)))]
      have key := ev_tok (P := Tryz.prog) (l := [(.i64, 3), (.i64, 2), (.i64, t), (.i64, m), (.i64, IntKind.i64.wrap (t + 1)), (.u64, IntKind.u64.wrap (IntKind.i64.wrap (t + 1)))]) (es := MaEC) (fs := MaFC) (w := w) (G := 2) (tabs := tabB) (n := 5000) (f := 3) (args := #[vG [vI 3, vI 2], kf 2, kf 3]) (v := .bool true) hE hF hG hT rfl (by decide +kernel) (isTrue_eq MalC)
      exact key_Ma rfl key
    · have hok4 : ¬ MaOK 4 2 t m := by
        unfold MaOK at hok ⊢
        omega
      have hF : ∀ e ∈ MaFD, FnOK Tryz.prog (sgI [(.i64, 3), (.i64, 2), (.i64, t), (.i64, m)]) w w.heap.size e := by
        intro e he
        simp only [MaFD, List.mem_cons, List.not_mem_nil, or_false] at he
        rcases he with rfl | rfl | rfl | rfl
        · exact haw [(.i64, 3), (.i64, 2), (.i64, t), (.i64, m)]
        · refine ⟨rfl, fun w' hw' => ?_⟩
          exact key_Ma rfl (Ma_new 3 2 t m w' (Nat.le_trans hG hw'.size) hok)
        · refine ⟨rfl, fun w' hw' => ?_⟩
          exact key_Ma rfl (Ma_new 4 2 t m w' (Nat.le_trans hG hw'.size) hok4)
        · refine ⟨rfl, fun w' hw' => ?_⟩
          exact key_Ma rfl (Ma_right 3 2 t m w' (Nat.le_trans hG hw'.size) hok)
      have key := ev_tok (P := Tryz.prog) (l := [(.i64, 3), (.i64, 2), (.i64, t), (.i64, m)]) (es := MaED) (fs := MaFD) (w := w) (G := 2) (tabs := tabB) (n := 5000) (f := 3) (args := #[vG [vI 3, vI 2], kf 2, kf 3]) (v := .bool true) AllOK.nil hF hG hT rfl (by decide +kernel) (isTrue_eq MalD)
      exact key_Ma rfl key
  · by_cases hok : MaOK P T t m
    · have hok' := hok
      unfold MaOK at hok'
      have hE : AllOK Tryz.prog (sgI [(.i64, P), (.i64, T), (.i64, t), (.i64, m), (.i64, IntKind.i64.wrap (t + 1)), (.u64, IntKind.u64.wrap (IntKind.i64.wrap (t + 1)))]) MaEA := (AllOK.app (AllOK.app (AllOK.app (AllOK.app (AllOK.app (AllOK.app (AllOK.app (AllOK.app (AllOK.app (AllOK.app (okGe rfl rfl (by omega)) (okLe rfl rfl (by omega))) (okGe rfl rfl (by omega))) (okLe rfl rfl (by omega))) (okGe rfl rfl (by omega))) (okLt rfl rfl (by omega))) (okGe rfl rfl (by omega))) (okLe rfl rfl (by omega))) (okLt rfl rfl (by omega))) (lay_eql hq rfl rfl)) (AllOK.two (ent_add rfl rfl rfl rfl) (ent_conv Tryz.underlying3 Tryz.underlying27 rfl rfl rfl)))
      have hF : ∀ e ∈ MaFA, FnOK Tryz.prog (sgI [(.i64, P), (.i64, T), (.i64, t), (.i64, m), (.i64, IntKind.i64.wrap (t + 1)), (.u64, IntKind.u64.wrap (IntKind.i64.wrap (t + 1)))]) w w.heap.size e := by
        intro e he
        obtain rfl : e = ⟨19, [], .bool true⟩ := by simpa [MaFA] using he
        exact haw [(.i64, P), (.i64, T), (.i64, t), (.i64, m), (.i64, IntKind.i64.wrap (t + 1)), (.u64, IntKind.u64.wrap (IntKind.i64.wrap (t + 1)))]
      have key := ev_tok (P := Tryz.prog) (l := [(.i64, P), (.i64, T), (.i64, t), (.i64, m), (.i64, IntKind.i64.wrap (t + 1)), (.u64, IntKind.u64.wrap (IntKind.i64.wrap (t + 1)))]) (es := MaEA) (fs := MaFA) (w := w) (G := 2) (tabs := tabB) (n := 5000) (f := 3) (args := #[vG [kf 0, kf 1], kf 2, kf 3]) (v := .bool true) hE hF hG hT rfl (by decide +kernel) (isTrue_eq MalA)
      exact key_Ma rfl key
    · have hE : AllOK Tryz.prog (sgI [(.i64, P), (.i64, T), (.i64, t), (.i64, m)]) MaEB := lay_eql (l := [(.i64, P), (.i64, T), (.i64, t), (.i64, m)]) hq rfl rfl
      have hF : ∀ e ∈ MaFB, FnOK Tryz.prog (sgI [(.i64, P), (.i64, T), (.i64, t), (.i64, m)]) w w.heap.size e := by
        intro e he
        simp only [MaFB, List.mem_cons, List.not_mem_nil, or_false] at he
        rcases he with rfl | rfl | rfl
        · exact haw [(.i64, P), (.i64, T), (.i64, t), (.i64, m)]
        · refine ⟨rfl, fun w' hw' => ?_⟩
          exact key_Ma rfl (Ma_new P T t m w' (Nat.le_trans hG hw'.size) hok)
        · refine ⟨rfl, fun w' hw' => ?_⟩
          exact key_Ma rfl (Ma_right P T t m w' (Nat.le_trans hG hw'.size) hok)
      have key := ev_tok (P := Tryz.prog) (l := [(.i64, P), (.i64, T), (.i64, t), (.i64, m)]) (es := MaEB) (fs := MaFB) (w := w) (G := 2) (tabs := tabB) (n := 5000) (f := 3) (args := #[vG [kf 0, kf 1], kf 2, kf 3]) (v := .bool true) hE hF hG hT rfl (by decide +kernel) (isTrue_eq MalB)
      exact key_Ma rfl key
end Go.Proofs.YtickhjoakbldpaaGreatDoor
