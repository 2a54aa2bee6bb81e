/- dustpan/dustpanlaw23.SweeperMay, whole (printed by gen_may.py). -/
import Derived.Test.YtickhjoakbldpaaGreatDoorMdA
import Derived.Test.YtickhjoakbldpaaGreatDoorMdB
import Derived.Test.YtickhjoakbldpaaGreatDoorMdC
import Derived.Test.YtickhjoakbldpaaGreatDoorMdD
import Derived.Test.YtickhjoakbldpaaGreatDoorRd
import Derived.Test.YtickhjoakbldpaaGreatDoorLayEq
namespace Go.Proofs.YtickhjoakbldpaaGreatDoor
open Go.RowKit
set_option linter.unusedVariables false
set_option maxRecDepth 100000
theorem key_Md {f : FuncId} {args args' : Array Value} {w : World} {R : Ending → World → Prop} (e : args = args') (h : Calls Tryz.prog f args w R) : Calls Tryz.prog f args' w R := e ▸ h
set_option maxHeartbeats 1000000 in
theorem Md_any (P T t m : Int) (w : World) (hT : TabR w tabA) (hG : 2 ≤ w.heap.size) : Calls Tryz.prog 6 #[.agg #[.int .i64 P, .int .i64 T], .int .i64 t, .int .i64 m] w fun e w' => e = .returned (.bool true) ∧ Ext w w' := by
  have haw : ∀ (l : List (IntKind × Int)), FnOK Tryz.prog (sgI l) w w.heap.size ⟨33, [], .bool true⟩ := fun l => ⟨rfl, fun w' hw' => Rd_any w' (hT.keep hw') (Nat.le_trans hG hw'.size)⟩
  by_cases hq : P = 3 ∧ T = 2
  · obtain ⟨rfl, rfl⟩ := hq
    by_cases hok : MdOK 3 2 t m
    · have hok' := hok
      unfold MdOK at hok'
      have hE : AllOK Tryz.prog (sgI [(.i64, 3), (.i64, 2), (.i64, t), (.i64, m), (.i64, IntKind.i64.wrap (t + 1)), (.u64, IntKind.u64.wrap (IntKind.i64.wrap (t + 1)))]) MdEC := (AllOK.app (AllOK.app (AllOK.app (AllOK.app (okGe rfl rfl (by omega)) (okLt rfl rfl (by omega))) (okGe rfl rfl (by omega))) (okLe rfl rfl (by omega))) (AllOK.two (ent_add rfl rfl rfl rfl) (ent_conv Tryz.underlying3 Tryz.underlying27 rfl rfl rfl)))
      have hF : ∀ e ∈ MdFC, FnOK Tryz.prog (sgI [(.i64, 3), (.i64, 2), (.i64, t), (.i64, m), (.i64, IntKind.i64.wrap (t + 1)), (.u64, IntKind.u64.wrap (IntKind.i64.wrap (t + 1)))]) w w.heap.size e := by
        intro e he
        obtain rfl : e = ⟨33, [], .bool true⟩ := by simpa [MdFC] using he
        exact haw [(.i64, 3), (.i64, 2), (.i64, t), (.i64, m), (.i64, IntKind.i64.wrap (t + 1)), (.u64, IntKind.u64.wrap (IntKind.i64.wrap (t + 1)))]
      have key := ev_tok (P := Tryz.prog) (l := [(.i64, 3), (.i64, 2), (.i64, t), (.i64, m), (.i64, IntKind.i64.wrap (t + 1)), (.u64, IntKind.u64.wrap (IntKind.i64.wrap (t + 1)))]) (es := MdEC) (fs := MdFC) (w := w) (G := 2) (tabs := tabA) (n := 5000) (f := 6) (args := #[vG [vI 3, vI 2], kf 2, kf 3]) (v := .bool true) hE hF hG hT rfl (by decide +kernel) (isTrue_eq MdlC)
      exact key_Md rfl key
    · have hok4 : ¬ MdOK 4 2 t m := by
        unfold MdOK at hok ⊢
        omega
      have hF : ∀ e ∈ MdFD, FnOK Tryz.prog (sgI [(.i64, 3), (.i64, 2), (.i64, t), (.i64, m)]) w w.heap.size e := by
        intro e he
        simp only [MdFD, List.mem_cons, List.not_mem_nil, or_false] at he
        rcases he with rfl | rfl | rfl | rfl
        · exact haw [(.i64, 3), (.i64, 2), (.i64, t), (.i64, m)]
        · refine ⟨rfl, fun w' hw' => ?_⟩
          exact key_Md rfl (Md_new 3 2 t m w' (Nat.le_trans hG hw'.size) hok)
        · refine ⟨rfl, fun w' hw' => ?_⟩
          exact key_Md rfl (Md_new 4 2 t m w' (Nat.le_trans hG hw'.size) hok4)
        · refine ⟨rfl, fun w' hw' => ?_⟩
          exact key_Md rfl (Md_right 3 2 t m w' (Nat.le_trans hG hw'.size) hok)
      have key := ev_tok (P := Tryz.prog) (l := [(.i64, 3), (.i64, 2), (.i64, t), (.i64, m)]) (es := MdED) (fs := MdFD) (w := w) (G := 2) (tabs := tabA) (n := 5000) (f := 6) (args := #[vG [vI 3, vI 2], kf 2, kf 3]) (v := .bool true) AllOK.nil hF hG hT rfl (by decide +kernel) (isTrue_eq MdlD)
      exact key_Md rfl key
  · by_cases hok : MdOK P T t m
    · have hok' := hok
      unfold MdOK at hok'
      have hE : AllOK Tryz.prog (sgI [(.i64, P), (.i64, T), (.i64, t), (.i64, m), (.i64, IntKind.i64.wrap (t + 1)), (.u64, IntKind.u64.wrap (IntKind.i64.wrap (t + 1)))]) MdEA := (AllOK.app (AllOK.app (AllOK.app (AllOK.app (AllOK.app (AllOK.app (AllOK.app (AllOK.app (AllOK.app (AllOK.app (okGe rfl rfl (by omega)) (okLe rfl rfl (by omega))) (okGe rfl rfl (by omega))) (okLe rfl rfl (by omega))) (okGe rfl rfl (by omega))) (okLt rfl rfl (by omega))) (okGe rfl rfl (by omega))) (okLe rfl rfl (by omega))) (okLt rfl rfl (by omega))) (lay_eql hq rfl rfl)) (AllOK.two (ent_add rfl rfl rfl rfl) (ent_conv Tryz.underlying3 Tryz.underlying27 rfl rfl rfl)))
      have hF : ∀ e ∈ MdFA, FnOK Tryz.prog (sgI [(.i64, P), (.i64, T), (.i64, t), (.i64, m), (.i64, IntKind.i64.wrap (t + 1)), (.u64, IntKind.u64.wrap (IntKind.i64.wrap (t + 1)))]) w w.heap.size e := by
        intro e he
        obtain rfl : e = ⟨33, [], .bool true⟩ := by simpa [MdFA] using he
        exact haw [(.i64, P), (.i64, T), (.i64, t), (.i64, m), (.i64, IntKind.i64.wrap (t + 1)), (.u64, IntKind.u64.wrap (IntKind.i64.wrap (t + 1)))]
      have key := ev_tok (P := Tryz.prog) (l := [(.i64, P), (.i64, T), (.i64, t), (.i64, m), (.i64, IntKind.i64.wrap (t + 1)), (.u64, IntKind.u64.wrap (IntKind.i64.wrap (t + 1)))]) (es := MdEA) (fs := MdFA) (w := w) (G := 2) (tabs := tabA) (n := 5000) (f := 6) (args := #[vG [kf 0, kf 1], kf 2, kf 3]) (v := .bool true) hE hF hG hT rfl (by decide +kernel) (isTrue_eq MdlA)
      exact key_Md rfl key
    · have hE : AllOK Tryz.prog (sgI [(.i64, P), (.i64, T), (.i64, t), (.i64, m)]) MdEB := lay_eql (l := [(.i64, P), (.i64, T), (.i64, t), (.i64, m)]) hq rfl rfl
      have hF : ∀ e ∈ MdFB, FnOK Tryz.prog (sgI [(.i64, P), (.i64, T), (.i64, t), (.i64, m)]) w w.heap.size e := by
        intro e he
        simp only [MdFB, List.mem_cons, List.not_mem_nil, or_false] at he
        rcases he with rfl | rfl | rfl
        · exact haw [(.i64, P), (.i64, T), (.i64, t), (.i64, m)]
        · refine ⟨rfl, fun w' hw' => ?_⟩
          exact key_Md rfl (Md_new P T t m w' (Nat.le_trans hG hw'.size) hok)
        · refine ⟨rfl, fun w' hw' => ?_⟩
          exact key_Md rfl (Md_right P T t m w' (Nat.le_trans hG hw'.size) hok)
      have key := ev_tok (P := Tryz.prog) (l := [(.i64, P), (.i64, T), (.i64, t), (.i64, m)]) (es := MdEB) (fs := MdFB) (w := w) (G := 2) (tabs := tabA) (n := 5000) (f := 6) (args := #[vG [kf 0, kf 1], kf 2, kf 3]) (v := .bool true) hE hF hG hT rfl (by decide +kernel) (isTrue_eq MdlB)
      exact key_Md rfl key
end Go.Proofs.YtickhjoakbldpaaGreatDoor
