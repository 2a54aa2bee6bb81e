/- dustpan/dustpanlaw25.CycleMay, whole (printed by gen_may.py). -/
import Derived.Test.YtlgbahkioimkfaaGreatDoorMgA
import Derived.Test.YtlgbahkioimkfaaGreatDoorMgB
import Derived.Test.YtlgbahkioimkfaaGreatDoorMgC
import Derived.Test.YtlgbahkioimkfaaGreatDoorMgD
import Derived.Test.YtlgbahkioimkfaaGreatDoorRg
import Derived.Test.YtlgbahkioimkfaaGreatDoorLayEq
namespace Go.Proofs.YtlgbahkioimkfaaGreatDoor
open Go.RowKit
set_option linter.unusedVariables false
set_option maxRecDepth 100000
set_option maxHeartbeats 1000000 in
theorem Mg_any (P T t : Int) (d : Bool) (nb : Option Addr) (nn nc : Nat) (w : World) (hT : TabR w tabA) (hG : 2 ≤ w.heap.size) (hcl : (nn : Int) ≤ 8 → ∀ w', Below w.heap.size w w' → Calls Tryz.prog 60 #[.slice nb nn nc] w' fun x w'' => ∃ v', x = .returned v' ∧ OneC v' ∧ Ext w' w'') : Calls Tryz.prog 5 #[.agg #[.int .i64 P, .int .i64 T], .int .i64 t, .bool d, .slice nb nn nc] w fun e w' => e = .returned (.bool true) ∧ Ext w w' := by
  have haw : ∀ (l : List Value), FnOK Tryz.prog (sgV l) w w.heap.size ⟨25, [], .bool true⟩ := fun l => FnOK.mk rfl fun w' hw' => Rg_any w' (hT.keep hw') (Nat.le_trans hG hw'.size)
  by_cases hq : P = 3 ∧ T = 2
  · obtain ⟨rfl, rfl⟩ := hq
    by_cases hok : MgOK 3 2 t nn
    · have hok' := hok
      unfold MgOK at hok'
      have hE : AllOK Tryz.prog (sgV [.int .i64 (3), .int .i64 (2), .int .i64 (t), .bool d, .slice nb nn nc, .int .i64 nn, .int .i64 (IntKind.i64.wrap (t + 1)), .int .u64 (IntKind.u64.wrap (IntKind.i64.wrap (t + 1)))]) MgEC := (AllOK.app (AllOK.app (AllOK.app (okGe rfl rfl (by omega)) (okLt rfl rfl (by omega))) (okLe rfl rfl (by omega))) (AllOK.cons (ent_len Tryz.underlying31 rfl rfl rfl) (AllOK.cons (ent_add (a := t) (c := 1) rfl rfl rfl rfl) (AllOK.cons (ent_conv Tryz.underlying3 Tryz.underlying30 rfl rfl rfl) AllOK.nil))))
      have hF : ∀ e ∈ MgFC, FnOK Tryz.prog (sgV [.int .i64 (3), .int .i64 (2), .int .i64 (t), .bool d, .slice nb nn nc, .int .i64 nn, .int .i64 (IntKind.i64.wrap (t + 1)), .int .u64 (IntKind.u64.wrap (IntKind.i64.wrap (t + 1)))]) w w.heap.size e := by
        intro e he
        simp only [MgFC, List.mem_cons, List.not_mem_nil, or_false] at he
        rcases he with rfl | rfl
        · exact haw [.int .i64 (3), .int .i64 (2), .int .i64 (t), .bool d, .slice nb nn nc, .int .i64 nn, .int .i64 (IntKind.i64.wrap (t + 1)), .int .u64 (IntKind.u64.wrap (IntKind.i64.wrap (t + 1)))]
        · exact FnOK.any rfl (hcl (by omega))
      have key := ev_tokV (P := Tryz.prog) (l := [.int .i64 (3), .int .i64 (2), .int .i64 (t), .bool d, .slice nb nn nc, .int .i64 nn, .int .i64 (IntKind.i64.wrap (t + 1)), .int .u64 (IntKind.u64.wrap (IntKind.i64.wrap (t + 1)))]) (TokL.int (TokL.int (TokL.int (TokL.bool (TokL.slice (TokL.int (TokL.int (TokL.int TokL.nil)))))))) (es := MgEC) (fs := MgFC) (w := w) (G := 2) (tabs := tabA) (n := 5000) (f := 5) (args := #[vG [vI 3, vI 2], kf 2, kf 3, kf 4]) (v := .bool true) hE hF hG hT rfl (by decide +kernel) (isTrue_eq MglC)
      exact key_Mg rfl key
    · have hok4 : ¬ MgOK 4 2 t nn := by
        unfold MgOK at hok ⊢
        omega
      have hF : ∀ e ∈ MgFD, FnOK Tryz.prog (sgV [.int .i64 (3), .int .i64 (2), .int .i64 (t), .bool d, .slice nb nn nc, .int .i64 nn]) w w.heap.size e := by
        intro e he
        simp only [MgFD, List.mem_cons, List.not_mem_nil, or_false] at he
        rcases he with rfl | rfl | rfl | rfl
        · exact haw [.int .i64 (3), .int .i64 (2), .int .i64 (t), .bool d, .slice nb nn nc, .int .i64 nn]
        · exact FnOK.mk rfl fun w' hw' => key_Mg rfl (Mg_new 3 2 t d nb nn nc w' (Nat.le_trans hG hw'.size) hok)
        · exact FnOK.mk rfl fun w' hw' => key_Mg rfl (Mg_new 4 2 t d nb nn nc w' (Nat.le_trans hG hw'.size) hok4)
        · exact FnOK.mk rfl fun w' hw' => key_Mg rfl (Mg_right 3 2 t d nb nn nc w' (Nat.le_trans hG hw'.size) hok)
      have key := ev_tokV (P := Tryz.prog) (l := [.int .i64 (3), .int .i64 (2), .int .i64 (t), .bool d, .slice nb nn nc, .int .i64 nn]) (TokL.int (TokL.int (TokL.int (TokL.bool (TokL.slice (TokL.int TokL.nil)))))) (es := MgED) (fs := MgFD) (w := w) (G := 2) (tabs := tabA) (n := 5000) (f := 5) (args := #[vG [vI 3, vI 2], kf 2, kf 3, kf 4]) (v := .bool true) (AllOK.cons (ent_len Tryz.underlying31 rfl rfl rfl) AllOK.nil) hF hG hT rfl (by decide +kernel) (isTrue_eq MglD)
      exact key_Mg rfl key
  · by_cases hok : MgOK P T t nn
    · have hok' := hok
      unfold MgOK at hok'
      have hE : AllOK Tryz.prog (sgV [.int .i64 (P), .int .i64 (T), .int .i64 (t), .bool d, .slice nb nn nc, .int .i64 nn, .int .i64 (IntKind.i64.wrap (t + 1)), .int .u64 (IntKind.u64.wrap (IntKind.i64.wrap (t + 1)))]) MgEA := (AllOK.app (AllOK.app (AllOK.app (AllOK.app (AllOK.app (AllOK.app (AllOK.app (AllOK.app (AllOK.app (okGe rfl rfl (by omega)) (okLe rfl rfl (by omega))) (okGe rfl rfl (by omega))) (okLe rfl rfl (by omega))) (okGe rfl rfl (by omega))) (okLt rfl rfl (by omega))) (okLe rfl rfl (by omega))) (okLt rfl rfl (by omega))) (lay_eqlS hq rfl rfl)) (AllOK.cons (ent_len Tryz.underlying31 rfl rfl rfl) (AllOK.cons (ent_add (a := t) (c := 1) rfl rfl rfl rfl) (AllOK.cons (ent_conv Tryz.underlying3 Tryz.underlying30 rfl rfl rfl) AllOK.nil))))
      have hF : ∀ e ∈ MgFA, FnOK Tryz.prog (sgV [.int .i64 (P), .int .i64 (T), .int .i64 (t), .bool d, .slice nb nn nc, .int .i64 nn, .int .i64 (IntKind.i64.wrap (t + 1)), .int .u64 (IntKind.u64.wrap (IntKind.i64.wrap (t + 1)))]) w w.heap.size e := by
        intro e he
        simp only [MgFA, List.mem_cons, List.not_mem_nil, or_false] at he
        rcases he with rfl | rfl
        · exact haw [.int .i64 (P), .int .i64 (T), .int .i64 (t), .bool d, .slice nb nn nc, .int .i64 nn, .int .i64 (IntKind.i64.wrap (t + 1)), .int .u64 (IntKind.u64.wrap (IntKind.i64.wrap (t + 1)))]
        · exact FnOK.any rfl (hcl (by omega))
      have key := ev_tokV (P := Tryz.prog) (l := [.int .i64 (P), .int .i64 (T), .int .i64 (t), .bool d, .slice nb nn nc, .int .i64 nn, .int .i64 (IntKind.i64.wrap (t + 1)), .int .u64 (IntKind.u64.wrap (IntKind.i64.wrap (t + 1)))]) (TokL.int (TokL.int (TokL.int (TokL.bool (TokL.slice (TokL.int (TokL.int (TokL.int TokL.nil)))))))) (es := MgEA) (fs := MgFA) (w := w) (G := 2) (tabs := tabA) (n := 5000) (f := 5) (args := #[vG [kf 0, kf 1], kf 2, kf 3, kf 4]) (v := .bool true) hE hF hG hT rfl (by decide +kernel) (isTrue_eq MglA)
      exact key_Mg rfl key
    · have hF : ∀ e ∈ MgFB, FnOK Tryz.prog (sgV [.int .i64 (P), .int .i64 (T), .int .i64 (t), .bool d, .slice nb nn nc, .int .i64 nn]) w w.heap.size e := by
        intro e he
        simp only [MgFB, List.mem_cons, List.not_mem_nil, or_false] at he
        rcases he with rfl | rfl | rfl
        · exact haw [.int .i64 (P), .int .i64 (T), .int .i64 (t), .bool d, .slice nb nn nc, .int .i64 nn]
        · exact FnOK.mk rfl fun w' hw' => key_Mg rfl (Mg_new P T t d nb nn nc w' (Nat.le_trans hG hw'.size) hok)
        · exact FnOK.mk rfl fun w' hw' => key_Mg rfl (Mg_right P T t d nb nn nc w' (Nat.le_trans hG hw'.size) hok)
      have key := ev_tokV (P := Tryz.prog) (l := [.int .i64 (P), .int .i64 (T), .int .i64 (t), .bool d, .slice nb nn nc, .int .i64 nn]) (TokL.int (TokL.int (TokL.int (TokL.bool (TokL.slice (TokL.int TokL.nil)))))) (es := MgEB) (fs := MgFB) (w := w) (G := 2) (tabs := tabA) (n := 5000) (f := 5) (args := #[vG [kf 0, kf 1], kf 2, kf 3, kf 4]) (v := .bool true) (AllOK.app (lay_eqlS hq rfl rfl) (AllOK.cons (ent_len Tryz.underlying31 rfl rfl rfl) AllOK.nil)) hF hG hT rfl (by decide +kernel) (isTrue_eq MglB)
      exact key_Mg rfl key
end Go.Proofs.YtlgbahkioimkfaaGreatDoor
