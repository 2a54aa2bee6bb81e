/- dustpan/dustpanlaw21.FrontMay, whole (printed by gen_may.py). -/
import Derived.Test.YtlgbahkioimkfaaGreatDoorMfA
import Derived.Test.YtlgbahkioimkfaaGreatDoorMfB
import Derived.Test.YtlgbahkioimkfaaGreatDoorMfC
import Derived.Test.YtlgbahkioimkfaaGreatDoorMfD
import Derived.Test.YtlgbahkioimkfaaGreatDoorRf
import Derived.Test.YtlgbahkioimkfaaGreatDoorLayEq
namespace Go.Proofs.YtlgbahkioimkfaaGreatDoor
open Go.RowKit
set_option linter.unusedVariables false
set_option maxRecDepth 100000
set_option maxHeartbeats 1000000 in
theorem Mf_any (P T t s : Int) (w : World) (hT : TabR w tabA) (hG : 2 ≤ w.heap.size) : Calls Tryz.prog 7 #[.agg #[.int .i64 P, .int .i64 T], .int .i64 t, .int .i64 s] w fun e w' => e = .returned (.bool true) ∧ Ext w w' := by
  have haw : ∀ (l : List (IntKind × Int)), FnOK Tryz.prog (sgI l) w w.heap.size ⟨35, [], .bool true⟩ := fun l => FnOK.mk rfl fun w' hw' => Rf_any w' (hT.keep hw') (Nat.le_trans hG hw'.size)
  by_cases hq : P = 3 ∧ T = 2
  · obtain ⟨rfl, rfl⟩ := hq
    by_cases hok : MfOK 3 2 t s
    · have hok' := hok
      unfold MfOK at hok'
      obtain ⟨c, q, hof⟩ := MfO_of s (by omega)
      have hE : AllOK Tryz.prog (sgI [(.i64, 3), (.i64, 2), (.i64, t), (.i64, s), (.i64, c), (.i64, q)]) MfEC := (AllOK.app (AllOK.app (okGe rfl rfl (by omega)) (okLt rfl rfl (by omega))) (okGe rfl rfl (by omega)))
      have hF : ∀ e ∈ MfFC, FnOK Tryz.prog (sgI [(.i64, 3), (.i64, 2), (.i64, t), (.i64, s), (.i64, c), (.i64, q)]) w w.heap.size e := by
        intro e he
        simp only [MfFC, List.mem_cons, List.not_mem_nil, or_false] at he
        rcases he with rfl | rfl
        · exact haw [(.i64, 3), (.i64, 2), (.i64, t), (.i64, s), (.i64, c), (.i64, q)]
        · exact FnOK.tok (n := 4) (vs := [kf 4, kf 5, vB true]) (vs' := [.int .i64 c, .int .i64 q, .bool true]) rfl rfl rfl fun w' hw' => key_Mf rfl (hof w' (hT.keep hw') (Nat.le_trans hG hw'.size))
      have key := ev_tok (P := Tryz.prog) (l := [(.i64, 3), (.i64, 2), (.i64, t), (.i64, s), (.i64, c), (.i64, q)]) (es := MfEC) (fs := MfFC) (w := w) (G := 2) (tabs := tabA) (n := 5000) (f := 7) (args := #[vG [vI 3, vI 2], kf 2, kf 3]) (v := .bool true) hE hF hG hT rfl (by decide +kernel) (isTrue_eq MflC)
      exact key_Mf rfl key
    · have hok4 : ¬ MfOK 4 2 t s := by
        unfold MfOK at hok ⊢
        omega
      have hF : ∀ e ∈ MfFD, FnOK Tryz.prog (sgI [(.i64, 3), (.i64, 2), (.i64, t), (.i64, s)]) w w.heap.size e := by
        intro e he
        simp only [MfFD, List.mem_cons, List.not_mem_nil, or_false] at he
        rcases he with rfl | rfl | rfl | rfl
        · exact haw [(.i64, 3), (.i64, 2), (.i64, t), (.i64, s)]
        · exact FnOK.mk rfl fun w' hw' => key_Mf rfl (Mf_new 3 2 t s w' (hT.keep hw') (Nat.le_trans hG hw'.size) hok)
        · exact FnOK.mk rfl fun w' hw' => key_Mf rfl (Mf_new 4 2 t s w' (hT.keep hw') (Nat.le_trans hG hw'.size) hok4)
        · exact FnOK.mk rfl fun w' hw' => key_Mf rfl (Mf_right 3 2 t s w' (hT.keep hw') (Nat.le_trans hG hw'.size) hok)
      have key := ev_tok (P := Tryz.prog) (l := [(.i64, 3), (.i64, 2), (.i64, t), (.i64, s)]) (es := MfED) (fs := MfFD) (w := w) (G := 2) (tabs := tabA) (n := 5000) (f := 7) (args := #[vG [vI 3, vI 2], kf 2, kf 3]) (v := .bool true) AllOK.nil hF hG hT rfl (by decide +kernel) (isTrue_eq MflD)
      exact key_Mf rfl key
  · by_cases hok : MfOK P T t s
    · have hok' := hok
      unfold MfOK at hok'
      obtain ⟨c, q, hof⟩ := MfO_of s (by omega)
      have hE : AllOK Tryz.prog (sgI [(.i64, P), (.i64, T), (.i64, t), (.i64, s), (.i64, c), (.i64, q)]) MfEA := (AllOK.app (AllOK.app (AllOK.app (AllOK.app (AllOK.app (AllOK.app (AllOK.app (AllOK.app (okGe rfl rfl (by omega)) (okLe rfl rfl (by omega))) (okGe rfl rfl (by omega))) (okLe rfl rfl (by omega))) (okGe rfl rfl (by omega))) (okLt rfl rfl (by omega))) (okGe rfl rfl (by omega))) (okLt rfl rfl (by omega))) (lay_eql hq rfl rfl))
      have hF : ∀ e ∈ MfFA, FnOK Tryz.prog (sgI [(.i64, P), (.i64, T), (.i64, t), (.i64, s), (.i64, c), (.i64, q)]) w w.heap.size e := by
        intro e he
        simp only [MfFA, List.mem_cons, List.not_mem_nil, or_false] at he
        rcases he with rfl | rfl
        · exact haw [(.i64, P), (.i64, T), (.i64, t), (.i64, s), (.i64, c), (.i64, q)]
        · exact FnOK.tok (n := 4) (vs := [kf 4, kf 5, vB true]) (vs' := [.int .i64 c, .int .i64 q, .bool true]) rfl rfl rfl fun w' hw' => key_Mf rfl (hof w' (hT.keep hw') (Nat.le_trans hG hw'.size))
      have key := ev_tok (P := Tryz.prog) (l := [(.i64, P), (.i64, T), (.i64, t), (.i64, s), (.i64, c), (.i64, q)]) (es := MfEA) (fs := MfFA) (w := w) (G := 2) (tabs := tabA) (n := 5000) (f := 7) (args := #[vG [kf 0, kf 1], kf 2, kf 3]) (v := .bool true) hE hF hG hT rfl (by decide +kernel) (isTrue_eq MflA)
      exact key_Mf rfl key
    · have hF : ∀ e ∈ MfFB, FnOK Tryz.prog (sgI [(.i64, P), (.i64, T), (.i64, t), (.i64, s)]) w w.heap.size e := by
        intro e he
        simp only [MfFB, List.mem_cons, List.not_mem_nil, or_false] at he
        rcases he with rfl | rfl | rfl
        · exact haw [(.i64, P), (.i64, T), (.i64, t), (.i64, s)]
        · exact FnOK.mk rfl fun w' hw' => key_Mf rfl (Mf_new P T t s w' (hT.keep hw') (Nat.le_trans hG hw'.size) hok)
        · exact FnOK.mk rfl fun w' hw' => key_Mf rfl (Mf_right P T t s w' (hT.keep hw') (Nat.le_trans hG hw'.size) hok)
      have key := ev_tok (P := Tryz.prog) (l := [(.i64, P), (.i64, T), (.i64, t), (.i64, s)]) (es := MfEB) (fs := MfFB) (w := w) (G := 2) (tabs := tabA) (n := 5000) (f := 7) (args := #[vG [kf 0, kf 1], kf 2, kf 3]) (v := .bool true) (lay_eql hq rfl rfl) hF hG hT rfl (by decide +kernel) (isTrue_eq MflB)
      exact key_Mf rfl key
end Go.Proofs.YtlgbahkioimkfaaGreatDoor
