/- PagerHeads: the runs, with numbers that are not looked into (printed by gen_ph.py). -/
import Derived.Test.YthggcmhmjkmjnaaGreatRefl22
import Derived.Test.YthggcmhmjkmjnaaGreatLayEqP
import Derived.Test.YthggcmhmjkmjnaaGreatR9New
import Derived.Test.YthggcmhmjkmjnaaGreatMpW
namespace Go.Proofs.YthggcmhmjkmjnaaGreat
open Go.RowKit Go.IntWalk
set_option linter.unusedVariables false
set_option linter.unusedSimpArgs false
set_option maxRecDepth 100000
theorem key_Mq {f : FuncId} {args args' : Array Value} {w : World} {R : Ending → World → Prop} (e : args = args') (h : Calls Tryz.prog f args w R) : Calls Tryz.prog f args' w R := e ▸ h
def MqF : List FnEnt := [⟨16, [], .bool true⟩, ⟨62, [kf 9, vZ], .complex .f64 0 0⟩]
theorem MqF_ok {l : List Value} {r : Int} (h9 : l[9]? = some (.int .i64 (1 + r))) (hr : 0 ≤ r ∧ r < 30) (w : World) : ∀ e ∈ MqF, FnOK Tryz.prog (sgV l) w w.heap.size e := by
  intro e he
  simp only [MqF, List.mem_cons, List.not_mem_nil, or_false] at he
  rcases he with rfl | rfl
  · exact FnOK.mk rfl fun w' hw' => key_Mq rfl (Mpaw_any w' (Nat.zero_le _))
  · refine FnOK.any rfl fun w' hw' => key_Mq ?_ (r9new_any (1 + r) w' (by omega))
    show #[Value.int .i64 (1 + r), .slice none 0 0] = #[sgV l 9, .slice none 0 0]
    unfold sgV
    rw [h9]
    rfl
end Go.Proofs.YthggcmhmjkmjnaaGreat
