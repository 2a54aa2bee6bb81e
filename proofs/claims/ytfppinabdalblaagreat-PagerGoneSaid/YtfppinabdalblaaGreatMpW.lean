/- PagerMay: the document's example (printed by gen_pager.py). -/
import Derived.Test.YtfppinabdalblaaGreatRefl21
import Derived.IntWalk
import Derived.Test.YtfppinabdalblaaGreatProg
namespace Go.Proofs.YtfppinabdalblaaGreat
open Go.RowKit Go.IntWalk
set_option linter.unusedVariables false
set_option linter.unusedSimpArgs false
set_option maxRecDepth 100000
theorem Mpaw : isTrue (evCall (ev Tryz.prog (orcL [] (fsL [])) 0 5000) Tryz.prog (orcL [] (fsL [])) [] 14 #[] (baseWorld 0 [])) = true := by decide +kernel
theorem Mpaw_any (w : World) (hG : 0 ≤ w.heap.size) : Calls Tryz.prog 14 #[] w fun e w' => e = .returned (.bool true) ∧ Ext w w' := by
  have key := ev_tokX (P := Tryz.prog) (l := []) TokL.nil (es := []) (fs := []) (w := w) (G := 0) (tabs := []) (n := 5000) (f := 14) (args := #[]) (v := .bool true) AllOKW.nil (fun e he => by cases he) hG (tabR_nil w) rfl rfl (isTrue_eq Mpaw)
  exact key
end Go.Proofs.YtfppinabdalblaaGreat
