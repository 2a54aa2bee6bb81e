/- Law 27's example: it is true (printed by gen_aw27.py). -/
import Derived.Test.YtclnmihpelaalaaGreatDoorYqA
import Derived.Test.YtclnmihpelaalaaGreatDoorYqB
import Derived.Test.YtclnmihpelaalaaGreatDoorYqC
namespace Go.Proofs.YtclnmihpelaalaaGreatDoor
open Go.RowKit Go.IntWalk
set_option linter.unusedVariables false
set_option linter.unusedSimpArgs false
set_option maxRecDepth 100000
theorem awake27_any (w : World) (hG : 2 ≤ w.heap.size) (hT : TabR w tabA) : Calls Tryz.prog 4 #[] w fun e w' => e = .returned (.bool true) ∧ Ext w w' := by
  have key := seg_tokG (P := Tryz.prog) (l := [.int .i64 900000]) (TokL.int TokL.nil) (es := []) (fs := []) (w := w) AllOK.nil (fun e he => by cases he) (L := 900000) rfl (by omega) (by omega) (G := 2) (tabs := tabA) hG hT (f := 4) (args := #[]) (v := .bool true) Tryz.func4 rfl rfl rfl
    (fun hσ hO => (show Seg1 _ _ _ _ _ #[] (.code (bodyOf Tryz.prog 4)) _ _ .ret #[] (mkA Yql315) (mkW Yqh316) from (Seg1.seqP (by rfl) (Yqp0 hσ hO) (Seg1.seqP (by rfl) (Yqp1 hσ hO) (Seg1.seqP (by rfl) (Seg1.seqP (by rfl) (Yqp2 hσ hO) (Yqp3 hσ hO)) (Seg1.seqP (by rfl) (Seg1.seqP (by rfl) (Yqp4 hσ hO) (Seg1.loopP (by rfl) (Seg1.loopNext (Yqp5 hσ hO) (Seg1.loopNext (Yqp6 hσ hO) (Seg1.loopNext (Yqp7 hσ hO) (Seg1.loopNext (Yqp8 hσ hO) (Seg1.loopNext (Yqp9 hσ hO) (Seg1.loopNext (Yqp10 hσ hO) (Seg1.loopNext (Yqp11 hσ hO) (Seg1.loopNext (Yqp12 hσ hO) (Seg1.loopNext (Yqp13 hσ hO) (Seg1.loopNext (Yqp14 hσ hO) (Seg1.loopNext (Yqp15 hσ hO) (Seg1.loopNext (Yqp16 hσ hO) (Seg1.loopNext (Yqp17 hσ hO) (Seg1.loopNext (Yqp18 hσ hO) (Seg1.loopNext (Yqp19 hσ hO) (Seg1.loopNext (Yqp20 hσ hO) (Seg1.loopNext (Yqp21 hσ hO) (Seg1.loopNext (Yqp22 hσ hO) (Seg1.loopNext (Yqp23 hσ hO) (Seg1.loopNext (Yqp24 hσ hO) (Seg1.loopNext (Yqp25 hσ hO) (Seg1.loopNext (Yqp26 hσ hO) (Seg1.loopNext (Yqp27 hσ hO) (Seg1.loopNext (Yqp28 hσ hO) (Seg1.loopExit (Yqp29 hσ hO)))))))))))))))))))))))))))) (Seg1.seqP (by rfl) (Yqp30 hσ hO) (Seg1.seqP (by rfl) (Yqp31 hσ hO) (Yqp32 hσ hO))))))))) (by first | exact .inl rfl | exact .inr rfl) (retTrue_eq (by decide +kernel))
  exact key
end Go.Proofs.YtclnmihpelaalaaGreatDoor
