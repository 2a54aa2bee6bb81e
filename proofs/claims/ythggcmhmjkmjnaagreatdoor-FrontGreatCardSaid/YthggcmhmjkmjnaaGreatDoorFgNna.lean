/- FrontGreat: the runs, with numbers that are not looked into (printed by gen_fg.py). -/
import Derived.Test.YthggcmhmjkmjnaaGreatDoorFgN
import Derived.Test.YthggcmhmjkmjnaaGreatDoorTabM
import Derived.Test.YthggcmhmjkmjnaaGreatDoorLayEq
namespace Go.Proofs.YthggcmhmjkmjnaaGreatDoor
open Go.RowKit Go.IntWalk
set_option linter.unusedVariables false
set_option linter.unusedSimpArgs false
set_option maxRecDepth 100000
def Fg_nale : List Ent := [⟨.conv 5 3, [kf 1], kf 4⟩,
  ⟨.bin .rem 3, [kf 4, vI 60], kf 5⟩,
  ⟨.bin .add 3, [vI 1, kf 5], kf 6⟩,
  ⟨.conv 5 3, [kf 2], kf 7⟩,
  ⟨.bin .rem 3, [kf 7, vI 6], kf 8⟩,
  ⟨.bin .add 3, [vI 1, kf 8], kf 9⟩,
  ⟨.bin .geq 3, [kf 6, vI 1], .bool true⟩,
  ⟨.bin .leq 3, [kf 6, vI 4096], .bool true⟩,
  ⟨.bin .geq 3, [kf 9, vI 1], .bool true⟩,
  ⟨.bin .leq 3, [kf 9, vI 64], .bool true⟩,
  ⟨.bin .mul 3, [vI 14, kf 9], kf 10⟩,
  ⟨.bin .add 3, [vI 68, kf 10], kf 11⟩,
  ⟨.bin .mul 3, [vI 5, kf 6], kf 12⟩,
  ⟨.bin .add 3, [kf 11, kf 12], kf 13⟩,
  ⟨.bin .add 3, [kf 13, kf 6], kf 14⟩,
  ⟨.bin .add 3, [kf 6, vI 64], kf 15⟩,
  ⟨.bin .sub 3, [kf 15, vI 1], kf 16⟩,
  ⟨.bin .quo 3, [kf 16, vI 64], vI 1⟩,
  ⟨.bin .add 3, [kf 14, vI 1], kf 17⟩,
  ⟨.bin .add 3, [kf 17, vI 1], kf 0⟩,
  ⟨.bin .lss 3, [kf 0, vI 1], .bool false⟩,
  ⟨.bin .gtr 3, [kf 0, vI 65536], .bool false⟩,
  ⟨.bin .geq 3, [vI 0, kf 0], .bool false⟩,
  ⟨.bin .lss 3, [kf 6, vI 1], .bool false⟩,
  ⟨.bin .gtr 3, [kf 6, vI 4096], .bool false⟩,
  ⟨.bin .mul 3, [vI 8192, kf 6], kf 18⟩,
  ⟨.bin .add 3, [kf 18, vI 0], kf 18⟩,
  ⟨.bin .add 3, [vI 0, kf 6], kf 6⟩,
  ⟨.bin .lss 3, [kf 3, vI 0], .bool true⟩,
  ⟨.bin .sub 3, [vI (-1), kf 3], kf 19⟩,
  ⟨.bin .mul 3, [kf 6, vI 8192], kf 18⟩,
  ⟨.bin .leq 3, [kf 19, kf 18], .bool false⟩,
  ⟨.bin .lss 3, [kf 19, vI 0], .bool false⟩,
  ⟨.bin .leq 3, [kf 19, vI 128], .bool false⟩,
  ⟨.bin .leq 3, [kf 19, vI 192], .bool false⟩,
  ⟨.bin .leq 3, [kf 19, vI 256], .bool false⟩,
  ⟨.bin .leq 3, [kf 19, vI 384], .bool false⟩,
  ⟨.bin .leq 3, [kf 19, vI 512], .bool false⟩,
  ⟨.bin .leq 3, [kf 19, vI 768], .bool false⟩,
  ⟨.bin .leq 3, [kf 19, vI 1024], .bool false⟩,
  ⟨.bin .leq 3, [kf 19, vI 1536], .bool false⟩,
  ⟨.bin .leq 3, [kf 19, vI 2048], .bool false⟩,
  ⟨.bin .leq 3, [kf 19, vI 3072], .bool false⟩,
  ⟨.bin .leq 3, [kf 19, vI 4096], .bool false⟩,
  ⟨.bin .leq 3, [kf 19, vI 6144], .bool false⟩,
  ⟨.bin .leq 3, [kf 19, vI 8192], .bool false⟩,
  ⟨.bin .leq 3, [kf 19, vI 12288], .bool false⟩,
  ⟨.bin .sub 3, [kf 19, vI 1], kf 20⟩,
  ⟨.bin .quo 3, [kf 20, vI 8192], kf 21⟩,
  ⟨.bin .add 3, [kf 21, vI 1], kf 22⟩,
  ⟨.bin .lss 3, [vI 0, kf 9], .bool true⟩,
  ⟨.bin .neq 39, [vG [kf 6, kf 9], vG [kf 6, kf 9]], .bool false⟩,
  ⟨.bin .geq 3, [vI 4, kf 0], .bool false⟩,
  ⟨.bin .geq 3, [vI 1, kf 0], .bool false⟩,
  ⟨.bin .gtr 3, [kf 22, kf 6], .bool true⟩,
  ⟨.bin .eql 3, [kf 6, kf 6], .bool true⟩]
theorem Fg_nalt : isTrue (evCall (ev Tryz.prog (orcF Fg_nale) 2 20000) Tryz.prog (orcF Fg_nale) [] 3 #[kf 1, kf 2, kf 3] (baseWorld 2 tabA)) = true := by decide +kernel
set_option maxHeartbeats 1000000 in
theorem Fg_nal_any (pg th sz r v Q : Int) (w : World) (hT : TabR w tabA) (hG : 2 ≤ w.heap.size) (hA : ∀ w', Below w.heap.size w w' → Calls Tryz.prog 7 #[] w' fun e w'' => e = .returned (.bool true) ∧ Ext w' w'') (hpg : 0 ≤ pg ∧ pg < 256) (hth : 0 ≤ th ∧ th < 256) (hsz : -9223372036854775808 ≤ sz ∧ sz ≤ 9223372036854775807) (hr : Int.tmod pg 60 = r) (hr2 : 0 ≤ r ∧ r < 60) (hv : Int.tmod th 6 = v) (hv2 : 0 ≤ v ∧ v < 6) (hs : sz < 0) (hb : (1 + r) * 8192 < (-1 - sz)) (hl : 12288 < (-1 - sz)) (hQ : IntKind.i64.wrap (Int.tdiv (((-1) - sz) - 1) 8192) = Q) (hQ2 : 1 + r ≤ Q ∧ Q ≤ 2000000000000000) : Calls Tryz.prog 3 #[.int .u8 pg, .int .u8 th, .int .i64 sz] w fun e w' => e = .returned (.bool true) ∧ Ext w w' := by
  have hE : AllOK Tryz.prog (sgV [.int .i64 (68 + 14 * (1 + v) + 6 * (1 + r) + 2), .int .u8 pg, .int .u8 th, .int .i64 sz, .int .i64 pg, .int .i64 r, .int .i64 (1 + r), .int .i64 th, .int .i64 v, .int .i64 (1 + v), .int .i64 (14 * (1 + v)), .int .i64 (68 + (14 * (1 + v))), .int .i64 (5 * (1 + r)), .int .i64 ((68 + (14 * (1 + v))) + (5 * (1 + r))), .int .i64 (((68 + (14 * (1 + v))) + (5 * (1 + r))) + (1 + r)), .int .i64 ((1 + r) + 64), .int .i64 (((1 + r) + 64) - 1), .int .i64 ((((68 + (14 * (1 + v))) + (5 * (1 + r))) + (1 + r)) + 1), .int .i64 (8192 * (1 + r)), .int .i64 ((-1) - sz), .int .i64 (((-1) - sz) - 1), .int .i64 Q, .int .i64 (Q + 1)]) Fg_nale := AllOK.cons (ent_conv Tryz.underlying5 Tryz.underlying3 rfl (by exact congrArg (Value.int .i64) (i64_in pg (by omega)).symm) rfl) (
    AllOK.cons (ent_rem (a := pg) (c := 60) rfl rfl (by omega) (by exact congrArg (Value.int .i64) hr.symm) rfl) (
    AllOK.cons (ent_add (a := 1) (c := r) rfl rfl (by exact congrArg (Value.int .i64) (i64_in _ (by omega)).symm) rfl) (
    AllOK.cons (ent_conv Tryz.underlying5 Tryz.underlying3 rfl (by exact congrArg (Value.int .i64) (i64_in th (by omega)).symm) rfl) (
    AllOK.cons (ent_rem (a := th) (c := 6) rfl rfl (by omega) (by exact congrArg (Value.int .i64) hv.symm) rfl) (
    AllOK.cons (ent_add (a := 1) (c := v) rfl rfl (by exact congrArg (Value.int .i64) (i64_in _ (by omega)).symm) rfl) (
    AllOK.cons (ent_cmp (op := .geq) (a := 1 + r) (c := 1) rfl rfl (decide_eq_true (by omega)).symm) (
    AllOK.cons (ent_cmp (op := .leq) (a := 1 + r) (c := 4096) rfl rfl (decide_eq_true (by omega)).symm) (
    AllOK.cons (ent_cmp (op := .geq) (a := 1 + v) (c := 1) rfl rfl (decide_eq_true (by omega)).symm) (
    AllOK.cons (ent_cmp (op := .leq) (a := 1 + v) (c := 64) rfl rfl (decide_eq_true (by omega)).symm) (
    AllOK.cons (ent_mul (a := 14) (c := 1 + v) rfl rfl (by exact congrArg (Value.int .i64) ((i64_in (14 * (1 + v)) (by omega)).trans (show (14 * (1 + v) : Int) = 14 * (1 + v) by omega)).symm) rfl) (
    AllOK.cons (ent_add (a := 68) (c := 14 * (1 + v)) rfl rfl (by exact congrArg (Value.int .i64) ((i64_in (68 + (14 * (1 + v))) (by omega)).trans (show (68 + (14 * (1 + v)) : Int) = 68 + (14 * (1 + v)) by omega)).symm) rfl) (
    AllOK.cons (ent_mul (a := 5) (c := 1 + r) rfl rfl (by exact congrArg (Value.int .i64) ((i64_in (5 * (1 + r)) (by omega)).trans (show (5 * (1 + r) : Int) = 5 * (1 + r) by omega)).symm) rfl) (
    AllOK.cons (ent_add (a := 68 + (14 * (1 + v))) (c := 5 * (1 + r)) rfl rfl (by exact congrArg (Value.int .i64) ((i64_in ((68 + (14 * (1 + v))) + (5 * (1 + r))) (by omega)).trans (show ((68 + (14 * (1 + v))) + (5 * (1 + r)) : Int) = (68 + (14 * (1 + v))) + (5 * (1 + r)) by omega)).symm) rfl) (
    AllOK.cons (ent_add (a := (68 + (14 * (1 + v))) + (5 * (1 + r))) (c := 1 + r) rfl rfl (by exact congrArg (Value.int .i64) ((i64_in (((68 + (14 * (1 + v))) + (5 * (1 + r))) + (1 + r)) (by omega)).trans (show (((68 + (14 * (1 + v))) + (5 * (1 + r))) + (1 + r) : Int) = ((68 + (14 * (1 + v))) + (5 * (1 + r))) + (1 + r) by omega)).symm) rfl) (
    AllOK.cons (ent_add (a := 1 + r) (c := 64) rfl rfl (by exact congrArg (Value.int .i64) ((i64_in ((1 + r) + 64) (by omega)).trans (show ((1 + r) + 64 : Int) = (1 + r) + 64 by omega)).symm) rfl) (
    AllOK.cons (ent_sub (a := (1 + r) + 64) (c := 1) rfl rfl (by exact congrArg (Value.int .i64) ((i64_in (((1 + r) + 64) - 1) (by omega)).trans (show (((1 + r) + 64) - 1 : Int) = ((1 + r) + 64) - 1 by omega)).symm) rfl) (
    AllOK.cons (ent_quo (a := ((1 + r) + 64) - 1) (c := 64) rfl rfl (by omega) (by exact congrArg (Value.int .i64) (quoC (a := ((1 + r) + 64) - 1) (c := 64) (q := 1) (by omega) (by omega) (by omega) (by omega) (by omega)).symm) rfl) (
    AllOK.cons (ent_add (a := ((68 + (14 * (1 + v))) + (5 * (1 + r))) + (1 + r)) (c := 1) rfl rfl (by exact congrArg (Value.int .i64) ((i64_in ((((68 + (14 * (1 + v))) + (5 * (1 + r))) + (1 + r)) + 1) (by omega)).trans (show ((((68 + (14 * (1 + v))) + (5 * (1 + r))) + (1 + r)) + 1 : Int) = (((68 + (14 * (1 + v))) + (5 * (1 + r))) + (1 + r)) + 1 by omega)).symm) rfl) (
    AllOK.cons (ent_add (a := (((68 + (14 * (1 + v))) + (5 * (1 + r))) + (1 + r)) + 1) (c := 1) rfl rfl (by exact congrArg (Value.int .i64) ((i64_in (((((68 + (14 * (1 + v))) + (5 * (1 + r))) + (1 + r)) + 1) + 1) (by omega)).trans (show (((((68 + (14 * (1 + v))) + (5 * (1 + r))) + (1 + r)) + 1) + 1 : Int) = 68 + 14 * (1 + v) + 6 * (1 + r) + 2 by omega)).symm) rfl) (
    AllOK.cons (ent_cmp (op := .lss) (a := 68 + 14 * (1 + v) + 6 * (1 + r) + 2) (c := 1) rfl rfl (decide_eq_false (by omega)).symm) (
    AllOK.cons (ent_cmp (op := .gtr) (a := 68 + 14 * (1 + v) + 6 * (1 + r) + 2) (c := 65536) rfl rfl (decide_eq_false (by omega)).symm) (
    AllOK.cons (ent_cmp (op := .geq) (a := 0) (c := 68 + 14 * (1 + v) + 6 * (1 + r) + 2) rfl rfl (decide_eq_false (by omega)).symm) (
    AllOK.cons (ent_cmp (op := .lss) (a := 1 + r) (c := 1) rfl rfl (decide_eq_false (by omega)).symm) (
    AllOK.cons (ent_cmp (op := .gtr) (a := 1 + r) (c := 4096) rfl rfl (decide_eq_false (by omega)).symm) (
    AllOK.cons (ent_mul (a := 8192) (c := 1 + r) rfl rfl (by exact congrArg (Value.int .i64) ((i64_in (8192 * (1 + r)) (by omega)).trans (show (8192 * (1 + r) : Int) = 8192 * (1 + r) by omega)).symm) rfl) (
    AllOK.cons (ent_add (a := 8192 * (1 + r)) (c := 0) rfl rfl (by exact congrArg (Value.int .i64) ((i64_in ((8192 * (1 + r)) + 0) (by omega)).trans (show ((8192 * (1 + r)) + 0 : Int) = 8192 * (1 + r) by omega)).symm) rfl) (
    AllOK.cons (ent_add (a := 0) (c := 1 + r) rfl rfl (by exact congrArg (Value.int .i64) ((i64_in (0 + (1 + r)) (by omega)).trans (show (0 + (1 + r) : Int) = 1 + r by omega)).symm) rfl) (
    AllOK.cons (ent_cmp (op := .lss) (a := sz) (c := 0) rfl rfl (decide_eq_true (by omega)).symm) (
    AllOK.cons (ent_sub (a := -1) (c := sz) rfl rfl (by exact congrArg (Value.int .i64) ((i64_in ((-1) - sz) (by omega)).trans (show ((-1) - sz : Int) = (-1) - sz by omega)).symm) rfl) (
    AllOK.cons (ent_mul (a := 1 + r) (c := 8192) rfl rfl (by exact congrArg (Value.int .i64) ((i64_in ((1 + r) * 8192) (by omega)).trans (show ((1 + r) * 8192 : Int) = 8192 * (1 + r) by omega)).symm) rfl) (
    AllOK.cons (ent_cmp (op := .leq) (a := (-1) - sz) (c := 8192 * (1 + r)) rfl rfl (decide_eq_false (by omega)).symm) (
    AllOK.cons (ent_cmp (op := .lss) (a := (-1) - sz) (c := 0) rfl rfl (decide_eq_false (by omega)).symm) (
    AllOK.cons (ent_cmp (op := .leq) (a := (-1) - sz) (c := 128) rfl rfl (decide_eq_false (by omega)).symm) (
    AllOK.cons (ent_cmp (op := .leq) (a := (-1) - sz) (c := 192) rfl rfl (decide_eq_false (by omega)).symm) (
    AllOK.cons (ent_cmp (op := .leq) (a := (-1) - sz) (c := 256) rfl rfl (decide_eq_false (by omega)).symm) (
    AllOK.cons (ent_cmp (op := .leq) (a := (-1) - sz) (c := 384) rfl rfl (decide_eq_false (by omega)).symm) (
    AllOK.cons (ent_cmp (op := .leq) (a := (-1) - sz) (c := 512) rfl rfl (decide_eq_false (by omega)).symm) (
    AllOK.cons (ent_cmp (op := .leq) (a := (-1) - sz) (c := 768) rfl rfl (decide_eq_false (by omega)).symm) (
    AllOK.cons (ent_cmp (op := .leq) (a := (-1) - sz) (c := 1024) rfl rfl (decide_eq_false (by omega)).symm) (
    AllOK.cons (ent_cmp (op := .leq) (a := (-1) - sz) (c := 1536) rfl rfl (decide_eq_false (by omega)).symm) (
    AllOK.cons (ent_cmp (op := .leq) (a := (-1) - sz) (c := 2048) rfl rfl (decide_eq_false (by omega)).symm) (
    AllOK.cons (ent_cmp (op := .leq) (a := (-1) - sz) (c := 3072) rfl rfl (decide_eq_false (by omega)).symm) (
    AllOK.cons (ent_cmp (op := .leq) (a := (-1) - sz) (c := 4096) rfl rfl (decide_eq_false (by omega)).symm) (
    AllOK.cons (ent_cmp (op := .leq) (a := (-1) - sz) (c := 6144) rfl rfl (decide_eq_false (by omega)).symm) (
    AllOK.cons (ent_cmp (op := .leq) (a := (-1) - sz) (c := 8192) rfl rfl (decide_eq_false (by omega)).symm) (
    AllOK.cons (ent_cmp (op := .leq) (a := (-1) - sz) (c := 12288) rfl rfl (decide_eq_false (by omega)).symm) (
    AllOK.cons (ent_sub (a := (-1) - sz) (c := 1) rfl rfl (by exact congrArg (Value.int .i64) ((i64_in (((-1) - sz) - 1) (by omega)).trans (show (((-1) - sz) - 1 : Int) = ((-1) - sz) - 1 by omega)).symm) rfl) (
    AllOK.cons (ent_quo (a := ((-1) - sz) - 1) (c := 8192) rfl rfl (by omega) (by exact congrArg (Value.int .i64) hQ.symm) rfl) (
    AllOK.cons (ent_add (a := Q) (c := 1) rfl rfl (by exact congrArg (Value.int .i64) ((i64_in (Q + 1) (by omega)).trans (show (Q + 1 : Int) = Q + 1 by omega)).symm) rfl) (
    AllOK.cons (ent_cmp (op := .lss) (a := 0) (c := 1 + v) rfl rfl (decide_eq_true (by omega)).symm) (
    AllOK.cons (lay_same (P := 1 + r) (T := 1 + v) rfl) (
    AllOK.cons (ent_cmp (op := .geq) (a := 4) (c := 68 + 14 * (1 + v) + 6 * (1 + r) + 2) rfl rfl (decide_eq_false (by omega)).symm) (
    AllOK.cons (ent_cmp (op := .geq) (a := 1) (c := 68 + 14 * (1 + v) + 6 * (1 + r) + 2) rfl rfl (decide_eq_false (by omega)).symm) (
    AllOK.cons (ent_cmp (op := .gtr) (a := Q + 1) (c := 1 + r) rfl rfl (decide_eq_true (by omega)).symm) (
    AllOK.cons (ent_cmp (op := .eql) (a := 1 + r) (c := 1 + r) rfl rfl (by simp)) (
    AllOK.nil))))))))))))))))))))))))))))))))))))))))))))))))))))))))
  exact key_Fg rfl (ev_fg (l := [.int .i64 (68 + 14 * (1 + v) + 6 * (1 + r) + 2), .int .u8 pg, .int .u8 th, .int .i64 sz, .int .i64 pg, .int .i64 r, .int .i64 (1 + r), .int .i64 th, .int .i64 v, .int .i64 (1 + v), .int .i64 (14 * (1 + v)), .int .i64 (68 + (14 * (1 + v))), .int .i64 (5 * (1 + r)), .int .i64 ((68 + (14 * (1 + v))) + (5 * (1 + r))), .int .i64 (((68 + (14 * (1 + v))) + (5 * (1 + r))) + (1 + r)), .int .i64 ((1 + r) + 64), .int .i64 (((1 + r) + 64) - 1), .int .i64 ((((68 + (14 * (1 + v))) + (5 * (1 + r))) + (1 + r)) + 1), .int .i64 (8192 * (1 + r)), .int .i64 ((-1) - sz), .int .i64 (((-1) - sz) - 1), .int .i64 Q, .int .i64 (Q + 1)]) (TokL.int (TokL.int (TokL.int (TokL.int (TokL.int (TokL.int (TokL.int (TokL.int (TokL.int (TokL.int (TokL.int (TokL.int (TokL.int (TokL.int (TokL.int (TokL.int (TokL.int (TokL.int (TokL.int (TokL.int (TokL.int (TokL.int (TokL.int TokL.nil))))))))))))))))))))))) (es := Fg_nale) (w := w) hE hA (L := 68 + 14 * (1 + v) + 6 * (1 + r) + 2) rfl (by omega) (by omega) (G := 2) (tabs := tabA) (n := 20000) (f := 3) (args := #[kf 1, kf 2, kf 3]) (v := .bool true) hG hT rfl (by decide +kernel) (isTrue_eq Fg_nalt))
end Go.Proofs.YthggcmhmjkmjnaaGreatDoor
