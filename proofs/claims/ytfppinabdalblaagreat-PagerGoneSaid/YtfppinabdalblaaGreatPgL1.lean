/- PagerGone: the last loop, of 1 words (printed by gen_pg.py). -/
import Derived.Test.YtfppinabdalblaaGreatPgB
import Derived.Test.YtfppinabdalblaaGreatMpW
namespace Go.Proofs.YtfppinabdalblaaGreat
open Go.RowKit Go.IntWalk
set_option linter.unusedVariables false
set_option linter.unusedSimpArgs false
set_option maxRecDepth 100000
def Pg1l (r q pg kk : Int) (mk mo a0 a1 b0 b1 u0 u1 : Nat) (j : Int) : List Value := [.int .i64 (82 + 6 * (1 + r) + 2), .int .i64 (82 + 6 * (1 + r) + 0), .int .i64 (82 + 6 * (1 + r) + 1), .int .i64 70003, .int .i64 70004, .int .u8 pg, .int .u8 kk, .int .u64 ((mk : Int)), .int .u64 ((mo : Int)), .int .i64 (1 + r), .int .i64 (1 + q), .int .u64 ((a0 : Int)), .int .u64 ((a1 : Int)), .int .u64 ((b0 : Int)), .int .u64 ((b1 : Int)), .int .u64 ((u0 : Int)), .int .u64 ((u1 : Int)), .int .i64 (6 * (1 + r)), .int .i64 (1 + r + 63), .int .i64 j, .int .i64 (j + 1), .int .i64 (j - 64)]
theorem Pg1l_tok (r q pg kk : Int) (mk mo a0 a1 b0 b1 u0 u1 : Nat) (j : Int) : TokL (Pg1l r q pg kk mk mo a0 a1 b0 b1 u0 u1 j) := (TokL.int (TokL.int (TokL.int (TokL.int (TokL.int (TokL.int (TokL.int (TokL.int (TokL.int (TokL.int (TokL.int (TokL.int (TokL.int (TokL.int (TokL.int (TokL.int (TokL.int (TokL.int (TokL.int (TokL.int (TokL.int (TokL.int TokL.nil))))))))))))))))))))))
def Pg1Av0 : List Value := [vA, vA, vA, vA, vX, vX, vX, vX, vA, vP 0 0, vP 3 0, vP 4 0, kf 10, vP 5 0, vA]
def Pg1Av1 : List Value := [vA, vA, vA, vA, vA, vA, vX, vX, vX, vA, vA, vA, vA, vG [vA, vA, vA], vT [vA, vA]]
def Pg1Av2 : List Value := [vG [vA, vA, vA], vT [vA, vA], vA, vA, vA, vA, vA, vA, vA, vA, vA, vA, vA, vA, vA]
def Pg1Av3 : List Value := [vA, vA, vA, vA, vA, vA, vA, vA, vA, vA, vA, vA, vA, vA, vA]
def Pg1Av4 : List Value := [vA, vA, vA, vA, vT [vA, vA], vA, vA, vA, vG [vA, vA], vA, vT [vA, vA], vA, vA, vA, vA]
def Pg1Av5 : List Value := [vA, vA, vA, vA, vA, vA, vA, vA, vA, vG [vA, vA], vA, vA, vA, vA, vA]
def Pg1Av6 : List Value := [vA, vA, vA, vA, vA, vA, vA, vA, vA, vA, vA, vA, vG [vA, vA, vA, vA], vT [vA, vA], vA]
def Pg1Av7 : List Value := [vT [vA, vA], vA, vA, vA, vA, vA, vA, vA, vA, vX, vX, vX, vX, vX, vX]
def Pg1Av8 : List Value := [vX, vX, vX, vX, vX, vX, vX, vX, vX, vX, vX, vX, vX, vX, vX]
def Pg1Av9 : List Value := [vX, vX, vX, vX, vX, vX, vX, vX, vX, vX, vX, vX, vX, vX, vX]
def Pg1A : List Value := Pg1Av0 ++ (Pg1Av1 ++ (Pg1Av2 ++ (Pg1Av3 ++ (Pg1Av4 ++ (Pg1Av5 ++ (Pg1Av6 ++ (Pg1Av7 ++ (Pg1Av8 ++ Pg1Av9))))))))
def Pg1O0 : Obj := oC 25 [kf 9, vI 1, vZ]
def Pg1O1 : Obj := oC 140162 [vU 1, vU 0, vU 0, vU 0, vU 0, vU 0, vU 0, vU 0, vU 0, vU 0, vU 0, vU 0, vU 0, vU 0, vU 0, vU 0, vU 0, vU 0, vU 0, vU 0, vU 0, vU 0, vU 0, vU 0, vU 0, vU 0, vU 0, vU 0, vU 0, vU 0, vU 0, vU 0, vU 0, vU 0, vU 0, vU 0, vU 0, vU 0, vU 0, vU 0, vU 0, vU 0, vU 0, vU 0, vU 0, vU 0, vU 0, vU 0, vU 0, vU 0, vU 0, vU 0, vU 0, vU 0, vU 0, vU 0, vU 0, vU 0, vU 0, vU 0, vU 0, vU 0, vU 0, vU 0, vU 0, vU 0, vU 0, vU 0, vU 0, vU 0, vU 0, vU 0, vU 0, vU 0, vU 0, vU 0, vU 0]
def Pg1O2 : Obj := oC 109 [.complex .f32 1 0, vA, vA, vA, vA, vA]
def Pg1O3 : Obj := oC 86 [kf 9, vI 1, vP 2 0, vA]
def Pg1O4 : Obj := oC 40 [vA, vA, kf 9, vI 1]
def Pg1O5 : Obj := oC 30 [kf 11, vU 0]
def Pg1H : List Obj := [Pg1O0, Pg1O1, Pg1O2, Pg1O3, Pg1O4, Pg1O5]
def Pg1ie : List Ent := []
def Pg1if : List FnEnt := [⟨14, [], .bool true⟩]
def Pg1iZv0 : List Value := [vA, vA, vA, vA, vX, vX, vX, vX, vA, vP 0 0, vP 3 0, vP 4 0, kf 10, vP 5 0, vA]
def Pg1iZv1 : List Value := [vA, vA, vA, vA, vA, vA, vI 0, vX, vX, vA, vA, vA, vA, vG [vA, vA, vA], vT [vA, vA]]
def Pg1iZv2 : List Value := [vG [vA, vA, vA], vT [vA, vA], vA, vA, vA, vA, vA, vA, vA, vA, vA, vA, vA, vA, vA]
def Pg1iZv3 : List Value := [vA, vA, vA, vA, vA, vA, vA, vA, vA, vA, vA, vA, vA, vA, vA]
def Pg1iZv4 : List Value := [vA, vA, vA, vA, vT [vA, vA], vA, vA, vA, vG [vA, vA], vA, vT [vA, vA], vA, vA, vA, vA]
def Pg1iZv5 : List Value := [vA, vA, vA, vA, vA, vA, vA, vA, vA, vG [vA, vA], vA, vA, vA, vA, vA]
def Pg1iZv6 : List Value := [vA, vA, vA, vA, vA, vA, vA, vA, vA, vA, vA, vA, vG [vA, vA, vA, vA], vT [vA, vA], vA]
def Pg1iZv7 : List Value := [vT [vA, vA], vA, vA, vA, vA, vA, vA, vA, vA, vX, vX, vX, vX, vX, vX]
def Pg1iZv8 : List Value := [vX, vX, vX, vX, vX, vX, vX, vX, vX, vX, vX, vX, vX, vX, vX]
def Pg1iZv9 : List Value := [vX, vX, vX, vX, vX, vX, vX, vX, vX, vX, vX, vX, vX, vX, vX]
def Pg1iZ : List Value := Pg1iZv0 ++ (Pg1iZv1 ++ (Pg1iZv2 ++ (Pg1iZv3 ++ (Pg1iZv4 ++ (Pg1iZv5 ++ (Pg1iZv6 ++ (Pg1iZv7 ++ (Pg1iZv8 ++ Pg1iZv9))))))))
def Pg1iO : Orc := orcS Pg1ie Pg1if 2 rdG noMkS
theorem Pg1ip : PgS Pg1iO (seqL (seqL (pgC 11))) Pg1A Pg1H .normal Pg1iZ Pg1H := pgS_ev [0, 1, 2, 3, 4, 5] (by decide +kernel)
set_option maxHeartbeats 2000000 in
theorem Pg1i_s (r q pg kk : Int) (mk mo a0 a1 b0 b1 u0 u1 : Nat) (j : Nat) (w : World) (hr : 0 ≤ r ∧ r < 128) (hq : 0 ≤ q ∧ q ≤ r) (hm : r < 64) (hmk : mk < 18446744073709551616) (ha0 : a0 < 18446744073709551616) (ha1 : a1 < 18446744073709551616) (hc0 : b0 < 18446744073709551616) (hc1 : b1 < 18446744073709551616)  : Seg2 Tryz.prog (sgV (Pg1l r q pg kk mk mo a0 a1 b0 b1 u0 u1 0)) (sgV (Pg1l r q pg kk mk mo a0 a1 b0 b1 u0 u1 0)) w w.heap.size 0 (.code (seqL (seqL (pgC 11)))) Pg1A Pg1H .normal Pg1iZ Pg1H := by
  have hTL := Pg1l_tok r q pg kk mk mo a0 a1 b0 b1 u0 u1 0
  have hσ := sgV_one hTL
  have hE : AllOK Tryz.prog (sgV (Pg1l r q pg kk mk mo a0 a1 b0 b1 u0 u1 0)) Pg1ie := AllOK.nil
  have hF : ∀ e ∈ Pg1if, FnOK Tryz.prog (sgV (Pg1l r q pg kk mk mo a0 a1 b0 b1 u0 u1 0)) w w.heap.size e := FnsOK.cons (FnOK.mk rfl fun w' _ => Mpaw_any w' (Nat.zero_le _)) (FnsOK.nil)
  have hS : SpOK (sgV (Pg1l r q pg kk mk mo a0 a1 b0 b1 u0 u1 0)) 2 := (pg_sp (P := 1 + r) (m := 1) (by omega) rfl (by omega) (by omega) (by intro j hj; rcases (show j = 0 ∨ j = 1 by omega) with rfl | rfl <;> exact ⟨_, rfl, by omega⟩))
  have hO : OrcOK Tryz.prog (sgV (Pg1l r q pg kk mk mo a0 a1 b0 b1 u0 u1 0)) w w.heap.size Pg1iO := orcS_ok hE (sgV_ne hTL) hF hS (rdG_ok hσ ⟨_, rfl, by omega⟩) noMkS_ok
  exact (Pg1ip _ hσ _ _ hO).to2
def Pg1ke : List Ent := [⟨.bin .lss 3, [vI 0, kf 9], .bool true⟩,
  ⟨.bin .geq 3, [kf 9, vI 1], .bool true⟩,
  ⟨.bin .leq 3, [kf 9, vI 4096], .bool true⟩,
  ⟨.bin .add 3, [kf 9, vI 63], kf 18⟩,
  ⟨.bin .quo 3, [kf 18, vI 64], vI 1⟩,
  ⟨.bin .mul 3, [vI 6, kf 9], kf 17⟩,
  ⟨.bin .add 3, [vI 82, kf 17], kf 1⟩,
  ⟨.bin .add 3, [kf 1, vI 0], kf 1⟩,
  ⟨.bin .add 3, [kf 1, vI 1], kf 2⟩,
  ⟨.bin .geq 3, [vI 0, kf 10], .bool false⟩]
def Pg1kf : List FnEnt := [⟨14, [], .bool true⟩,
  ⟨12, [kf 13, vI 0], .bool false⟩]
def Pg1kZv0 : List Value := [vA, vA, vA, vA, vX, vX, vX, vX, vA, vP 0 0, vP 3 0, vP 4 0, kf 10, vP 5 0, vA]
def Pg1kZv1 : List Value := [vA, vA, vA, vA, vA, vA, vI 1, kf 2, vB true, vA, vA, vA, vA, vG [vA, vA, vA], vT [vA, vA]]
def Pg1kZv2 : List Value := [vG [vA, vA, vA], vT [vA, vA], vA, vA, vA, vA, vA, vA, vA, vA, vA, vA, vA, vA, vA]
def Pg1kZv3 : List Value := [vA, vA, vA, vA, vA, vA, vA, vA, vA, vA, vA, vA, vA, vA, vA]
def Pg1kZv4 : List Value := [vA, vA, vA, vA, vT [vA, vA], vA, vA, vA, vG [vA, vA], vA, vT [vA, vA], vA, vA, vA, vA]
def Pg1kZv5 : List Value := [vA, vA, vA, vA, vA, vA, vA, vA, vA, vG [vA, vA], vA, vA, vA, vA, vA]
def Pg1kZv6 : List Value := [vA, vA, vA, vA, vA, vA, vA, vA, vA, vA, vA, vA, vG [vA, vA, vA, vA], vT [vA, vA], vA]
def Pg1kZv7 : List Value := [vT [vA, vA], vA, vA, vA, vA, vA, vA, vA, vA, vI 0, vP 0 0, kf 9, vB true, vI 0, vI 1]
def Pg1kZv8 : List Value := [vT [kf 2, vB true], vP 4 0, vP 4 0, vP 4 2, vG [kf 9, vI 1], vI 0, vI 0, vT [kf 2, vB true], kf 2, vB true, vP 3 0, kf 2, kf 13, vI 0, vI 0]
def Pg1kZv9 : List Value := [vB false, vI 0, kf 10, vB false, vB false, vX, vX, vX, vX, vX, vX, vX, vB false, vB false, vX]
def Pg1kZ : List Value := Pg1kZv0 ++ (Pg1kZv1 ++ (Pg1kZv2 ++ (Pg1kZv3 ++ (Pg1kZv4 ++ (Pg1kZv5 ++ (Pg1kZv6 ++ (Pg1kZv7 ++ (Pg1kZv8 ++ Pg1kZv9))))))))
def Pg1kO : Orc := orcS Pg1ke Pg1kf 2 rdG noMkS
theorem Pg1kp : PgS Pg1kO ((inL (inB (seqR (seqL (pgC 11)))))) Pg1iZ Pg1H .normal Pg1kZ Pg1H := pgS_ev [0, 1, 2, 3, 4, 5] (by decide +kernel)
def Pg1Iav0 : List Value := [vA, vA, vA, vA, vX, vX, vX, vX, vA, vP 0 0, vP 3 0, vP 4 0, kf 10, vP 5 0, vA]
def Pg1Iav1 : List Value := [vA, vA, vA, vA, vA, vA, kf 19, vA, vA, vA, vA, vA, vA, vG [vA, vA, vA], vT [vA, vA]]
def Pg1Iav2 : List Value := [vG [vA, vA, vA], vT [vA, vA], vA, vA, vA, vA, vA, vA, vA, vA, vA, vA, vA, vA, vA]
def Pg1Iav3 : List Value := [vA, vA, vA, vA, vA, vA, vA, vA, vA, vA, vA, vA, vA, vA, vA]
def Pg1Iav4 : List Value := [vA, vA, vA, vA, vT [vA, vA], vA, vA, vA, vG [vA, vA], vA, vT [vA, vA], vA, vA, vA, vA]
def Pg1Iav5 : List Value := [vA, vA, vA, vA, vA, vA, vA, vA, vA, vG [vA, vA], vA, vA, vA, vA, vA]
def Pg1Iav6 : List Value := [vA, vA, vA, vA, vA, vA, vA, vA, vA, vA, vA, vA, vG [vA, vA, vA, vA], vT [vA, vA], vA]
def Pg1Iav7 : List Value := [vT [vA, vA], vA, vA, vA, vA, vA, vA, vA, vA, vA, vA, vA, vA, vA, vA]
def Pg1Iav8 : List Value := [vT [vA, vA], vA, vA, vA, vG [vA, vA], vA, vA, vT [vA, vA], vA, vA, vA, vA, vA, vA, vA]
def Pg1Iav9 : List Value := [vA, vA, vA, vA, vA, vX, vX, vX, vX, vX, vX, vX, vA, vA, vX]
def Pg1Ia : List Value := Pg1Iav0 ++ (Pg1Iav1 ++ (Pg1Iav2 ++ (Pg1Iav3 ++ (Pg1Iav4 ++ (Pg1Iav5 ++ (Pg1Iav6 ++ (Pg1Iav7 ++ (Pg1Iav8 ++ Pg1Iav9))))))))
theorem Pg1kc : shrOk (fun j => decide (j < 19)) [(vI 1, kf 19)] 0 [0, 1, 2, 3, 4, 5] Pg1kZ Pg1H Pg1Ia Pg1H = true := by decide +kernel
set_option maxHeartbeats 2000000 in
theorem Pg1k_s (r q pg kk : Int) (mk mo a0 a1 b0 b1 u0 u1 : Nat) (j : Nat) (w : World) (hr : 0 ≤ r ∧ r < 128) (hq : 0 ≤ q ∧ q ≤ r) (hm : r < 64) (hmk : mk < 18446744073709551616) (ha0 : a0 < 18446744073709551616) (ha1 : a1 < 18446744073709551616) (hc0 : b0 < 18446744073709551616) (hc1 : b1 < 18446744073709551616) (hb : b0.testBit 0 = false) : Seg2 Tryz.prog (sgV (Pg1l r q pg kk mk mo a0 a1 b0 b1 u0 u1 0)) (sgV (Pg1l r q pg kk mk mo a0 a1 b0 b1 u0 u1 1)) w w.heap.size 0 (.code ((inL (inB (seqR (seqL (pgC 11))))))) Pg1iZ Pg1H .normal Pg1Ia Pg1H := by
  have hTL := Pg1l_tok r q pg kk mk mo a0 a1 b0 b1 u0 u1 0
  have hσ := sgV_one hTL
  have hE : AllOK Tryz.prog (sgV (Pg1l r q pg kk mk mo a0 a1 b0 b1 u0 u1 0)) Pg1ke := AllOK.cons (elssT (0) (1 + r) (by omega)) (
    AllOK.cons (egeqT (1 + r) (1) (by omega)) (
    AllOK.cons (eleqT (1 + r) (4096) (by omega)) (
    AllOK.cons (eA (1 + r) (63) (1 + r + 63) (by omega)) (
    AllOK.cons (ent_quo (a := 1 + r + 63) (c := 64) rfl rfl (by omega) (by exact congrArg (Value.int .i64) (quoC (a := 1 + r + 63) (c := 64) (q := 1) (by omega) (by omega) (by omega) (by omega) (by omega)).symm) rfl) (
    AllOK.cons (eM (6) (1 + r) (6 * (1 + r)) (by omega)) (
    AllOK.cons (eA (82) (6 * (1 + r)) (82 + 6 * (1 + r) + 0) (by omega)) (
    AllOK.cons (eA (82 + 6 * (1 + r) + 0) (0) (82 + 6 * (1 + r) + 0) (by omega)) (
    AllOK.cons (eA (82 + 6 * (1 + r) + 0) (1) (82 + 6 * (1 + r) + 1) (by omega)) (
    AllOK.cons (egeqF (0) (1 + q) (by omega)) (
    AllOK.nil))))))))))
  have hF : ∀ e ∈ Pg1kf, FnOK Tryz.prog (sgV (Pg1l r q pg kk mk mo a0 a1 b0 b1 u0 u1 0)) w w.heap.size e := FnsOK.cons (FnOK.mk rfl fun w' _ => Mpaw_any w' (Nat.zero_le _)) (FnsOK.cons (pg_fnB (a := b0) (n := 0) hc0 (by omega) rfl rfl hb) (FnsOK.nil))
  have hS : SpOK (sgV (Pg1l r q pg kk mk mo a0 a1 b0 b1 u0 u1 0)) 2 := (pg_sp (P := 1 + r) (m := 1) (by omega) rfl (by omega) (by omega) (by intro j hj; rcases (show j = 0 ∨ j = 1 by omega) with rfl | rfl <;> exact ⟨_, rfl, by omega⟩))
  have hO : OrcOK Tryz.prog (sgV (Pg1l r q pg kk mk mo a0 a1 b0 b1 u0 u1 0)) w w.heap.size Pg1kO := orcS_ok hE (sgV_ne hTL) hF hS (rdG_ok hσ ⟨_, rfl, by omega⟩) noMkS_ok
  exact (Pg1kp _ hσ _ _ hO).to2.weak (weak_of (weakOK_pre (n := 19) (l2 := Pg1l r q pg kk mk mo a0 a1 b0 b1 u0 u1 1) hTL rfl rfl (pairs_int (b := 19) rfl pairs_nil)) Pg1kc)
def Pg1r0le : List Ent := [⟨.bin .lss 3, [kf 19, kf 9], .bool true⟩,
  ⟨.bin .quo 3, [kf 19, vI 64], vI 0⟩,
  ⟨.bin .geq 3, [kf 9, vI 1], .bool true⟩,
  ⟨.bin .leq 3, [kf 9, vI 4096], .bool true⟩,
  ⟨.bin .add 3, [kf 9, vI 63], kf 18⟩,
  ⟨.bin .quo 3, [kf 18, vI 64], vI 1⟩,
  ⟨.bin .mul 3, [vI 6, kf 9], kf 17⟩,
  ⟨.bin .add 3, [vI 82, kf 17], kf 1⟩,
  ⟨.bin .add 3, [kf 1, vI 0], kf 1⟩,
  ⟨.bin .add 3, [kf 1, vI 1], kf 2⟩,
  ⟨.bin .rem 3, [kf 19, vI 64], kf 19⟩,
  ⟨.bin .geq 3, [kf 19, kf 10], .bool false⟩,
  ⟨.bin .add 3, [kf 19, vI 1], kf 20⟩]
def Pg1r0lf : List FnEnt := [⟨14, [], .bool true⟩,
  ⟨12, [kf 13, kf 19], .bool false⟩]
def Pg1r0lZv0 : List Value := [vA, vA, vA, vA, vX, vX, vX, vX, vA, vP 0 0, vP 3 0, vP 4 0, kf 10, vP 5 0, vA]
def Pg1r0lZv1 : List Value := [vA, vA, vA, vA, vA, vA, kf 20, kf 2, vB true, vA, vA, vA, vA, vG [vA, vA, vA], vT [vA, vA]]
def Pg1r0lZv2 : List Value := [vG [vA, vA, vA], vT [vA, vA], vA, vA, vA, vA, vA, vA, vA, vA, vA, vA, vA, vA, vA]
def Pg1r0lZv3 : List Value := [vA, vA, vA, vA, vA, vA, vA, vA, vA, vA, vA, vA, vA, vA, vA]
def Pg1r0lZv4 : List Value := [vA, vA, vA, vA, vT [vA, vA], vA, vA, vA, vG [vA, vA], vA, vT [vA, vA], vA, vA, vA, vA]
def Pg1r0lZv5 : List Value := [vA, vA, vA, vA, vA, vA, vA, vA, vA, vG [vA, vA], vA, vA, vA, vA, vA]
def Pg1r0lZv6 : List Value := [vA, vA, vA, vA, vA, vA, vA, vA, vA, vA, vA, vA, vG [vA, vA, vA, vA], vT [vA, vA], vA]
def Pg1r0lZv7 : List Value := [vT [vA, vA], vA, vA, vA, vA, vA, vA, vA, vA, kf 19, vP 0 0, kf 9, vB true, kf 19, kf 20]
def Pg1r0lZv8 : List Value := [vT [kf 2, vB true], vP 4 0, vP 4 0, vP 4 2, vG [kf 9, vI 1], kf 19, vI 0, vT [kf 2, vB true], kf 2, vB true, vP 3 0, kf 2, kf 13, kf 19, kf 19]
def Pg1r0lZv9 : List Value := [vB false, kf 19, kf 10, vB false, vB false, vX, vX, vX, vX, vX, vX, vX, vB false, vB false, vX]
def Pg1r0lZ : List Value := Pg1r0lZv0 ++ (Pg1r0lZv1 ++ (Pg1r0lZv2 ++ (Pg1r0lZv3 ++ (Pg1r0lZv4 ++ (Pg1r0lZv5 ++ (Pg1r0lZv6 ++ (Pg1r0lZv7 ++ (Pg1r0lZv8 ++ Pg1r0lZv9))))))))
def Pg1r0lO : Orc := orcS Pg1r0le Pg1r0lf 2 rdG noMkS
theorem Pg1r0lp : PgS Pg1r0lO ((inL (inB (seqR (seqL (pgC 11)))))) Pg1Ia Pg1H .normal Pg1r0lZ Pg1H := pgS_ev [0, 1, 2, 3, 4, 5] (by decide +kernel)
theorem Pg1r0lc : shrOk (fun j => decide (j < 19)) [(kf 20, kf 19)] 0 [0, 1, 2, 3, 4, 5] Pg1r0lZ Pg1H Pg1Ia Pg1H = true := by decide +kernel
set_option maxHeartbeats 2000000 in
theorem Pg1r0l_s (r q pg kk : Int) (mk mo a0 a1 b0 b1 u0 u1 : Nat) (j : Nat) (w : World) (hr : 0 ≤ r ∧ r < 128) (hq : 0 ≤ q ∧ q ≤ r) (hm : r < 64) (hmk : mk < 18446744073709551616) (ha0 : a0 < 18446744073709551616) (ha1 : a1 < 18446744073709551616) (hc0 : b0 < 18446744073709551616) (hc1 : b1 < 18446744073709551616) (hj : (j : Int) < 1 + r) (hj1 : 1 ≤ j) (hw : j < 64) (hn : (j : Int) < 1 + q) (hb : b0.testBit j = false) : Seg2 Tryz.prog (sgV (Pg1l r q pg kk mk mo a0 a1 b0 b1 u0 u1 (j : Int))) (sgV (Pg1l r q pg kk mk mo a0 a1 b0 b1 u0 u1 ((j + 1 : Nat) : Int))) w w.heap.size 0 (.code ((inL (inB (seqR (seqL (pgC 11))))))) Pg1Ia Pg1H .normal Pg1Ia Pg1H := by
  have hTL := Pg1l_tok r q pg kk mk mo a0 a1 b0 b1 u0 u1 (j : Int)
  have hσ := sgV_one hTL
  have hE : AllOK Tryz.prog (sgV (Pg1l r q pg kk mk mo a0 a1 b0 b1 u0 u1 (j : Int))) Pg1r0le := AllOK.cons (elssT (j) (1 + r) (by omega)) (
    AllOK.cons (ent_quo (a := (j : Int)) (c := 64) rfl rfl (by omega) (by exact congrArg (Value.int .i64) (quoC (a := (j : Int)) (c := 64) (q := 0) (by omega) (by omega) (by omega) (by omega) (by omega)).symm) rfl) (
    AllOK.cons (egeqT (1 + r) (1) (by omega)) (
    AllOK.cons (eleqT (1 + r) (4096) (by omega)) (
    AllOK.cons (eA (1 + r) (63) (1 + r + 63) (by omega)) (
    AllOK.cons (ent_quo (a := 1 + r + 63) (c := 64) rfl rfl (by omega) (by exact congrArg (Value.int .i64) (quoC (a := 1 + r + 63) (c := 64) (q := 1) (by omega) (by omega) (by omega) (by omega) (by omega)).symm) rfl) (
    AllOK.cons (eM (6) (1 + r) (6 * (1 + r)) (by omega)) (
    AllOK.cons (eA (82) (6 * (1 + r)) (82 + 6 * (1 + r) + 0) (by omega)) (
    AllOK.cons (eA (82 + 6 * (1 + r) + 0) (0) (82 + 6 * (1 + r) + 0) (by omega)) (
    AllOK.cons (eA (82 + 6 * (1 + r) + 0) (1) (82 + 6 * (1 + r) + 1) (by omega)) (
    AllOK.cons (ent_rem (a := (j : Int)) (c := 64) rfl rfl (by omega) (by exact congrArg (Value.int .i64) (pg_tmod0 (by omega) (by omega)).symm) rfl) (
    AllOK.cons (egeqF (j) (1 + q) (by omega)) (
    AllOK.cons (eA (j) (1) (j + 1) (by omega)) (
    AllOK.nil)))))))))))))
  have hF : ∀ e ∈ Pg1r0lf, FnOK Tryz.prog (sgV (Pg1l r q pg kk mk mo a0 a1 b0 b1 u0 u1 (j : Int))) w w.heap.size e := FnsOK.cons (FnOK.mk rfl fun w' _ => Mpaw_any w' (Nat.zero_le _)) (FnsOK.cons (pg_fnB (a := b0) (n := j) hc0 (by omega) rfl rfl hb) (FnsOK.nil))
  have hS : SpOK (sgV (Pg1l r q pg kk mk mo a0 a1 b0 b1 u0 u1 (j : Int))) 2 := (pg_sp (P := 1 + r) (m := 1) (by omega) rfl (by omega) (by omega) (by intro j hj; rcases (show j = 0 ∨ j = 1 by omega) with rfl | rfl <;> exact ⟨_, rfl, by omega⟩))
  have hO : OrcOK Tryz.prog (sgV (Pg1l r q pg kk mk mo a0 a1 b0 b1 u0 u1 (j : Int))) w w.heap.size Pg1r0lO := orcS_ok hE (sgV_ne hTL) hF hS (rdG_ok hσ ⟨_, rfl, by omega⟩) noMkS_ok
  exact (Pg1r0lp _ hσ _ _ hO).to2.weak (weak_of (weakOK_pre (n := 19) (l2 := Pg1l r q pg kk mk mo a0 a1 b0 b1 u0 u1 ((j + 1 : Nat) : Int)) hTL rfl rfl (pairs_tok (a := 20) (b := 19) (by exact congrArg (Value.int .i64) (show (j : Int) + 1 = ((j + 1 : Nat) : Int) by omega)) pairs_nil)) Pg1r0lc)
def Pg1Ibv0 : List Value := [vA, vA, vA, vA, vX, vX, vX, vX, vA, vP 0 0, vP 3 0, vP 4 0, kf 10, vP 5 0, vA]
def Pg1Ibv1 : List Value := [vA, vA, vA, vA, vA, vA, kf 19, vA, vA, vA, vA, vA, vA, vG [vA, vA, vA], vT [vA, vA]]
def Pg1Ibv2 : List Value := [vG [vA, vA, vA], vT [vA, vA], vA, vA, vA, vA, vA, vA, vA, vA, vA, vA, vA, vA, vA]
def Pg1Ibv3 : List Value := [vA, vA, vA, vA, vA, vA, vA, vA, vA, vA, vA, vA, vA, vA, vA]
def Pg1Ibv4 : List Value := [vA, vA, vA, vA, vT [vA, vA], vA, vA, vA, vG [vA, vA], vA, vT [vA, vA], vA, vA, vA, vA]
def Pg1Ibv5 : List Value := [vA, vA, vA, vA, vA, vA, vA, vA, vA, vG [vA, vA], vA, vA, vA, vA, vA]
def Pg1Ibv6 : List Value := [vA, vA, vA, vA, vA, vA, vA, vA, vA, vA, vA, vA, vG [vA, vA, vA, vA], vT [vA, vA], vA]
def Pg1Ibv7 : List Value := [vT [vA, vA], vA, vA, vA, vA, vA, vA, vA, vA, vA, vA, vA, vA, vA, vA]
def Pg1Ibv8 : List Value := [vT [vA, vA], vA, vA, vA, vG [vA, vA], vA, vA, vT [vA, vA], vA, vA, vA, vA, vA, vA, vA]
def Pg1Ibv9 : List Value := [vA, vA, vA, vA, vA, vA, vA, vA, vA, vA, vA, vA, vA, vA, vX]
def Pg1Ib : List Value := Pg1Ibv0 ++ (Pg1Ibv1 ++ (Pg1Ibv2 ++ (Pg1Ibv3 ++ (Pg1Ibv4 ++ (Pg1Ibv5 ++ (Pg1Ibv6 ++ (Pg1Ibv7 ++ (Pg1Ibv8 ++ Pg1Ibv9))))))))
def Pg1r0fIae : List Ent := [⟨.bin .lss 3, [kf 19, kf 9], .bool true⟩,
  ⟨.bin .quo 3, [kf 19, vI 64], vI 0⟩,
  ⟨.bin .geq 3, [kf 9, vI 1], .bool true⟩,
  ⟨.bin .leq 3, [kf 9, vI 4096], .bool true⟩,
  ⟨.bin .add 3, [kf 9, vI 63], kf 18⟩,
  ⟨.bin .quo 3, [kf 18, vI 64], vI 1⟩,
  ⟨.bin .mul 3, [vI 6, kf 9], kf 17⟩,
  ⟨.bin .add 3, [vI 82, kf 17], kf 1⟩,
  ⟨.bin .add 3, [kf 1, vI 0], kf 1⟩,
  ⟨.bin .add 3, [kf 1, vI 1], kf 2⟩,
  ⟨.bin .rem 3, [kf 19, vI 64], kf 19⟩,
  ⟨.bin .geq 3, [kf 19, kf 10], .bool true⟩,
  ⟨.bin .add 3, [kf 19, vI 1], kf 20⟩]
def Pg1r0fIaf : List FnEnt := [⟨14, [], .bool true⟩,
  ⟨12, [kf 13, kf 19], .bool false⟩,
  ⟨12, [kf 11, kf 19], .bool false⟩]
def Pg1r0fIaZv0 : List Value := [vA, vA, vA, vA, vX, vX, vX, vX, vA, vP 0 0, vP 3 0, vP 4 0, kf 10, vP 5 0, vA]
def Pg1r0fIaZv1 : List Value := [vA, vA, vA, vA, vA, vA, kf 20, kf 2, vB true, vA, vA, vA, vA, vG [vA, vA, vA], vT [vA, vA]]
def Pg1r0fIaZv2 : List Value := [vG [vA, vA, vA], vT [vA, vA], vA, vA, vA, vA, vA, vA, vA, vA, vA, vA, vA, vA, vA]
def Pg1r0fIaZv3 : List Value := [vA, vA, vA, vA, vA, vA, vA, vA, vA, vA, vA, vA, vA, vA, vA]
def Pg1r0fIaZv4 : List Value := [vA, vA, vA, vA, vT [vA, vA], vA, vA, vA, vG [vA, vA], vA, vT [vA, vA], vA, vA, vA, vA]
def Pg1r0fIaZv5 : List Value := [vA, vA, vA, vA, vA, vA, vA, vA, vA, vG [vA, vA], vA, vA, vA, vA, vA]
def Pg1r0fIaZv6 : List Value := [vA, vA, vA, vA, vA, vA, vA, vA, vA, vA, vA, vA, vG [vA, vA, vA, vA], vT [vA, vA], vA]
def Pg1r0fIaZv7 : List Value := [vT [vA, vA], vA, vA, vA, vA, vA, vA, vA, vA, kf 19, vP 0 0, kf 9, vB true, kf 19, kf 20]
def Pg1r0fIaZv8 : List Value := [vT [kf 2, vB true], vP 4 0, vP 4 0, vP 4 2, vG [kf 9, vI 1], kf 19, vI 0, vT [kf 2, vB true], kf 2, vB true, vP 3 0, kf 2, kf 13, kf 19, kf 19]
def Pg1r0fIaZv9 : List Value := [vB false, kf 19, kf 10, vB true, vB true, kf 19, vI 0, vP 5 0, kf 11, kf 19, kf 19, vB false, vB false, vB false, vX]
def Pg1r0fIaZ : List Value := Pg1r0fIaZv0 ++ (Pg1r0fIaZv1 ++ (Pg1r0fIaZv2 ++ (Pg1r0fIaZv3 ++ (Pg1r0fIaZv4 ++ (Pg1r0fIaZv5 ++ (Pg1r0fIaZv6 ++ (Pg1r0fIaZv7 ++ (Pg1r0fIaZv8 ++ Pg1r0fIaZv9))))))))
def Pg1r0fIaO : Orc := orcS Pg1r0fIae Pg1r0fIaf 2 rdG noMkS
theorem Pg1r0fIap : PgS Pg1r0fIaO ((inL (inB (seqR (seqL (pgC 11)))))) Pg1Ia Pg1H .normal Pg1r0fIaZ Pg1H := pgS_ev [0, 1, 2, 3, 4, 5] (by decide +kernel)
theorem Pg1r0fIac : shrOk (fun j => decide (j < 19)) [(kf 20, kf 19)] 0 [0, 1, 2, 3, 4, 5] Pg1r0fIaZ Pg1H Pg1Ib Pg1H = true := by decide +kernel
set_option maxHeartbeats 2000000 in
theorem Pg1r0fIa_s (r q pg kk : Int) (mk mo a0 a1 b0 b1 u0 u1 : Nat) (j : Nat) (w : World) (hr : 0 ≤ r ∧ r < 128) (hq : 0 ≤ q ∧ q ≤ r) (hm : r < 64) (hmk : mk < 18446744073709551616) (ha0 : a0 < 18446744073709551616) (ha1 : a1 < 18446744073709551616) (hc0 : b0 < 18446744073709551616) (hc1 : b1 < 18446744073709551616) (hj : (j : Int) < 1 + r) (hj1 : 1 ≤ j) (hw : j < 64) (hn : 1 + q ≤ (j : Int)) (hb : b0.testBit j = false) (hb2 : a0.testBit j = false) : Seg2 Tryz.prog (sgV (Pg1l r q pg kk mk mo a0 a1 b0 b1 u0 u1 (j : Int))) (sgV (Pg1l r q pg kk mk mo a0 a1 b0 b1 u0 u1 ((j + 1 : Nat) : Int))) w w.heap.size 0 (.code ((inL (inB (seqR (seqL (pgC 11))))))) Pg1Ia Pg1H .normal Pg1Ib Pg1H := by
  have hTL := Pg1l_tok r q pg kk mk mo a0 a1 b0 b1 u0 u1 (j : Int)
  have hσ := sgV_one hTL
  have hE : AllOK Tryz.prog (sgV (Pg1l r q pg kk mk mo a0 a1 b0 b1 u0 u1 (j : Int))) Pg1r0fIae := AllOK.cons (elssT (j) (1 + r) (by omega)) (
    AllOK.cons (ent_quo (a := (j : Int)) (c := 64) rfl rfl (by omega) (by exact congrArg (Value.int .i64) (quoC (a := (j : Int)) (c := 64) (q := 0) (by omega) (by omega) (by omega) (by omega) (by omega)).symm) rfl) (
    AllOK.cons (egeqT (1 + r) (1) (by omega)) (
    AllOK.cons (eleqT (1 + r) (4096) (by omega)) (
    AllOK.cons (eA (1 + r) (63) (1 + r + 63) (by omega)) (
    AllOK.cons (ent_quo (a := 1 + r + 63) (c := 64) rfl rfl (by omega) (by exact congrArg (Value.int .i64) (quoC (a := 1 + r + 63) (c := 64) (q := 1) (by omega) (by omega) (by omega) (by omega) (by omega)).symm) rfl) (
    AllOK.cons (eM (6) (1 + r) (6 * (1 + r)) (by omega)) (
    AllOK.cons (eA (82) (6 * (1 + r)) (82 + 6 * (1 + r) + 0) (by omega)) (
    AllOK.cons (eA (82 + 6 * (1 + r) + 0) (0) (82 + 6 * (1 + r) + 0) (by omega)) (
    AllOK.cons (eA (82 + 6 * (1 + r) + 0) (1) (82 + 6 * (1 + r) + 1) (by omega)) (
    AllOK.cons (ent_rem (a := (j : Int)) (c := 64) rfl rfl (by omega) (by exact congrArg (Value.int .i64) (pg_tmod0 (by omega) (by omega)).symm) rfl) (
    AllOK.cons (egeqT (j) (1 + q) (by omega)) (
    AllOK.cons (eA (j) (1) (j + 1) (by omega)) (
    AllOK.nil)))))))))))))
  have hF : ∀ e ∈ Pg1r0fIaf, FnOK Tryz.prog (sgV (Pg1l r q pg kk mk mo a0 a1 b0 b1 u0 u1 (j : Int))) w w.heap.size e := FnsOK.cons (FnOK.mk rfl fun w' _ => Mpaw_any w' (Nat.zero_le _)) (FnsOK.cons (pg_fnB (a := b0) (n := j) hc0 (by omega) rfl rfl hb) (FnsOK.cons (pg_fnB (a := a0) (n := j) ha0 (by omega) rfl rfl hb2) (FnsOK.nil)))
  have hS : SpOK (sgV (Pg1l r q pg kk mk mo a0 a1 b0 b1 u0 u1 (j : Int))) 2 := (pg_sp (P := 1 + r) (m := 1) (by omega) rfl (by omega) (by omega) (by intro j hj; rcases (show j = 0 ∨ j = 1 by omega) with rfl | rfl <;> exact ⟨_, rfl, by omega⟩))
  have hO : OrcOK Tryz.prog (sgV (Pg1l r q pg kk mk mo a0 a1 b0 b1 u0 u1 (j : Int))) w w.heap.size Pg1r0fIaO := orcS_ok hE (sgV_ne hTL) hF hS (rdG_ok hσ ⟨_, rfl, by omega⟩) noMkS_ok
  exact (Pg1r0fIap _ hσ _ _ hO).to2.weak (weak_of (weakOK_pre (n := 19) (l2 := Pg1l r q pg kk mk mo a0 a1 b0 b1 u0 u1 ((j + 1 : Nat) : Int)) hTL rfl rfl (pairs_tok (a := 20) (b := 19) (by exact congrArg (Value.int .i64) (show (j : Int) + 1 = ((j + 1 : Nat) : Int) by omega)) pairs_nil)) Pg1r0fIac)
def Pg1r0fIbe : List Ent := [⟨.bin .lss 3, [kf 19, kf 9], .bool true⟩,
  ⟨.bin .quo 3, [kf 19, vI 64], vI 0⟩,
  ⟨.bin .geq 3, [kf 9, vI 1], .bool true⟩,
  ⟨.bin .leq 3, [kf 9, vI 4096], .bool true⟩,
  ⟨.bin .add 3, [kf 9, vI 63], kf 18⟩,
  ⟨.bin .quo 3, [kf 18, vI 64], vI 1⟩,
  ⟨.bin .mul 3, [vI 6, kf 9], kf 17⟩,
  ⟨.bin .add 3, [vI 82, kf 17], kf 1⟩,
  ⟨.bin .add 3, [kf 1, vI 0], kf 1⟩,
  ⟨.bin .add 3, [kf 1, vI 1], kf 2⟩,
  ⟨.bin .rem 3, [kf 19, vI 64], kf 19⟩,
  ⟨.bin .geq 3, [kf 19, kf 10], .bool true⟩,
  ⟨.bin .add 3, [kf 19, vI 1], kf 20⟩]
def Pg1r0fIbf : List FnEnt := [⟨14, [], .bool true⟩,
  ⟨12, [kf 13, kf 19], .bool false⟩,
  ⟨12, [kf 11, kf 19], .bool false⟩]
def Pg1r0fIbZv0 : List Value := [vA, vA, vA, vA, vX, vX, vX, vX, vA, vP 0 0, vP 3 0, vP 4 0, kf 10, vP 5 0, vA]
def Pg1r0fIbZv1 : List Value := [vA, vA, vA, vA, vA, vA, kf 20, kf 2, vB true, vA, vA, vA, vA, vG [vA, vA, vA], vT [vA, vA]]
def Pg1r0fIbZv2 : List Value := [vG [vA, vA, vA], vT [vA, vA], vA, vA, vA, vA, vA, vA, vA, vA, vA, vA, vA, vA, vA]
def Pg1r0fIbZv3 : List Value := [vA, vA, vA, vA, vA, vA, vA, vA, vA, vA, vA, vA, vA, vA, vA]
def Pg1r0fIbZv4 : List Value := [vA, vA, vA, vA, vT [vA, vA], vA, vA, vA, vG [vA, vA], vA, vT [vA, vA], vA, vA, vA, vA]
def Pg1r0fIbZv5 : List Value := [vA, vA, vA, vA, vA, vA, vA, vA, vA, vG [vA, vA], vA, vA, vA, vA, vA]
def Pg1r0fIbZv6 : List Value := [vA, vA, vA, vA, vA, vA, vA, vA, vA, vA, vA, vA, vG [vA, vA, vA, vA], vT [vA, vA], vA]
def Pg1r0fIbZv7 : List Value := [vT [vA, vA], vA, vA, vA, vA, vA, vA, vA, vA, kf 19, vP 0 0, kf 9, vB true, kf 19, kf 20]
def Pg1r0fIbZv8 : List Value := [vT [kf 2, vB true], vP 4 0, vP 4 0, vP 4 2, vG [kf 9, vI 1], kf 19, vI 0, vT [kf 2, vB true], kf 2, vB true, vP 3 0, kf 2, kf 13, kf 19, kf 19]
def Pg1r0fIbZv9 : List Value := [vB false, kf 19, kf 10, vB true, vB true, kf 19, vI 0, vP 5 0, kf 11, kf 19, kf 19, vB false, vB false, vB false, vX]
def Pg1r0fIbZ : List Value := Pg1r0fIbZv0 ++ (Pg1r0fIbZv1 ++ (Pg1r0fIbZv2 ++ (Pg1r0fIbZv3 ++ (Pg1r0fIbZv4 ++ (Pg1r0fIbZv5 ++ (Pg1r0fIbZv6 ++ (Pg1r0fIbZv7 ++ (Pg1r0fIbZv8 ++ Pg1r0fIbZv9))))))))
def Pg1r0fIbO : Orc := orcS Pg1r0fIbe Pg1r0fIbf 2 rdG noMkS
theorem Pg1r0fIbp : PgS Pg1r0fIbO ((inL (inB (seqR (seqL (pgC 11)))))) Pg1Ib Pg1H .normal Pg1r0fIbZ Pg1H := pgS_ev [0, 1, 2, 3, 4, 5] (by decide +kernel)
theorem Pg1r0fIbc : shrOk (fun j => decide (j < 19)) [(kf 20, kf 19)] 0 [0, 1, 2, 3, 4, 5] Pg1r0fIbZ Pg1H Pg1Ib Pg1H = true := by decide +kernel
set_option maxHeartbeats 2000000 in
theorem Pg1r0fIb_s (r q pg kk : Int) (mk mo a0 a1 b0 b1 u0 u1 : Nat) (j : Nat) (w : World) (hr : 0 ≤ r ∧ r < 128) (hq : 0 ≤ q ∧ q ≤ r) (hm : r < 64) (hmk : mk < 18446744073709551616) (ha0 : a0 < 18446744073709551616) (ha1 : a1 < 18446744073709551616) (hc0 : b0 < 18446744073709551616) (hc1 : b1 < 18446744073709551616) (hj : (j : Int) < 1 + r) (hj1 : 1 ≤ j) (hw : j < 64) (hn : 1 + q ≤ (j : Int)) (hb : b0.testBit j = false) (hb2 : a0.testBit j = false) : Seg2 Tryz.prog (sgV (Pg1l r q pg kk mk mo a0 a1 b0 b1 u0 u1 (j : Int))) (sgV (Pg1l r q pg kk mk mo a0 a1 b0 b1 u0 u1 ((j + 1 : Nat) : Int))) w w.heap.size 0 (.code ((inL (inB (seqR (seqL (pgC 11))))))) Pg1Ib Pg1H .normal Pg1Ib Pg1H := by
  have hTL := Pg1l_tok r q pg kk mk mo a0 a1 b0 b1 u0 u1 (j : Int)
  have hσ := sgV_one hTL
  have hE : AllOK Tryz.prog (sgV (Pg1l r q pg kk mk mo a0 a1 b0 b1 u0 u1 (j : Int))) Pg1r0fIbe := AllOK.cons (elssT (j) (1 + r) (by omega)) (
    AllOK.cons (ent_quo (a := (j : Int)) (c := 64) rfl rfl (by omega) (by exact congrArg (Value.int .i64) (quoC (a := (j : Int)) (c := 64) (q := 0) (by omega) (by omega) (by omega) (by omega) (by omega)).symm) rfl) (
    AllOK.cons (egeqT (1 + r) (1) (by omega)) (
    AllOK.cons (eleqT (1 + r) (4096) (by omega)) (
    AllOK.cons (eA (1 + r) (63) (1 + r + 63) (by omega)) (
    AllOK.cons (ent_quo (a := 1 + r + 63) (c := 64) rfl rfl (by omega) (by exact congrArg (Value.int .i64) (quoC (a := 1 + r + 63) (c := 64) (q := 1) (by omega) (by omega) (by omega) (by omega) (by omega)).symm) rfl) (
    AllOK.cons (eM (6) (1 + r) (6 * (1 + r)) (by omega)) (
    AllOK.cons (eA (82) (6 * (1 + r)) (82 + 6 * (1 + r) + 0) (by omega)) (
    AllOK.cons (eA (82 + 6 * (1 + r) + 0) (0) (82 + 6 * (1 + r) + 0) (by omega)) (
    AllOK.cons (eA (82 + 6 * (1 + r) + 0) (1) (82 + 6 * (1 + r) + 1) (by omega)) (
    AllOK.cons (ent_rem (a := (j : Int)) (c := 64) rfl rfl (by omega) (by exact congrArg (Value.int .i64) (pg_tmod0 (by omega) (by omega)).symm) rfl) (
    AllOK.cons (egeqT (j) (1 + q) (by omega)) (
    AllOK.cons (eA (j) (1) (j + 1) (by omega)) (
    AllOK.nil)))))))))))))
  have hF : ∀ e ∈ Pg1r0fIbf, FnOK Tryz.prog (sgV (Pg1l r q pg kk mk mo a0 a1 b0 b1 u0 u1 (j : Int))) w w.heap.size e := FnsOK.cons (FnOK.mk rfl fun w' _ => Mpaw_any w' (Nat.zero_le _)) (FnsOK.cons (pg_fnB (a := b0) (n := j) hc0 (by omega) rfl rfl hb) (FnsOK.cons (pg_fnB (a := a0) (n := j) ha0 (by omega) rfl rfl hb2) (FnsOK.nil)))
  have hS : SpOK (sgV (Pg1l r q pg kk mk mo a0 a1 b0 b1 u0 u1 (j : Int))) 2 := (pg_sp (P := 1 + r) (m := 1) (by omega) rfl (by omega) (by omega) (by intro j hj; rcases (show j = 0 ∨ j = 1 by omega) with rfl | rfl <;> exact ⟨_, rfl, by omega⟩))
  have hO : OrcOK Tryz.prog (sgV (Pg1l r q pg kk mk mo a0 a1 b0 b1 u0 u1 (j : Int))) w w.heap.size Pg1r0fIbO := orcS_ok hE (sgV_ne hTL) hF hS (rdG_ok hσ ⟨_, rfl, by omega⟩) noMkS_ok
  exact (Pg1r0fIbp _ hσ _ _ hO).to2.weak (weak_of (weakOK_pre (n := 19) (l2 := Pg1l r q pg kk mk mo a0 a1 b0 b1 u0 u1 ((j + 1 : Nat) : Int)) hTL rfl rfl (pairs_tok (a := 20) (b := 19) (by exact congrArg (Value.int .i64) (show (j : Int) + 1 = ((j + 1 : Nat) : Int) by omega)) pairs_nil)) Pg1r0fIbc)
def Pg1r0tIae : List Ent := [⟨.bin .lss 3, [kf 19, kf 9], .bool true⟩,
  ⟨.bin .quo 3, [kf 19, vI 64], vI 0⟩,
  ⟨.bin .geq 3, [kf 9, vI 1], .bool true⟩,
  ⟨.bin .leq 3, [kf 9, vI 4096], .bool true⟩,
  ⟨.bin .add 3, [kf 9, vI 63], kf 18⟩,
  ⟨.bin .quo 3, [kf 18, vI 64], vI 1⟩,
  ⟨.bin .mul 3, [vI 6, kf 9], kf 17⟩,
  ⟨.bin .add 3, [vI 82, kf 17], kf 1⟩,
  ⟨.bin .add 3, [kf 1, vI 0], kf 1⟩,
  ⟨.bin .add 3, [kf 1, vI 1], kf 2⟩,
  ⟨.bin .rem 3, [kf 19, vI 64], kf 19⟩,
  ⟨.bin .geq 3, [kf 19, kf 10], .bool true⟩,
  ⟨.bin .add 3, [kf 19, vI 1], kf 20⟩]
def Pg1r0tIaf : List FnEnt := [⟨14, [], .bool true⟩,
  ⟨12, [kf 13, kf 19], .bool true⟩,
  ⟨12, [kf 11, kf 19], .bool true⟩]
def Pg1r0tIaZv0 : List Value := [vA, vA, vA, vA, vX, vX, vX, vX, vA, vP 0 0, vP 3 0, vP 4 0, kf 10, vP 5 0, vA]
def Pg1r0tIaZv1 : List Value := [vA, vA, vA, vA, vA, vA, kf 20, kf 2, vB true, vA, vA, vA, vA, vG [vA, vA, vA], vT [vA, vA]]
def Pg1r0tIaZv2 : List Value := [vG [vA, vA, vA], vT [vA, vA], vA, vA, vA, vA, vA, vA, vA, vA, vA, vA, vA, vA, vA]
def Pg1r0tIaZv3 : List Value := [vA, vA, vA, vA, vA, vA, vA, vA, vA, vA, vA, vA, vA, vA, vA]
def Pg1r0tIaZv4 : List Value := [vA, vA, vA, vA, vT [vA, vA], vA, vA, vA, vG [vA, vA], vA, vT [vA, vA], vA, vA, vA, vA]
def Pg1r0tIaZv5 : List Value := [vA, vA, vA, vA, vA, vA, vA, vA, vA, vG [vA, vA], vA, vA, vA, vA, vA]
def Pg1r0tIaZv6 : List Value := [vA, vA, vA, vA, vA, vA, vA, vA, vA, vA, vA, vA, vG [vA, vA, vA, vA], vT [vA, vA], vA]
def Pg1r0tIaZv7 : List Value := [vT [vA, vA], vA, vA, vA, vA, vA, vA, vA, vA, kf 19, vP 0 0, kf 9, vB true, kf 19, kf 20]
def Pg1r0tIaZv8 : List Value := [vT [kf 2, vB true], vP 4 0, vP 4 0, vP 4 2, vG [kf 9, vI 1], kf 19, vI 0, vT [kf 2, vB true], kf 2, vB true, vP 3 0, kf 2, kf 13, kf 19, kf 19]
def Pg1r0tIaZv9 : List Value := [vB true, kf 19, kf 10, vB true, vB true, kf 19, vI 0, vP 5 0, kf 11, kf 19, kf 19, vB true, vB true, vB false, vX]
def Pg1r0tIaZ : List Value := Pg1r0tIaZv0 ++ (Pg1r0tIaZv1 ++ (Pg1r0tIaZv2 ++ (Pg1r0tIaZv3 ++ (Pg1r0tIaZv4 ++ (Pg1r0tIaZv5 ++ (Pg1r0tIaZv6 ++ (Pg1r0tIaZv7 ++ (Pg1r0tIaZv8 ++ Pg1r0tIaZv9))))))))
def Pg1r0tIaO : Orc := orcS Pg1r0tIae Pg1r0tIaf 2 rdG noMkS
theorem Pg1r0tIap : PgS Pg1r0tIaO ((inL (inB (seqR (seqL (pgC 11)))))) Pg1Ia Pg1H .normal Pg1r0tIaZ Pg1H := pgS_ev [0, 1, 2, 3, 4, 5] (by decide +kernel)
theorem Pg1r0tIac : shrOk (fun j => decide (j < 19)) [(kf 20, kf 19)] 0 [0, 1, 2, 3, 4, 5] Pg1r0tIaZ Pg1H Pg1Ib Pg1H = true := by decide +kernel
set_option maxHeartbeats 2000000 in
theorem Pg1r0tIa_s (r q pg kk : Int) (mk mo a0 a1 b0 b1 u0 u1 : Nat) (j : Nat) (w : World) (hr : 0 ≤ r ∧ r < 128) (hq : 0 ≤ q ∧ q ≤ r) (hm : r < 64) (hmk : mk < 18446744073709551616) (ha0 : a0 < 18446744073709551616) (ha1 : a1 < 18446744073709551616) (hc0 : b0 < 18446744073709551616) (hc1 : b1 < 18446744073709551616) (hj : (j : Int) < 1 + r) (hj1 : 1 ≤ j) (hw : j < 64) (hn : 1 + q ≤ (j : Int)) (hb : b0.testBit j = true) (hb2 : a0.testBit j = true) : Seg2 Tryz.prog (sgV (Pg1l r q pg kk mk mo a0 a1 b0 b1 u0 u1 (j : Int))) (sgV (Pg1l r q pg kk mk mo a0 a1 b0 b1 u0 u1 ((j + 1 : Nat) : Int))) w w.heap.size 0 (.code ((inL (inB (seqR (seqL (pgC 11))))))) Pg1Ia Pg1H .normal Pg1Ib Pg1H := by
  have hTL := Pg1l_tok r q pg kk mk mo a0 a1 b0 b1 u0 u1 (j : Int)
  have hσ := sgV_one hTL
  have hE : AllOK Tryz.prog (sgV (Pg1l r q pg kk mk mo a0 a1 b0 b1 u0 u1 (j : Int))) Pg1r0tIae := AllOK.cons (elssT (j) (1 + r) (by omega)) (
    AllOK.cons (ent_quo (a := (j : Int)) (c := 64) rfl rfl (by omega) (by exact congrArg (Value.int .i64) (quoC (a := (j : Int)) (c := 64) (q := 0) (by omega) (by omega) (by omega) (by omega) (by omega)).symm) rfl) (
    AllOK.cons (egeqT (1 + r) (1) (by omega)) (
    AllOK.cons (eleqT (1 + r) (4096) (by omega)) (
    AllOK.cons (eA (1 + r) (63) (1 + r + 63) (by omega)) (
    AllOK.cons (ent_quo (a := 1 + r + 63) (c := 64) rfl rfl (by omega) (by exact congrArg (Value.int .i64) (quoC (a := 1 + r + 63) (c := 64) (q := 1) (by omega) (by omega) (by omega) (by omega) (by omega)).symm) rfl) (
    AllOK.cons (eM (6) (1 + r) (6 * (1 + r)) (by omega)) (
    AllOK.cons (eA (82) (6 * (1 + r)) (82 + 6 * (1 + r) + 0) (by omega)) (
    AllOK.cons (eA (82 + 6 * (1 + r) + 0) (0) (82 + 6 * (1 + r) + 0) (by omega)) (
    AllOK.cons (eA (82 + 6 * (1 + r) + 0) (1) (82 + 6 * (1 + r) + 1) (by omega)) (
    AllOK.cons (ent_rem (a := (j : Int)) (c := 64) rfl rfl (by omega) (by exact congrArg (Value.int .i64) (pg_tmod0 (by omega) (by omega)).symm) rfl) (
    AllOK.cons (egeqT (j) (1 + q) (by omega)) (
    AllOK.cons (eA (j) (1) (j + 1) (by omega)) (
    AllOK.nil)))))))))))))
  have hF : ∀ e ∈ Pg1r0tIaf, FnOK Tryz.prog (sgV (Pg1l r q pg kk mk mo a0 a1 b0 b1 u0 u1 (j : Int))) w w.heap.size e := FnsOK.cons (FnOK.mk rfl fun w' _ => Mpaw_any w' (Nat.zero_le _)) (FnsOK.cons (pg_fnB (a := b0) (n := j) hc0 (by omega) rfl rfl hb) (FnsOK.cons (pg_fnB (a := a0) (n := j) ha0 (by omega) rfl rfl hb2) (FnsOK.nil)))
  have hS : SpOK (sgV (Pg1l r q pg kk mk mo a0 a1 b0 b1 u0 u1 (j : Int))) 2 := (pg_sp (P := 1 + r) (m := 1) (by omega) rfl (by omega) (by omega) (by intro j hj; rcases (show j = 0 ∨ j = 1 by omega) with rfl | rfl <;> exact ⟨_, rfl, by omega⟩))
  have hO : OrcOK Tryz.prog (sgV (Pg1l r q pg kk mk mo a0 a1 b0 b1 u0 u1 (j : Int))) w w.heap.size Pg1r0tIaO := orcS_ok hE (sgV_ne hTL) hF hS (rdG_ok hσ ⟨_, rfl, by omega⟩) noMkS_ok
  exact (Pg1r0tIap _ hσ _ _ hO).to2.weak (weak_of (weakOK_pre (n := 19) (l2 := Pg1l r q pg kk mk mo a0 a1 b0 b1 u0 u1 ((j + 1 : Nat) : Int)) hTL rfl rfl (pairs_tok (a := 20) (b := 19) (by exact congrArg (Value.int .i64) (show (j : Int) + 1 = ((j + 1 : Nat) : Int) by omega)) pairs_nil)) Pg1r0tIac)
def Pg1r0tIbe : List Ent := [⟨.bin .lss 3, [kf 19, kf 9], .bool true⟩,
  ⟨.bin .quo 3, [kf 19, vI 64], vI 0⟩,
  ⟨.bin .geq 3, [kf 9, vI 1], .bool true⟩,
  ⟨.bin .leq 3, [kf 9, vI 4096], .bool true⟩,
  ⟨.bin .add 3, [kf 9, vI 63], kf 18⟩,
  ⟨.bin .quo 3, [kf 18, vI 64], vI 1⟩,
  ⟨.bin .mul 3, [vI 6, kf 9], kf 17⟩,
  ⟨.bin .add 3, [vI 82, kf 17], kf 1⟩,
  ⟨.bin .add 3, [kf 1, vI 0], kf 1⟩,
  ⟨.bin .add 3, [kf 1, vI 1], kf 2⟩,
  ⟨.bin .rem 3, [kf 19, vI 64], kf 19⟩,
  ⟨.bin .geq 3, [kf 19, kf 10], .bool true⟩,
  ⟨.bin .add 3, [kf 19, vI 1], kf 20⟩]
def Pg1r0tIbf : List FnEnt := [⟨14, [], .bool true⟩,
  ⟨12, [kf 13, kf 19], .bool true⟩,
  ⟨12, [kf 11, kf 19], .bool true⟩]
def Pg1r0tIbZv0 : List Value := [vA, vA, vA, vA, vX, vX, vX, vX, vA, vP 0 0, vP 3 0, vP 4 0, kf 10, vP 5 0, vA]
def Pg1r0tIbZv1 : List Value := [vA, vA, vA, vA, vA, vA, kf 20, kf 2, vB true, vA, vA, vA, vA, vG [vA, vA, vA], vT [vA, vA]]
def Pg1r0tIbZv2 : List Value := [vG [vA, vA, vA], vT [vA, vA], vA, vA, vA, vA, vA, vA, vA, vA, vA, vA, vA, vA, vA]
def Pg1r0tIbZv3 : List Value := [vA, vA, vA, vA, vA, vA, vA, vA, vA, vA, vA, vA, vA, vA, vA]
def Pg1r0tIbZv4 : List Value := [vA, vA, vA, vA, vT [vA, vA], vA, vA, vA, vG [vA, vA], vA, vT [vA, vA], vA, vA, vA, vA]
def Pg1r0tIbZv5 : List Value := [vA, vA, vA, vA, vA, vA, vA, vA, vA, vG [vA, vA], vA, vA, vA, vA, vA]
def Pg1r0tIbZv6 : List Value := [vA, vA, vA, vA, vA, vA, vA, vA, vA, vA, vA, vA, vG [vA, vA, vA, vA], vT [vA, vA], vA]
def Pg1r0tIbZv7 : List Value := [vT [vA, vA], vA, vA, vA, vA, vA, vA, vA, vA, kf 19, vP 0 0, kf 9, vB true, kf 19, kf 20]
def Pg1r0tIbZv8 : List Value := [vT [kf 2, vB true], vP 4 0, vP 4 0, vP 4 2, vG [kf 9, vI 1], kf 19, vI 0, vT [kf 2, vB true], kf 2, vB true, vP 3 0, kf 2, kf 13, kf 19, kf 19]
def Pg1r0tIbZv9 : List Value := [vB true, kf 19, kf 10, vB true, vB true, kf 19, vI 0, vP 5 0, kf 11, kf 19, kf 19, vB true, vB true, vB false, vX]
def Pg1r0tIbZ : List Value := Pg1r0tIbZv0 ++ (Pg1r0tIbZv1 ++ (Pg1r0tIbZv2 ++ (Pg1r0tIbZv3 ++ (Pg1r0tIbZv4 ++ (Pg1r0tIbZv5 ++ (Pg1r0tIbZv6 ++ (Pg1r0tIbZv7 ++ (Pg1r0tIbZv8 ++ Pg1r0tIbZv9))))))))
def Pg1r0tIbO : Orc := orcS Pg1r0tIbe Pg1r0tIbf 2 rdG noMkS
theorem Pg1r0tIbp : PgS Pg1r0tIbO ((inL (inB (seqR (seqL (pgC 11)))))) Pg1Ib Pg1H .normal Pg1r0tIbZ Pg1H := pgS_ev [0, 1, 2, 3, 4, 5] (by decide +kernel)
theorem Pg1r0tIbc : shrOk (fun j => decide (j < 19)) [(kf 20, kf 19)] 0 [0, 1, 2, 3, 4, 5] Pg1r0tIbZ Pg1H Pg1Ib Pg1H = true := by decide +kernel
set_option maxHeartbeats 2000000 in
theorem Pg1r0tIb_s (r q pg kk : Int) (mk mo a0 a1 b0 b1 u0 u1 : Nat) (j : Nat) (w : World) (hr : 0 ≤ r ∧ r < 128) (hq : 0 ≤ q ∧ q ≤ r) (hm : r < 64) (hmk : mk < 18446744073709551616) (ha0 : a0 < 18446744073709551616) (ha1 : a1 < 18446744073709551616) (hc0 : b0 < 18446744073709551616) (hc1 : b1 < 18446744073709551616) (hj : (j : Int) < 1 + r) (hj1 : 1 ≤ j) (hw : j < 64) (hn : 1 + q ≤ (j : Int)) (hb : b0.testBit j = true) (hb2 : a0.testBit j = true) : Seg2 Tryz.prog (sgV (Pg1l r q pg kk mk mo a0 a1 b0 b1 u0 u1 (j : Int))) (sgV (Pg1l r q pg kk mk mo a0 a1 b0 b1 u0 u1 ((j + 1 : Nat) : Int))) w w.heap.size 0 (.code ((inL (inB (seqR (seqL (pgC 11))))))) Pg1Ib Pg1H .normal Pg1Ib Pg1H := by
  have hTL := Pg1l_tok r q pg kk mk mo a0 a1 b0 b1 u0 u1 (j : Int)
  have hσ := sgV_one hTL
  have hE : AllOK Tryz.prog (sgV (Pg1l r q pg kk mk mo a0 a1 b0 b1 u0 u1 (j : Int))) Pg1r0tIbe := AllOK.cons (elssT (j) (1 + r) (by omega)) (
    AllOK.cons (ent_quo (a := (j : Int)) (c := 64) rfl rfl (by omega) (by exact congrArg (Value.int .i64) (quoC (a := (j : Int)) (c := 64) (q := 0) (by omega) (by omega) (by omega) (by omega) (by omega)).symm) rfl) (
    AllOK.cons (egeqT (1 + r) (1) (by omega)) (
    AllOK.cons (eleqT (1 + r) (4096) (by omega)) (
    AllOK.cons (eA (1 + r) (63) (1 + r + 63) (by omega)) (
    AllOK.cons (ent_quo (a := 1 + r + 63) (c := 64) rfl rfl (by omega) (by exact congrArg (Value.int .i64) (quoC (a := 1 + r + 63) (c := 64) (q := 1) (by omega) (by omega) (by omega) (by omega) (by omega)).symm) rfl) (
    AllOK.cons (eM (6) (1 + r) (6 * (1 + r)) (by omega)) (
    AllOK.cons (eA (82) (6 * (1 + r)) (82 + 6 * (1 + r) + 0) (by omega)) (
    AllOK.cons (eA (82 + 6 * (1 + r) + 0) (0) (82 + 6 * (1 + r) + 0) (by omega)) (
    AllOK.cons (eA (82 + 6 * (1 + r) + 0) (1) (82 + 6 * (1 + r) + 1) (by omega)) (
    AllOK.cons (ent_rem (a := (j : Int)) (c := 64) rfl rfl (by omega) (by exact congrArg (Value.int .i64) (pg_tmod0 (by omega) (by omega)).symm) rfl) (
    AllOK.cons (egeqT (j) (1 + q) (by omega)) (
    AllOK.cons (eA (j) (1) (j + 1) (by omega)) (
    AllOK.nil)))))))))))))
  have hF : ∀ e ∈ Pg1r0tIbf, FnOK Tryz.prog (sgV (Pg1l r q pg kk mk mo a0 a1 b0 b1 u0 u1 (j : Int))) w w.heap.size e := FnsOK.cons (FnOK.mk rfl fun w' _ => Mpaw_any w' (Nat.zero_le _)) (FnsOK.cons (pg_fnB (a := b0) (n := j) hc0 (by omega) rfl rfl hb) (FnsOK.cons (pg_fnB (a := a0) (n := j) ha0 (by omega) rfl rfl hb2) (FnsOK.nil)))
  have hS : SpOK (sgV (Pg1l r q pg kk mk mo a0 a1 b0 b1 u0 u1 (j : Int))) 2 := (pg_sp (P := 1 + r) (m := 1) (by omega) rfl (by omega) (by omega) (by intro j hj; rcases (show j = 0 ∨ j = 1 by omega) with rfl | rfl <;> exact ⟨_, rfl, by omega⟩))
  have hO : OrcOK Tryz.prog (sgV (Pg1l r q pg kk mk mo a0 a1 b0 b1 u0 u1 (j : Int))) w w.heap.size Pg1r0tIbO := orcS_ok hE (sgV_ne hTL) hF hS (rdG_ok hσ ⟨_, rfl, by omega⟩) noMkS_ok
  exact (Pg1r0tIbp _ hσ _ _ hO).to2.weak (weak_of (weakOK_pre (n := 19) (l2 := Pg1l r q pg kk mk mo a0 a1 b0 b1 u0 u1 ((j + 1 : Nat) : Int)) hTL rfl rfl (pairs_tok (a := 20) (b := 19) (by exact congrArg (Value.int .i64) (show (j : Int) + 1 = ((j + 1 : Nat) : Int) by omega)) pairs_nil)) Pg1r0tIbc)
def Pg1xIae : List Ent := [⟨.bin .lss 3, [kf 19, kf 9], .bool false⟩]
def Pg1xIaf : List FnEnt := [⟨14, [], .bool true⟩]
def Pg1xIaZv0 : List Value := [vA, vA, vA, vA, vX, vX, vX, vX, vA, vP 0 0, vP 3 0, vP 4 0, kf 10, vP 5 0, vA]
def Pg1xIaZv1 : List Value := [vA, vA, vA, vA, vA, vA, kf 19, vA, vA, vA, vA, vA, vA, vG [vA, vA, vA], vT [vA, vA]]
def Pg1xIaZv2 : List Value := [vG [vA, vA, vA], vT [vA, vA], vA, vA, vA, vA, vA, vA, vA, vA, vA, vA, vA, vA, vA]
def Pg1xIaZv3 : List Value := [vA, vA, vA, vA, vA, vA, vA, vA, vA, vA, vA, vA, vA, vA, vA]
def Pg1xIaZv4 : List Value := [vA, vA, vA, vA, vT [vA, vA], vA, vA, vA, vG [vA, vA], vA, vT [vA, vA], vA, vA, vA, vA]
def Pg1xIaZv5 : List Value := [vA, vA, vA, vA, vA, vA, vA, vA, vA, vG [vA, vA], vA, vA, vA, vA, vA]
def Pg1xIaZv6 : List Value := [vA, vA, vA, vA, vA, vA, vA, vA, vA, vA, vA, vA, vG [vA, vA, vA, vA], vT [vA, vA], vA]
def Pg1xIaZv7 : List Value := [vT [vA, vA], vA, vA, vA, vA, vA, vA, vA, vA, kf 19, vP 0 0, kf 9, vB false, vA, vA]
def Pg1xIaZv8 : List Value := [vT [vA, vA], vA, vA, vA, vG [vA, vA], vA, vA, vT [vA, vA], vA, vA, vA, vA, vA, vA, vA]
def Pg1xIaZv9 : List Value := [vA, vA, vA, vA, vA, vX, vX, vX, vX, vX, vX, vX, vA, vA, vX]
def Pg1xIaZ : List Value := Pg1xIaZv0 ++ (Pg1xIaZv1 ++ (Pg1xIaZv2 ++ (Pg1xIaZv3 ++ (Pg1xIaZv4 ++ (Pg1xIaZv5 ++ (Pg1xIaZv6 ++ (Pg1xIaZv7 ++ (Pg1xIaZv8 ++ Pg1xIaZv9))))))))
def Pg1xIaO : Orc := orcS Pg1xIae Pg1xIaf 2 rdG noMkS
theorem Pg1xIap : PgS Pg1xIaO ((inL (inB (seqR (seqL (pgC 11)))))) Pg1Ia Pg1H (.exit 4) Pg1xIaZ Pg1H := pgS_ev [0, 1, 2, 3, 4, 5] (by decide +kernel)
def Pg1Xav0 : List Value := [vA, vA, vA, vA, vX, vX, vX, vX, vA, vP 0 0, vP 3 0, vP 4 0, kf 10, vP 5 0, vA]
def Pg1Xav1 : List Value := [vA, vA, vA, vA, vA, vA, vA, vA, vA, vA, vA, vA, vA, vG [vA, vA, vA], vT [vA, vA]]
def Pg1Xav2 : List Value := [vG [vA, vA, vA], vT [vA, vA], vA, vA, vA, vA, vA, vA, vA, vA, vA, vA, vA, vA, vA]
def Pg1Xav3 : List Value := [vA, vA, vA, vA, vA, vA, vA, vA, vA, vA, vA, vA, vA, vA, vA]
def Pg1Xav4 : List Value := [vA, vA, vA, vA, vT [vA, vA], vA, vA, vA, vG [vA, vA], vA, vT [vA, vA], vA, vA, vA, vA]
def Pg1Xav5 : List Value := [vA, vA, vA, vA, vA, vA, vA, vA, vA, vG [vA, vA], vA, vA, vA, vA, vA]
def Pg1Xav6 : List Value := [vA, vA, vA, vA, vA, vA, vA, vA, vA, vA, vA, vA, vG [vA, vA, vA, vA], vT [vA, vA], vA]
def Pg1Xav7 : List Value := [vT [vA, vA], vA, vA, vA, vA, vA, vA, vA, vA, vA, vA, vA, vA, vA, vA]
def Pg1Xav8 : List Value := [vT [vA, vA], vA, vA, vA, vG [vA, vA], vA, vA, vT [vA, vA], vA, vA, vA, vA, vA, vA, vA]
def Pg1Xav9 : List Value := [vA, vA, vA, vA, vA, vX, vX, vX, vX, vX, vX, vX, vA, vA, vX]
def Pg1Xa : List Value := Pg1Xav0 ++ (Pg1Xav1 ++ (Pg1Xav2 ++ (Pg1Xav3 ++ (Pg1Xav4 ++ (Pg1Xav5 ++ (Pg1Xav6 ++ (Pg1Xav7 ++ (Pg1Xav8 ++ Pg1Xav9))))))))
theorem Pg1xIac : shrOk (fun j => decide (j < 19)) [] 0 [0, 1, 2, 3, 4, 5] Pg1xIaZ Pg1H Pg1Xa Pg1H = true := by decide +kernel
set_option maxHeartbeats 2000000 in
theorem Pg1xIa_s (r q pg kk : Int) (mk mo a0 a1 b0 b1 u0 u1 : Nat) (j : Nat) (w : World) (hr : 0 ≤ r ∧ r < 128) (hq : 0 ≤ q ∧ q ≤ r) (hm : r < 64) (hmk : mk < 18446744073709551616) (ha0 : a0 < 18446744073709551616) (ha1 : a1 < 18446744073709551616) (hc0 : b0 < 18446744073709551616) (hc1 : b1 < 18446744073709551616) (hj : (j : Int) = 1 + r) : Seg2 Tryz.prog (sgV (Pg1l r q pg kk mk mo a0 a1 b0 b1 u0 u1 (j : Int))) (sgV (Pg1l r q pg kk mk mo a0 a1 b0 b1 u0 u1 (j : Int))) w w.heap.size 0 (.code ((inL (inB (seqR (seqL (pgC 11))))))) Pg1Ia Pg1H (.exit 4) Pg1Xa Pg1H := by
  have hTL := Pg1l_tok r q pg kk mk mo a0 a1 b0 b1 u0 u1 (j : Int)
  have hσ := sgV_one hTL
  have hE : AllOK Tryz.prog (sgV (Pg1l r q pg kk mk mo a0 a1 b0 b1 u0 u1 (j : Int))) Pg1xIae := AllOK.cons (elssF (j) (1 + r) (by omega)) (
    AllOK.nil)
  have hF : ∀ e ∈ Pg1xIaf, FnOK Tryz.prog (sgV (Pg1l r q pg kk mk mo a0 a1 b0 b1 u0 u1 (j : Int))) w w.heap.size e := FnsOK.cons (FnOK.mk rfl fun w' _ => Mpaw_any w' (Nat.zero_le _)) (FnsOK.nil)
  have hS : SpOK (sgV (Pg1l r q pg kk mk mo a0 a1 b0 b1 u0 u1 (j : Int))) 2 := (pg_sp (P := 1 + r) (m := 1) (by omega) rfl (by omega) (by omega) (by intro j hj; rcases (show j = 0 ∨ j = 1 by omega) with rfl | rfl <;> exact ⟨_, rfl, by omega⟩))
  have hO : OrcOK Tryz.prog (sgV (Pg1l r q pg kk mk mo a0 a1 b0 b1 u0 u1 (j : Int))) w w.heap.size Pg1xIaO := orcS_ok hE (sgV_ne hTL) hF hS (rdG_ok hσ ⟨_, rfl, by omega⟩) noMkS_ok
  exact (Pg1xIap _ hσ _ _ hO).to2.weak (weak_of (weakOK_pre (n := 19) (l2 := Pg1l r q pg kk mk mo a0 a1 b0 b1 u0 u1 (j : Int)) hTL rfl rfl pairs_nil) Pg1xIac)
def Pg1yIae : List Ent := []
def Pg1yIaf : List FnEnt := [⟨14, [], .bool true⟩]
def Pg1yIaZv0 : List Value := [vA, vA, vA, vA, vX, vX, vX, vX, vB true, vP 0 0, vP 3 0, vP 4 0, kf 10, vP 5 0, vA]
def Pg1yIaZv1 : List Value := [vA, vA, vA, vA, vA, vA, vA, vA, vA, vA, vA, vA, vA, vG [vA, vA, vA], vT [vA, vA]]
def Pg1yIaZv2 : List Value := [vG [vA, vA, vA], vT [vA, vA], vA, vA, vA, vA, vA, vA, vA, vA, vA, vA, vA, vA, vA]
def Pg1yIaZv3 : List Value := [vA, vA, vA, vA, vA, vA, vA, vA, vA, vA, vA, vA, vA, vA, vA]
def Pg1yIaZv4 : List Value := [vA, vA, vA, vA, vT [vA, vA], vA, vA, vA, vG [vA, vA], vA, vT [vA, vA], vA, vA, vA, vA]
def Pg1yIaZv5 : List Value := [vA, vA, vA, vA, vA, vA, vA, vA, vA, vG [vA, vA], vA, vA, vA, vA, vA]
def Pg1yIaZv6 : List Value := [vA, vA, vA, vA, vA, vA, vA, vA, vA, vA, vA, vA, vG [vA, vA, vA, vA], vT [vA, vA], vA]
def Pg1yIaZv7 : List Value := [vT [vA, vA], vA, vA, vA, vA, vA, vA, vA, vA, vA, vA, vA, vA, vA, vA]
def Pg1yIaZv8 : List Value := [vT [vA, vA], vA, vA, vA, vG [vA, vA], vA, vA, vT [vA, vA], vA, vA, vA, vA, vA, vA, vA]
def Pg1yIaZv9 : List Value := [vA, vA, vA, vA, vA, vX, vX, vX, vX, vX, vX, vX, vA, vA, vB true]
def Pg1yIaZ : List Value := Pg1yIaZv0 ++ (Pg1yIaZv1 ++ (Pg1yIaZv2 ++ (Pg1yIaZv3 ++ (Pg1yIaZv4 ++ (Pg1yIaZv5 ++ (Pg1yIaZv6 ++ (Pg1yIaZv7 ++ (Pg1yIaZv8 ++ Pg1yIaZv9))))))))
def Pg1yIaO : Orc := orcS Pg1yIae Pg1yIaf 2 rdG noMkS
theorem Pg1yIap : PgS Pg1yIaO (pgC 12) Pg1Xa Pg1H .ret Pg1yIaZ Pg1H := pgS_ev [0, 1, 2, 3, 4, 5] (by decide +kernel)
set_option maxHeartbeats 2000000 in
theorem Pg1yIa_s (r q pg kk : Int) (mk mo a0 a1 b0 b1 u0 u1 : Nat) (j : Nat) (w : World) (hr : 0 ≤ r ∧ r < 128) (hq : 0 ≤ q ∧ q ≤ r) (hm : r < 64) (hmk : mk < 18446744073709551616) (ha0 : a0 < 18446744073709551616) (ha1 : a1 < 18446744073709551616) (hc0 : b0 < 18446744073709551616) (hc1 : b1 < 18446744073709551616)  : Seg2 Tryz.prog (sgV (Pg1l r q pg kk mk mo a0 a1 b0 b1 u0 u1 (j : Int))) (sgV (Pg1l r q pg kk mk mo a0 a1 b0 b1 u0 u1 (j : Int))) w w.heap.size 0 (.code (pgC 12)) Pg1Xa Pg1H .ret Pg1yIaZ Pg1H := by
  have hTL := Pg1l_tok r q pg kk mk mo a0 a1 b0 b1 u0 u1 (j : Int)
  have hσ := sgV_one hTL
  have hE : AllOK Tryz.prog (sgV (Pg1l r q pg kk mk mo a0 a1 b0 b1 u0 u1 (j : Int))) Pg1yIae := AllOK.nil
  have hF : ∀ e ∈ Pg1yIaf, FnOK Tryz.prog (sgV (Pg1l r q pg kk mk mo a0 a1 b0 b1 u0 u1 (j : Int))) w w.heap.size e := FnsOK.cons (FnOK.mk rfl fun w' _ => Mpaw_any w' (Nat.zero_le _)) (FnsOK.nil)
  have hS : SpOK (sgV (Pg1l r q pg kk mk mo a0 a1 b0 b1 u0 u1 (j : Int))) 2 := (pg_sp (P := 1 + r) (m := 1) (by omega) rfl (by omega) (by omega) (by intro j hj; rcases (show j = 0 ∨ j = 1 by omega) with rfl | rfl <;> exact ⟨_, rfl, by omega⟩))
  have hO : OrcOK Tryz.prog (sgV (Pg1l r q pg kk mk mo a0 a1 b0 b1 u0 u1 (j : Int))) w w.heap.size Pg1yIaO := orcS_ok hE (sgV_ne hTL) hF hS (rdG_ok hσ ⟨_, rfl, by omega⟩) noMkS_ok
  exact (Pg1yIap _ hσ _ _ hO).to2
theorem Pg1yIaret : retVal Tryz.prog Tryz.f3 (mkA Pg1yIaZ).tmps (mkW Pg1H) = some (.bool true) := retTrue_eq (by decide +kernel)
def Pg1xIbe : List Ent := [⟨.bin .lss 3, [kf 19, kf 9], .bool false⟩]
def Pg1xIbf : List FnEnt := [⟨14, [], .bool true⟩]
def Pg1xIbZv0 : List Value := [vA, vA, vA, vA, vX, vX, vX, vX, vA, vP 0 0, vP 3 0, vP 4 0, kf 10, vP 5 0, vA]
def Pg1xIbZv1 : List Value := [vA, vA, vA, vA, vA, vA, kf 19, vA, vA, vA, vA, vA, vA, vG [vA, vA, vA], vT [vA, vA]]
def Pg1xIbZv2 : List Value := [vG [vA, vA, vA], vT [vA, vA], vA, vA, vA, vA, vA, vA, vA, vA, vA, vA, vA, vA, vA]
def Pg1xIbZv3 : List Value := [vA, vA, vA, vA, vA, vA, vA, vA, vA, vA, vA, vA, vA, vA, vA]
def Pg1xIbZv4 : List Value := [vA, vA, vA, vA, vT [vA, vA], vA, vA, vA, vG [vA, vA], vA, vT [vA, vA], vA, vA, vA, vA]
def Pg1xIbZv5 : List Value := [vA, vA, vA, vA, vA, vA, vA, vA, vA, vG [vA, vA], vA, vA, vA, vA, vA]
def Pg1xIbZv6 : List Value := [vA, vA, vA, vA, vA, vA, vA, vA, vA, vA, vA, vA, vG [vA, vA, vA, vA], vT [vA, vA], vA]
def Pg1xIbZv7 : List Value := [vT [vA, vA], vA, vA, vA, vA, vA, vA, vA, vA, kf 19, vP 0 0, kf 9, vB false, vA, vA]
def Pg1xIbZv8 : List Value := [vT [vA, vA], vA, vA, vA, vG [vA, vA], vA, vA, vT [vA, vA], vA, vA, vA, vA, vA, vA, vA]
def Pg1xIbZv9 : List Value := [vA, vA, vA, vA, vA, vA, vA, vA, vA, vA, vA, vA, vA, vA, vX]
def Pg1xIbZ : List Value := Pg1xIbZv0 ++ (Pg1xIbZv1 ++ (Pg1xIbZv2 ++ (Pg1xIbZv3 ++ (Pg1xIbZv4 ++ (Pg1xIbZv5 ++ (Pg1xIbZv6 ++ (Pg1xIbZv7 ++ (Pg1xIbZv8 ++ Pg1xIbZv9))))))))
def Pg1xIbO : Orc := orcS Pg1xIbe Pg1xIbf 2 rdG noMkS
theorem Pg1xIbp : PgS Pg1xIbO ((inL (inB (seqR (seqL (pgC 11)))))) Pg1Ib Pg1H (.exit 4) Pg1xIbZ Pg1H := pgS_ev [0, 1, 2, 3, 4, 5] (by decide +kernel)
def Pg1Xbv0 : List Value := [vA, vA, vA, vA, vX, vX, vX, vX, vA, vP 0 0, vP 3 0, vP 4 0, kf 10, vP 5 0, vA]
def Pg1Xbv1 : List Value := [vA, vA, vA, vA, vA, vA, vA, vA, vA, vA, vA, vA, vA, vG [vA, vA, vA], vT [vA, vA]]
def Pg1Xbv2 : List Value := [vG [vA, vA, vA], vT [vA, vA], vA, vA, vA, vA, vA, vA, vA, vA, vA, vA, vA, vA, vA]
def Pg1Xbv3 : List Value := [vA, vA, vA, vA, vA, vA, vA, vA, vA, vA, vA, vA, vA, vA, vA]
def Pg1Xbv4 : List Value := [vA, vA, vA, vA, vT [vA, vA], vA, vA, vA, vG [vA, vA], vA, vT [vA, vA], vA, vA, vA, vA]
def Pg1Xbv5 : List Value := [vA, vA, vA, vA, vA, vA, vA, vA, vA, vG [vA, vA], vA, vA, vA, vA, vA]
def Pg1Xbv6 : List Value := [vA, vA, vA, vA, vA, vA, vA, vA, vA, vA, vA, vA, vG [vA, vA, vA, vA], vT [vA, vA], vA]
def Pg1Xbv7 : List Value := [vT [vA, vA], vA, vA, vA, vA, vA, vA, vA, vA, vA, vA, vA, vA, vA, vA]
def Pg1Xbv8 : List Value := [vT [vA, vA], vA, vA, vA, vG [vA, vA], vA, vA, vT [vA, vA], vA, vA, vA, vA, vA, vA, vA]
def Pg1Xbv9 : List Value := [vA, vA, vA, vA, vA, vA, vA, vA, vA, vA, vA, vA, vA, vA, vX]
def Pg1Xb : List Value := Pg1Xbv0 ++ (Pg1Xbv1 ++ (Pg1Xbv2 ++ (Pg1Xbv3 ++ (Pg1Xbv4 ++ (Pg1Xbv5 ++ (Pg1Xbv6 ++ (Pg1Xbv7 ++ (Pg1Xbv8 ++ Pg1Xbv9))))))))
theorem Pg1xIbc : shrOk (fun j => decide (j < 19)) [] 0 [0, 1, 2, 3, 4, 5] Pg1xIbZ Pg1H Pg1Xb Pg1H = true := by decide +kernel
set_option maxHeartbeats 2000000 in
theorem Pg1xIb_s (r q pg kk : Int) (mk mo a0 a1 b0 b1 u0 u1 : Nat) (j : Nat) (w : World) (hr : 0 ≤ r ∧ r < 128) (hq : 0 ≤ q ∧ q ≤ r) (hm : r < 64) (hmk : mk < 18446744073709551616) (ha0 : a0 < 18446744073709551616) (ha1 : a1 < 18446744073709551616) (hc0 : b0 < 18446744073709551616) (hc1 : b1 < 18446744073709551616) (hj : (j : Int) = 1 + r) : Seg2 Tryz.prog (sgV (Pg1l r q pg kk mk mo a0 a1 b0 b1 u0 u1 (j : Int))) (sgV (Pg1l r q pg kk mk mo a0 a1 b0 b1 u0 u1 (j : Int))) w w.heap.size 0 (.code ((inL (inB (seqR (seqL (pgC 11))))))) Pg1Ib Pg1H (.exit 4) Pg1Xb Pg1H := by
  have hTL := Pg1l_tok r q pg kk mk mo a0 a1 b0 b1 u0 u1 (j : Int)
  have hσ := sgV_one hTL
  have hE : AllOK Tryz.prog (sgV (Pg1l r q pg kk mk mo a0 a1 b0 b1 u0 u1 (j : Int))) Pg1xIbe := AllOK.cons (elssF (j) (1 + r) (by omega)) (
    AllOK.nil)
  have hF : ∀ e ∈ Pg1xIbf, FnOK Tryz.prog (sgV (Pg1l r q pg kk mk mo a0 a1 b0 b1 u0 u1 (j : Int))) w w.heap.size e := FnsOK.cons (FnOK.mk rfl fun w' _ => Mpaw_any w' (Nat.zero_le _)) (FnsOK.nil)
  have hS : SpOK (sgV (Pg1l r q pg kk mk mo a0 a1 b0 b1 u0 u1 (j : Int))) 2 := (pg_sp (P := 1 + r) (m := 1) (by omega) rfl (by omega) (by omega) (by intro j hj; rcases (show j = 0 ∨ j = 1 by omega) with rfl | rfl <;> exact ⟨_, rfl, by omega⟩))
  have hO : OrcOK Tryz.prog (sgV (Pg1l r q pg kk mk mo a0 a1 b0 b1 u0 u1 (j : Int))) w w.heap.size Pg1xIbO := orcS_ok hE (sgV_ne hTL) hF hS (rdG_ok hσ ⟨_, rfl, by omega⟩) noMkS_ok
  exact (Pg1xIbp _ hσ _ _ hO).to2.weak (weak_of (weakOK_pre (n := 19) (l2 := Pg1l r q pg kk mk mo a0 a1 b0 b1 u0 u1 (j : Int)) hTL rfl rfl pairs_nil) Pg1xIbc)
def Pg1yIbe : List Ent := []
def Pg1yIbf : List FnEnt := [⟨14, [], .bool true⟩]
def Pg1yIbZv0 : List Value := [vA, vA, vA, vA, vX, vX, vX, vX, vB true, vP 0 0, vP 3 0, vP 4 0, kf 10, vP 5 0, vA]
def Pg1yIbZv1 : List Value := [vA, vA, vA, vA, vA, vA, vA, vA, vA, vA, vA, vA, vA, vG [vA, vA, vA], vT [vA, vA]]
def Pg1yIbZv2 : List Value := [vG [vA, vA, vA], vT [vA, vA], vA, vA, vA, vA, vA, vA, vA, vA, vA, vA, vA, vA, vA]
def Pg1yIbZv3 : List Value := [vA, vA, vA, vA, vA, vA, vA, vA, vA, vA, vA, vA, vA, vA, vA]
def Pg1yIbZv4 : List Value := [vA, vA, vA, vA, vT [vA, vA], vA, vA, vA, vG [vA, vA], vA, vT [vA, vA], vA, vA, vA, vA]
def Pg1yIbZv5 : List Value := [vA, vA, vA, vA, vA, vA, vA, vA, vA, vG [vA, vA], vA, vA, vA, vA, vA]
def Pg1yIbZv6 : List Value := [vA, vA, vA, vA, vA, vA, vA, vA, vA, vA, vA, vA, vG [vA, vA, vA, vA], vT [vA, vA], vA]
def Pg1yIbZv7 : List Value := [vT [vA, vA], vA, vA, vA, vA, vA, vA, vA, vA, vA, vA, vA, vA, vA, vA]
def Pg1yIbZv8 : List Value := [vT [vA, vA], vA, vA, vA, vG [vA, vA], vA, vA, vT [vA, vA], vA, vA, vA, vA, vA, vA, vA]
def Pg1yIbZv9 : List Value := [vA, vA, vA, vA, vA, vA, vA, vA, vA, vA, vA, vA, vA, vA, vB true]
def Pg1yIbZ : List Value := Pg1yIbZv0 ++ (Pg1yIbZv1 ++ (Pg1yIbZv2 ++ (Pg1yIbZv3 ++ (Pg1yIbZv4 ++ (Pg1yIbZv5 ++ (Pg1yIbZv6 ++ (Pg1yIbZv7 ++ (Pg1yIbZv8 ++ Pg1yIbZv9))))))))
def Pg1yIbO : Orc := orcS Pg1yIbe Pg1yIbf 2 rdG noMkS
theorem Pg1yIbp : PgS Pg1yIbO (pgC 12) Pg1Xb Pg1H .ret Pg1yIbZ Pg1H := pgS_ev [0, 1, 2, 3, 4, 5] (by decide +kernel)
set_option maxHeartbeats 2000000 in
theorem Pg1yIb_s (r q pg kk : Int) (mk mo a0 a1 b0 b1 u0 u1 : Nat) (j : Nat) (w : World) (hr : 0 ≤ r ∧ r < 128) (hq : 0 ≤ q ∧ q ≤ r) (hm : r < 64) (hmk : mk < 18446744073709551616) (ha0 : a0 < 18446744073709551616) (ha1 : a1 < 18446744073709551616) (hc0 : b0 < 18446744073709551616) (hc1 : b1 < 18446744073709551616)  : Seg2 Tryz.prog (sgV (Pg1l r q pg kk mk mo a0 a1 b0 b1 u0 u1 (j : Int))) (sgV (Pg1l r q pg kk mk mo a0 a1 b0 b1 u0 u1 (j : Int))) w w.heap.size 0 (.code (pgC 12)) Pg1Xb Pg1H .ret Pg1yIbZ Pg1H := by
  have hTL := Pg1l_tok r q pg kk mk mo a0 a1 b0 b1 u0 u1 (j : Int)
  have hσ := sgV_one hTL
  have hE : AllOK Tryz.prog (sgV (Pg1l r q pg kk mk mo a0 a1 b0 b1 u0 u1 (j : Int))) Pg1yIbe := AllOK.nil
  have hF : ∀ e ∈ Pg1yIbf, FnOK Tryz.prog (sgV (Pg1l r q pg kk mk mo a0 a1 b0 b1 u0 u1 (j : Int))) w w.heap.size e := FnsOK.cons (FnOK.mk rfl fun w' _ => Mpaw_any w' (Nat.zero_le _)) (FnsOK.nil)
  have hS : SpOK (sgV (Pg1l r q pg kk mk mo a0 a1 b0 b1 u0 u1 (j : Int))) 2 := (pg_sp (P := 1 + r) (m := 1) (by omega) rfl (by omega) (by omega) (by intro j hj; rcases (show j = 0 ∨ j = 1 by omega) with rfl | rfl <;> exact ⟨_, rfl, by omega⟩))
  have hO : OrcOK Tryz.prog (sgV (Pg1l r q pg kk mk mo a0 a1 b0 b1 u0 u1 (j : Int))) w w.heap.size Pg1yIbO := orcS_ok hE (sgV_ne hTL) hF hS (rdG_ok hσ ⟨_, rfl, by omega⟩) noMkS_ok
  exact (Pg1yIbp _ hσ _ _ hO).to2
theorem Pg1yIbret : retVal Tryz.prog Tryz.f3 (mkA Pg1yIbZ).tmps (mkW Pg1H) = some (.bool true) := retTrue_eq (by decide +kernel)
theorem Pg1round (r q pg kk : Int) (mk mo a0 a1 b0 b1 u0 u1 : Nat) (j : Nat) (w : World) (hr : 0 ≤ r ∧ r < 128) (hq : 0 ≤ q ∧ q ≤ r) (hm : r < 64) (hmk : mk < 18446744073709551616) (ha0 : a0 < 18446744073709551616) (ha1 : a1 < 18446744073709551616) (hc0 : b0 < 18446744073709551616) (hc1 : b1 < 18446744073709551616) (hb0 : ∀ i : Nat, i < 64 → (i : Int) < 1 + r → b0.testBit i = (decide ((1 + q : Int) ≤ i) && a0.testBit i)) (hj : (j : Int) < 1 + r) (hj1 : 1 ≤ j) : Seg2 Tryz.prog (sgV (Pg1l r q pg kk mk mo a0 a1 b0 b1 u0 u1 (j : Int))) (sgV (Pg1l r q pg kk mk mo a0 a1 b0 b1 u0 u1 ((j + 1 : Nat) : Int))) w w.heap.size 0 (.code ((inL (inB (seqR (seqL (pgC 11))))))) (if (j : Int) ≤ 1 + q then Pg1Ia else Pg1Ib) Pg1H .normal (if ((j + 1 : Nat) : Int) ≤ 1 + q then Pg1Ia else Pg1Ib) Pg1H := by
  have hw : j < 64 := by omega
  have hb := hb0 j hw hj
  by_cases hn : (j : Int) < 1 + q
  · rw [if_pos (by omega), if_pos (by omega)]
    rw [decide_eq_false (by omega), Bool.false_and] at hb
    exact Pg1r0l_s r q pg kk mk mo a0 a1 b0 b1 u0 u1 j w hr hq hm hmk ha0 ha1 hc0 hc1 hj hj1 hw hn hb
  · rw [if_neg (c := ((j + 1 : Nat) : Int) ≤ 1 + q) (by omega)]
    rw [decide_eq_true (by omega), Bool.true_and] at hb
    cases hc : a0.testBit j <;> rw [hc] at hb <;> by_cases he : (j : Int) ≤ 1 + q
    · rw [if_pos he]; exact Pg1r0fIa_s r q pg kk mk mo a0 a1 b0 b1 u0 u1 j w hr hq hm hmk ha0 ha1 hc0 hc1 hj hj1 hw (by omega) hb hc
    · rw [if_neg he]; exact Pg1r0fIb_s r q pg kk mk mo a0 a1 b0 b1 u0 u1 j w hr hq hm hmk ha0 ha1 hc0 hc1 hj hj1 hw (by omega) hb hc
    · rw [if_pos he]; exact Pg1r0tIa_s r q pg kk mk mo a0 a1 b0 b1 u0 u1 j w hr hq hm hmk ha0 ha1 hc0 hc1 hj hj1 hw (by omega) hb hc
    · rw [if_neg he]; exact Pg1r0tIb_s r q pg kk mk mo a0 a1 b0 b1 u0 u1 j w hr hq hm hmk ha0 ha1 hc0 hc1 hj hj1 hw (by omega) hb hc
theorem Pg1_tail (r q pg kk : Int) (mk mo a0 a1 b0 b1 u0 u1 : Nat) (w : World) (hr : 0 ≤ r ∧ r < 128) (hq : 0 ≤ q ∧ q ≤ r) (hm : r < 64) (hmk : mk < 18446744073709551616) (ha0 : a0 < 18446744073709551616) (ha1 : a1 < 18446744073709551616) (hc0 : b0 < 18446744073709551616) (hc1 : b1 < 18446744073709551616) (hb0 : ∀ i : Nat, i < 64 → (i : Int) < 1 + r → b0.testBit i = (decide ((1 + q : Int) ≤ i) && a0.testBit i)) : ∃ lZ, Seg2 Tryz.prog (sgV (Pg1l r q pg kk mk mo a0 a1 b0 b1 u0 u1 0)) (sgV (Pg1l r q pg kk mk mo a0 a1 b0 b1 u0 u1 (((1 + r).toNat : Nat) : Int))) w w.heap.size 0 (.code (pgC 11)) Pg1A Pg1H .ret lZ Pg1H ∧ retVal Tryz.prog Tryz.f3 (mkA lZ).tmps (mkW Pg1H) = some (.bool true) := by
  have e0 := hb0 0 (by omega) (by omega)
  rw [decide_eq_false (by omega), Bool.false_and] at e0
  by_cases he : (((1 + r).toNat : Nat) : Int) ≤ 1 + q
  · have hx : Seg2 Tryz.prog (sgV (Pg1l r q pg kk mk mo a0 a1 b0 b1 u0 u1 (((1 + r).toNat : Nat) : Int))) (sgV (Pg1l r q pg kk mk mo a0 a1 b0 b1 u0 u1 (((1 + r).toNat : Nat) : Int))) w w.heap.size 0 (.code ((inL (inB (seqR (seqL (pgC 11))))))) (if (((1 + r).toNat : Nat) : Int) ≤ 1 + q then Pg1Ia else Pg1Ib) Pg1H (.exit 4) Pg1Xa Pg1H := by
      rw [if_pos he]
      exact Pg1xIa_s r q pg kk mk mo a0 a1 b0 b1 u0 u1 (1 + r).toNat w hr hq hm hmk ha0 ha1 hc0 hc1 (by omega)
    have hl := Seg2.loopInd2 (S := fun j => sgV (Pg1l r q pg kk mk mo a0 a1 b0 b1 u0 u1 (j : Int))) (L := fun j => if (j : Int) ≤ 1 + q then Pg1Ia else Pg1Ib) (N := (1 + r).toNat) (a := 1) (fun j h1 h2 => Pg1round r q pg kk mk mo a0 a1 b0 b1 u0 u1 j w hr hq hm hmk ha0 ha1 hc0 hc1 hb0 (by omega) h1) hx ((1 + r).toNat - 1) 1 (Nat.le_refl _) (by omega)
    rw [if_pos (show ((1 : Nat) : Int) ≤ 1 + q by omega)] at hl
    exact ⟨_, Seg2.seqP (by rfl) (Seg2.seqP (by rfl) (Pg1i_s r q pg kk mk mo a0 a1 b0 b1 u0 u1 0 w hr hq hm hmk ha0 ha1 hc0 hc1) (Seg2.loopP (id := 4) (by rfl) (Seg2.loopNext (Pg1k_s r q pg kk mk mo a0 a1 b0 b1 u0 u1 0 w hr hq hm hmk ha0 ha1 hc0 hc1 e0) hl))) (Pg1yIa_s r q pg kk mk mo a0 a1 b0 b1 u0 u1 (1 + r).toNat w hr hq hm hmk ha0 ha1 hc0 hc1), Pg1yIaret⟩
  · have hx : Seg2 Tryz.prog (sgV (Pg1l r q pg kk mk mo a0 a1 b0 b1 u0 u1 (((1 + r).toNat : Nat) : Int))) (sgV (Pg1l r q pg kk mk mo a0 a1 b0 b1 u0 u1 (((1 + r).toNat : Nat) : Int))) w w.heap.size 0 (.code ((inL (inB (seqR (seqL (pgC 11))))))) (if (((1 + r).toNat : Nat) : Int) ≤ 1 + q then Pg1Ia else Pg1Ib) Pg1H (.exit 4) Pg1Xb Pg1H := by
      rw [if_neg he]
      exact Pg1xIb_s r q pg kk mk mo a0 a1 b0 b1 u0 u1 (1 + r).toNat w hr hq hm hmk ha0 ha1 hc0 hc1 (by omega)
    have hl := Seg2.loopInd2 (S := fun j => sgV (Pg1l r q pg kk mk mo a0 a1 b0 b1 u0 u1 (j : Int))) (L := fun j => if (j : Int) ≤ 1 + q then Pg1Ia else Pg1Ib) (N := (1 + r).toNat) (a := 1) (fun j h1 h2 => Pg1round r q pg kk mk mo a0 a1 b0 b1 u0 u1 j w hr hq hm hmk ha0 ha1 hc0 hc1 hb0 (by omega) h1) hx ((1 + r).toNat - 1) 1 (Nat.le_refl _) (by omega)
    rw [if_pos (show ((1 : Nat) : Int) ≤ 1 + q by omega)] at hl
    exact ⟨_, Seg2.seqP (by rfl) (Seg2.seqP (by rfl) (Pg1i_s r q pg kk mk mo a0 a1 b0 b1 u0 u1 0 w hr hq hm hmk ha0 ha1 hc0 hc1) (Seg2.loopP (id := 4) (by rfl) (Seg2.loopNext (Pg1k_s r q pg kk mk mo a0 a1 b0 b1 u0 u1 0 w hr hq hm hmk ha0 ha1 hc0 hc1 e0) hl))) (Pg1yIb_s r q pg kk mk mo a0 a1 b0 b1 u0 u1 (1 + r).toNat w hr hq hm hmk ha0 ha1 hc0 hc1), Pg1yIbret⟩
end Go.Proofs.YtfppinabdalblaaGreat
