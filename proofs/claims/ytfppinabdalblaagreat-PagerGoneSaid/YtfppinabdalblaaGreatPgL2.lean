/- PagerGone: the last loop, of 2 words (printed by gen_pg.py). -/
import Derived.Test.YtfppinabdalblaaGreatPgB
import Derived.Test.YtfppinabdalblaaGreatMpW
namespace Go.Proofs.YtfppinabdalblaaGreat
open Go.RowKit Go.IntWalk
set_option linter.unusedVariables false
set_option linter.unusedSimpArgs false
set_option maxRecDepth 100000
def Pg2l (r q pg kk : Int) (mk mo a0 a1 b0 b1 u0 u1 : Nat) (j : Int) : List Value := [.int .i64 (82 + 6 * (1 + r) + 4), .int .i64 (82 + 6 * (1 + r) + 0), .int .i64 (82 + 6 * (1 + r) + 1), .int .i64 (82 + 6 * (1 + r) + 2), .int .i64 (82 + 6 * (1 + r) + 3), .int .u8 pg, .int .u8 kk, .int .u64 ((mk : Int)), .int .u64 ((mo : Int)), .int .i64 (1 + r), .int .i64 (1 + q), .int .u64 ((a0 : Int)), .int .u64 ((a1 : Int)), .int .u64 ((b0 : Int)), .int .u64 ((b1 : Int)), .int .u64 ((u0 : Int)), .int .u64 ((u1 : Int)), .int .i64 (6 * (1 + r)), .int .i64 (1 + r + 63), .int .i64 j, .int .i64 (j + 1), .int .i64 (j - 64)]
theorem Pg2l_tok (r q pg kk : Int) (mk mo a0 a1 b0 b1 u0 u1 : Nat) (j : Int) : TokL (Pg2l r q pg kk mk mo a0 a1 b0 b1 u0 u1 j) := (TokL.int (TokL.int (TokL.int (TokL.int (TokL.int (TokL.int (TokL.int (TokL.int (TokL.int (TokL.int (TokL.int (TokL.int (TokL.int (TokL.int (TokL.int (TokL.int (TokL.int (TokL.int (TokL.int (TokL.int (TokL.int (TokL.int TokL.nil))))))))))))))))))))))
def Pg2Av0 : List Value := [vA, vA, vA, vA, vX, vX, vX, vX, vA, vP 0 0, vP 3 0, vP 4 0, kf 10, vP 5 0, vA]
def Pg2Av1 : List Value := [vA, vA, vA, vA, vA, vA, vX, vX, vX, vA, vA, vA, vA, vG [vA, vA, vA], vT [vA, vA]]
def Pg2Av2 : List Value := [vG [vA, vA, vA], vT [vA, vA], vA, vA, vA, vA, vA, vA, vA, vA, vA, vA, vA, vA, vA]
def Pg2Av3 : List Value := [vA, vA, vA, vA, vA, vA, vA, vA, vA, vA, vA, vA, vA, vA, vA]
def Pg2Av4 : List Value := [vA, vA, vA, vA, vT [vA, vA], vA, vA, vA, vG [vA, vA], vA, vT [vA, vA], vA, vA, vA, vA]
def Pg2Av5 : List Value := [vA, vA, vA, vA, vA, vA, vA, vA, vA, vG [vA, vA], vA, vA, vA, vA, vA]
def Pg2Av6 : List Value := [vA, vA, vA, vA, vA, vA, vA, vA, vA, vA, vA, vA, vG [vA, vA, vA, vA], vT [vA, vA], vA]
def Pg2Av7 : List Value := [vT [vA, vA], vA, vA, vA, vA, vA, vA, vA, vA, vX, vX, vX, vX, vX, vX]
def Pg2Av8 : List Value := [vX, vX, vX, vX, vX, vX, vX, vX, vX, vX, vX, vX, vX, vX, vX]
def Pg2Av9 : List Value := [vX, vX, vX, vX, vX, vX, vX, vX, vX, vX, vX, vX, vX, vX, vX]
def Pg2A : List Value := Pg2Av0 ++ (Pg2Av1 ++ (Pg2Av2 ++ (Pg2Av3 ++ (Pg2Av4 ++ (Pg2Av5 ++ (Pg2Av6 ++ (Pg2Av7 ++ (Pg2Av8 ++ Pg2Av9))))))))
def Pg2O0 : Obj := oC 25 [kf 9, vI 1, vZ]
def Pg2O1 : Obj := oC 150140170164 [vU 1, vU 0, vU 0, vU 0, vU 0, vU 0, vU 0, vU 0, vU 0, vU 0, vU 0, vU 0, vU 0, vU 0, vU 0, vU 0, vU 0, vU 0, vU 0, vU 0, vU 0, vU 0, vU 0, vU 0, vU 0, vU 0, vU 0, vU 0, vU 0, vU 0, vU 0, vU 0, vU 0, vU 0, vU 0, vU 0, vU 0, vU 0, vU 0, vU 0, vU 0, vU 0, vU 0, vU 0, vU 0, vU 0, vU 0, vU 0, vU 0, vU 0, vU 0, vU 0, vU 0, vU 0, vU 0, vU 0, vU 0, vU 0, vU 0, vU 0, vU 0, vU 0, vU 0, vU 0, vU 0, vU 0, vU 0, vU 0, vU 0, vU 0, vU 0, vU 0, vU 0, vU 0, vU 0, vU 0, vU 0]
def Pg2O2 : Obj := oC 109 [.complex .f32 1 0, vA, vA, vA, vA, vA]
def Pg2O3 : Obj := oC 86 [kf 9, vI 1, vP 2 0, vA]
def Pg2O4 : Obj := oC 40 [vA, vA, kf 9, vI 1]
def Pg2O5 : Obj := oC 30 [kf 11, kf 12]
def Pg2H : List Obj := [Pg2O0, Pg2O1, Pg2O2, Pg2O3, Pg2O4, Pg2O5]
def Pg2ie : List Ent := []
def Pg2if : List FnEnt := [⟨14, [], .bool true⟩]
def Pg2iZv0 : List Value := [vA, vA, vA, vA, vX, vX, vX, vX, vA, vP 0 0, vP 3 0, vP 4 0, kf 10, vP 5 0, vA]
def Pg2iZv1 : List Value := [vA, vA, vA, vA, vA, vA, vI 0, vX, vX, vA, vA, vA, vA, vG [vA, vA, vA], vT [vA, vA]]
def Pg2iZv2 : List Value := [vG [vA, vA, vA], vT [vA, vA], vA, vA, vA, vA, vA, vA, vA, vA, vA, vA, vA, vA, vA]
def Pg2iZv3 : List Value := [vA, vA, vA, vA, vA, vA, vA, vA, vA, vA, vA, vA, vA, vA, vA]
def Pg2iZv4 : List Value := [vA, vA, vA, vA, vT [vA, vA], vA, vA, vA, vG [vA, vA], vA, vT [vA, vA], vA, vA, vA, vA]
def Pg2iZv5 : List Value := [vA, vA, vA, vA, vA, vA, vA, vA, vA, vG [vA, vA], vA, vA, vA, vA, vA]
def Pg2iZv6 : List Value := [vA, vA, vA, vA, vA, vA, vA, vA, vA, vA, vA, vA, vG [vA, vA, vA, vA], vT [vA, vA], vA]
def Pg2iZv7 : List Value := [vT [vA, vA], vA, vA, vA, vA, vA, vA, vA, vA, vX, vX, vX, vX, vX, vX]
def Pg2iZv8 : List Value := [vX, vX, vX, vX, vX, vX, vX, vX, vX, vX, vX, vX, vX, vX, vX]
def Pg2iZv9 : List Value := [vX, vX, vX, vX, vX, vX, vX, vX, vX, vX, vX, vX, vX, vX, vX]
def Pg2iZ : List Value := Pg2iZv0 ++ (Pg2iZv1 ++ (Pg2iZv2 ++ (Pg2iZv3 ++ (Pg2iZv4 ++ (Pg2iZv5 ++ (Pg2iZv6 ++ (Pg2iZv7 ++ (Pg2iZv8 ++ Pg2iZv9))))))))
def Pg2iO : Orc := orcS Pg2ie Pg2if 4 rdG noMkS
theorem Pg2ip : PgS Pg2iO (seqL (seqL (pgC 11))) Pg2A Pg2H .normal Pg2iZ Pg2H := pgS_ev [0, 1, 2, 3, 4, 5] (by decide +kernel)
set_option maxHeartbeats 2000000 in
theorem Pg2i_s (r q pg kk : Int) (mk mo a0 a1 b0 b1 u0 u1 : Nat) (j : Nat) (w : World) (hr : 0 ≤ r ∧ r < 128) (hq : 0 ≤ q ∧ q ≤ r) (hm : 64 ≤ r) (hmk : mk < 18446744073709551616) (ha0 : a0 < 18446744073709551616) (ha1 : a1 < 18446744073709551616) (hc0 : b0 < 18446744073709551616) (hc1 : b1 < 18446744073709551616)  : Seg2 Tryz.prog (sgV (Pg2l r q pg kk mk mo a0 a1 b0 b1 u0 u1 0)) (sgV (Pg2l r q pg kk mk mo a0 a1 b0 b1 u0 u1 0)) w w.heap.size 0 (.code (seqL (seqL (pgC 11)))) Pg2A Pg2H .normal Pg2iZ Pg2H := by
  have hTL := Pg2l_tok r q pg kk mk mo a0 a1 b0 b1 u0 u1 0
  have hσ := sgV_one hTL
  have hE : AllOK Tryz.prog (sgV (Pg2l r q pg kk mk mo a0 a1 b0 b1 u0 u1 0)) Pg2ie := AllOK.nil
  have hF : ∀ e ∈ Pg2if, FnOK Tryz.prog (sgV (Pg2l r q pg kk mk mo a0 a1 b0 b1 u0 u1 0)) w w.heap.size e := FnsOK.cons (FnOK.mk rfl fun w' _ => Mpaw_any w' (Nat.zero_le _)) (FnsOK.nil)
  have hS : SpOK (sgV (Pg2l r q pg kk mk mo a0 a1 b0 b1 u0 u1 0)) 4 := (pg_sp (P := 1 + r) (m := 2) (by omega) rfl (by omega) (by omega) (by intro j hj; rcases (show j = 0 ∨ j = 1 ∨ j = 2 ∨ j = 3 by omega) with rfl | rfl | rfl | rfl <;> exact ⟨_, rfl, by omega⟩))
  have hO : OrcOK Tryz.prog (sgV (Pg2l r q pg kk mk mo a0 a1 b0 b1 u0 u1 0)) w w.heap.size Pg2iO := orcS_ok hE (sgV_ne hTL) hF hS (rdG_ok hσ ⟨_, rfl, by omega⟩) noMkS_ok
  exact (Pg2ip _ hσ _ _ hO).to2
def Pg2ke : List Ent := [⟨.bin .lss 3, [vI 0, kf 9], .bool true⟩,
  ⟨.bin .geq 3, [kf 9, vI 1], .bool true⟩,
  ⟨.bin .leq 3, [kf 9, vI 4096], .bool true⟩,
  ⟨.bin .add 3, [kf 9, vI 63], kf 18⟩,
  ⟨.bin .quo 3, [kf 18, vI 64], vI 2⟩,
  ⟨.bin .mul 3, [vI 6, kf 9], kf 17⟩,
  ⟨.bin .add 3, [vI 82, kf 17], kf 1⟩,
  ⟨.bin .add 3, [kf 1, vI 0], kf 1⟩,
  ⟨.bin .add 3, [kf 1, vI 2], kf 3⟩,
  ⟨.bin .geq 3, [vI 0, kf 10], .bool false⟩]
def Pg2kf : List FnEnt := [⟨14, [], .bool true⟩,
  ⟨12, [kf 13, vI 0], .bool false⟩]
def Pg2kZv0 : List Value := [vA, vA, vA, vA, vX, vX, vX, vX, vA, vP 0 0, vP 3 0, vP 4 0, kf 10, vP 5 0, vA]
def Pg2kZv1 : List Value := [vA, vA, vA, vA, vA, vA, vI 1, kf 3, vB true, vA, vA, vA, vA, vG [vA, vA, vA], vT [vA, vA]]
def Pg2kZv2 : List Value := [vG [vA, vA, vA], vT [vA, vA], vA, vA, vA, vA, vA, vA, vA, vA, vA, vA, vA, vA, vA]
def Pg2kZv3 : List Value := [vA, vA, vA, vA, vA, vA, vA, vA, vA, vA, vA, vA, vA, vA, vA]
def Pg2kZv4 : List Value := [vA, vA, vA, vA, vT [vA, vA], vA, vA, vA, vG [vA, vA], vA, vT [vA, vA], vA, vA, vA, vA]
def Pg2kZv5 : List Value := [vA, vA, vA, vA, vA, vA, vA, vA, vA, vG [vA, vA], vA, vA, vA, vA, vA]
def Pg2kZv6 : List Value := [vA, vA, vA, vA, vA, vA, vA, vA, vA, vA, vA, vA, vG [vA, vA, vA, vA], vT [vA, vA], vA]
def Pg2kZv7 : List Value := [vT [vA, vA], vA, vA, vA, vA, vA, vA, vA, vA, vI 0, vP 0 0, kf 9, vB true, vI 0, vI 1]
def Pg2kZv8 : List Value := [vT [kf 3, vB true], vP 4 0, vP 4 0, vP 4 2, vG [kf 9, vI 1], vI 0, vI 0, vT [kf 3, vB true], kf 3, vB true, vP 3 0, kf 3, kf 13, vI 0, vI 0]
def Pg2kZv9 : List Value := [vB false, vI 0, kf 10, vB false, vB false, vX, vX, vX, vX, vX, vX, vX, vB false, vB false, vX]
def Pg2kZ : List Value := Pg2kZv0 ++ (Pg2kZv1 ++ (Pg2kZv2 ++ (Pg2kZv3 ++ (Pg2kZv4 ++ (Pg2kZv5 ++ (Pg2kZv6 ++ (Pg2kZv7 ++ (Pg2kZv8 ++ Pg2kZv9))))))))
def Pg2kO : Orc := orcS Pg2ke Pg2kf 4 rdG noMkS
theorem Pg2kp : PgS Pg2kO ((inL (inB (seqR (seqL (pgC 11)))))) Pg2iZ Pg2H .normal Pg2kZ Pg2H := pgS_ev [0, 1, 2, 3, 4, 5] (by decide +kernel)
def Pg2Iav0 : List Value := [vA, vA, vA, vA, vX, vX, vX, vX, vA, vP 0 0, vP 3 0, vP 4 0, kf 10, vP 5 0, vA]
def Pg2Iav1 : List Value := [vA, vA, vA, vA, vA, vA, kf 19, vA, vA, vA, vA, vA, vA, vG [vA, vA, vA], vT [vA, vA]]
def Pg2Iav2 : List Value := [vG [vA, vA, vA], vT [vA, vA], vA, vA, vA, vA, vA, vA, vA, vA, vA, vA, vA, vA, vA]
def Pg2Iav3 : List Value := [vA, vA, vA, vA, vA, vA, vA, vA, vA, vA, vA, vA, vA, vA, vA]
def Pg2Iav4 : List Value := [vA, vA, vA, vA, vT [vA, vA], vA, vA, vA, vG [vA, vA], vA, vT [vA, vA], vA, vA, vA, vA]
def Pg2Iav5 : List Value := [vA, vA, vA, vA, vA, vA, vA, vA, vA, vG [vA, vA], vA, vA, vA, vA, vA]
def Pg2Iav6 : List Value := [vA, vA, vA, vA, vA, vA, vA, vA, vA, vA, vA, vA, vG [vA, vA, vA, vA], vT [vA, vA], vA]
def Pg2Iav7 : List Value := [vT [vA, vA], vA, vA, vA, vA, vA, vA, vA, vA, vA, vA, vA, vA, vA, vA]
def Pg2Iav8 : List Value := [vT [vA, vA], vA, vA, vA, vG [vA, vA], vA, vA, vT [vA, vA], vA, vA, vA, vA, vA, vA, vA]
def Pg2Iav9 : List Value := [vA, vA, vA, vA, vA, vX, vX, vX, vX, vX, vX, vX, vA, vA, vX]
def Pg2Ia : List Value := Pg2Iav0 ++ (Pg2Iav1 ++ (Pg2Iav2 ++ (Pg2Iav3 ++ (Pg2Iav4 ++ (Pg2Iav5 ++ (Pg2Iav6 ++ (Pg2Iav7 ++ (Pg2Iav8 ++ Pg2Iav9))))))))
theorem Pg2kc : shrOk (fun j => decide (j < 19)) [(vI 1, kf 19)] 0 [0, 1, 2, 3, 4, 5] Pg2kZ Pg2H Pg2Ia Pg2H = true := by decide +kernel
set_option maxHeartbeats 2000000 in
theorem Pg2k_s (r q pg kk : Int) (mk mo a0 a1 b0 b1 u0 u1 : Nat) (j : Nat) (w : World) (hr : 0 ≤ r ∧ r < 128) (hq : 0 ≤ q ∧ q ≤ r) (hm : 64 ≤ r) (hmk : mk < 18446744073709551616) (ha0 : a0 < 18446744073709551616) (ha1 : a1 < 18446744073709551616) (hc0 : b0 < 18446744073709551616) (hc1 : b1 < 18446744073709551616) (hb : b0.testBit 0 = false) : Seg2 Tryz.prog (sgV (Pg2l r q pg kk mk mo a0 a1 b0 b1 u0 u1 0)) (sgV (Pg2l r q pg kk mk mo a0 a1 b0 b1 u0 u1 1)) w w.heap.size 0 (.code ((inL (inB (seqR (seqL (pgC 11))))))) Pg2iZ Pg2H .normal Pg2Ia Pg2H := by
  have hTL := Pg2l_tok r q pg kk mk mo a0 a1 b0 b1 u0 u1 0
  have hσ := sgV_one hTL
  have hE : AllOK Tryz.prog (sgV (Pg2l r q pg kk mk mo a0 a1 b0 b1 u0 u1 0)) Pg2ke := AllOK.cons (elssT (0) (1 + r) (by omega)) (
    AllOK.cons (egeqT (1 + r) (1) (by omega)) (
    AllOK.cons (eleqT (1 + r) (4096) (by omega)) (
    AllOK.cons (eA (1 + r) (63) (1 + r + 63) (by omega)) (
    AllOK.cons (ent_quo (a := 1 + r + 63) (c := 64) rfl rfl (by omega) (by exact congrArg (Value.int .i64) (quoC (a := 1 + r + 63) (c := 64) (q := 2) (by omega) (by omega) (by omega) (by omega) (by omega)).symm) rfl) (
    AllOK.cons (eM (6) (1 + r) (6 * (1 + r)) (by omega)) (
    AllOK.cons (eA (82) (6 * (1 + r)) (82 + 6 * (1 + r) + 0) (by omega)) (
    AllOK.cons (eA (82 + 6 * (1 + r) + 0) (0) (82 + 6 * (1 + r) + 0) (by omega)) (
    AllOK.cons (eA (82 + 6 * (1 + r) + 0) (2) (82 + 6 * (1 + r) + 2) (by omega)) (
    AllOK.cons (egeqF (0) (1 + q) (by omega)) (
    AllOK.nil))))))))))
  have hF : ∀ e ∈ Pg2kf, FnOK Tryz.prog (sgV (Pg2l r q pg kk mk mo a0 a1 b0 b1 u0 u1 0)) w w.heap.size e := FnsOK.cons (FnOK.mk rfl fun w' _ => Mpaw_any w' (Nat.zero_le _)) (FnsOK.cons (pg_fnB (a := b0) (n := 0) hc0 (by omega) rfl rfl hb) (FnsOK.nil))
  have hS : SpOK (sgV (Pg2l r q pg kk mk mo a0 a1 b0 b1 u0 u1 0)) 4 := (pg_sp (P := 1 + r) (m := 2) (by omega) rfl (by omega) (by omega) (by intro j hj; rcases (show j = 0 ∨ j = 1 ∨ j = 2 ∨ j = 3 by omega) with rfl | rfl | rfl | rfl <;> exact ⟨_, rfl, by omega⟩))
  have hO : OrcOK Tryz.prog (sgV (Pg2l r q pg kk mk mo a0 a1 b0 b1 u0 u1 0)) w w.heap.size Pg2kO := orcS_ok hE (sgV_ne hTL) hF hS (rdG_ok hσ ⟨_, rfl, by omega⟩) noMkS_ok
  exact (Pg2kp _ hσ _ _ hO).to2.weak (weak_of (weakOK_pre (n := 19) (l2 := Pg2l r q pg kk mk mo a0 a1 b0 b1 u0 u1 1) hTL rfl rfl (pairs_int (b := 19) rfl pairs_nil)) Pg2kc)
def Pg2r0le : List Ent := [⟨.bin .lss 3, [kf 19, kf 9], .bool true⟩,
  ⟨.bin .quo 3, [kf 19, vI 64], vI 0⟩,
  ⟨.bin .geq 3, [kf 9, vI 1], .bool true⟩,
  ⟨.bin .leq 3, [kf 9, vI 4096], .bool true⟩,
  ⟨.bin .add 3, [kf 9, vI 63], kf 18⟩,
  ⟨.bin .quo 3, [kf 18, vI 64], vI 2⟩,
  ⟨.bin .mul 3, [vI 6, kf 9], kf 17⟩,
  ⟨.bin .add 3, [vI 82, kf 17], kf 1⟩,
  ⟨.bin .add 3, [kf 1, vI 0], kf 1⟩,
  ⟨.bin .add 3, [kf 1, vI 2], kf 3⟩,
  ⟨.bin .rem 3, [kf 19, vI 64], kf 19⟩,
  ⟨.bin .geq 3, [kf 19, kf 10], .bool false⟩,
  ⟨.bin .add 3, [kf 19, vI 1], kf 20⟩]
def Pg2r0lf : List FnEnt := [⟨14, [], .bool true⟩,
  ⟨12, [kf 13, kf 19], .bool false⟩]
def Pg2r0lZv0 : List Value := [vA, vA, vA, vA, vX, vX, vX, vX, vA, vP 0 0, vP 3 0, vP 4 0, kf 10, vP 5 0, vA]
def Pg2r0lZv1 : List Value := [vA, vA, vA, vA, vA, vA, kf 20, kf 3, vB true, vA, vA, vA, vA, vG [vA, vA, vA], vT [vA, vA]]
def Pg2r0lZv2 : List Value := [vG [vA, vA, vA], vT [vA, vA], vA, vA, vA, vA, vA, vA, vA, vA, vA, vA, vA, vA, vA]
def Pg2r0lZv3 : List Value := [vA, vA, vA, vA, vA, vA, vA, vA, vA, vA, vA, vA, vA, vA, vA]
def Pg2r0lZv4 : List Value := [vA, vA, vA, vA, vT [vA, vA], vA, vA, vA, vG [vA, vA], vA, vT [vA, vA], vA, vA, vA, vA]
def Pg2r0lZv5 : List Value := [vA, vA, vA, vA, vA, vA, vA, vA, vA, vG [vA, vA], vA, vA, vA, vA, vA]
def Pg2r0lZv6 : List Value := [vA, vA, vA, vA, vA, vA, vA, vA, vA, vA, vA, vA, vG [vA, vA, vA, vA], vT [vA, vA], vA]
def Pg2r0lZv7 : List Value := [vT [vA, vA], vA, vA, vA, vA, vA, vA, vA, vA, kf 19, vP 0 0, kf 9, vB true, kf 19, kf 20]
def Pg2r0lZv8 : List Value := [vT [kf 3, vB true], vP 4 0, vP 4 0, vP 4 2, vG [kf 9, vI 1], kf 19, vI 0, vT [kf 3, vB true], kf 3, vB true, vP 3 0, kf 3, kf 13, kf 19, kf 19]
def Pg2r0lZv9 : List Value := [vB false, kf 19, kf 10, vB false, vB false, vX, vX, vX, vX, vX, vX, vX, vB false, vB false, vX]
def Pg2r0lZ : List Value := Pg2r0lZv0 ++ (Pg2r0lZv1 ++ (Pg2r0lZv2 ++ (Pg2r0lZv3 ++ (Pg2r0lZv4 ++ (Pg2r0lZv5 ++ (Pg2r0lZv6 ++ (Pg2r0lZv7 ++ (Pg2r0lZv8 ++ Pg2r0lZv9))))))))
def Pg2r0lO : Orc := orcS Pg2r0le Pg2r0lf 4 rdG noMkS
theorem Pg2r0lp : PgS Pg2r0lO ((inL (inB (seqR (seqL (pgC 11)))))) Pg2Ia Pg2H .normal Pg2r0lZ Pg2H := pgS_ev [0, 1, 2, 3, 4, 5] (by decide +kernel)
theorem Pg2r0lc : shrOk (fun j => decide (j < 19)) [(kf 20, kf 19)] 0 [0, 1, 2, 3, 4, 5] Pg2r0lZ Pg2H Pg2Ia Pg2H = true := by decide +kernel
set_option maxHeartbeats 2000000 in
theorem Pg2r0l_s (r q pg kk : Int) (mk mo a0 a1 b0 b1 u0 u1 : Nat) (j : Nat) (w : World) (hr : 0 ≤ r ∧ r < 128) (hq : 0 ≤ q ∧ q ≤ r) (hm : 64 ≤ r) (hmk : mk < 18446744073709551616) (ha0 : a0 < 18446744073709551616) (ha1 : a1 < 18446744073709551616) (hc0 : b0 < 18446744073709551616) (hc1 : b1 < 18446744073709551616) (hj : (j : Int) < 1 + r) (hj1 : 1 ≤ j) (hw : j < 64) (hn : (j : Int) < 1 + q) (hb : b0.testBit j = false) : Seg2 Tryz.prog (sgV (Pg2l r q pg kk mk mo a0 a1 b0 b1 u0 u1 (j : Int))) (sgV (Pg2l r q pg kk mk mo a0 a1 b0 b1 u0 u1 ((j + 1 : Nat) : Int))) w w.heap.size 0 (.code ((inL (inB (seqR (seqL (pgC 11))))))) Pg2Ia Pg2H .normal Pg2Ia Pg2H := by
  have hTL := Pg2l_tok r q pg kk mk mo a0 a1 b0 b1 u0 u1 (j : Int)
  have hσ := sgV_one hTL
  have hE : AllOK Tryz.prog (sgV (Pg2l r q pg kk mk mo a0 a1 b0 b1 u0 u1 (j : Int))) Pg2r0le := AllOK.cons (elssT (j) (1 + r) (by omega)) (
    AllOK.cons (ent_quo (a := (j : Int)) (c := 64) rfl rfl (by omega) (by exact congrArg (Value.int .i64) (quoC (a := (j : Int)) (c := 64) (q := 0) (by omega) (by omega) (by omega) (by omega) (by omega)).symm) rfl) (
    AllOK.cons (egeqT (1 + r) (1) (by omega)) (
    AllOK.cons (eleqT (1 + r) (4096) (by omega)) (
    AllOK.cons (eA (1 + r) (63) (1 + r + 63) (by omega)) (
    AllOK.cons (ent_quo (a := 1 + r + 63) (c := 64) rfl rfl (by omega) (by exact congrArg (Value.int .i64) (quoC (a := 1 + r + 63) (c := 64) (q := 2) (by omega) (by omega) (by omega) (by omega) (by omega)).symm) rfl) (
    AllOK.cons (eM (6) (1 + r) (6 * (1 + r)) (by omega)) (
    AllOK.cons (eA (82) (6 * (1 + r)) (82 + 6 * (1 + r) + 0) (by omega)) (
    AllOK.cons (eA (82 + 6 * (1 + r) + 0) (0) (82 + 6 * (1 + r) + 0) (by omega)) (
    AllOK.cons (eA (82 + 6 * (1 + r) + 0) (2) (82 + 6 * (1 + r) + 2) (by omega)) (
    AllOK.cons (ent_rem (a := (j : Int)) (c := 64) rfl rfl (by omega) (by exact congrArg (Value.int .i64) (pg_tmod0 (by omega) (by omega)).symm) rfl) (
    AllOK.cons (egeqF (j) (1 + q) (by omega)) (
    AllOK.cons (eA (j) (1) (j + 1) (by omega)) (
    AllOK.nil)))))))))))))
  have hF : ∀ e ∈ Pg2r0lf, FnOK Tryz.prog (sgV (Pg2l r q pg kk mk mo a0 a1 b0 b1 u0 u1 (j : Int))) w w.heap.size e := FnsOK.cons (FnOK.mk rfl fun w' _ => Mpaw_any w' (Nat.zero_le _)) (FnsOK.cons (pg_fnB (a := b0) (n := j) hc0 (by omega) rfl rfl hb) (FnsOK.nil))
  have hS : SpOK (sgV (Pg2l r q pg kk mk mo a0 a1 b0 b1 u0 u1 (j : Int))) 4 := (pg_sp (P := 1 + r) (m := 2) (by omega) rfl (by omega) (by omega) (by intro j hj; rcases (show j = 0 ∨ j = 1 ∨ j = 2 ∨ j = 3 by omega) with rfl | rfl | rfl | rfl <;> exact ⟨_, rfl, by omega⟩))
  have hO : OrcOK Tryz.prog (sgV (Pg2l r q pg kk mk mo a0 a1 b0 b1 u0 u1 (j : Int))) w w.heap.size Pg2r0lO := orcS_ok hE (sgV_ne hTL) hF hS (rdG_ok hσ ⟨_, rfl, by omega⟩) noMkS_ok
  exact (Pg2r0lp _ hσ _ _ hO).to2.weak (weak_of (weakOK_pre (n := 19) (l2 := Pg2l r q pg kk mk mo a0 a1 b0 b1 u0 u1 ((j + 1 : Nat) : Int)) hTL rfl rfl (pairs_tok (a := 20) (b := 19) (by exact congrArg (Value.int .i64) (show (j : Int) + 1 = ((j + 1 : Nat) : Int) by omega)) pairs_nil)) Pg2r0lc)
def Pg2Ibv0 : List Value := [vA, vA, vA, vA, vX, vX, vX, vX, vA, vP 0 0, vP 3 0, vP 4 0, kf 10, vP 5 0, vA]
def Pg2Ibv1 : List Value := [vA, vA, vA, vA, vA, vA, kf 19, vA, vA, vA, vA, vA, vA, vG [vA, vA, vA], vT [vA, vA]]
def Pg2Ibv2 : List Value := [vG [vA, vA, vA], vT [vA, vA], vA, vA, vA, vA, vA, vA, vA, vA, vA, vA, vA, vA, vA]
def Pg2Ibv3 : List Value := [vA, vA, vA, vA, vA, vA, vA, vA, vA, vA, vA, vA, vA, vA, vA]
def Pg2Ibv4 : List Value := [vA, vA, vA, vA, vT [vA, vA], vA, vA, vA, vG [vA, vA], vA, vT [vA, vA], vA, vA, vA, vA]
def Pg2Ibv5 : List Value := [vA, vA, vA, vA, vA, vA, vA, vA, vA, vG [vA, vA], vA, vA, vA, vA, vA]
def Pg2Ibv6 : List Value := [vA, vA, vA, vA, vA, vA, vA, vA, vA, vA, vA, vA, vG [vA, vA, vA, vA], vT [vA, vA], vA]
def Pg2Ibv7 : List Value := [vT [vA, vA], vA, vA, vA, vA, vA, vA, vA, vA, vA, vA, vA, vA, vA, vA]
def Pg2Ibv8 : List Value := [vT [vA, vA], vA, vA, vA, vG [vA, vA], vA, vA, vT [vA, vA], vA, vA, vA, vA, vA, vA, vA]
def Pg2Ibv9 : List Value := [vA, vA, vA, vA, vA, vA, vA, vA, vA, vA, vA, vA, vA, vA, vX]
def Pg2Ib : List Value := Pg2Ibv0 ++ (Pg2Ibv1 ++ (Pg2Ibv2 ++ (Pg2Ibv3 ++ (Pg2Ibv4 ++ (Pg2Ibv5 ++ (Pg2Ibv6 ++ (Pg2Ibv7 ++ (Pg2Ibv8 ++ Pg2Ibv9))))))))
def Pg2r0fIae : List Ent := [⟨.bin .lss 3, [kf 19, kf 9], .bool true⟩,
  ⟨.bin .quo 3, [kf 19, vI 64], vI 0⟩,
  ⟨.bin .geq 3, [kf 9, vI 1], .bool true⟩,
  ⟨.bin .leq 3, [kf 9, vI 4096], .bool true⟩,
  ⟨.bin .add 3, [kf 9, vI 63], kf 18⟩,
  ⟨.bin .quo 3, [kf 18, vI 64], vI 2⟩,
  ⟨.bin .mul 3, [vI 6, kf 9], kf 17⟩,
  ⟨.bin .add 3, [vI 82, kf 17], kf 1⟩,
  ⟨.bin .add 3, [kf 1, vI 0], kf 1⟩,
  ⟨.bin .add 3, [kf 1, vI 2], kf 3⟩,
  ⟨.bin .rem 3, [kf 19, vI 64], kf 19⟩,
  ⟨.bin .geq 3, [kf 19, kf 10], .bool true⟩,
  ⟨.bin .add 3, [kf 19, vI 1], kf 20⟩]
def Pg2r0fIaf : List FnEnt := [⟨14, [], .bool true⟩,
  ⟨12, [kf 13, kf 19], .bool false⟩,
  ⟨12, [kf 11, kf 19], .bool false⟩]
def Pg2r0fIaZv0 : List Value := [vA, vA, vA, vA, vX, vX, vX, vX, vA, vP 0 0, vP 3 0, vP 4 0, kf 10, vP 5 0, vA]
def Pg2r0fIaZv1 : List Value := [vA, vA, vA, vA, vA, vA, kf 20, kf 3, vB true, vA, vA, vA, vA, vG [vA, vA, vA], vT [vA, vA]]
def Pg2r0fIaZv2 : List Value := [vG [vA, vA, vA], vT [vA, vA], vA, vA, vA, vA, vA, vA, vA, vA, vA, vA, vA, vA, vA]
def Pg2r0fIaZv3 : List Value := [vA, vA, vA, vA, vA, vA, vA, vA, vA, vA, vA, vA, vA, vA, vA]
def Pg2r0fIaZv4 : List Value := [vA, vA, vA, vA, vT [vA, vA], vA, vA, vA, vG [vA, vA], vA, vT [vA, vA], vA, vA, vA, vA]
def Pg2r0fIaZv5 : List Value := [vA, vA, vA, vA, vA, vA, vA, vA, vA, vG [vA, vA], vA, vA, vA, vA, vA]
def Pg2r0fIaZv6 : List Value := [vA, vA, vA, vA, vA, vA, vA, vA, vA, vA, vA, vA, vG [vA, vA, vA, vA], vT [vA, vA], vA]
def Pg2r0fIaZv7 : List Value := [vT [vA, vA], vA, vA, vA, vA, vA, vA, vA, vA, kf 19, vP 0 0, kf 9, vB true, kf 19, kf 20]
def Pg2r0fIaZv8 : List Value := [vT [kf 3, vB true], vP 4 0, vP 4 0, vP 4 2, vG [kf 9, vI 1], kf 19, vI 0, vT [kf 3, vB true], kf 3, vB true, vP 3 0, kf 3, kf 13, kf 19, kf 19]
def Pg2r0fIaZv9 : List Value := [vB false, kf 19, kf 10, vB true, vB true, kf 19, vI 0, vP 5 0, kf 11, kf 19, kf 19, vB false, vB false, vB false, vX]
def Pg2r0fIaZ : List Value := Pg2r0fIaZv0 ++ (Pg2r0fIaZv1 ++ (Pg2r0fIaZv2 ++ (Pg2r0fIaZv3 ++ (Pg2r0fIaZv4 ++ (Pg2r0fIaZv5 ++ (Pg2r0fIaZv6 ++ (Pg2r0fIaZv7 ++ (Pg2r0fIaZv8 ++ Pg2r0fIaZv9))))))))
def Pg2r0fIaO : Orc := orcS Pg2r0fIae Pg2r0fIaf 4 rdG noMkS
theorem Pg2r0fIap : PgS Pg2r0fIaO ((inL (inB (seqR (seqL (pgC 11)))))) Pg2Ia Pg2H .normal Pg2r0fIaZ Pg2H := pgS_ev [0, 1, 2, 3, 4, 5] (by decide +kernel)
theorem Pg2r0fIac : shrOk (fun j => decide (j < 19)) [(kf 20, kf 19)] 0 [0, 1, 2, 3, 4, 5] Pg2r0fIaZ Pg2H Pg2Ib Pg2H = true := by decide +kernel
set_option maxHeartbeats 2000000 in
theorem Pg2r0fIa_s (r q pg kk : Int) (mk mo a0 a1 b0 b1 u0 u1 : Nat) (j : Nat) (w : World) (hr : 0 ≤ r ∧ r < 128) (hq : 0 ≤ q ∧ q ≤ r) (hm : 64 ≤ r) (hmk : mk < 18446744073709551616) (ha0 : a0 < 18446744073709551616) (ha1 : a1 < 18446744073709551616) (hc0 : b0 < 18446744073709551616) (hc1 : b1 < 18446744073709551616) (hj : (j : Int) < 1 + r) (hj1 : 1 ≤ j) (hw : j < 64) (hn : 1 + q ≤ (j : Int)) (hb : b0.testBit j = false) (hb2 : a0.testBit j = false) : Seg2 Tryz.prog (sgV (Pg2l r q pg kk mk mo a0 a1 b0 b1 u0 u1 (j : Int))) (sgV (Pg2l r q pg kk mk mo a0 a1 b0 b1 u0 u1 ((j + 1 : Nat) : Int))) w w.heap.size 0 (.code ((inL (inB (seqR (seqL (pgC 11))))))) Pg2Ia Pg2H .normal Pg2Ib Pg2H := by
  have hTL := Pg2l_tok r q pg kk mk mo a0 a1 b0 b1 u0 u1 (j : Int)
  have hσ := sgV_one hTL
  have hE : AllOK Tryz.prog (sgV (Pg2l r q pg kk mk mo a0 a1 b0 b1 u0 u1 (j : Int))) Pg2r0fIae := AllOK.cons (elssT (j) (1 + r) (by omega)) (
    AllOK.cons (ent_quo (a := (j : Int)) (c := 64) rfl rfl (by omega) (by exact congrArg (Value.int .i64) (quoC (a := (j : Int)) (c := 64) (q := 0) (by omega) (by omega) (by omega) (by omega) (by omega)).symm) rfl) (
    AllOK.cons (egeqT (1 + r) (1) (by omega)) (
    AllOK.cons (eleqT (1 + r) (4096) (by omega)) (
    AllOK.cons (eA (1 + r) (63) (1 + r + 63) (by omega)) (
    AllOK.cons (ent_quo (a := 1 + r + 63) (c := 64) rfl rfl (by omega) (by exact congrArg (Value.int .i64) (quoC (a := 1 + r + 63) (c := 64) (q := 2) (by omega) (by omega) (by omega) (by omega) (by omega)).symm) rfl) (
    AllOK.cons (eM (6) (1 + r) (6 * (1 + r)) (by omega)) (
    AllOK.cons (eA (82) (6 * (1 + r)) (82 + 6 * (1 + r) + 0) (by omega)) (
    AllOK.cons (eA (82 + 6 * (1 + r) + 0) (0) (82 + 6 * (1 + r) + 0) (by omega)) (
    AllOK.cons (eA (82 + 6 * (1 + r) + 0) (2) (82 + 6 * (1 + r) + 2) (by omega)) (
    AllOK.cons (ent_rem (a := (j : Int)) (c := 64) rfl rfl (by omega) (by exact congrArg (Value.int .i64) (pg_tmod0 (by omega) (by omega)).symm) rfl) (
    AllOK.cons (egeqT (j) (1 + q) (by omega)) (
    AllOK.cons (eA (j) (1) (j + 1) (by omega)) (
    AllOK.nil)))))))))))))
  have hF : ∀ e ∈ Pg2r0fIaf, FnOK Tryz.prog (sgV (Pg2l r q pg kk mk mo a0 a1 b0 b1 u0 u1 (j : Int))) w w.heap.size e := FnsOK.cons (FnOK.mk rfl fun w' _ => Mpaw_any w' (Nat.zero_le _)) (FnsOK.cons (pg_fnB (a := b0) (n := j) hc0 (by omega) rfl rfl hb) (FnsOK.cons (pg_fnB (a := a0) (n := j) ha0 (by omega) rfl rfl hb2) (FnsOK.nil)))
  have hS : SpOK (sgV (Pg2l r q pg kk mk mo a0 a1 b0 b1 u0 u1 (j : Int))) 4 := (pg_sp (P := 1 + r) (m := 2) (by omega) rfl (by omega) (by omega) (by intro j hj; rcases (show j = 0 ∨ j = 1 ∨ j = 2 ∨ j = 3 by omega) with rfl | rfl | rfl | rfl <;> exact ⟨_, rfl, by omega⟩))
  have hO : OrcOK Tryz.prog (sgV (Pg2l r q pg kk mk mo a0 a1 b0 b1 u0 u1 (j : Int))) w w.heap.size Pg2r0fIaO := orcS_ok hE (sgV_ne hTL) hF hS (rdG_ok hσ ⟨_, rfl, by omega⟩) noMkS_ok
  exact (Pg2r0fIap _ hσ _ _ hO).to2.weak (weak_of (weakOK_pre (n := 19) (l2 := Pg2l r q pg kk mk mo a0 a1 b0 b1 u0 u1 ((j + 1 : Nat) : Int)) hTL rfl rfl (pairs_tok (a := 20) (b := 19) (by exact congrArg (Value.int .i64) (show (j : Int) + 1 = ((j + 1 : Nat) : Int) by omega)) pairs_nil)) Pg2r0fIac)
def Pg2r0fIbe : List Ent := [⟨.bin .lss 3, [kf 19, kf 9], .bool true⟩,
  ⟨.bin .quo 3, [kf 19, vI 64], vI 0⟩,
  ⟨.bin .geq 3, [kf 9, vI 1], .bool true⟩,
  ⟨.bin .leq 3, [kf 9, vI 4096], .bool true⟩,
  ⟨.bin .add 3, [kf 9, vI 63], kf 18⟩,
  ⟨.bin .quo 3, [kf 18, vI 64], vI 2⟩,
  ⟨.bin .mul 3, [vI 6, kf 9], kf 17⟩,
  ⟨.bin .add 3, [vI 82, kf 17], kf 1⟩,
  ⟨.bin .add 3, [kf 1, vI 0], kf 1⟩,
  ⟨.bin .add 3, [kf 1, vI 2], kf 3⟩,
  ⟨.bin .rem 3, [kf 19, vI 64], kf 19⟩,
  ⟨.bin .geq 3, [kf 19, kf 10], .bool true⟩,
  ⟨.bin .add 3, [kf 19, vI 1], kf 20⟩]
def Pg2r0fIbf : List FnEnt := [⟨14, [], .bool true⟩,
  ⟨12, [kf 13, kf 19], .bool false⟩,
  ⟨12, [kf 11, kf 19], .bool false⟩]
def Pg2r0fIbZv0 : List Value := [vA, vA, vA, vA, vX, vX, vX, vX, vA, vP 0 0, vP 3 0, vP 4 0, kf 10, vP 5 0, vA]
def Pg2r0fIbZv1 : List Value := [vA, vA, vA, vA, vA, vA, kf 20, kf 3, vB true, vA, vA, vA, vA, vG [vA, vA, vA], vT [vA, vA]]
def Pg2r0fIbZv2 : List Value := [vG [vA, vA, vA], vT [vA, vA], vA, vA, vA, vA, vA, vA, vA, vA, vA, vA, vA, vA, vA]
def Pg2r0fIbZv3 : List Value := [vA, vA, vA, vA, vA, vA, vA, vA, vA, vA, vA, vA, vA, vA, vA]
def Pg2r0fIbZv4 : List Value := [vA, vA, vA, vA, vT [vA, vA], vA, vA, vA, vG [vA, vA], vA, vT [vA, vA], vA, vA, vA, vA]
def Pg2r0fIbZv5 : List Value := [vA, vA, vA, vA, vA, vA, vA, vA, vA, vG [vA, vA], vA, vA, vA, vA, vA]
def Pg2r0fIbZv6 : List Value := [vA, vA, vA, vA, vA, vA, vA, vA, vA, vA, vA, vA, vG [vA, vA, vA, vA], vT [vA, vA], vA]
def Pg2r0fIbZv7 : List Value := [vT [vA, vA], vA, vA, vA, vA, vA, vA, vA, vA, kf 19, vP 0 0, kf 9, vB true, kf 19, kf 20]
def Pg2r0fIbZv8 : List Value := [vT [kf 3, vB true], vP 4 0, vP 4 0, vP 4 2, vG [kf 9, vI 1], kf 19, vI 0, vT [kf 3, vB true], kf 3, vB true, vP 3 0, kf 3, kf 13, kf 19, kf 19]
def Pg2r0fIbZv9 : List Value := [vB false, kf 19, kf 10, vB true, vB true, kf 19, vI 0, vP 5 0, kf 11, kf 19, kf 19, vB false, vB false, vB false, vX]
def Pg2r0fIbZ : List Value := Pg2r0fIbZv0 ++ (Pg2r0fIbZv1 ++ (Pg2r0fIbZv2 ++ (Pg2r0fIbZv3 ++ (Pg2r0fIbZv4 ++ (Pg2r0fIbZv5 ++ (Pg2r0fIbZv6 ++ (Pg2r0fIbZv7 ++ (Pg2r0fIbZv8 ++ Pg2r0fIbZv9))))))))
def Pg2r0fIbO : Orc := orcS Pg2r0fIbe Pg2r0fIbf 4 rdG noMkS
theorem Pg2r0fIbp : PgS Pg2r0fIbO ((inL (inB (seqR (seqL (pgC 11)))))) Pg2Ib Pg2H .normal Pg2r0fIbZ Pg2H := pgS_ev [0, 1, 2, 3, 4, 5] (by decide +kernel)
theorem Pg2r0fIbc : shrOk (fun j => decide (j < 19)) [(kf 20, kf 19)] 0 [0, 1, 2, 3, 4, 5] Pg2r0fIbZ Pg2H Pg2Ib Pg2H = true := by decide +kernel
set_option maxHeartbeats 2000000 in
theorem Pg2r0fIb_s (r q pg kk : Int) (mk mo a0 a1 b0 b1 u0 u1 : Nat) (j : Nat) (w : World) (hr : 0 ≤ r ∧ r < 128) (hq : 0 ≤ q ∧ q ≤ r) (hm : 64 ≤ r) (hmk : mk < 18446744073709551616) (ha0 : a0 < 18446744073709551616) (ha1 : a1 < 18446744073709551616) (hc0 : b0 < 18446744073709551616) (hc1 : b1 < 18446744073709551616) (hj : (j : Int) < 1 + r) (hj1 : 1 ≤ j) (hw : j < 64) (hn : 1 + q ≤ (j : Int)) (hb : b0.testBit j = false) (hb2 : a0.testBit j = false) : Seg2 Tryz.prog (sgV (Pg2l r q pg kk mk mo a0 a1 b0 b1 u0 u1 (j : Int))) (sgV (Pg2l r q pg kk mk mo a0 a1 b0 b1 u0 u1 ((j + 1 : Nat) : Int))) w w.heap.size 0 (.code ((inL (inB (seqR (seqL (pgC 11))))))) Pg2Ib Pg2H .normal Pg2Ib Pg2H := by
  have hTL := Pg2l_tok r q pg kk mk mo a0 a1 b0 b1 u0 u1 (j : Int)
  have hσ := sgV_one hTL
  have hE : AllOK Tryz.prog (sgV (Pg2l r q pg kk mk mo a0 a1 b0 b1 u0 u1 (j : Int))) Pg2r0fIbe := AllOK.cons (elssT (j) (1 + r) (by omega)) (
    AllOK.cons (ent_quo (a := (j : Int)) (c := 64) rfl rfl (by omega) (by exact congrArg (Value.int .i64) (quoC (a := (j : Int)) (c := 64) (q := 0) (by omega) (by omega) (by omega) (by omega) (by omega)).symm) rfl) (
    AllOK.cons (egeqT (1 + r) (1) (by omega)) (
    AllOK.cons (eleqT (1 + r) (4096) (by omega)) (
    AllOK.cons (eA (1 + r) (63) (1 + r + 63) (by omega)) (
    AllOK.cons (ent_quo (a := 1 + r + 63) (c := 64) rfl rfl (by omega) (by exact congrArg (Value.int .i64) (quoC (a := 1 + r + 63) (c := 64) (q := 2) (by omega) (by omega) (by omega) (by omega) (by omega)).symm) rfl) (
    AllOK.cons (eM (6) (1 + r) (6 * (1 + r)) (by omega)) (
    AllOK.cons (eA (82) (6 * (1 + r)) (82 + 6 * (1 + r) + 0) (by omega)) (
    AllOK.cons (eA (82 + 6 * (1 + r) + 0) (0) (82 + 6 * (1 + r) + 0) (by omega)) (
    AllOK.cons (eA (82 + 6 * (1 + r) + 0) (2) (82 + 6 * (1 + r) + 2) (by omega)) (
    AllOK.cons (ent_rem (a := (j : Int)) (c := 64) rfl rfl (by omega) (by exact congrArg (Value.int .i64) (pg_tmod0 (by omega) (by omega)).symm) rfl) (
    AllOK.cons (egeqT (j) (1 + q) (by omega)) (
    AllOK.cons (eA (j) (1) (j + 1) (by omega)) (
    AllOK.nil)))))))))))))
  have hF : ∀ e ∈ Pg2r0fIbf, FnOK Tryz.prog (sgV (Pg2l r q pg kk mk mo a0 a1 b0 b1 u0 u1 (j : Int))) w w.heap.size e := FnsOK.cons (FnOK.mk rfl fun w' _ => Mpaw_any w' (Nat.zero_le _)) (FnsOK.cons (pg_fnB (a := b0) (n := j) hc0 (by omega) rfl rfl hb) (FnsOK.cons (pg_fnB (a := a0) (n := j) ha0 (by omega) rfl rfl hb2) (FnsOK.nil)))
  have hS : SpOK (sgV (Pg2l r q pg kk mk mo a0 a1 b0 b1 u0 u1 (j : Int))) 4 := (pg_sp (P := 1 + r) (m := 2) (by omega) rfl (by omega) (by omega) (by intro j hj; rcases (show j = 0 ∨ j = 1 ∨ j = 2 ∨ j = 3 by omega) with rfl | rfl | rfl | rfl <;> exact ⟨_, rfl, by omega⟩))
  have hO : OrcOK Tryz.prog (sgV (Pg2l r q pg kk mk mo a0 a1 b0 b1 u0 u1 (j : Int))) w w.heap.size Pg2r0fIbO := orcS_ok hE (sgV_ne hTL) hF hS (rdG_ok hσ ⟨_, rfl, by omega⟩) noMkS_ok
  exact (Pg2r0fIbp _ hσ _ _ hO).to2.weak (weak_of (weakOK_pre (n := 19) (l2 := Pg2l r q pg kk mk mo a0 a1 b0 b1 u0 u1 ((j + 1 : Nat) : Int)) hTL rfl rfl (pairs_tok (a := 20) (b := 19) (by exact congrArg (Value.int .i64) (show (j : Int) + 1 = ((j + 1 : Nat) : Int) by omega)) pairs_nil)) Pg2r0fIbc)
def Pg2r0tIae : List Ent := [⟨.bin .lss 3, [kf 19, kf 9], .bool true⟩,
  ⟨.bin .quo 3, [kf 19, vI 64], vI 0⟩,
  ⟨.bin .geq 3, [kf 9, vI 1], .bool true⟩,
  ⟨.bin .leq 3, [kf 9, vI 4096], .bool true⟩,
  ⟨.bin .add 3, [kf 9, vI 63], kf 18⟩,
  ⟨.bin .quo 3, [kf 18, vI 64], vI 2⟩,
  ⟨.bin .mul 3, [vI 6, kf 9], kf 17⟩,
  ⟨.bin .add 3, [vI 82, kf 17], kf 1⟩,
  ⟨.bin .add 3, [kf 1, vI 0], kf 1⟩,
  ⟨.bin .add 3, [kf 1, vI 2], kf 3⟩,
  ⟨.bin .rem 3, [kf 19, vI 64], kf 19⟩,
  ⟨.bin .geq 3, [kf 19, kf 10], .bool true⟩,
  ⟨.bin .add 3, [kf 19, vI 1], kf 20⟩]
def Pg2r0tIaf : List FnEnt := [⟨14, [], .bool true⟩,
  ⟨12, [kf 13, kf 19], .bool true⟩,
  ⟨12, [kf 11, kf 19], .bool true⟩]
def Pg2r0tIaZv0 : List Value := [vA, vA, vA, vA, vX, vX, vX, vX, vA, vP 0 0, vP 3 0, vP 4 0, kf 10, vP 5 0, vA]
def Pg2r0tIaZv1 : List Value := [vA, vA, vA, vA, vA, vA, kf 20, kf 3, vB true, vA, vA, vA, vA, vG [vA, vA, vA], vT [vA, vA]]
def Pg2r0tIaZv2 : List Value := [vG [vA, vA, vA], vT [vA, vA], vA, vA, vA, vA, vA, vA, vA, vA, vA, vA, vA, vA, vA]
def Pg2r0tIaZv3 : List Value := [vA, vA, vA, vA, vA, vA, vA, vA, vA, vA, vA, vA, vA, vA, vA]
def Pg2r0tIaZv4 : List Value := [vA, vA, vA, vA, vT [vA, vA], vA, vA, vA, vG [vA, vA], vA, vT [vA, vA], vA, vA, vA, vA]
def Pg2r0tIaZv5 : List Value := [vA, vA, vA, vA, vA, vA, vA, vA, vA, vG [vA, vA], vA, vA, vA, vA, vA]
def Pg2r0tIaZv6 : List Value := [vA, vA, vA, vA, vA, vA, vA, vA, vA, vA, vA, vA, vG [vA, vA, vA, vA], vT [vA, vA], vA]
def Pg2r0tIaZv7 : List Value := [vT [vA, vA], vA, vA, vA, vA, vA, vA, vA, vA, kf 19, vP 0 0, kf 9, vB true, kf 19, kf 20]
def Pg2r0tIaZv8 : List Value := [vT [kf 3, vB true], vP 4 0, vP 4 0, vP 4 2, vG [kf 9, vI 1], kf 19, vI 0, vT [kf 3, vB true], kf 3, vB true, vP 3 0, kf 3, kf 13, kf 19, kf 19]
def Pg2r0tIaZv9 : List Value := [vB true, kf 19, kf 10, vB true, vB true, kf 19, vI 0, vP 5 0, kf 11, kf 19, kf 19, vB true, vB true, vB false, vX]
def Pg2r0tIaZ : List Value := Pg2r0tIaZv0 ++ (Pg2r0tIaZv1 ++ (Pg2r0tIaZv2 ++ (Pg2r0tIaZv3 ++ (Pg2r0tIaZv4 ++ (Pg2r0tIaZv5 ++ (Pg2r0tIaZv6 ++ (Pg2r0tIaZv7 ++ (Pg2r0tIaZv8 ++ Pg2r0tIaZv9))))))))
def Pg2r0tIaO : Orc := orcS Pg2r0tIae Pg2r0tIaf 4 rdG noMkS
theorem Pg2r0tIap : PgS Pg2r0tIaO ((inL (inB (seqR (seqL (pgC 11)))))) Pg2Ia Pg2H .normal Pg2r0tIaZ Pg2H := pgS_ev [0, 1, 2, 3, 4, 5] (by decide +kernel)
theorem Pg2r0tIac : shrOk (fun j => decide (j < 19)) [(kf 20, kf 19)] 0 [0, 1, 2, 3, 4, 5] Pg2r0tIaZ Pg2H Pg2Ib Pg2H = true := by decide +kernel
set_option maxHeartbeats 2000000 in
theorem Pg2r0tIa_s (r q pg kk : Int) (mk mo a0 a1 b0 b1 u0 u1 : Nat) (j : Nat) (w : World) (hr : 0 ≤ r ∧ r < 128) (hq : 0 ≤ q ∧ q ≤ r) (hm : 64 ≤ r) (hmk : mk < 18446744073709551616) (ha0 : a0 < 18446744073709551616) (ha1 : a1 < 18446744073709551616) (hc0 : b0 < 18446744073709551616) (hc1 : b1 < 18446744073709551616) (hj : (j : Int) < 1 + r) (hj1 : 1 ≤ j) (hw : j < 64) (hn : 1 + q ≤ (j : Int)) (hb : b0.testBit j = true) (hb2 : a0.testBit j = true) : Seg2 Tryz.prog (sgV (Pg2l r q pg kk mk mo a0 a1 b0 b1 u0 u1 (j : Int))) (sgV (Pg2l r q pg kk mk mo a0 a1 b0 b1 u0 u1 ((j + 1 : Nat) : Int))) w w.heap.size 0 (.code ((inL (inB (seqR (seqL (pgC 11))))))) Pg2Ia Pg2H .normal Pg2Ib Pg2H := by
  have hTL := Pg2l_tok r q pg kk mk mo a0 a1 b0 b1 u0 u1 (j : Int)
  have hσ := sgV_one hTL
  have hE : AllOK Tryz.prog (sgV (Pg2l r q pg kk mk mo a0 a1 b0 b1 u0 u1 (j : Int))) Pg2r0tIae := AllOK.cons (elssT (j) (1 + r) (by omega)) (
    AllOK.cons (ent_quo (a := (j : Int)) (c := 64) rfl rfl (by omega) (by exact congrArg (Value.int .i64) (quoC (a := (j : Int)) (c := 64) (q := 0) (by omega) (by omega) (by omega) (by omega) (by omega)).symm) rfl) (
    AllOK.cons (egeqT (1 + r) (1) (by omega)) (
    AllOK.cons (eleqT (1 + r) (4096) (by omega)) (
    AllOK.cons (eA (1 + r) (63) (1 + r + 63) (by omega)) (
    AllOK.cons (ent_quo (a := 1 + r + 63) (c := 64) rfl rfl (by omega) (by exact congrArg (Value.int .i64) (quoC (a := 1 + r + 63) (c := 64) (q := 2) (by omega) (by omega) (by omega) (by omega) (by omega)).symm) rfl) (
    AllOK.cons (eM (6) (1 + r) (6 * (1 + r)) (by omega)) (
    AllOK.cons (eA (82) (6 * (1 + r)) (82 + 6 * (1 + r) + 0) (by omega)) (
    AllOK.cons (eA (82 + 6 * (1 + r) + 0) (0) (82 + 6 * (1 + r) + 0) (by omega)) (
    AllOK.cons (eA (82 + 6 * (1 + r) + 0) (2) (82 + 6 * (1 + r) + 2) (by omega)) (
    AllOK.cons (ent_rem (a := (j : Int)) (c := 64) rfl rfl (by omega) (by exact congrArg (Value.int .i64) (pg_tmod0 (by omega) (by omega)).symm) rfl) (
    AllOK.cons (egeqT (j) (1 + q) (by omega)) (
    AllOK.cons (eA (j) (1) (j + 1) (by omega)) (
    AllOK.nil)))))))))))))
  have hF : ∀ e ∈ Pg2r0tIaf, FnOK Tryz.prog (sgV (Pg2l r q pg kk mk mo a0 a1 b0 b1 u0 u1 (j : Int))) w w.heap.size e := FnsOK.cons (FnOK.mk rfl fun w' _ => Mpaw_any w' (Nat.zero_le _)) (FnsOK.cons (pg_fnB (a := b0) (n := j) hc0 (by omega) rfl rfl hb) (FnsOK.cons (pg_fnB (a := a0) (n := j) ha0 (by omega) rfl rfl hb2) (FnsOK.nil)))
  have hS : SpOK (sgV (Pg2l r q pg kk mk mo a0 a1 b0 b1 u0 u1 (j : Int))) 4 := (pg_sp (P := 1 + r) (m := 2) (by omega) rfl (by omega) (by omega) (by intro j hj; rcases (show j = 0 ∨ j = 1 ∨ j = 2 ∨ j = 3 by omega) with rfl | rfl | rfl | rfl <;> exact ⟨_, rfl, by omega⟩))
  have hO : OrcOK Tryz.prog (sgV (Pg2l r q pg kk mk mo a0 a1 b0 b1 u0 u1 (j : Int))) w w.heap.size Pg2r0tIaO := orcS_ok hE (sgV_ne hTL) hF hS (rdG_ok hσ ⟨_, rfl, by omega⟩) noMkS_ok
  exact (Pg2r0tIap _ hσ _ _ hO).to2.weak (weak_of (weakOK_pre (n := 19) (l2 := Pg2l r q pg kk mk mo a0 a1 b0 b1 u0 u1 ((j + 1 : Nat) : Int)) hTL rfl rfl (pairs_tok (a := 20) (b := 19) (by exact congrArg (Value.int .i64) (show (j : Int) + 1 = ((j + 1 : Nat) : Int) by omega)) pairs_nil)) Pg2r0tIac)
def Pg2r0tIbe : List Ent := [⟨.bin .lss 3, [kf 19, kf 9], .bool true⟩,
  ⟨.bin .quo 3, [kf 19, vI 64], vI 0⟩,
  ⟨.bin .geq 3, [kf 9, vI 1], .bool true⟩,
  ⟨.bin .leq 3, [kf 9, vI 4096], .bool true⟩,
  ⟨.bin .add 3, [kf 9, vI 63], kf 18⟩,
  ⟨.bin .quo 3, [kf 18, vI 64], vI 2⟩,
  ⟨.bin .mul 3, [vI 6, kf 9], kf 17⟩,
  ⟨.bin .add 3, [vI 82, kf 17], kf 1⟩,
  ⟨.bin .add 3, [kf 1, vI 0], kf 1⟩,
  ⟨.bin .add 3, [kf 1, vI 2], kf 3⟩,
  ⟨.bin .rem 3, [kf 19, vI 64], kf 19⟩,
  ⟨.bin .geq 3, [kf 19, kf 10], .bool true⟩,
  ⟨.bin .add 3, [kf 19, vI 1], kf 20⟩]
def Pg2r0tIbf : List FnEnt := [⟨14, [], .bool true⟩,
  ⟨12, [kf 13, kf 19], .bool true⟩,
  ⟨12, [kf 11, kf 19], .bool true⟩]
def Pg2r0tIbZv0 : List Value := [vA, vA, vA, vA, vX, vX, vX, vX, vA, vP 0 0, vP 3 0, vP 4 0, kf 10, vP 5 0, vA]
def Pg2r0tIbZv1 : List Value := [vA, vA, vA, vA, vA, vA, kf 20, kf 3, vB true, vA, vA, vA, vA, vG [vA, vA, vA], vT [vA, vA]]
def Pg2r0tIbZv2 : List Value := [vG [vA, vA, vA], vT [vA, vA], vA, vA, vA, vA, vA, vA, vA, vA, vA, vA, vA, vA, vA]
def Pg2r0tIbZv3 : List Value := [vA, vA, vA, vA, vA, vA, vA, vA, vA, vA, vA, vA, vA, vA, vA]
def Pg2r0tIbZv4 : List Value := [vA, vA, vA, vA, vT [vA, vA], vA, vA, vA, vG [vA, vA], vA, vT [vA, vA], vA, vA, vA, vA]
def Pg2r0tIbZv5 : List Value := [vA, vA, vA, vA, vA, vA, vA, vA, vA, vG [vA, vA], vA, vA, vA, vA, vA]
def Pg2r0tIbZv6 : List Value := [vA, vA, vA, vA, vA, vA, vA, vA, vA, vA, vA, vA, vG [vA, vA, vA, vA], vT [vA, vA], vA]
def Pg2r0tIbZv7 : List Value := [vT [vA, vA], vA, vA, vA, vA, vA, vA, vA, vA, kf 19, vP 0 0, kf 9, vB true, kf 19, kf 20]
def Pg2r0tIbZv8 : List Value := [vT [kf 3, vB true], vP 4 0, vP 4 0, vP 4 2, vG [kf 9, vI 1], kf 19, vI 0, vT [kf 3, vB true], kf 3, vB true, vP 3 0, kf 3, kf 13, kf 19, kf 19]
def Pg2r0tIbZv9 : List Value := [vB true, kf 19, kf 10, vB true, vB true, kf 19, vI 0, vP 5 0, kf 11, kf 19, kf 19, vB true, vB true, vB false, vX]
def Pg2r0tIbZ : List Value := Pg2r0tIbZv0 ++ (Pg2r0tIbZv1 ++ (Pg2r0tIbZv2 ++ (Pg2r0tIbZv3 ++ (Pg2r0tIbZv4 ++ (Pg2r0tIbZv5 ++ (Pg2r0tIbZv6 ++ (Pg2r0tIbZv7 ++ (Pg2r0tIbZv8 ++ Pg2r0tIbZv9))))))))
def Pg2r0tIbO : Orc := orcS Pg2r0tIbe Pg2r0tIbf 4 rdG noMkS
theorem Pg2r0tIbp : PgS Pg2r0tIbO ((inL (inB (seqR (seqL (pgC 11)))))) Pg2Ib Pg2H .normal Pg2r0tIbZ Pg2H := pgS_ev [0, 1, 2, 3, 4, 5] (by decide +kernel)
theorem Pg2r0tIbc : shrOk (fun j => decide (j < 19)) [(kf 20, kf 19)] 0 [0, 1, 2, 3, 4, 5] Pg2r0tIbZ Pg2H Pg2Ib Pg2H = true := by decide +kernel
set_option maxHeartbeats 2000000 in
theorem Pg2r0tIb_s (r q pg kk : Int) (mk mo a0 a1 b0 b1 u0 u1 : Nat) (j : Nat) (w : World) (hr : 0 ≤ r ∧ r < 128) (hq : 0 ≤ q ∧ q ≤ r) (hm : 64 ≤ r) (hmk : mk < 18446744073709551616) (ha0 : a0 < 18446744073709551616) (ha1 : a1 < 18446744073709551616) (hc0 : b0 < 18446744073709551616) (hc1 : b1 < 18446744073709551616) (hj : (j : Int) < 1 + r) (hj1 : 1 ≤ j) (hw : j < 64) (hn : 1 + q ≤ (j : Int)) (hb : b0.testBit j = true) (hb2 : a0.testBit j = true) : Seg2 Tryz.prog (sgV (Pg2l r q pg kk mk mo a0 a1 b0 b1 u0 u1 (j : Int))) (sgV (Pg2l r q pg kk mk mo a0 a1 b0 b1 u0 u1 ((j + 1 : Nat) : Int))) w w.heap.size 0 (.code ((inL (inB (seqR (seqL (pgC 11))))))) Pg2Ib Pg2H .normal Pg2Ib Pg2H := by
  have hTL := Pg2l_tok r q pg kk mk mo a0 a1 b0 b1 u0 u1 (j : Int)
  have hσ := sgV_one hTL
  have hE : AllOK Tryz.prog (sgV (Pg2l r q pg kk mk mo a0 a1 b0 b1 u0 u1 (j : Int))) Pg2r0tIbe := AllOK.cons (elssT (j) (1 + r) (by omega)) (
    AllOK.cons (ent_quo (a := (j : Int)) (c := 64) rfl rfl (by omega) (by exact congrArg (Value.int .i64) (quoC (a := (j : Int)) (c := 64) (q := 0) (by omega) (by omega) (by omega) (by omega) (by omega)).symm) rfl) (
    AllOK.cons (egeqT (1 + r) (1) (by omega)) (
    AllOK.cons (eleqT (1 + r) (4096) (by omega)) (
    AllOK.cons (eA (1 + r) (63) (1 + r + 63) (by omega)) (
    AllOK.cons (ent_quo (a := 1 + r + 63) (c := 64) rfl rfl (by omega) (by exact congrArg (Value.int .i64) (quoC (a := 1 + r + 63) (c := 64) (q := 2) (by omega) (by omega) (by omega) (by omega) (by omega)).symm) rfl) (
    AllOK.cons (eM (6) (1 + r) (6 * (1 + r)) (by omega)) (
    AllOK.cons (eA (82) (6 * (1 + r)) (82 + 6 * (1 + r) + 0) (by omega)) (
    AllOK.cons (eA (82 + 6 * (1 + r) + 0) (0) (82 + 6 * (1 + r) + 0) (by omega)) (
    AllOK.cons (eA (82 + 6 * (1 + r) + 0) (2) (82 + 6 * (1 + r) + 2) (by omega)) (
    AllOK.cons (ent_rem (a := (j : Int)) (c := 64) rfl rfl (by omega) (by exact congrArg (Value.int .i64) (pg_tmod0 (by omega) (by omega)).symm) rfl) (
    AllOK.cons (egeqT (j) (1 + q) (by omega)) (
    AllOK.cons (eA (j) (1) (j + 1) (by omega)) (
    AllOK.nil)))))))))))))
  have hF : ∀ e ∈ Pg2r0tIbf, FnOK Tryz.prog (sgV (Pg2l r q pg kk mk mo a0 a1 b0 b1 u0 u1 (j : Int))) w w.heap.size e := FnsOK.cons (FnOK.mk rfl fun w' _ => Mpaw_any w' (Nat.zero_le _)) (FnsOK.cons (pg_fnB (a := b0) (n := j) hc0 (by omega) rfl rfl hb) (FnsOK.cons (pg_fnB (a := a0) (n := j) ha0 (by omega) rfl rfl hb2) (FnsOK.nil)))
  have hS : SpOK (sgV (Pg2l r q pg kk mk mo a0 a1 b0 b1 u0 u1 (j : Int))) 4 := (pg_sp (P := 1 + r) (m := 2) (by omega) rfl (by omega) (by omega) (by intro j hj; rcases (show j = 0 ∨ j = 1 ∨ j = 2 ∨ j = 3 by omega) with rfl | rfl | rfl | rfl <;> exact ⟨_, rfl, by omega⟩))
  have hO : OrcOK Tryz.prog (sgV (Pg2l r q pg kk mk mo a0 a1 b0 b1 u0 u1 (j : Int))) w w.heap.size Pg2r0tIbO := orcS_ok hE (sgV_ne hTL) hF hS (rdG_ok hσ ⟨_, rfl, by omega⟩) noMkS_ok
  exact (Pg2r0tIbp _ hσ _ _ hO).to2.weak (weak_of (weakOK_pre (n := 19) (l2 := Pg2l r q pg kk mk mo a0 a1 b0 b1 u0 u1 ((j + 1 : Nat) : Int)) hTL rfl rfl (pairs_tok (a := 20) (b := 19) (by exact congrArg (Value.int .i64) (show (j : Int) + 1 = ((j + 1 : Nat) : Int) by omega)) pairs_nil)) Pg2r0tIbc)
def Pg2r1le : List Ent := [⟨.bin .lss 3, [kf 19, kf 9], .bool true⟩,
  ⟨.bin .quo 3, [kf 19, vI 64], vI 1⟩,
  ⟨.bin .geq 3, [kf 9, vI 1], .bool true⟩,
  ⟨.bin .leq 3, [kf 9, vI 4096], .bool true⟩,
  ⟨.bin .add 3, [kf 9, vI 63], kf 18⟩,
  ⟨.bin .quo 3, [kf 18, vI 64], vI 2⟩,
  ⟨.bin .mul 3, [vI 6, kf 9], kf 17⟩,
  ⟨.bin .add 3, [vI 82, kf 17], kf 1⟩,
  ⟨.bin .add 3, [kf 1, vI 1], kf 2⟩,
  ⟨.bin .add 3, [kf 2, vI 2], kf 4⟩,
  ⟨.bin .rem 3, [kf 19, vI 64], kf 21⟩,
  ⟨.bin .geq 3, [kf 19, kf 10], .bool false⟩,
  ⟨.bin .add 3, [kf 19, vI 1], kf 20⟩]
def Pg2r1lf : List FnEnt := [⟨14, [], .bool true⟩,
  ⟨12, [kf 14, kf 21], .bool false⟩]
def Pg2r1lZv0 : List Value := [vA, vA, vA, vA, vX, vX, vX, vX, vA, vP 0 0, vP 3 0, vP 4 0, kf 10, vP 5 0, vA]
def Pg2r1lZv1 : List Value := [vA, vA, vA, vA, vA, vA, kf 20, kf 4, vB true, vA, vA, vA, vA, vG [vA, vA, vA], vT [vA, vA]]
def Pg2r1lZv2 : List Value := [vG [vA, vA, vA], vT [vA, vA], vA, vA, vA, vA, vA, vA, vA, vA, vA, vA, vA, vA, vA]
def Pg2r1lZv3 : List Value := [vA, vA, vA, vA, vA, vA, vA, vA, vA, vA, vA, vA, vA, vA, vA]
def Pg2r1lZv4 : List Value := [vA, vA, vA, vA, vT [vA, vA], vA, vA, vA, vG [vA, vA], vA, vT [vA, vA], vA, vA, vA, vA]
def Pg2r1lZv5 : List Value := [vA, vA, vA, vA, vA, vA, vA, vA, vA, vG [vA, vA], vA, vA, vA, vA, vA]
def Pg2r1lZv6 : List Value := [vA, vA, vA, vA, vA, vA, vA, vA, vA, vA, vA, vA, vG [vA, vA, vA, vA], vT [vA, vA], vA]
def Pg2r1lZv7 : List Value := [vT [vA, vA], vA, vA, vA, vA, vA, vA, vA, vA, kf 19, vP 0 0, kf 9, vB true, kf 19, kf 20]
def Pg2r1lZv8 : List Value := [vT [kf 4, vB true], vP 4 0, vP 4 0, vP 4 2, vG [kf 9, vI 1], kf 19, vI 1, vT [kf 4, vB true], kf 4, vB true, vP 3 0, kf 4, kf 14, kf 19, kf 21]
def Pg2r1lZv9 : List Value := [vB false, kf 19, kf 10, vB false, vB false, vX, vX, vX, vX, vX, vX, vX, vB false, vB false, vX]
def Pg2r1lZ : List Value := Pg2r1lZv0 ++ (Pg2r1lZv1 ++ (Pg2r1lZv2 ++ (Pg2r1lZv3 ++ (Pg2r1lZv4 ++ (Pg2r1lZv5 ++ (Pg2r1lZv6 ++ (Pg2r1lZv7 ++ (Pg2r1lZv8 ++ Pg2r1lZv9))))))))
def Pg2r1lO : Orc := orcS Pg2r1le Pg2r1lf 4 rdG noMkS
theorem Pg2r1lp : PgS Pg2r1lO ((inL (inB (seqR (seqL (pgC 11)))))) Pg2Ia Pg2H .normal Pg2r1lZ Pg2H := pgS_ev [0, 1, 2, 3, 4, 5] (by decide +kernel)
theorem Pg2r1lc : shrOk (fun j => decide (j < 19)) [(kf 20, kf 19)] 0 [0, 1, 2, 3, 4, 5] Pg2r1lZ Pg2H Pg2Ia Pg2H = true := by decide +kernel
set_option maxHeartbeats 2000000 in
theorem Pg2r1l_s (r q pg kk : Int) (mk mo a0 a1 b0 b1 u0 u1 : Nat) (j : Nat) (w : World) (hr : 0 ≤ r ∧ r < 128) (hq : 0 ≤ q ∧ q ≤ r) (hm : 64 ≤ r) (hmk : mk < 18446744073709551616) (ha0 : a0 < 18446744073709551616) (ha1 : a1 < 18446744073709551616) (hc0 : b0 < 18446744073709551616) (hc1 : b1 < 18446744073709551616) (hj : (j : Int) < 1 + r) (hj1 : 1 ≤ j) (hw : 64 ≤ j) (hn : (j : Int) < 1 + q) (hb : b1.testBit (j - 64) = false) : Seg2 Tryz.prog (sgV (Pg2l r q pg kk mk mo a0 a1 b0 b1 u0 u1 (j : Int))) (sgV (Pg2l r q pg kk mk mo a0 a1 b0 b1 u0 u1 ((j + 1 : Nat) : Int))) w w.heap.size 0 (.code ((inL (inB (seqR (seqL (pgC 11))))))) Pg2Ia Pg2H .normal Pg2Ia Pg2H := by
  have hTL := Pg2l_tok r q pg kk mk mo a0 a1 b0 b1 u0 u1 (j : Int)
  have hσ := sgV_one hTL
  have hE : AllOK Tryz.prog (sgV (Pg2l r q pg kk mk mo a0 a1 b0 b1 u0 u1 (j : Int))) Pg2r1le := AllOK.cons (elssT (j) (1 + r) (by omega)) (
    AllOK.cons (ent_quo (a := (j : Int)) (c := 64) rfl rfl (by omega) (by exact congrArg (Value.int .i64) (quoC (a := (j : Int)) (c := 64) (q := 1) (by omega) (by omega) (by omega) (by omega) (by omega)).symm) rfl) (
    AllOK.cons (egeqT (1 + r) (1) (by omega)) (
    AllOK.cons (eleqT (1 + r) (4096) (by omega)) (
    AllOK.cons (eA (1 + r) (63) (1 + r + 63) (by omega)) (
    AllOK.cons (ent_quo (a := 1 + r + 63) (c := 64) rfl rfl (by omega) (by exact congrArg (Value.int .i64) (quoC (a := 1 + r + 63) (c := 64) (q := 2) (by omega) (by omega) (by omega) (by omega) (by omega)).symm) rfl) (
    AllOK.cons (eM (6) (1 + r) (6 * (1 + r)) (by omega)) (
    AllOK.cons (eA (82) (6 * (1 + r)) (82 + 6 * (1 + r) + 0) (by omega)) (
    AllOK.cons (eA (82 + 6 * (1 + r) + 0) (1) (82 + 6 * (1 + r) + 1) (by omega)) (
    AllOK.cons (eA (82 + 6 * (1 + r) + 1) (2) (82 + 6 * (1 + r) + 3) (by omega)) (
    AllOK.cons (ent_rem (a := (j : Int)) (c := 64) rfl rfl (by omega) (by exact congrArg (Value.int .i64) (pg_tmod1 (by omega) (by omega)).symm) rfl) (
    AllOK.cons (egeqF (j) (1 + q) (by omega)) (
    AllOK.cons (eA (j) (1) (j + 1) (by omega)) (
    AllOK.nil)))))))))))))
  have hF : ∀ e ∈ Pg2r1lf, FnOK Tryz.prog (sgV (Pg2l r q pg kk mk mo a0 a1 b0 b1 u0 u1 (j : Int))) w w.heap.size e := FnsOK.cons (FnOK.mk rfl fun w' _ => Mpaw_any w' (Nat.zero_le _)) (FnsOK.cons (pg_fnB (a := b1) (n := (j - 64)) hc1 (by omega) rfl (by exact congrArg (Value.int .i64) (show (j : Int) - 64 = ((j - 64 : Nat) : Int) by omega)) hb) (FnsOK.nil))
  have hS : SpOK (sgV (Pg2l r q pg kk mk mo a0 a1 b0 b1 u0 u1 (j : Int))) 4 := (pg_sp (P := 1 + r) (m := 2) (by omega) rfl (by omega) (by omega) (by intro j hj; rcases (show j = 0 ∨ j = 1 ∨ j = 2 ∨ j = 3 by omega) with rfl | rfl | rfl | rfl <;> exact ⟨_, rfl, by omega⟩))
  have hO : OrcOK Tryz.prog (sgV (Pg2l r q pg kk mk mo a0 a1 b0 b1 u0 u1 (j : Int))) w w.heap.size Pg2r1lO := orcS_ok hE (sgV_ne hTL) hF hS (rdG_ok hσ ⟨_, rfl, by omega⟩) noMkS_ok
  exact (Pg2r1lp _ hσ _ _ hO).to2.weak (weak_of (weakOK_pre (n := 19) (l2 := Pg2l r q pg kk mk mo a0 a1 b0 b1 u0 u1 ((j + 1 : Nat) : Int)) hTL rfl rfl (pairs_tok (a := 20) (b := 19) (by exact congrArg (Value.int .i64) (show (j : Int) + 1 = ((j + 1 : Nat) : Int) by omega)) pairs_nil)) Pg2r1lc)
def Pg2r1fIae : List Ent := [⟨.bin .lss 3, [kf 19, kf 9], .bool true⟩,
  ⟨.bin .quo 3, [kf 19, vI 64], vI 1⟩,
  ⟨.bin .geq 3, [kf 9, vI 1], .bool true⟩,
  ⟨.bin .leq 3, [kf 9, vI 4096], .bool true⟩,
  ⟨.bin .add 3, [kf 9, vI 63], kf 18⟩,
  ⟨.bin .quo 3, [kf 18, vI 64], vI 2⟩,
  ⟨.bin .mul 3, [vI 6, kf 9], kf 17⟩,
  ⟨.bin .add 3, [vI 82, kf 17], kf 1⟩,
  ⟨.bin .add 3, [kf 1, vI 1], kf 2⟩,
  ⟨.bin .add 3, [kf 2, vI 2], kf 4⟩,
  ⟨.bin .rem 3, [kf 19, vI 64], kf 21⟩,
  ⟨.bin .geq 3, [kf 19, kf 10], .bool true⟩,
  ⟨.bin .add 3, [kf 19, vI 1], kf 20⟩]
def Pg2r1fIaf : List FnEnt := [⟨14, [], .bool true⟩,
  ⟨12, [kf 14, kf 21], .bool false⟩,
  ⟨12, [kf 12, kf 21], .bool false⟩]
def Pg2r1fIaZv0 : List Value := [vA, vA, vA, vA, vX, vX, vX, vX, vA, vP 0 0, vP 3 0, vP 4 0, kf 10, vP 5 0, vA]
def Pg2r1fIaZv1 : List Value := [vA, vA, vA, vA, vA, vA, kf 20, kf 4, vB true, vA, vA, vA, vA, vG [vA, vA, vA], vT [vA, vA]]
def Pg2r1fIaZv2 : List Value := [vG [vA, vA, vA], vT [vA, vA], vA, vA, vA, vA, vA, vA, vA, vA, vA, vA, vA, vA, vA]
def Pg2r1fIaZv3 : List Value := [vA, vA, vA, vA, vA, vA, vA, vA, vA, vA, vA, vA, vA, vA, vA]
def Pg2r1fIaZv4 : List Value := [vA, vA, vA, vA, vT [vA, vA], vA, vA, vA, vG [vA, vA], vA, vT [vA, vA], vA, vA, vA, vA]
def Pg2r1fIaZv5 : List Value := [vA, vA, vA, vA, vA, vA, vA, vA, vA, vG [vA, vA], vA, vA, vA, vA, vA]
def Pg2r1fIaZv6 : List Value := [vA, vA, vA, vA, vA, vA, vA, vA, vA, vA, vA, vA, vG [vA, vA, vA, vA], vT [vA, vA], vA]
def Pg2r1fIaZv7 : List Value := [vT [vA, vA], vA, vA, vA, vA, vA, vA, vA, vA, kf 19, vP 0 0, kf 9, vB true, kf 19, kf 20]
def Pg2r1fIaZv8 : List Value := [vT [kf 4, vB true], vP 4 0, vP 4 0, vP 4 2, vG [kf 9, vI 1], kf 19, vI 1, vT [kf 4, vB true], kf 4, vB true, vP 3 0, kf 4, kf 14, kf 19, kf 21]
def Pg2r1fIaZv9 : List Value := [vB false, kf 19, kf 10, vB true, vB true, kf 19, vI 1, vP 5 1, kf 12, kf 19, kf 21, vB false, vB false, vB false, vX]
def Pg2r1fIaZ : List Value := Pg2r1fIaZv0 ++ (Pg2r1fIaZv1 ++ (Pg2r1fIaZv2 ++ (Pg2r1fIaZv3 ++ (Pg2r1fIaZv4 ++ (Pg2r1fIaZv5 ++ (Pg2r1fIaZv6 ++ (Pg2r1fIaZv7 ++ (Pg2r1fIaZv8 ++ Pg2r1fIaZv9))))))))
def Pg2r1fIaO : Orc := orcS Pg2r1fIae Pg2r1fIaf 4 rdG noMkS
theorem Pg2r1fIap : PgS Pg2r1fIaO ((inL (inB (seqR (seqL (pgC 11)))))) Pg2Ia Pg2H .normal Pg2r1fIaZ Pg2H := pgS_ev [0, 1, 2, 3, 4, 5] (by decide +kernel)
theorem Pg2r1fIac : shrOk (fun j => decide (j < 19)) [(kf 20, kf 19)] 0 [0, 1, 2, 3, 4, 5] Pg2r1fIaZ Pg2H Pg2Ib Pg2H = true := by decide +kernel
set_option maxHeartbeats 2000000 in
theorem Pg2r1fIa_s (r q pg kk : Int) (mk mo a0 a1 b0 b1 u0 u1 : Nat) (j : Nat) (w : World) (hr : 0 ≤ r ∧ r < 128) (hq : 0 ≤ q ∧ q ≤ r) (hm : 64 ≤ r) (hmk : mk < 18446744073709551616) (ha0 : a0 < 18446744073709551616) (ha1 : a1 < 18446744073709551616) (hc0 : b0 < 18446744073709551616) (hc1 : b1 < 18446744073709551616) (hj : (j : Int) < 1 + r) (hj1 : 1 ≤ j) (hw : 64 ≤ j) (hn : 1 + q ≤ (j : Int)) (hb : b1.testBit (j - 64) = false) (hb2 : a1.testBit (j - 64) = false) : Seg2 Tryz.prog (sgV (Pg2l r q pg kk mk mo a0 a1 b0 b1 u0 u1 (j : Int))) (sgV (Pg2l r q pg kk mk mo a0 a1 b0 b1 u0 u1 ((j + 1 : Nat) : Int))) w w.heap.size 0 (.code ((inL (inB (seqR (seqL (pgC 11))))))) Pg2Ia Pg2H .normal Pg2Ib Pg2H := by
  have hTL := Pg2l_tok r q pg kk mk mo a0 a1 b0 b1 u0 u1 (j : Int)
  have hσ := sgV_one hTL
  have hE : AllOK Tryz.prog (sgV (Pg2l r q pg kk mk mo a0 a1 b0 b1 u0 u1 (j : Int))) Pg2r1fIae := AllOK.cons (elssT (j) (1 + r) (by omega)) (
    AllOK.cons (ent_quo (a := (j : Int)) (c := 64) rfl rfl (by omega) (by exact congrArg (Value.int .i64) (quoC (a := (j : Int)) (c := 64) (q := 1) (by omega) (by omega) (by omega) (by omega) (by omega)).symm) rfl) (
    AllOK.cons (egeqT (1 + r) (1) (by omega)) (
    AllOK.cons (eleqT (1 + r) (4096) (by omega)) (
    AllOK.cons (eA (1 + r) (63) (1 + r + 63) (by omega)) (
    AllOK.cons (ent_quo (a := 1 + r + 63) (c := 64) rfl rfl (by omega) (by exact congrArg (Value.int .i64) (quoC (a := 1 + r + 63) (c := 64) (q := 2) (by omega) (by omega) (by omega) (by omega) (by omega)).symm) rfl) (
    AllOK.cons (eM (6) (1 + r) (6 * (1 + r)) (by omega)) (
    AllOK.cons (eA (82) (6 * (1 + r)) (82 + 6 * (1 + r) + 0) (by omega)) (
    AllOK.cons (eA (82 + 6 * (1 + r) + 0) (1) (82 + 6 * (1 + r) + 1) (by omega)) (
    AllOK.cons (eA (82 + 6 * (1 + r) + 1) (2) (82 + 6 * (1 + r) + 3) (by omega)) (
    AllOK.cons (ent_rem (a := (j : Int)) (c := 64) rfl rfl (by omega) (by exact congrArg (Value.int .i64) (pg_tmod1 (by omega) (by omega)).symm) rfl) (
    AllOK.cons (egeqT (j) (1 + q) (by omega)) (
    AllOK.cons (eA (j) (1) (j + 1) (by omega)) (
    AllOK.nil)))))))))))))
  have hF : ∀ e ∈ Pg2r1fIaf, FnOK Tryz.prog (sgV (Pg2l r q pg kk mk mo a0 a1 b0 b1 u0 u1 (j : Int))) w w.heap.size e := FnsOK.cons (FnOK.mk rfl fun w' _ => Mpaw_any w' (Nat.zero_le _)) (FnsOK.cons (pg_fnB (a := b1) (n := (j - 64)) hc1 (by omega) rfl (by exact congrArg (Value.int .i64) (show (j : Int) - 64 = ((j - 64 : Nat) : Int) by omega)) hb) (FnsOK.cons (pg_fnB (a := a1) (n := (j - 64)) ha1 (by omega) rfl (by exact congrArg (Value.int .i64) (show (j : Int) - 64 = ((j - 64 : Nat) : Int) by omega)) hb2) (FnsOK.nil)))
  have hS : SpOK (sgV (Pg2l r q pg kk mk mo a0 a1 b0 b1 u0 u1 (j : Int))) 4 := (pg_sp (P := 1 + r) (m := 2) (by omega) rfl (by omega) (by omega) (by intro j hj; rcases (show j = 0 ∨ j = 1 ∨ j = 2 ∨ j = 3 by omega) with rfl | rfl | rfl | rfl <;> exact ⟨_, rfl, by omega⟩))
  have hO : OrcOK Tryz.prog (sgV (Pg2l r q pg kk mk mo a0 a1 b0 b1 u0 u1 (j : Int))) w w.heap.size Pg2r1fIaO := orcS_ok hE (sgV_ne hTL) hF hS (rdG_ok hσ ⟨_, rfl, by omega⟩) noMkS_ok
  exact (Pg2r1fIap _ hσ _ _ hO).to2.weak (weak_of (weakOK_pre (n := 19) (l2 := Pg2l r q pg kk mk mo a0 a1 b0 b1 u0 u1 ((j + 1 : Nat) : Int)) hTL rfl rfl (pairs_tok (a := 20) (b := 19) (by exact congrArg (Value.int .i64) (show (j : Int) + 1 = ((j + 1 : Nat) : Int) by omega)) pairs_nil)) Pg2r1fIac)
def Pg2r1fIbe : List Ent := [⟨.bin .lss 3, [kf 19, kf 9], .bool true⟩,
  ⟨.bin .quo 3, [kf 19, vI 64], vI 1⟩,
  ⟨.bin .geq 3, [kf 9, vI 1], .bool true⟩,
  ⟨.bin .leq 3, [kf 9, vI 4096], .bool true⟩,
  ⟨.bin .add 3, [kf 9, vI 63], kf 18⟩,
  ⟨.bin .quo 3, [kf 18, vI 64], vI 2⟩,
  ⟨.bin .mul 3, [vI 6, kf 9], kf 17⟩,
  ⟨.bin .add 3, [vI 82, kf 17], kf 1⟩,
  ⟨.bin .add 3, [kf 1, vI 1], kf 2⟩,
  ⟨.bin .add 3, [kf 2, vI 2], kf 4⟩,
  ⟨.bin .rem 3, [kf 19, vI 64], kf 21⟩,
  ⟨.bin .geq 3, [kf 19, kf 10], .bool true⟩,
  ⟨.bin .add 3, [kf 19, vI 1], kf 20⟩]
def Pg2r1fIbf : List FnEnt := [⟨14, [], .bool true⟩,
  ⟨12, [kf 14, kf 21], .bool false⟩,
  ⟨12, [kf 12, kf 21], .bool false⟩]
def Pg2r1fIbZv0 : List Value := [vA, vA, vA, vA, vX, vX, vX, vX, vA, vP 0 0, vP 3 0, vP 4 0, kf 10, vP 5 0, vA]
def Pg2r1fIbZv1 : List Value := [vA, vA, vA, vA, vA, vA, kf 20, kf 4, vB true, vA, vA, vA, vA, vG [vA, vA, vA], vT [vA, vA]]
def Pg2r1fIbZv2 : List Value := [vG [vA, vA, vA], vT [vA, vA], vA, vA, vA, vA, vA, vA, vA, vA, vA, vA, vA, vA, vA]
def Pg2r1fIbZv3 : List Value := [vA, vA, vA, vA, vA, vA, vA, vA, vA, vA, vA, vA, vA, vA, vA]
def Pg2r1fIbZv4 : List Value := [vA, vA, vA, vA, vT [vA, vA], vA, vA, vA, vG [vA, vA], vA, vT [vA, vA], vA, vA, vA, vA]
def Pg2r1fIbZv5 : List Value := [vA, vA, vA, vA, vA, vA, vA, vA, vA, vG [vA, vA], vA, vA, vA, vA, vA]
def Pg2r1fIbZv6 : List Value := [vA, vA, vA, vA, vA, vA, vA, vA, vA, vA, vA, vA, vG [vA, vA, vA, vA], vT [vA, vA], vA]
def Pg2r1fIbZv7 : List Value := [vT [vA, vA], vA, vA, vA, vA, vA, vA, vA, vA, kf 19, vP 0 0, kf 9, vB true, kf 19, kf 20]
def Pg2r1fIbZv8 : List Value := [vT [kf 4, vB true], vP 4 0, vP 4 0, vP 4 2, vG [kf 9, vI 1], kf 19, vI 1, vT [kf 4, vB true], kf 4, vB true, vP 3 0, kf 4, kf 14, kf 19, kf 21]
def Pg2r1fIbZv9 : List Value := [vB false, kf 19, kf 10, vB true, vB true, kf 19, vI 1, vP 5 1, kf 12, kf 19, kf 21, vB false, vB false, vB false, vX]
def Pg2r1fIbZ : List Value := Pg2r1fIbZv0 ++ (Pg2r1fIbZv1 ++ (Pg2r1fIbZv2 ++ (Pg2r1fIbZv3 ++ (Pg2r1fIbZv4 ++ (Pg2r1fIbZv5 ++ (Pg2r1fIbZv6 ++ (Pg2r1fIbZv7 ++ (Pg2r1fIbZv8 ++ Pg2r1fIbZv9))))))))
def Pg2r1fIbO : Orc := orcS Pg2r1fIbe Pg2r1fIbf 4 rdG noMkS
theorem Pg2r1fIbp : PgS Pg2r1fIbO ((inL (inB (seqR (seqL (pgC 11)))))) Pg2Ib Pg2H .normal Pg2r1fIbZ Pg2H := pgS_ev [0, 1, 2, 3, 4, 5] (by decide +kernel)
theorem Pg2r1fIbc : shrOk (fun j => decide (j < 19)) [(kf 20, kf 19)] 0 [0, 1, 2, 3, 4, 5] Pg2r1fIbZ Pg2H Pg2Ib Pg2H = true := by decide +kernel
set_option maxHeartbeats 2000000 in
theorem Pg2r1fIb_s (r q pg kk : Int) (mk mo a0 a1 b0 b1 u0 u1 : Nat) (j : Nat) (w : World) (hr : 0 ≤ r ∧ r < 128) (hq : 0 ≤ q ∧ q ≤ r) (hm : 64 ≤ r) (hmk : mk < 18446744073709551616) (ha0 : a0 < 18446744073709551616) (ha1 : a1 < 18446744073709551616) (hc0 : b0 < 18446744073709551616) (hc1 : b1 < 18446744073709551616) (hj : (j : Int) < 1 + r) (hj1 : 1 ≤ j) (hw : 64 ≤ j) (hn : 1 + q ≤ (j : Int)) (hb : b1.testBit (j - 64) = false) (hb2 : a1.testBit (j - 64) = false) : Seg2 Tryz.prog (sgV (Pg2l r q pg kk mk mo a0 a1 b0 b1 u0 u1 (j : Int))) (sgV (Pg2l r q pg kk mk mo a0 a1 b0 b1 u0 u1 ((j + 1 : Nat) : Int))) w w.heap.size 0 (.code ((inL (inB (seqR (seqL (pgC 11))))))) Pg2Ib Pg2H .normal Pg2Ib Pg2H := by
  have hTL := Pg2l_tok r q pg kk mk mo a0 a1 b0 b1 u0 u1 (j : Int)
  have hσ := sgV_one hTL
  have hE : AllOK Tryz.prog (sgV (Pg2l r q pg kk mk mo a0 a1 b0 b1 u0 u1 (j : Int))) Pg2r1fIbe := AllOK.cons (elssT (j) (1 + r) (by omega)) (
    AllOK.cons (ent_quo (a := (j : Int)) (c := 64) rfl rfl (by omega) (by exact congrArg (Value.int .i64) (quoC (a := (j : Int)) (c := 64) (q := 1) (by omega) (by omega) (by omega) (by omega) (by omega)).symm) rfl) (
    AllOK.cons (egeqT (1 + r) (1) (by omega)) (
    AllOK.cons (eleqT (1 + r) (4096) (by omega)) (
    AllOK.cons (eA (1 + r) (63) (1 + r + 63) (by omega)) (
    AllOK.cons (ent_quo (a := 1 + r + 63) (c := 64) rfl rfl (by omega) (by exact congrArg (Value.int .i64) (quoC (a := 1 + r + 63) (c := 64) (q := 2) (by omega) (by omega) (by omega) (by omega) (by omega)).symm) rfl) (
    AllOK.cons (eM (6) (1 + r) (6 * (1 + r)) (by omega)) (
    AllOK.cons (eA (82) (6 * (1 + r)) (82 + 6 * (1 + r) + 0) (by omega)) (
    AllOK.cons (eA (82 + 6 * (1 + r) + 0) (1) (82 + 6 * (1 + r) + 1) (by omega)) (
    AllOK.cons (eA (82 + 6 * (1 + r) + 1) (2) (82 + 6 * (1 + r) + 3) (by omega)) (
    AllOK.cons (ent_rem (a := (j : Int)) (c := 64) rfl rfl (by omega) (by exact congrArg (Value.int .i64) (pg_tmod1 (by omega) (by omega)).symm) rfl) (
    AllOK.cons (egeqT (j) (1 + q) (by omega)) (
    AllOK.cons (eA (j) (1) (j + 1) (by omega)) (
    AllOK.nil)))))))))))))
  have hF : ∀ e ∈ Pg2r1fIbf, FnOK Tryz.prog (sgV (Pg2l r q pg kk mk mo a0 a1 b0 b1 u0 u1 (j : Int))) w w.heap.size e := FnsOK.cons (FnOK.mk rfl fun w' _ => Mpaw_any w' (Nat.zero_le _)) (FnsOK.cons (pg_fnB (a := b1) (n := (j - 64)) hc1 (by omega) rfl (by exact congrArg (Value.int .i64) (show (j : Int) - 64 = ((j - 64 : Nat) : Int) by omega)) hb) (FnsOK.cons (pg_fnB (a := a1) (n := (j - 64)) ha1 (by omega) rfl (by exact congrArg (Value.int .i64) (show (j : Int) - 64 = ((j - 64 : Nat) : Int) by omega)) hb2) (FnsOK.nil)))
  have hS : SpOK (sgV (Pg2l r q pg kk mk mo a0 a1 b0 b1 u0 u1 (j : Int))) 4 := (pg_sp (P := 1 + r) (m := 2) (by omega) rfl (by omega) (by omega) (by intro j hj; rcases (show j = 0 ∨ j = 1 ∨ j = 2 ∨ j = 3 by omega) with rfl | rfl | rfl | rfl <;> exact ⟨_, rfl, by omega⟩))
  have hO : OrcOK Tryz.prog (sgV (Pg2l r q pg kk mk mo a0 a1 b0 b1 u0 u1 (j : Int))) w w.heap.size Pg2r1fIbO := orcS_ok hE (sgV_ne hTL) hF hS (rdG_ok hσ ⟨_, rfl, by omega⟩) noMkS_ok
  exact (Pg2r1fIbp _ hσ _ _ hO).to2.weak (weak_of (weakOK_pre (n := 19) (l2 := Pg2l r q pg kk mk mo a0 a1 b0 b1 u0 u1 ((j + 1 : Nat) : Int)) hTL rfl rfl (pairs_tok (a := 20) (b := 19) (by exact congrArg (Value.int .i64) (show (j : Int) + 1 = ((j + 1 : Nat) : Int) by omega)) pairs_nil)) Pg2r1fIbc)
def Pg2r1tIae : List Ent := [⟨.bin .lss 3, [kf 19, kf 9], .bool true⟩,
  ⟨.bin .quo 3, [kf 19, vI 64], vI 1⟩,
  ⟨.bin .geq 3, [kf 9, vI 1], .bool true⟩,
  ⟨.bin .leq 3, [kf 9, vI 4096], .bool true⟩,
  ⟨.bin .add 3, [kf 9, vI 63], kf 18⟩,
  ⟨.bin .quo 3, [kf 18, vI 64], vI 2⟩,
  ⟨.bin .mul 3, [vI 6, kf 9], kf 17⟩,
  ⟨.bin .add 3, [vI 82, kf 17], kf 1⟩,
  ⟨.bin .add 3, [kf 1, vI 1], kf 2⟩,
  ⟨.bin .add 3, [kf 2, vI 2], kf 4⟩,
  ⟨.bin .rem 3, [kf 19, vI 64], kf 21⟩,
  ⟨.bin .geq 3, [kf 19, kf 10], .bool true⟩,
  ⟨.bin .add 3, [kf 19, vI 1], kf 20⟩]
def Pg2r1tIaf : List FnEnt := [⟨14, [], .bool true⟩,
  ⟨12, [kf 14, kf 21], .bool true⟩,
  ⟨12, [kf 12, kf 21], .bool true⟩]
def Pg2r1tIaZv0 : List Value := [vA, vA, vA, vA, vX, vX, vX, vX, vA, vP 0 0, vP 3 0, vP 4 0, kf 10, vP 5 0, vA]
def Pg2r1tIaZv1 : List Value := [vA, vA, vA, vA, vA, vA, kf 20, kf 4, vB true, vA, vA, vA, vA, vG [vA, vA, vA], vT [vA, vA]]
def Pg2r1tIaZv2 : List Value := [vG [vA, vA, vA], vT [vA, vA], vA, vA, vA, vA, vA, vA, vA, vA, vA, vA, vA, vA, vA]
def Pg2r1tIaZv3 : List Value := [vA, vA, vA, vA, vA, vA, vA, vA, vA, vA, vA, vA, vA, vA, vA]
def Pg2r1tIaZv4 : List Value := [vA, vA, vA, vA, vT [vA, vA], vA, vA, vA, vG [vA, vA], vA, vT [vA, vA], vA, vA, vA, vA]
def Pg2r1tIaZv5 : List Value := [vA, vA, vA, vA, vA, vA, vA, vA, vA, vG [vA, vA], vA, vA, vA, vA, vA]
def Pg2r1tIaZv6 : List Value := [vA, vA, vA, vA, vA, vA, vA, vA, vA, vA, vA, vA, vG [vA, vA, vA, vA], vT [vA, vA], vA]
def Pg2r1tIaZv7 : List Value := [vT [vA, vA], vA, vA, vA, vA, vA, vA, vA, vA, kf 19, vP 0 0, kf 9, vB true, kf 19, kf 20]
def Pg2r1tIaZv8 : List Value := [vT [kf 4, vB true], vP 4 0, vP 4 0, vP 4 2, vG [kf 9, vI 1], kf 19, vI 1, vT [kf 4, vB true], kf 4, vB true, vP 3 0, kf 4, kf 14, kf 19, kf 21]
def Pg2r1tIaZv9 : List Value := [vB true, kf 19, kf 10, vB true, vB true, kf 19, vI 1, vP 5 1, kf 12, kf 19, kf 21, vB true, vB true, vB false, vX]
def Pg2r1tIaZ : List Value := Pg2r1tIaZv0 ++ (Pg2r1tIaZv1 ++ (Pg2r1tIaZv2 ++ (Pg2r1tIaZv3 ++ (Pg2r1tIaZv4 ++ (Pg2r1tIaZv5 ++ (Pg2r1tIaZv6 ++ (Pg2r1tIaZv7 ++ (Pg2r1tIaZv8 ++ Pg2r1tIaZv9))))))))
def Pg2r1tIaO : Orc := orcS Pg2r1tIae Pg2r1tIaf 4 rdG noMkS
theorem Pg2r1tIap : PgS Pg2r1tIaO ((inL (inB (seqR (seqL (pgC 11)))))) Pg2Ia Pg2H .normal Pg2r1tIaZ Pg2H := pgS_ev [0, 1, 2, 3, 4, 5] (by decide +kernel)
theorem Pg2r1tIac : shrOk (fun j => decide (j < 19)) [(kf 20, kf 19)] 0 [0, 1, 2, 3, 4, 5] Pg2r1tIaZ Pg2H Pg2Ib Pg2H = true := by decide +kernel
set_option maxHeartbeats 2000000 in
theorem Pg2r1tIa_s (r q pg kk : Int) (mk mo a0 a1 b0 b1 u0 u1 : Nat) (j : Nat) (w : World) (hr : 0 ≤ r ∧ r < 128) (hq : 0 ≤ q ∧ q ≤ r) (hm : 64 ≤ r) (hmk : mk < 18446744073709551616) (ha0 : a0 < 18446744073709551616) (ha1 : a1 < 18446744073709551616) (hc0 : b0 < 18446744073709551616) (hc1 : b1 < 18446744073709551616) (hj : (j : Int) < 1 + r) (hj1 : 1 ≤ j) (hw : 64 ≤ j) (hn : 1 + q ≤ (j : Int)) (hb : b1.testBit (j - 64) = true) (hb2 : a1.testBit (j - 64) = true) : Seg2 Tryz.prog (sgV (Pg2l r q pg kk mk mo a0 a1 b0 b1 u0 u1 (j : Int))) (sgV (Pg2l r q pg kk mk mo a0 a1 b0 b1 u0 u1 ((j + 1 : Nat) : Int))) w w.heap.size 0 (.code ((inL (inB (seqR (seqL (pgC 11))))))) Pg2Ia Pg2H .normal Pg2Ib Pg2H := by
  have hTL := Pg2l_tok r q pg kk mk mo a0 a1 b0 b1 u0 u1 (j : Int)
  have hσ := sgV_one hTL
  have hE : AllOK Tryz.prog (sgV (Pg2l r q pg kk mk mo a0 a1 b0 b1 u0 u1 (j : Int))) Pg2r1tIae := AllOK.cons (elssT (j) (1 + r) (by omega)) (
    AllOK.cons (ent_quo (a := (j : Int)) (c := 64) rfl rfl (by omega) (by exact congrArg (Value.int .i64) (quoC (a := (j : Int)) (c := 64) (q := 1) (by omega) (by omega) (by omega) (by omega) (by omega)).symm) rfl) (
    AllOK.cons (egeqT (1 + r) (1) (by omega)) (
    AllOK.cons (eleqT (1 + r) (4096) (by omega)) (
    AllOK.cons (eA (1 + r) (63) (1 + r + 63) (by omega)) (
    AllOK.cons (ent_quo (a := 1 + r + 63) (c := 64) rfl rfl (by omega) (by exact congrArg (Value.int .i64) (quoC (a := 1 + r + 63) (c := 64) (q := 2) (by omega) (by omega) (by omega) (by omega) (by omega)).symm) rfl) (
    AllOK.cons (eM (6) (1 + r) (6 * (1 + r)) (by omega)) (
    AllOK.cons (eA (82) (6 * (1 + r)) (82 + 6 * (1 + r) + 0) (by omega)) (
    AllOK.cons (eA (82 + 6 * (1 + r) + 0) (1) (82 + 6 * (1 + r) + 1) (by omega)) (
    AllOK.cons (eA (82 + 6 * (1 + r) + 1) (2) (82 + 6 * (1 + r) + 3) (by omega)) (
    AllOK.cons (ent_rem (a := (j : Int)) (c := 64) rfl rfl (by omega) (by exact congrArg (Value.int .i64) (pg_tmod1 (by omega) (by omega)).symm) rfl) (
    AllOK.cons (egeqT (j) (1 + q) (by omega)) (
    AllOK.cons (eA (j) (1) (j + 1) (by omega)) (
    AllOK.nil)))))))))))))
  have hF : ∀ e ∈ Pg2r1tIaf, FnOK Tryz.prog (sgV (Pg2l r q pg kk mk mo a0 a1 b0 b1 u0 u1 (j : Int))) w w.heap.size e := FnsOK.cons (FnOK.mk rfl fun w' _ => Mpaw_any w' (Nat.zero_le _)) (FnsOK.cons (pg_fnB (a := b1) (n := (j - 64)) hc1 (by omega) rfl (by exact congrArg (Value.int .i64) (show (j : Int) - 64 = ((j - 64 : Nat) : Int) by omega)) hb) (FnsOK.cons (pg_fnB (a := a1) (n := (j - 64)) ha1 (by omega) rfl (by exact congrArg (Value.int .i64) (show (j : Int) - 64 = ((j - 64 : Nat) : Int) by omega)) hb2) (FnsOK.nil)))
  have hS : SpOK (sgV (Pg2l r q pg kk mk mo a0 a1 b0 b1 u0 u1 (j : Int))) 4 := (pg_sp (P := 1 + r) (m := 2) (by omega) rfl (by omega) (by omega) (by intro j hj; rcases (show j = 0 ∨ j = 1 ∨ j = 2 ∨ j = 3 by omega) with rfl | rfl | rfl | rfl <;> exact ⟨_, rfl, by omega⟩))
  have hO : OrcOK Tryz.prog (sgV (Pg2l r q pg kk mk mo a0 a1 b0 b1 u0 u1 (j : Int))) w w.heap.size Pg2r1tIaO := orcS_ok hE (sgV_ne hTL) hF hS (rdG_ok hσ ⟨_, rfl, by omega⟩) noMkS_ok
  exact (Pg2r1tIap _ hσ _ _ hO).to2.weak (weak_of (weakOK_pre (n := 19) (l2 := Pg2l r q pg kk mk mo a0 a1 b0 b1 u0 u1 ((j + 1 : Nat) : Int)) hTL rfl rfl (pairs_tok (a := 20) (b := 19) (by exact congrArg (Value.int .i64) (show (j : Int) + 1 = ((j + 1 : Nat) : Int) by omega)) pairs_nil)) Pg2r1tIac)
def Pg2r1tIbe : List Ent := [⟨.bin .lss 3, [kf 19, kf 9], .bool true⟩,
  ⟨.bin .quo 3, [kf 19, vI 64], vI 1⟩,
  ⟨.bin .geq 3, [kf 9, vI 1], .bool true⟩,
  ⟨.bin .leq 3, [kf 9, vI 4096], .bool true⟩,
  ⟨.bin .add 3, [kf 9, vI 63], kf 18⟩,
  ⟨.bin .quo 3, [kf 18, vI 64], vI 2⟩,
  ⟨.bin .mul 3, [vI 6, kf 9], kf 17⟩,
  ⟨.bin .add 3, [vI 82, kf 17], kf 1⟩,
  ⟨.bin .add 3, [kf 1, vI 1], kf 2⟩,
  ⟨.bin .add 3, [kf 2, vI 2], kf 4⟩,
  ⟨.bin .rem 3, [kf 19, vI 64], kf 21⟩,
  ⟨.bin .geq 3, [kf 19, kf 10], .bool true⟩,
  ⟨.bin .add 3, [kf 19, vI 1], kf 20⟩]
def Pg2r1tIbf : List FnEnt := [⟨14, [], .bool true⟩,
  ⟨12, [kf 14, kf 21], .bool true⟩,
  ⟨12, [kf 12, kf 21], .bool true⟩]
def Pg2r1tIbZv0 : List Value := [vA, vA, vA, vA, vX, vX, vX, vX, vA, vP 0 0, vP 3 0, vP 4 0, kf 10, vP 5 0, vA]
def Pg2r1tIbZv1 : List Value := [vA, vA, vA, vA, vA, vA, kf 20, kf 4, vB true, vA, vA, vA, vA, vG [vA, vA, vA], vT [vA, vA]]
def Pg2r1tIbZv2 : List Value := [vG [vA, vA, vA], vT [vA, vA], vA, vA, vA, vA, vA, vA, vA, vA, vA, vA, vA, vA, vA]
def Pg2r1tIbZv3 : List Value := [vA, vA, vA, vA, vA, vA, vA, vA, vA, vA, vA, vA, vA, vA, vA]
def Pg2r1tIbZv4 : List Value := [vA, vA, vA, vA, vT [vA, vA], vA, vA, vA, vG [vA, vA], vA, vT [vA, vA], vA, vA, vA, vA]
def Pg2r1tIbZv5 : List Value := [vA, vA, vA, vA, vA, vA, vA, vA, vA, vG [vA, vA], vA, vA, vA, vA, vA]
def Pg2r1tIbZv6 : List Value := [vA, vA, vA, vA, vA, vA, vA, vA, vA, vA, vA, vA, vG [vA, vA, vA, vA], vT [vA, vA], vA]
def Pg2r1tIbZv7 : List Value := [vT [vA, vA], vA, vA, vA, vA, vA, vA, vA, vA, kf 19, vP 0 0, kf 9, vB true, kf 19, kf 20]
def Pg2r1tIbZv8 : List Value := [vT [kf 4, vB true], vP 4 0, vP 4 0, vP 4 2, vG [kf 9, vI 1], kf 19, vI 1, vT [kf 4, vB true], kf 4, vB true, vP 3 0, kf 4, kf 14, kf 19, kf 21]
def Pg2r1tIbZv9 : List Value := [vB true, kf 19, kf 10, vB true, vB true, kf 19, vI 1, vP 5 1, kf 12, kf 19, kf 21, vB true, vB true, vB false, vX]
def Pg2r1tIbZ : List Value := Pg2r1tIbZv0 ++ (Pg2r1tIbZv1 ++ (Pg2r1tIbZv2 ++ (Pg2r1tIbZv3 ++ (Pg2r1tIbZv4 ++ (Pg2r1tIbZv5 ++ (Pg2r1tIbZv6 ++ (Pg2r1tIbZv7 ++ (Pg2r1tIbZv8 ++ Pg2r1tIbZv9))))))))
def Pg2r1tIbO : Orc := orcS Pg2r1tIbe Pg2r1tIbf 4 rdG noMkS
theorem Pg2r1tIbp : PgS Pg2r1tIbO ((inL (inB (seqR (seqL (pgC 11)))))) Pg2Ib Pg2H .normal Pg2r1tIbZ Pg2H := pgS_ev [0, 1, 2, 3, 4, 5] (by decide +kernel)
theorem Pg2r1tIbc : shrOk (fun j => decide (j < 19)) [(kf 20, kf 19)] 0 [0, 1, 2, 3, 4, 5] Pg2r1tIbZ Pg2H Pg2Ib Pg2H = true := by decide +kernel
set_option maxHeartbeats 2000000 in
theorem Pg2r1tIb_s (r q pg kk : Int) (mk mo a0 a1 b0 b1 u0 u1 : Nat) (j : Nat) (w : World) (hr : 0 ≤ r ∧ r < 128) (hq : 0 ≤ q ∧ q ≤ r) (hm : 64 ≤ r) (hmk : mk < 18446744073709551616) (ha0 : a0 < 18446744073709551616) (ha1 : a1 < 18446744073709551616) (hc0 : b0 < 18446744073709551616) (hc1 : b1 < 18446744073709551616) (hj : (j : Int) < 1 + r) (hj1 : 1 ≤ j) (hw : 64 ≤ j) (hn : 1 + q ≤ (j : Int)) (hb : b1.testBit (j - 64) = true) (hb2 : a1.testBit (j - 64) = true) : Seg2 Tryz.prog (sgV (Pg2l r q pg kk mk mo a0 a1 b0 b1 u0 u1 (j : Int))) (sgV (Pg2l r q pg kk mk mo a0 a1 b0 b1 u0 u1 ((j + 1 : Nat) : Int))) w w.heap.size 0 (.code ((inL (inB (seqR (seqL (pgC 11))))))) Pg2Ib Pg2H .normal Pg2Ib Pg2H := by
  have hTL := Pg2l_tok r q pg kk mk mo a0 a1 b0 b1 u0 u1 (j : Int)
  have hσ := sgV_one hTL
  have hE : AllOK Tryz.prog (sgV (Pg2l r q pg kk mk mo a0 a1 b0 b1 u0 u1 (j : Int))) Pg2r1tIbe := AllOK.cons (elssT (j) (1 + r) (by omega)) (
    AllOK.cons (ent_quo (a := (j : Int)) (c := 64) rfl rfl (by omega) (by exact congrArg (Value.int .i64) (quoC (a := (j : Int)) (c := 64) (q := 1) (by omega) (by omega) (by omega) (by omega) (by omega)).symm) rfl) (
    AllOK.cons (egeqT (1 + r) (1) (by omega)) (
    AllOK.cons (eleqT (1 + r) (4096) (by omega)) (
    AllOK.cons (eA (1 + r) (63) (1 + r + 63) (by omega)) (
    AllOK.cons (ent_quo (a := 1 + r + 63) (c := 64) rfl rfl (by omega) (by exact congrArg (Value.int .i64) (quoC (a := 1 + r + 63) (c := 64) (q := 2) (by omega) (by omega) (by omega) (by omega) (by omega)).symm) rfl) (
    AllOK.cons (eM (6) (1 + r) (6 * (1 + r)) (by omega)) (
    AllOK.cons (eA (82) (6 * (1 + r)) (82 + 6 * (1 + r) + 0) (by omega)) (
    AllOK.cons (eA (82 + 6 * (1 + r) + 0) (1) (82 + 6 * (1 + r) + 1) (by omega)) (
    AllOK.cons (eA (82 + 6 * (1 + r) + 1) (2) (82 + 6 * (1 + r) + 3) (by omega)) (
    AllOK.cons (ent_rem (a := (j : Int)) (c := 64) rfl rfl (by omega) (by exact congrArg (Value.int .i64) (pg_tmod1 (by omega) (by omega)).symm) rfl) (
    AllOK.cons (egeqT (j) (1 + q) (by omega)) (
    AllOK.cons (eA (j) (1) (j + 1) (by omega)) (
    AllOK.nil)))))))))))))
  have hF : ∀ e ∈ Pg2r1tIbf, FnOK Tryz.prog (sgV (Pg2l r q pg kk mk mo a0 a1 b0 b1 u0 u1 (j : Int))) w w.heap.size e := FnsOK.cons (FnOK.mk rfl fun w' _ => Mpaw_any w' (Nat.zero_le _)) (FnsOK.cons (pg_fnB (a := b1) (n := (j - 64)) hc1 (by omega) rfl (by exact congrArg (Value.int .i64) (show (j : Int) - 64 = ((j - 64 : Nat) : Int) by omega)) hb) (FnsOK.cons (pg_fnB (a := a1) (n := (j - 64)) ha1 (by omega) rfl (by exact congrArg (Value.int .i64) (show (j : Int) - 64 = ((j - 64 : Nat) : Int) by omega)) hb2) (FnsOK.nil)))
  have hS : SpOK (sgV (Pg2l r q pg kk mk mo a0 a1 b0 b1 u0 u1 (j : Int))) 4 := (pg_sp (P := 1 + r) (m := 2) (by omega) rfl (by omega) (by omega) (by intro j hj; rcases (show j = 0 ∨ j = 1 ∨ j = 2 ∨ j = 3 by omega) with rfl | rfl | rfl | rfl <;> exact ⟨_, rfl, by omega⟩))
  have hO : OrcOK Tryz.prog (sgV (Pg2l r q pg kk mk mo a0 a1 b0 b1 u0 u1 (j : Int))) w w.heap.size Pg2r1tIbO := orcS_ok hE (sgV_ne hTL) hF hS (rdG_ok hσ ⟨_, rfl, by omega⟩) noMkS_ok
  exact (Pg2r1tIbp _ hσ _ _ hO).to2.weak (weak_of (weakOK_pre (n := 19) (l2 := Pg2l r q pg kk mk mo a0 a1 b0 b1 u0 u1 ((j + 1 : Nat) : Int)) hTL rfl rfl (pairs_tok (a := 20) (b := 19) (by exact congrArg (Value.int .i64) (show (j : Int) + 1 = ((j + 1 : Nat) : Int) by omega)) pairs_nil)) Pg2r1tIbc)
def Pg2xIae : List Ent := [⟨.bin .lss 3, [kf 19, kf 9], .bool false⟩]
def Pg2xIaf : List FnEnt := [⟨14, [], .bool true⟩]
def Pg2xIaZv0 : List Value := [vA, vA, vA, vA, vX, vX, vX, vX, vA, vP 0 0, vP 3 0, vP 4 0, kf 10, vP 5 0, vA]
def Pg2xIaZv1 : List Value := [vA, vA, vA, vA, vA, vA, kf 19, vA, vA, vA, vA, vA, vA, vG [vA, vA, vA], vT [vA, vA]]
def Pg2xIaZv2 : List Value := [vG [vA, vA, vA], vT [vA, vA], vA, vA, vA, vA, vA, vA, vA, vA, vA, vA, vA, vA, vA]
def Pg2xIaZv3 : List Value := [vA, vA, vA, vA, vA, vA, vA, vA, vA, vA, vA, vA, vA, vA, vA]
def Pg2xIaZv4 : List Value := [vA, vA, vA, vA, vT [vA, vA], vA, vA, vA, vG [vA, vA], vA, vT [vA, vA], vA, vA, vA, vA]
def Pg2xIaZv5 : List Value := [vA, vA, vA, vA, vA, vA, vA, vA, vA, vG [vA, vA], vA, vA, vA, vA, vA]
def Pg2xIaZv6 : List Value := [vA, vA, vA, vA, vA, vA, vA, vA, vA, vA, vA, vA, vG [vA, vA, vA, vA], vT [vA, vA], vA]
def Pg2xIaZv7 : List Value := [vT [vA, vA], vA, vA, vA, vA, vA, vA, vA, vA, kf 19, vP 0 0, kf 9, vB false, vA, vA]
def Pg2xIaZv8 : List Value := [vT [vA, vA], vA, vA, vA, vG [vA, vA], vA, vA, vT [vA, vA], vA, vA, vA, vA, vA, vA, vA]
def Pg2xIaZv9 : List Value := [vA, vA, vA, vA, vA, vX, vX, vX, vX, vX, vX, vX, vA, vA, vX]
def Pg2xIaZ : List Value := Pg2xIaZv0 ++ (Pg2xIaZv1 ++ (Pg2xIaZv2 ++ (Pg2xIaZv3 ++ (Pg2xIaZv4 ++ (Pg2xIaZv5 ++ (Pg2xIaZv6 ++ (Pg2xIaZv7 ++ (Pg2xIaZv8 ++ Pg2xIaZv9))))))))
def Pg2xIaO : Orc := orcS Pg2xIae Pg2xIaf 4 rdG noMkS
theorem Pg2xIap : PgS Pg2xIaO ((inL (inB (seqR (seqL (pgC 11)))))) Pg2Ia Pg2H (.exit 4) Pg2xIaZ Pg2H := pgS_ev [0, 1, 2, 3, 4, 5] (by decide +kernel)
def Pg2Xav0 : List Value := [vA, vA, vA, vA, vX, vX, vX, vX, vA, vP 0 0, vP 3 0, vP 4 0, kf 10, vP 5 0, vA]
def Pg2Xav1 : List Value := [vA, vA, vA, vA, vA, vA, vA, vA, vA, vA, vA, vA, vA, vG [vA, vA, vA], vT [vA, vA]]
def Pg2Xav2 : List Value := [vG [vA, vA, vA], vT [vA, vA], vA, vA, vA, vA, vA, vA, vA, vA, vA, vA, vA, vA, vA]
def Pg2Xav3 : List Value := [vA, vA, vA, vA, vA, vA, vA, vA, vA, vA, vA, vA, vA, vA, vA]
def Pg2Xav4 : List Value := [vA, vA, vA, vA, vT [vA, vA], vA, vA, vA, vG [vA, vA], vA, vT [vA, vA], vA, vA, vA, vA]
def Pg2Xav5 : List Value := [vA, vA, vA, vA, vA, vA, vA, vA, vA, vG [vA, vA], vA, vA, vA, vA, vA]
def Pg2Xav6 : List Value := [vA, vA, vA, vA, vA, vA, vA, vA, vA, vA, vA, vA, vG [vA, vA, vA, vA], vT [vA, vA], vA]
def Pg2Xav7 : List Value := [vT [vA, vA], vA, vA, vA, vA, vA, vA, vA, vA, vA, vA, vA, vA, vA, vA]
def Pg2Xav8 : List Value := [vT [vA, vA], vA, vA, vA, vG [vA, vA], vA, vA, vT [vA, vA], vA, vA, vA, vA, vA, vA, vA]
def Pg2Xav9 : List Value := [vA, vA, vA, vA, vA, vX, vX, vX, vX, vX, vX, vX, vA, vA, vX]
def Pg2Xa : List Value := Pg2Xav0 ++ (Pg2Xav1 ++ (Pg2Xav2 ++ (Pg2Xav3 ++ (Pg2Xav4 ++ (Pg2Xav5 ++ (Pg2Xav6 ++ (Pg2Xav7 ++ (Pg2Xav8 ++ Pg2Xav9))))))))
theorem Pg2xIac : shrOk (fun j => decide (j < 19)) [] 0 [0, 1, 2, 3, 4, 5] Pg2xIaZ Pg2H Pg2Xa Pg2H = true := by decide +kernel
set_option maxHeartbeats 2000000 in
theorem Pg2xIa_s (r q pg kk : Int) (mk mo a0 a1 b0 b1 u0 u1 : Nat) (j : Nat) (w : World) (hr : 0 ≤ r ∧ r < 128) (hq : 0 ≤ q ∧ q ≤ r) (hm : 64 ≤ r) (hmk : mk < 18446744073709551616) (ha0 : a0 < 18446744073709551616) (ha1 : a1 < 18446744073709551616) (hc0 : b0 < 18446744073709551616) (hc1 : b1 < 18446744073709551616) (hj : (j : Int) = 1 + r) : Seg2 Tryz.prog (sgV (Pg2l r q pg kk mk mo a0 a1 b0 b1 u0 u1 (j : Int))) (sgV (Pg2l r q pg kk mk mo a0 a1 b0 b1 u0 u1 (j : Int))) w w.heap.size 0 (.code ((inL (inB (seqR (seqL (pgC 11))))))) Pg2Ia Pg2H (.exit 4) Pg2Xa Pg2H := by
  have hTL := Pg2l_tok r q pg kk mk mo a0 a1 b0 b1 u0 u1 (j : Int)
  have hσ := sgV_one hTL
  have hE : AllOK Tryz.prog (sgV (Pg2l r q pg kk mk mo a0 a1 b0 b1 u0 u1 (j : Int))) Pg2xIae := AllOK.cons (elssF (j) (1 + r) (by omega)) (
    AllOK.nil)
  have hF : ∀ e ∈ Pg2xIaf, FnOK Tryz.prog (sgV (Pg2l r q pg kk mk mo a0 a1 b0 b1 u0 u1 (j : Int))) w w.heap.size e := FnsOK.cons (FnOK.mk rfl fun w' _ => Mpaw_any w' (Nat.zero_le _)) (FnsOK.nil)
  have hS : SpOK (sgV (Pg2l r q pg kk mk mo a0 a1 b0 b1 u0 u1 (j : Int))) 4 := (pg_sp (P := 1 + r) (m := 2) (by omega) rfl (by omega) (by omega) (by intro j hj; rcases (show j = 0 ∨ j = 1 ∨ j = 2 ∨ j = 3 by omega) with rfl | rfl | rfl | rfl <;> exact ⟨_, rfl, by omega⟩))
  have hO : OrcOK Tryz.prog (sgV (Pg2l r q pg kk mk mo a0 a1 b0 b1 u0 u1 (j : Int))) w w.heap.size Pg2xIaO := orcS_ok hE (sgV_ne hTL) hF hS (rdG_ok hσ ⟨_, rfl, by omega⟩) noMkS_ok
  exact (Pg2xIap _ hσ _ _ hO).to2.weak (weak_of (weakOK_pre (n := 19) (l2 := Pg2l r q pg kk mk mo a0 a1 b0 b1 u0 u1 (j : Int)) hTL rfl rfl pairs_nil) Pg2xIac)
def Pg2yIae : List Ent := []
def Pg2yIaf : List FnEnt := [⟨14, [], .bool true⟩]
def Pg2yIaZv0 : List Value := [vA, vA, vA, vA, vX, vX, vX, vX, vB true, vP 0 0, vP 3 0, vP 4 0, kf 10, vP 5 0, vA]
def Pg2yIaZv1 : List Value := [vA, vA, vA, vA, vA, vA, vA, vA, vA, vA, vA, vA, vA, vG [vA, vA, vA], vT [vA, vA]]
def Pg2yIaZv2 : List Value := [vG [vA, vA, vA], vT [vA, vA], vA, vA, vA, vA, vA, vA, vA, vA, vA, vA, vA, vA, vA]
def Pg2yIaZv3 : List Value := [vA, vA, vA, vA, vA, vA, vA, vA, vA, vA, vA, vA, vA, vA, vA]
def Pg2yIaZv4 : List Value := [vA, vA, vA, vA, vT [vA, vA], vA, vA, vA, vG [vA, vA], vA, vT [vA, vA], vA, vA, vA, vA]
def Pg2yIaZv5 : List Value := [vA, vA, vA, vA, vA, vA, vA, vA, vA, vG [vA, vA], vA, vA, vA, vA, vA]
def Pg2yIaZv6 : List Value := [vA, vA, vA, vA, vA, vA, vA, vA, vA, vA, vA, vA, vG [vA, vA, vA, vA], vT [vA, vA], vA]
def Pg2yIaZv7 : List Value := [vT [vA, vA], vA, vA, vA, vA, vA, vA, vA, vA, vA, vA, vA, vA, vA, vA]
def Pg2yIaZv8 : List Value := [vT [vA, vA], vA, vA, vA, vG [vA, vA], vA, vA, vT [vA, vA], vA, vA, vA, vA, vA, vA, vA]
def Pg2yIaZv9 : List Value := [vA, vA, vA, vA, vA, vX, vX, vX, vX, vX, vX, vX, vA, vA, vB true]
def Pg2yIaZ : List Value := Pg2yIaZv0 ++ (Pg2yIaZv1 ++ (Pg2yIaZv2 ++ (Pg2yIaZv3 ++ (Pg2yIaZv4 ++ (Pg2yIaZv5 ++ (Pg2yIaZv6 ++ (Pg2yIaZv7 ++ (Pg2yIaZv8 ++ Pg2yIaZv9))))))))
def Pg2yIaO : Orc := orcS Pg2yIae Pg2yIaf 4 rdG noMkS
theorem Pg2yIap : PgS Pg2yIaO (pgC 12) Pg2Xa Pg2H .ret Pg2yIaZ Pg2H := pgS_ev [0, 1, 2, 3, 4, 5] (by decide +kernel)
set_option maxHeartbeats 2000000 in
theorem Pg2yIa_s (r q pg kk : Int) (mk mo a0 a1 b0 b1 u0 u1 : Nat) (j : Nat) (w : World) (hr : 0 ≤ r ∧ r < 128) (hq : 0 ≤ q ∧ q ≤ r) (hm : 64 ≤ r) (hmk : mk < 18446744073709551616) (ha0 : a0 < 18446744073709551616) (ha1 : a1 < 18446744073709551616) (hc0 : b0 < 18446744073709551616) (hc1 : b1 < 18446744073709551616)  : Seg2 Tryz.prog (sgV (Pg2l r q pg kk mk mo a0 a1 b0 b1 u0 u1 (j : Int))) (sgV (Pg2l r q pg kk mk mo a0 a1 b0 b1 u0 u1 (j : Int))) w w.heap.size 0 (.code (pgC 12)) Pg2Xa Pg2H .ret Pg2yIaZ Pg2H := by
  have hTL := Pg2l_tok r q pg kk mk mo a0 a1 b0 b1 u0 u1 (j : Int)
  have hσ := sgV_one hTL
  have hE : AllOK Tryz.prog (sgV (Pg2l r q pg kk mk mo a0 a1 b0 b1 u0 u1 (j : Int))) Pg2yIae := AllOK.nil
  have hF : ∀ e ∈ Pg2yIaf, FnOK Tryz.prog (sgV (Pg2l r q pg kk mk mo a0 a1 b0 b1 u0 u1 (j : Int))) w w.heap.size e := FnsOK.cons (FnOK.mk rfl fun w' _ => Mpaw_any w' (Nat.zero_le _)) (FnsOK.nil)
  have hS : SpOK (sgV (Pg2l r q pg kk mk mo a0 a1 b0 b1 u0 u1 (j : Int))) 4 := (pg_sp (P := 1 + r) (m := 2) (by omega) rfl (by omega) (by omega) (by intro j hj; rcases (show j = 0 ∨ j = 1 ∨ j = 2 ∨ j = 3 by omega) with rfl | rfl | rfl | rfl <;> exact ⟨_, rfl, by omega⟩))
  have hO : OrcOK Tryz.prog (sgV (Pg2l r q pg kk mk mo a0 a1 b0 b1 u0 u1 (j : Int))) w w.heap.size Pg2yIaO := orcS_ok hE (sgV_ne hTL) hF hS (rdG_ok hσ ⟨_, rfl, by omega⟩) noMkS_ok
  exact (Pg2yIap _ hσ _ _ hO).to2
theorem Pg2yIaret : retVal Tryz.prog Tryz.f3 (mkA Pg2yIaZ).tmps (mkW Pg2H) = some (.bool true) := retTrue_eq (by decide +kernel)
def Pg2xIbe : List Ent := [⟨.bin .lss 3, [kf 19, kf 9], .bool false⟩]
def Pg2xIbf : List FnEnt := [⟨14, [], .bool true⟩]
def Pg2xIbZv0 : List Value := [vA, vA, vA, vA, vX, vX, vX, vX, vA, vP 0 0, vP 3 0, vP 4 0, kf 10, vP 5 0, vA]
def Pg2xIbZv1 : List Value := [vA, vA, vA, vA, vA, vA, kf 19, vA, vA, vA, vA, vA, vA, vG [vA, vA, vA], vT [vA, vA]]
def Pg2xIbZv2 : List Value := [vG [vA, vA, vA], vT [vA, vA], vA, vA, vA, vA, vA, vA, vA, vA, vA, vA, vA, vA, vA]
def Pg2xIbZv3 : List Value := [vA, vA, vA, vA, vA, vA, vA, vA, vA, vA, vA, vA, vA, vA, vA]
def Pg2xIbZv4 : List Value := [vA, vA, vA, vA, vT [vA, vA], vA, vA, vA, vG [vA, vA], vA, vT [vA, vA], vA, vA, vA, vA]
def Pg2xIbZv5 : List Value := [vA, vA, vA, vA, vA, vA, vA, vA, vA, vG [vA, vA], vA, vA, vA, vA, vA]
def Pg2xIbZv6 : List Value := [vA, vA, vA, vA, vA, vA, vA, vA, vA, vA, vA, vA, vG [vA, vA, vA, vA], vT [vA, vA], vA]
def Pg2xIbZv7 : List Value := [vT [vA, vA], vA, vA, vA, vA, vA, vA, vA, vA, kf 19, vP 0 0, kf 9, vB false, vA, vA]
def Pg2xIbZv8 : List Value := [vT [vA, vA], vA, vA, vA, vG [vA, vA], vA, vA, vT [vA, vA], vA, vA, vA, vA, vA, vA, vA]
def Pg2xIbZv9 : List Value := [vA, vA, vA, vA, vA, vA, vA, vA, vA, vA, vA, vA, vA, vA, vX]
def Pg2xIbZ : List Value := Pg2xIbZv0 ++ (Pg2xIbZv1 ++ (Pg2xIbZv2 ++ (Pg2xIbZv3 ++ (Pg2xIbZv4 ++ (Pg2xIbZv5 ++ (Pg2xIbZv6 ++ (Pg2xIbZv7 ++ (Pg2xIbZv8 ++ Pg2xIbZv9))))))))
def Pg2xIbO : Orc := orcS Pg2xIbe Pg2xIbf 4 rdG noMkS
theorem Pg2xIbp : PgS Pg2xIbO ((inL (inB (seqR (seqL (pgC 11)))))) Pg2Ib Pg2H (.exit 4) Pg2xIbZ Pg2H := pgS_ev [0, 1, 2, 3, 4, 5] (by decide +kernel)
def Pg2Xbv0 : List Value := [vA, vA, vA, vA, vX, vX, vX, vX, vA, vP 0 0, vP 3 0, vP 4 0, kf 10, vP 5 0, vA]
def Pg2Xbv1 : List Value := [vA, vA, vA, vA, vA, vA, vA, vA, vA, vA, vA, vA, vA, vG [vA, vA, vA], vT [vA, vA]]
def Pg2Xbv2 : List Value := [vG [vA, vA, vA], vT [vA, vA], vA, vA, vA, vA, vA, vA, vA, vA, vA, vA, vA, vA, vA]
def Pg2Xbv3 : List Value := [vA, vA, vA, vA, vA, vA, vA, vA, vA, vA, vA, vA, vA, vA, vA]
def Pg2Xbv4 : List Value := [vA, vA, vA, vA, vT [vA, vA], vA, vA, vA, vG [vA, vA], vA, vT [vA, vA], vA, vA, vA, vA]
def Pg2Xbv5 : List Value := [vA, vA, vA, vA, vA, vA, vA, vA, vA, vG [vA, vA], vA, vA, vA, vA, vA]
def Pg2Xbv6 : List Value := [vA, vA, vA, vA, vA, vA, vA, vA, vA, vA, vA, vA, vG [vA, vA, vA, vA], vT [vA, vA], vA]
def Pg2Xbv7 : List Value := [vT [vA, vA], vA, vA, vA, vA, vA, vA, vA, vA, vA, vA, vA, vA, vA, vA]
def Pg2Xbv8 : List Value := [vT [vA, vA], vA, vA, vA, vG [vA, vA], vA, vA, vT [vA, vA], vA, vA, vA, vA, vA, vA, vA]
def Pg2Xbv9 : List Value := [vA, vA, vA, vA, vA, vA, vA, vA, vA, vA, vA, vA, vA, vA, vX]
def Pg2Xb : List Value := Pg2Xbv0 ++ (Pg2Xbv1 ++ (Pg2Xbv2 ++ (Pg2Xbv3 ++ (Pg2Xbv4 ++ (Pg2Xbv5 ++ (Pg2Xbv6 ++ (Pg2Xbv7 ++ (Pg2Xbv8 ++ Pg2Xbv9))))))))
theorem Pg2xIbc : shrOk (fun j => decide (j < 19)) [] 0 [0, 1, 2, 3, 4, 5] Pg2xIbZ Pg2H Pg2Xb Pg2H = true := by decide +kernel
set_option maxHeartbeats 2000000 in
theorem Pg2xIb_s (r q pg kk : Int) (mk mo a0 a1 b0 b1 u0 u1 : Nat) (j : Nat) (w : World) (hr : 0 ≤ r ∧ r < 128) (hq : 0 ≤ q ∧ q ≤ r) (hm : 64 ≤ r) (hmk : mk < 18446744073709551616) (ha0 : a0 < 18446744073709551616) (ha1 : a1 < 18446744073709551616) (hc0 : b0 < 18446744073709551616) (hc1 : b1 < 18446744073709551616) (hj : (j : Int) = 1 + r) : Seg2 Tryz.prog (sgV (Pg2l r q pg kk mk mo a0 a1 b0 b1 u0 u1 (j : Int))) (sgV (Pg2l r q pg kk mk mo a0 a1 b0 b1 u0 u1 (j : Int))) w w.heap.size 0 (.code ((inL (inB (seqR (seqL (pgC 11))))))) Pg2Ib Pg2H (.exit 4) Pg2Xb Pg2H := by
  have hTL := Pg2l_tok r q pg kk mk mo a0 a1 b0 b1 u0 u1 (j : Int)
  have hσ := sgV_one hTL
  have hE : AllOK Tryz.prog (sgV (Pg2l r q pg kk mk mo a0 a1 b0 b1 u0 u1 (j : Int))) Pg2xIbe := AllOK.cons (elssF (j) (1 + r) (by omega)) (
    AllOK.nil)
  have hF : ∀ e ∈ Pg2xIbf, FnOK Tryz.prog (sgV (Pg2l r q pg kk mk mo a0 a1 b0 b1 u0 u1 (j : Int))) w w.heap.size e := FnsOK.cons (FnOK.mk rfl fun w' _ => Mpaw_any w' (Nat.zero_le _)) (FnsOK.nil)
  have hS : SpOK (sgV (Pg2l r q pg kk mk mo a0 a1 b0 b1 u0 u1 (j : Int))) 4 := (pg_sp (P := 1 + r) (m := 2) (by omega) rfl (by omega) (by omega) (by intro j hj; rcases (show j = 0 ∨ j = 1 ∨ j = 2 ∨ j = 3 by omega) with rfl | rfl | rfl | rfl <;> exact ⟨_, rfl, by omega⟩))
  have hO : OrcOK Tryz.prog (sgV (Pg2l r q pg kk mk mo a0 a1 b0 b1 u0 u1 (j : Int))) w w.heap.size Pg2xIbO := orcS_ok hE (sgV_ne hTL) hF hS (rdG_ok hσ ⟨_, rfl, by omega⟩) noMkS_ok
  exact (Pg2xIbp _ hσ _ _ hO).to2.weak (weak_of (weakOK_pre (n := 19) (l2 := Pg2l r q pg kk mk mo a0 a1 b0 b1 u0 u1 (j : Int)) hTL rfl rfl pairs_nil) Pg2xIbc)
def Pg2yIbe : List Ent := []
def Pg2yIbf : List FnEnt := [⟨14, [], .bool true⟩]
def Pg2yIbZv0 : List Value := [vA, vA, vA, vA, vX, vX, vX, vX, vB true, vP 0 0, vP 3 0, vP 4 0, kf 10, vP 5 0, vA]
def Pg2yIbZv1 : List Value := [vA, vA, vA, vA, vA, vA, vA, vA, vA, vA, vA, vA, vA, vG [vA, vA, vA], vT [vA, vA]]
def Pg2yIbZv2 : List Value := [vG [vA, vA, vA], vT [vA, vA], vA, vA, vA, vA, vA, vA, vA, vA, vA, vA, vA, vA, vA]
def Pg2yIbZv3 : List Value := [vA, vA, vA, vA, vA, vA, vA, vA, vA, vA, vA, vA, vA, vA, vA]
def Pg2yIbZv4 : List Value := [vA, vA, vA, vA, vT [vA, vA], vA, vA, vA, vG [vA, vA], vA, vT [vA, vA], vA, vA, vA, vA]
def Pg2yIbZv5 : List Value := [vA, vA, vA, vA, vA, vA, vA, vA, vA, vG [vA, vA], vA, vA, vA, vA, vA]
def Pg2yIbZv6 : List Value := [vA, vA, vA, vA, vA, vA, vA, vA, vA, vA, vA, vA, vG [vA, vA, vA, vA], vT [vA, vA], vA]
def Pg2yIbZv7 : List Value := [vT [vA, vA], vA, vA, vA, vA, vA, vA, vA, vA, vA, vA, vA, vA, vA, vA]
def Pg2yIbZv8 : List Value := [vT [vA, vA], vA, vA, vA, vG [vA, vA], vA, vA, vT [vA, vA], vA, vA, vA, vA, vA, vA, vA]
def Pg2yIbZv9 : List Value := [vA, vA, vA, vA, vA, vA, vA, vA, vA, vA, vA, vA, vA, vA, vB true]
def Pg2yIbZ : List Value := Pg2yIbZv0 ++ (Pg2yIbZv1 ++ (Pg2yIbZv2 ++ (Pg2yIbZv3 ++ (Pg2yIbZv4 ++ (Pg2yIbZv5 ++ (Pg2yIbZv6 ++ (Pg2yIbZv7 ++ (Pg2yIbZv8 ++ Pg2yIbZv9))))))))
def Pg2yIbO : Orc := orcS Pg2yIbe Pg2yIbf 4 rdG noMkS
theorem Pg2yIbp : PgS Pg2yIbO (pgC 12) Pg2Xb Pg2H .ret Pg2yIbZ Pg2H := pgS_ev [0, 1, 2, 3, 4, 5] (by decide +kernel)
set_option maxHeartbeats 2000000 in
theorem Pg2yIb_s (r q pg kk : Int) (mk mo a0 a1 b0 b1 u0 u1 : Nat) (j : Nat) (w : World) (hr : 0 ≤ r ∧ r < 128) (hq : 0 ≤ q ∧ q ≤ r) (hm : 64 ≤ r) (hmk : mk < 18446744073709551616) (ha0 : a0 < 18446744073709551616) (ha1 : a1 < 18446744073709551616) (hc0 : b0 < 18446744073709551616) (hc1 : b1 < 18446744073709551616)  : Seg2 Tryz.prog (sgV (Pg2l r q pg kk mk mo a0 a1 b0 b1 u0 u1 (j : Int))) (sgV (Pg2l r q pg kk mk mo a0 a1 b0 b1 u0 u1 (j : Int))) w w.heap.size 0 (.code (pgC 12)) Pg2Xb Pg2H .ret Pg2yIbZ Pg2H := by
  have hTL := Pg2l_tok r q pg kk mk mo a0 a1 b0 b1 u0 u1 (j : Int)
  have hσ := sgV_one hTL
  have hE : AllOK Tryz.prog (sgV (Pg2l r q pg kk mk mo a0 a1 b0 b1 u0 u1 (j : Int))) Pg2yIbe := AllOK.nil
  have hF : ∀ e ∈ Pg2yIbf, FnOK Tryz.prog (sgV (Pg2l r q pg kk mk mo a0 a1 b0 b1 u0 u1 (j : Int))) w w.heap.size e := FnsOK.cons (FnOK.mk rfl fun w' _ => Mpaw_any w' (Nat.zero_le _)) (FnsOK.nil)
  have hS : SpOK (sgV (Pg2l r q pg kk mk mo a0 a1 b0 b1 u0 u1 (j : Int))) 4 := (pg_sp (P := 1 + r) (m := 2) (by omega) rfl (by omega) (by omega) (by intro j hj; rcases (show j = 0 ∨ j = 1 ∨ j = 2 ∨ j = 3 by omega) with rfl | rfl | rfl | rfl <;> exact ⟨_, rfl, by omega⟩))
  have hO : OrcOK Tryz.prog (sgV (Pg2l r q pg kk mk mo a0 a1 b0 b1 u0 u1 (j : Int))) w w.heap.size Pg2yIbO := orcS_ok hE (sgV_ne hTL) hF hS (rdG_ok hσ ⟨_, rfl, by omega⟩) noMkS_ok
  exact (Pg2yIbp _ hσ _ _ hO).to2
theorem Pg2yIbret : retVal Tryz.prog Tryz.f3 (mkA Pg2yIbZ).tmps (mkW Pg2H) = some (.bool true) := retTrue_eq (by decide +kernel)
theorem Pg2round (r q pg kk : Int) (mk mo a0 a1 b0 b1 u0 u1 : Nat) (j : Nat) (w : World) (hr : 0 ≤ r ∧ r < 128) (hq : 0 ≤ q ∧ q ≤ r) (hm : 64 ≤ r) (hmk : mk < 18446744073709551616) (ha0 : a0 < 18446744073709551616) (ha1 : a1 < 18446744073709551616) (hc0 : b0 < 18446744073709551616) (hc1 : b1 < 18446744073709551616) (hb0 : ∀ i : Nat, i < 64 → (i : Int) < 1 + r → b0.testBit i = (decide ((1 + q : Int) ≤ i) && a0.testBit i)) (hb1 : ∀ i : Nat, i < 64 → (i : Int) + 64 < 1 + r → b1.testBit i = (decide ((1 + q : Int) ≤ (i : Int) + 64) && a1.testBit i)) (hj : (j : Int) < 1 + r) (hj1 : 1 ≤ j) : Seg2 Tryz.prog (sgV (Pg2l r q pg kk mk mo a0 a1 b0 b1 u0 u1 (j : Int))) (sgV (Pg2l r q pg kk mk mo a0 a1 b0 b1 u0 u1 ((j + 1 : Nat) : Int))) w w.heap.size 0 (.code ((inL (inB (seqR (seqL (pgC 11))))))) (if (j : Int) ≤ 1 + q then Pg2Ia else Pg2Ib) Pg2H .normal (if ((j + 1 : Nat) : Int) ≤ 1 + q then Pg2Ia else Pg2Ib) Pg2H := by
  by_cases hw : j < 64
  · have hb := hb0 j hw hj
    by_cases hn : (j : Int) < 1 + q
    · rw [if_pos (by omega), if_pos (by omega)]
      rw [decide_eq_false (by omega), Bool.false_and] at hb
      exact Pg2r0l_s r q pg kk mk mo a0 a1 b0 b1 u0 u1 j w hr hq hm hmk ha0 ha1 hc0 hc1 hj hj1 hw hn hb
    · rw [if_neg (c := ((j + 1 : Nat) : Int) ≤ 1 + q) (by omega)]
      rw [decide_eq_true (by omega), Bool.true_and] at hb
      cases hc : a0.testBit j <;> rw [hc] at hb <;> by_cases he : (j : Int) ≤ 1 + q
      · rw [if_pos he]; exact Pg2r0fIa_s r q pg kk mk mo a0 a1 b0 b1 u0 u1 j w hr hq hm hmk ha0 ha1 hc0 hc1 hj hj1 hw (by omega) hb hc
      · rw [if_neg he]; exact Pg2r0fIb_s r q pg kk mk mo a0 a1 b0 b1 u0 u1 j w hr hq hm hmk ha0 ha1 hc0 hc1 hj hj1 hw (by omega) hb hc
      · rw [if_pos he]; exact Pg2r0tIa_s r q pg kk mk mo a0 a1 b0 b1 u0 u1 j w hr hq hm hmk ha0 ha1 hc0 hc1 hj hj1 hw (by omega) hb hc
      · rw [if_neg he]; exact Pg2r0tIb_s r q pg kk mk mo a0 a1 b0 b1 u0 u1 j w hr hq hm hmk ha0 ha1 hc0 hc1 hj hj1 hw (by omega) hb hc
  · replace hw : 64 ≤ j := by omega
    have hb := hb1 (j - 64) (by omega) (by omega)
    rw [show (((j - 64 : Nat) : Int) + 64) = (j : Int) by omega] at hb
    by_cases hn : (j : Int) < 1 + q
    · rw [if_pos (by omega), if_pos (by omega)]
      rw [decide_eq_false (by omega), Bool.false_and] at hb
      exact Pg2r1l_s r q pg kk mk mo a0 a1 b0 b1 u0 u1 j w hr hq hm hmk ha0 ha1 hc0 hc1 hj hj1 hw hn hb
    · rw [if_neg (c := ((j + 1 : Nat) : Int) ≤ 1 + q) (by omega)]
      rw [decide_eq_true (by omega), Bool.true_and] at hb
      cases hc : a1.testBit (j - 64) <;> rw [hc] at hb <;> by_cases he : (j : Int) ≤ 1 + q
      · rw [if_pos he]; exact Pg2r1fIa_s r q pg kk mk mo a0 a1 b0 b1 u0 u1 j w hr hq hm hmk ha0 ha1 hc0 hc1 hj hj1 hw (by omega) hb hc
      · rw [if_neg he]; exact Pg2r1fIb_s r q pg kk mk mo a0 a1 b0 b1 u0 u1 j w hr hq hm hmk ha0 ha1 hc0 hc1 hj hj1 hw (by omega) hb hc
      · rw [if_pos he]; exact Pg2r1tIa_s r q pg kk mk mo a0 a1 b0 b1 u0 u1 j w hr hq hm hmk ha0 ha1 hc0 hc1 hj hj1 hw (by omega) hb hc
      · rw [if_neg he]; exact Pg2r1tIb_s r q pg kk mk mo a0 a1 b0 b1 u0 u1 j w hr hq hm hmk ha0 ha1 hc0 hc1 hj hj1 hw (by omega) hb hc
theorem Pg2_tail (r q pg kk : Int) (mk mo a0 a1 b0 b1 u0 u1 : Nat) (w : World) (hr : 0 ≤ r ∧ r < 128) (hq : 0 ≤ q ∧ q ≤ r) (hm : 64 ≤ r) (hmk : mk < 18446744073709551616) (ha0 : a0 < 18446744073709551616) (ha1 : a1 < 18446744073709551616) (hc0 : b0 < 18446744073709551616) (hc1 : b1 < 18446744073709551616) (hb0 : ∀ i : Nat, i < 64 → (i : Int) < 1 + r → b0.testBit i = (decide ((1 + q : Int) ≤ i) && a0.testBit i)) (hb1 : ∀ i : Nat, i < 64 → (i : Int) + 64 < 1 + r → b1.testBit i = (decide ((1 + q : Int) ≤ (i : Int) + 64) && a1.testBit i)) : ∃ lZ, Seg2 Tryz.prog (sgV (Pg2l r q pg kk mk mo a0 a1 b0 b1 u0 u1 0)) (sgV (Pg2l r q pg kk mk mo a0 a1 b0 b1 u0 u1 (((1 + r).toNat : Nat) : Int))) w w.heap.size 0 (.code (pgC 11)) Pg2A Pg2H .ret lZ Pg2H ∧ retVal Tryz.prog Tryz.f3 (mkA lZ).tmps (mkW Pg2H) = some (.bool true) := by
  have e0 := hb0 0 (by omega) (by omega)
  rw [decide_eq_false (by omega), Bool.false_and] at e0
  by_cases he : (((1 + r).toNat : Nat) : Int) ≤ 1 + q
  · have hx : Seg2 Tryz.prog (sgV (Pg2l r q pg kk mk mo a0 a1 b0 b1 u0 u1 (((1 + r).toNat : Nat) : Int))) (sgV (Pg2l r q pg kk mk mo a0 a1 b0 b1 u0 u1 (((1 + r).toNat : Nat) : Int))) w w.heap.size 0 (.code ((inL (inB (seqR (seqL (pgC 11))))))) (if (((1 + r).toNat : Nat) : Int) ≤ 1 + q then Pg2Ia else Pg2Ib) Pg2H (.exit 4) Pg2Xa Pg2H := by
      rw [if_pos he]
      exact Pg2xIa_s r q pg kk mk mo a0 a1 b0 b1 u0 u1 (1 + r).toNat w hr hq hm hmk ha0 ha1 hc0 hc1 (by omega)
    have hl := Seg2.loopInd2 (S := fun j => sgV (Pg2l r q pg kk mk mo a0 a1 b0 b1 u0 u1 (j : Int))) (L := fun j => if (j : Int) ≤ 1 + q then Pg2Ia else Pg2Ib) (N := (1 + r).toNat) (a := 1) (fun j h1 h2 => Pg2round r q pg kk mk mo a0 a1 b0 b1 u0 u1 j w hr hq hm hmk ha0 ha1 hc0 hc1 hb0 hb1 (by omega) h1) hx ((1 + r).toNat - 1) 1 (Nat.le_refl _) (by omega)
    rw [if_pos (show ((1 : Nat) : Int) ≤ 1 + q by omega)] at hl
    exact ⟨_, Seg2.seqP (by rfl) (Seg2.seqP (by rfl) (Pg2i_s r q pg kk mk mo a0 a1 b0 b1 u0 u1 0 w hr hq hm hmk ha0 ha1 hc0 hc1) (Seg2.loopP (id := 4) (by rfl) (Seg2.loopNext (Pg2k_s r q pg kk mk mo a0 a1 b0 b1 u0 u1 0 w hr hq hm hmk ha0 ha1 hc0 hc1 e0) hl))) (Pg2yIa_s r q pg kk mk mo a0 a1 b0 b1 u0 u1 (1 + r).toNat w hr hq hm hmk ha0 ha1 hc0 hc1), Pg2yIaret⟩
  · have hx : Seg2 Tryz.prog (sgV (Pg2l r q pg kk mk mo a0 a1 b0 b1 u0 u1 (((1 + r).toNat : Nat) : Int))) (sgV (Pg2l r q pg kk mk mo a0 a1 b0 b1 u0 u1 (((1 + r).toNat : Nat) : Int))) w w.heap.size 0 (.code ((inL (inB (seqR (seqL (pgC 11))))))) (if (((1 + r).toNat : Nat) : Int) ≤ 1 + q then Pg2Ia else Pg2Ib) Pg2H (.exit 4) Pg2Xb Pg2H := by
      rw [if_neg he]
      exact Pg2xIb_s r q pg kk mk mo a0 a1 b0 b1 u0 u1 (1 + r).toNat w hr hq hm hmk ha0 ha1 hc0 hc1 (by omega)
    have hl := Seg2.loopInd2 (S := fun j => sgV (Pg2l r q pg kk mk mo a0 a1 b0 b1 u0 u1 (j : Int))) (L := fun j => if (j : Int) ≤ 1 + q then Pg2Ia else Pg2Ib) (N := (1 + r).toNat) (a := 1) (fun j h1 h2 => Pg2round r q pg kk mk mo a0 a1 b0 b1 u0 u1 j w hr hq hm hmk ha0 ha1 hc0 hc1 hb0 hb1 (by omega) h1) hx ((1 + r).toNat - 1) 1 (Nat.le_refl _) (by omega)
    rw [if_pos (show ((1 : Nat) : Int) ≤ 1 + q by omega)] at hl
    exact ⟨_, Seg2.seqP (by rfl) (Seg2.seqP (by rfl) (Pg2i_s r q pg kk mk mo a0 a1 b0 b1 u0 u1 0 w hr hq hm hmk ha0 ha1 hc0 hc1) (Seg2.loopP (id := 4) (by rfl) (Seg2.loopNext (Pg2k_s r q pg kk mk mo a0 a1 b0 b1 u0 u1 0 w hr hq hm hmk ha0 ha1 hc0 hc1 e0) hl))) (Pg2yIb_s r q pg kk mk mo a0 a1 b0 b1 u0 u1 (1 + r).toNat w hr hq hm hmk ha0 ha1 hc0 hc1), Pg2yIbret⟩
end Go.Proofs.YtfppinabdalblaaGreat
