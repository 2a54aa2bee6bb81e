/- PagerGone: the runs whole (printed by gen_pg.py). -/
import Derived.Test.YtfppinabdalblaaGreatPgR1
import Derived.Test.YtfppinabdalblaaGreatPgR2
import Derived.Test.YtfppinabdalblaaGreatPgR3
import Derived.Test.YtfppinabdalblaaGreatPgR4
import Derived.Test.YtfppinabdalblaaGreatPgR5
import Derived.Test.YtfppinabdalblaaGreatR9e
import Derived.Test.YtfppinabdalblaaGreatMpW
import Derived.Test.YtfppinabdalblaaGreatLayEqP
namespace Go.Proofs.YtfppinabdalblaaGreat
open Go.RowKit Go.IntWalk
set_option linter.unusedVariables false
set_option linter.unusedSimpArgs false
set_option maxRecDepth 100000
def Pgat (r q pg kk : Int) (mk mo o0 q0 w0 v0 x0 r0 : Nat) : List Value := [.int .i64 (82 + 6 * (1 + r) + 2), .int .i64 (82 + 6 * (1 + r) + 0), .int .i64 (82 + 6 * (1 + r) + 1), .int .i64 70003, .int .i64 70004, .int .u8 pg, .int .u8 kk, .int .u64 ((mk : Int)), .int .u64 ((mo : Int)), .int .i64 (1 + r), .int .i64 (1 + q), .int .u64 ((o0 : Int)), .int .u64 ((q0 : Int)), .int .u64 91002, .int .i64 91003, .int .i64 91004, .int .i64 pg, .int .i64 r, .int .i64 (5 * (1 + r)), .int .i64 (82 + (5 * (1 + r))), .int .i64 ((1 + r) + 64), .int .i64 (((1 + r) + 64) - 1), .int .i64 (8192 * (1 + r)), .int .i64 (6 * (1 + r)), .int .i64 kk, .int .i64 q, .int .u64 ((w0 : Int)), .int .i64 (8192 * (1 + q)), .int .i64 ((1 + r) - (1 + r)), .int .i64 ((1 + r) - (1 + q)), .int .i64 (8192 * ((1 + r) - (1 + q))), .int .i64 ((8192 * ((1 + r) - (1 + q))) + (1 + q)), .int .u64 (1 + q), .int .u64 ((1 + r) - (1 + q)), .int .u64 ((v0 : Int)), .int .u64 ((x0 : Int)), .int .u64 ((r0 : Int))]
set_option maxHeartbeats 4000000 in
theorem Pga_any (r q pg kk : Int) (mk mo o0 q0 w0 v0 x0 r0 : Nat) (w : World) (hpg : 0 ≤ pg ∧ pg < 256) (hkk : 0 ≤ kk ∧ kk < 256) (hr : Int.tmod pg 128 = r) (hq : Int.tmod kk (1 + r) = q) (hr2 : 0 ≤ r ∧ r < 128) (hq2 : 0 ≤ q ∧ q < r) (hm : r < 64) (hBmk : mk < 18446744073709551616) (hBmo : mo < 18446744073709551616) (hBo0 : o0 < 18446744073709551616) (hBq0 : q0 < 18446744073709551616) (hBw0 : w0 < 18446744073709551616) (hBv0 : v0 < 18446744073709551616) (hBx0 : x0 < 18446744073709551616) (hBr0 : r0 < 18446744073709551616) (ho0 : o0 = 2 ^ (min (1 + r : Int).toNat 64) - 1) (hq0 : q0 = 2 ^ (min (1 + q : Int).toNat 64) - 1) (ha0 : w0 = mk &&& o0) (ha1 : v0 = w0 &&& q0) (ha2 : v0 ≠ 0) (ha3 : x0 + v0 = 18446744073709551616) (ha4 : r0 + v0 = w0) (hb0 : ∀ i : Nat, i < 64 → (i : Int) < 1 + r → r0.testBit i = (decide ((1 + q : Int) ≤ i) && w0.testBit i)) : Calls Tryz.prog 3 #[.int .u8 pg, .int .u8 kk, .int .u64 (mk : Int), .int .u64 (mo : Int)] w fun e w' => e = .returned (.bool true) ∧ Ext w w' := by
  have hE : AllOK Tryz.prog (sgV (Pgat r q pg kk mk mo o0 q0 w0 v0 x0 r0)) Pgae := AllOK.cons (ent_conv Tryz.underlying5 Tryz.underlying3 rfl (by exact congrArg (Value.int .i64) ((i64_in pg (by omega)).trans (show (pg : Int) = pg by omega)).symm) rfl) (
    AllOK.cons (ent_rem (a := pg) (c := 128) rfl rfl (by omega) (by exact congrArg (Value.int .i64) hr.symm) rfl) (
    AllOK.cons (eA (1) (r) (1 + r) (by omega)) (
    AllOK.cons (egeqT (1 + r) (1) (by omega)) (
    AllOK.cons (eleqT (1 + r) (4096) (by omega)) (
    AllOK.cons (eM (5) (1 + r) (5 * (1 + r)) (by omega)) (
    AllOK.cons (eA (82) (5 * (1 + r)) (82 + (5 * (1 + r))) (by omega)) (
    AllOK.cons (eA (82 + (5 * (1 + r))) (1 + r) (82 + 6 * (1 + r) + 0) (by omega)) (
    AllOK.cons (eA (1 + r) (64) ((1 + r) + 64) (by omega)) (
    AllOK.cons (eS ((1 + r) + 64) (1) (((1 + r) + 64) - 1) (by omega)) (
    AllOK.cons (ent_quo (a := ((1 + r) + 64) - 1) (c := 64) rfl rfl (by omega) (by exact congrArg (Value.int .i64) (quoC (a := ((1 + r) + 64) - 1) (c := 64) (q := 1) (by omega) (by omega) (by omega) (by omega) (by omega)).symm) rfl) (
    AllOK.cons (eA (82 + 6 * (1 + r) + 0) (1) (82 + 6 * (1 + r) + 1) (by omega)) (
    AllOK.cons (eA (82 + 6 * (1 + r) + 1) (1) (82 + 6 * (1 + r) + 2) (by omega)) (
    AllOK.cons (elssF (82 + 6 * (1 + r) + 2) (1) (by omega)) (
    AllOK.cons (egtrF (82 + 6 * (1 + r) + 2) (65536) (by omega)) (
    AllOK.cons (egeqF (0) (82 + 6 * (1 + r) + 2) (by omega)) (
    AllOK.cons (elssF (1 + r) (1) (by omega)) (
    AllOK.cons (egtrF (1 + r) (4096) (by omega)) (
    AllOK.cons (eM (8192) (1 + r) (8192 * (1 + r)) (by omega)) (
    AllOK.cons (eA (8192 * (1 + r)) (0) (8192 * (1 + r)) (by omega)) (
    AllOK.cons (eA (0) (1 + r) (1 + r) (by omega)) (
    AllOK.cons (eM (6) (1 + r) (6 * (1 + r)) (by omega)) (
    AllOK.cons (eA (82) (6 * (1 + r)) (82 + 6 * (1 + r) + 0) (by omega)) (
    AllOK.cons (eA (1 + r) (63) (((1 + r) + 64) - 1) (by omega)) (
    AllOK.cons (eA (82 + 6 * (1 + r) + 0) (2) (82 + 6 * (1 + r) + 2) (by omega)) (
    AllOK.cons (ent_conv Tryz.underlying5 Tryz.underlying3 rfl (by exact congrArg (Value.int .i64) ((i64_in kk (by omega)).trans (show (kk : Int) = kk by omega)).symm) rfl) (
    AllOK.cons (ent_rem (a := kk) (c := 1 + r) rfl rfl (by omega) (by exact congrArg (Value.int .i64) hq.symm) rfl) (
    AllOK.cons (eA (1) (q) (1 + q) (by omega)) (
    AllOK.cons (elssT (0) (1 + r) (by omega)) (
    AllOK.cons (eS (1 + r) (0) (1 + r) (by omega)) (
    AllOK.cons (ent_andN (a := mk) (c := o0) (b := w0) (by omega) (by omega) rfl rfl ha0 rfl rfl) (
    AllOK.cons (eA (82 + 6 * (1 + r) + 0) (0) (82 + 6 * (1 + r) + 0) (by omega)) (
    AllOK.cons (elssF (82 + 6 * (1 + r) + 1) (0) (by omega)) (
    AllOK.cons (egeqF (82 + 6 * (1 + r) + 1) (82 + 6 * (1 + r) + 2) (by omega)) (
    AllOK.cons (egeqT (82 + 6 * (1 + r) + 1) (0) (by omega)) (
    AllOK.cons (elssT (82 + 6 * (1 + r) + 1) (82 + 6 * (1 + r) + 2) (by omega)) (
    AllOK.cons (elssF (64) (1 + r) (by omega)) (
    AllOK.cons (elssF (1 + q) (1) (by omega)) (
    AllOK.cons (egtrF (1 + q) (4096) (by omega)) (
    AllOK.cons (lay_same (P := 1 + r) (T := 1) rfl) (
    AllOK.cons (egeqF (2) (82 + 6 * (1 + r) + 2) (by omega)) (
    AllOK.cons (egtrF (1 + q) (1 + r) (by omega)) (
    AllOK.cons (eM (8192) (1 + q) (8192 * (1 + q)) (by omega)) (
    AllOK.cons (elssF (8192 * (1 + r)) (8192 * (1 + q)) (by omega)) (
    AllOK.cons (ent_cmp (op := .neq) (a := 8192 * (1 + r)) (c := 8192 * (1 + r)) rfl rfl (by simp)) (
    AllOK.cons (ent_cmp (op := .neq) (a := 1 + r) (c := 1 + r) rfl rfl (by simp)) (
    AllOK.cons (elssF (1 + r) (1 + r) (by omega)) (
    AllOK.cons (egtrF (1 + r) (1 + r) (by omega)) (
    AllOK.cons (eS (1 + r) (1 + r) ((1 + r) - (1 + r)) (by omega)) (
    AllOK.cons (egtrT (1 + r) (1 + q) (by omega)) (
    AllOK.cons (eA (0) (1 + q) (1 + q) (by omega)) (
    AllOK.cons (eS (1 + r) (1 + q) ((1 + r) - (1 + q)) (by omega)) (
    AllOK.cons (eM (8192) ((1 + r) - (1 + q)) (8192 * ((1 + r) - (1 + q))) (by omega)) (
    AllOK.cons (eA (8192 * ((1 + r) - (1 + q))) (1 + q) ((8192 * ((1 + r) - (1 + q))) + (1 + q)) (by omega)) (
    AllOK.cons (eA ((1 + r) - (1 + r)) ((1 + r) - (1 + q)) ((1 + r) - (1 + q)) (by omega)) (
    AllOK.cons (egtrF (1 + q) (1048576) (by omega)) (
    AllOK.cons (elssT (0) (1 + q) (by omega)) (
    AllOK.cons (ent_min (a := 1 + q) (c := 64) (b := 1 + q) rfl rfl (by omega) rfl rfl) (
    AllOK.cons (eS (1 + q) (0) (1 + q) (by omega)) (
    AllOK.cons (ent_shl0 (a := q0) (by omega) rfl rfl) (
    AllOK.cons (elssF (1 + q) (1 + q) (by omega)) (
    AllOK.cons (eA (82 + 6 * (1 + r) + 1) (0) (82 + 6 * (1 + r) + 1) (by omega)) (
    AllOK.cons (ent_conv Tryz.underlying3 Tryz.underlying22 rfl (by exact congrArg (Value.int .u64) ((u64_in (1 + q) (by omega)).trans (show (1 + q : Int) = 1 + q by omega)).symm) rfl) (
    AllOK.cons (ent_conv Tryz.underlying3 Tryz.underlying22 rfl (by exact congrArg (Value.int .u64) ((u64_in ((1 + r) - (1 + q)) (by omega)).trans (show ((1 + r) - (1 + q) : Int) = (1 + r) - (1 + q) by omega)).symm) rfl) (
    AllOK.cons (elssF (82 + 6 * (1 + r) + 0) (0) (by omega)) (
    AllOK.cons (egeqF (82 + 6 * (1 + r) + 0) (82 + 6 * (1 + r) + 2) (by omega)) (
    AllOK.cons (ent_add (a := 0) (c := (q0 : Int)) rfl rfl (by exact congrArg (Value.int .u64) ((u64_in (0 + ((q0 : Int))) (by omega)).trans (show (0 + ((q0 : Int)) : Int) = (q0 : Int) by omega)).symm) rfl) (
    AllOK.cons (ent_andN (a := w0) (c := q0) (b := v0) (by omega) (by omega) rfl rfl ha1 rfl rfl) (
    AllOK.cons (ent_cmp (op := .eql) (a := (v0 : Int)) (c := 0) rfl rfl (by have h9 : ((v0 : Int) : Int) ≠ 0 := (by omega); first | (simp [h9]; done) | (simp; omega))) (
    AllOK.cons (ent_neg (v := v0) (b := x0) (by omega) (by omega) rfl rfl rfl) (
    AllOK.cons (ent_addw (a := w0) (c := x0) (b := r0) (by omega) rfl rfl rfl rfl) (
    AllOK.nil)))))))))))))))))))))))))))))))))))))))))))))))))))))))))))))))))))))))
  have hF : ∀ e ∈ Pgaf, FnOK Tryz.prog (sgV (Pgat r q pg kk mk mo o0 q0 w0 v0 x0 r0)) w w.heap.size e := FnsOK.cons (FnOK.mk rfl fun w' _ => Mpaw_any w' (Nat.zero_le _)) (
    FnsOK.cons (FnOK.any rfl fun w' _ => r9new128 (1 + r) w' (by omega)) (
    FnsOK.cons (pg_fnR (n := 1 + r) (b := o0) (by omega) (by omega) rfl (by exact ho0) rfl rfl) (
    FnsOK.cons (pg_fnW (n := 1 + q) (b := q0) (by omega) (by omega) rfl (by exact hq0) rfl rfl) (
    FnsOK.nil))))
  have hTL : TokL (Pgat r q pg kk mk mo o0 q0 w0 v0 x0 r0) := (TokL.int (TokL.int (TokL.int (TokL.int (TokL.int (TokL.int (TokL.int (TokL.int (TokL.int (TokL.int (TokL.int (TokL.int (TokL.int (TokL.int (TokL.int (TokL.int (TokL.int (TokL.int (TokL.int (TokL.int (TokL.int (TokL.int (TokL.int (TokL.int (TokL.int (TokL.int (TokL.int (TokL.int (TokL.int (TokL.int (TokL.int (TokL.int (TokL.int (TokL.int (TokL.int (TokL.int (TokL.int TokL.nil)))))))))))))))))))))))))))))))))))))
  have hσ := sgV_one hTL
  have hS : SpOK (sgV (Pgat r q pg kk mk mo o0 q0 w0 v0 x0 r0)) 2 := pg_sp (P := 1 + r) (m := 1) (by omega) rfl (by omega) (by omega) (by intro j hj; rcases (show j = 0 ∨ j = 1 by omega) with rfl | rfl <;> exact ⟨_, rfl, by omega⟩)
  have hO : OrcOK Tryz.prog (sgV (Pgat r q pg kk mk mo o0 q0 w0 v0 x0 r0)) w w.heap.size (PgaO) := orcS_ok hE (sgV_ne hTL) hF hS (rdG_ok hσ ⟨_, rfl, by omega⟩) noMkS_ok
  have hK : Weak (sgV (Pgat r q pg kk mk mo o0 q0 w0 v0 x0 r0)) (sgV (Pg1l r q pg kk mk mo w0 0 r0 0 q0 0 0)) w w.heap.size 0 Pgal139 Pgah140 Pg1A Pg1H := weak_of (weakOK_pre (n := 11) (l2 := Pg1l r q pg kk mk mo w0 0 r0 0 q0 0 0) hTL rfl rfl (pairs_tok (a := 10) (b := 10) rfl (pairs_tok (a := 26) (b := 11) rfl (pairs_tok (a := 12) (b := 15) rfl (pairs_tok (a := 36) (b := 13) rfl pairs_nil))))) Pgaw
  obtain ⟨lZ, hT0, hZ⟩ := Pg1_tail r q pg kk mk mo w0 0 r0 0 q0 0 w (by omega) (by omega) (by omega) (by omega) (by omega) (by omega) (by omega) (by omega) hb0
  have hTail := hK.ahead hT0
  have key : Seg2 Tryz.prog (sgV (Pgat r q pg kk mk mo o0 q0 w0 v0 x0 r0)) (sgV (Pg1l r q pg kk mk mo w0 0 r0 0 q0 0 (((1 + r).toNat : Nat) : Int))) w w.heap.size 0 (.code (pgC 0)) Pg0 [] .ret lZ Pg1H := (Seg2.seqP (by rfl) (Seg1.to2 (Pgap0 _ hσ _ _ hO)) (Seg2.seqP (by rfl) (Seg1.to2 (Pgap1 _ hσ _ _ hO)) (Seg2.seqP (by rfl) (Seg1.to2 (Pgap2 _ hσ _ _ hO)) (Seg2.seqP (by rfl) (Seg1.to2 (Seg1.seqP (by rfl) (Pgap3 _ hσ _ _ hO) (Pgap4 _ hσ _ _ hO))) (Seg2.seqP (by rfl) (Seg1.to2 (Pgap5 _ hσ _ _ hO)) (Seg2.seqP (by rfl) (Seg1.to2 (Pgap6 _ hσ _ _ hO)) (Seg2.seqP (by rfl) (Seg1.to2 (Seg1.seqP (by rfl) (Pgap7 _ hσ _ _ hO) (Seg1.loopP (by rfl) (Seg1.loopNext (Pgap8 _ hσ _ _ hO) (Seg1.loopExit (Pgap9 _ hσ _ _ hO)))))) (Seg2.seqP (by rfl) (Seg1.to2 (Pgap10 _ hσ _ _ hO)) (Seg2.seqP (by rfl) (Seg1.to2 (Seg1.seqP (by rfl) (Pgap11 _ hσ _ _ hO) (Seg1.loopP (by rfl) (Seg1.loopNext (Pgap12 _ hσ _ _ hO) (Seg1.loopNext (Pgap13 _ hσ _ _ hO) (Seg1.loopNext (Pgap14 _ hσ _ _ hO) (Seg1.loopNext (Pgap15 _ hσ _ _ hO) (Seg1.loopNext (Pgap16 _ hσ _ _ hO) (Seg1.loopNext (Pgap17 _ hσ _ _ hO) (Seg1.loopExit (Pgap18 _ hσ _ _ hO))))))))))) (Seg2.seqP (by rfl) (Seg1.to2 (Pgap19 _ hσ _ _ hO)) (Seg2.seqP (by rfl) (Seg1.to2 (Seg1.seqP (by rfl) (Pgap20 _ hσ _ _ hO) (Pgap21 _ hσ _ _ hO))) hTail)))))))))))
  have hb : Tryz.f3.body = some (pgC 0) := by rfl
  have fin := calls_of_seg2 (P := Tryz.prog) (f := 3) (fn := Tryz.f3) (c := bodyOf Tryz.prog 3) (args := #[kf 5, kf 6, kf 7, kf 8]) (l0 := Pg0) (h0 := []) (tabs := []) (sgV_one (Pg1l_tok _ _ _ _ _ _ _ _ _ _ _ _ _)) (Nat.zero_le _) (tabR_nil w) Tryz.func3 hb rfl Pg0_eq pg_w0 key (.inr rfl) hZ rfl
  exact pg_key rfl fin
def Pgbt (r q pg kk : Int) (mk mo o0 q0 w0 v0 : Nat) : List Value := [.int .i64 (82 + 6 * (1 + r) + 2), .int .i64 (82 + 6 * (1 + r) + 0), .int .i64 (82 + 6 * (1 + r) + 1), .int .i64 70003, .int .i64 70004, .int .u8 pg, .int .u8 kk, .int .u64 ((mk : Int)), .int .u64 ((mo : Int)), .int .i64 (1 + r), .int .i64 (1 + q), .int .u64 ((o0 : Int)), .int .u64 ((q0 : Int)), .int .u64 91002, .int .i64 91003, .int .i64 91004, .int .i64 pg, .int .i64 r, .int .i64 (5 * (1 + r)), .int .i64 (82 + (5 * (1 + r))), .int .i64 ((1 + r) + 64), .int .i64 (((1 + r) + 64) - 1), .int .i64 (8192 * (1 + r)), .int .i64 (6 * (1 + r)), .int .i64 kk, .int .i64 q, .int .u64 ((w0 : Int)), .int .i64 (8192 * (1 + q)), .int .i64 ((1 + r) - (1 + r)), .int .i64 ((1 + r) - (1 + q)), .int .i64 (8192 * ((1 + r) - (1 + q))), .int .i64 ((8192 * ((1 + r) - (1 + q))) + (1 + q)), .int .u64 (1 + q), .int .u64 ((1 + r) - (1 + q)), .int .u64 ((v0 : Int))]
set_option maxHeartbeats 4000000 in
theorem Pgb_any (r q pg kk : Int) (mk mo o0 q0 w0 v0 : Nat) (w : World) (hpg : 0 ≤ pg ∧ pg < 256) (hkk : 0 ≤ kk ∧ kk < 256) (hr : Int.tmod pg 128 = r) (hq : Int.tmod kk (1 + r) = q) (hr2 : 0 ≤ r ∧ r < 128) (hq2 : 0 ≤ q ∧ q < r) (hm : r < 64) (hBmk : mk < 18446744073709551616) (hBmo : mo < 18446744073709551616) (hBo0 : o0 < 18446744073709551616) (hBq0 : q0 < 18446744073709551616) (hBw0 : w0 < 18446744073709551616) (hBv0 : v0 < 18446744073709551616) (ho0 : o0 = 2 ^ (min (1 + r : Int).toNat 64) - 1) (hq0 : q0 = 2 ^ (min (1 + q : Int).toNat 64) - 1) (ha0 : w0 = mk &&& o0) (ha1 : v0 = w0 &&& q0) (ha2 : v0 = 0) (hb0 : ∀ i : Nat, i < 64 → (i : Int) < 1 + r → w0.testBit i = (decide ((1 + q : Int) ≤ i) && w0.testBit i)) : Calls Tryz.prog 3 #[.int .u8 pg, .int .u8 kk, .int .u64 (mk : Int), .int .u64 (mo : Int)] w fun e w' => e = .returned (.bool true) ∧ Ext w w' := by
  have hE : AllOK Tryz.prog (sgV (Pgbt r q pg kk mk mo o0 q0 w0 v0)) Pgbe := AllOK.cons (ent_conv Tryz.underlying5 Tryz.underlying3 rfl (by exact congrArg (Value.int .i64) ((i64_in pg (by omega)).trans (show (pg : Int) = pg by omega)).symm) rfl) (
    AllOK.cons (ent_rem (a := pg) (c := 128) rfl rfl (by omega) (by exact congrArg (Value.int .i64) hr.symm) rfl) (
    AllOK.cons (eA (1) (r) (1 + r) (by omega)) (
    AllOK.cons (egeqT (1 + r) (1) (by omega)) (
    AllOK.cons (eleqT (1 + r) (4096) (by omega)) (
    AllOK.cons (eM (5) (1 + r) (5 * (1 + r)) (by omega)) (
    AllOK.cons (eA (82) (5 * (1 + r)) (82 + (5 * (1 + r))) (by omega)) (
    AllOK.cons (eA (82 + (5 * (1 + r))) (1 + r) (82 + 6 * (1 + r) + 0) (by omega)) (
    AllOK.cons (eA (1 + r) (64) ((1 + r) + 64) (by omega)) (
    AllOK.cons (eS ((1 + r) + 64) (1) (((1 + r) + 64) - 1) (by omega)) (
    AllOK.cons (ent_quo (a := ((1 + r) + 64) - 1) (c := 64) rfl rfl (by omega) (by exact congrArg (Value.int .i64) (quoC (a := ((1 + r) + 64) - 1) (c := 64) (q := 1) (by omega) (by omega) (by omega) (by omega) (by omega)).symm) rfl) (
    AllOK.cons (eA (82 + 6 * (1 + r) + 0) (1) (82 + 6 * (1 + r) + 1) (by omega)) (
    AllOK.cons (eA (82 + 6 * (1 + r) + 1) (1) (82 + 6 * (1 + r) + 2) (by omega)) (
    AllOK.cons (elssF (82 + 6 * (1 + r) + 2) (1) (by omega)) (
    AllOK.cons (egtrF (82 + 6 * (1 + r) + 2) (65536) (by omega)) (
    AllOK.cons (egeqF (0) (82 + 6 * (1 + r) + 2) (by omega)) (
    AllOK.cons (elssF (1 + r) (1) (by omega)) (
    AllOK.cons (egtrF (1 + r) (4096) (by omega)) (
    AllOK.cons (eM (8192) (1 + r) (8192 * (1 + r)) (by omega)) (
    AllOK.cons (eA (8192 * (1 + r)) (0) (8192 * (1 + r)) (by omega)) (
    AllOK.cons (eA (0) (1 + r) (1 + r) (by omega)) (
    AllOK.cons (eM (6) (1 + r) (6 * (1 + r)) (by omega)) (
    AllOK.cons (eA (82) (6 * (1 + r)) (82 + 6 * (1 + r) + 0) (by omega)) (
    AllOK.cons (eA (1 + r) (63) (((1 + r) + 64) - 1) (by omega)) (
    AllOK.cons (eA (82 + 6 * (1 + r) + 0) (2) (82 + 6 * (1 + r) + 2) (by omega)) (
    AllOK.cons (ent_conv Tryz.underlying5 Tryz.underlying3 rfl (by exact congrArg (Value.int .i64) ((i64_in kk (by omega)).trans (show (kk : Int) = kk by omega)).symm) rfl) (
    AllOK.cons (ent_rem (a := kk) (c := 1 + r) rfl rfl (by omega) (by exact congrArg (Value.int .i64) hq.symm) rfl) (
    AllOK.cons (eA (1) (q) (1 + q) (by omega)) (
    AllOK.cons (elssT (0) (1 + r) (by omega)) (
    AllOK.cons (eS (1 + r) (0) (1 + r) (by omega)) (
    AllOK.cons (ent_andN (a := mk) (c := o0) (b := w0) (by omega) (by omega) rfl rfl ha0 rfl rfl) (
    AllOK.cons (eA (82 + 6 * (1 + r) + 0) (0) (82 + 6 * (1 + r) + 0) (by omega)) (
    AllOK.cons (elssF (82 + 6 * (1 + r) + 1) (0) (by omega)) (
    AllOK.cons (egeqF (82 + 6 * (1 + r) + 1) (82 + 6 * (1 + r) + 2) (by omega)) (
    AllOK.cons (egeqT (82 + 6 * (1 + r) + 1) (0) (by omega)) (
    AllOK.cons (elssT (82 + 6 * (1 + r) + 1) (82 + 6 * (1 + r) + 2) (by omega)) (
    AllOK.cons (elssF (64) (1 + r) (by omega)) (
    AllOK.cons (elssF (1 + q) (1) (by omega)) (
    AllOK.cons (egtrF (1 + q) (4096) (by omega)) (
    AllOK.cons (lay_same (P := 1 + r) (T := 1) rfl) (
    AllOK.cons (egeqF (2) (82 + 6 * (1 + r) + 2) (by omega)) (
    AllOK.cons (egtrF (1 + q) (1 + r) (by omega)) (
    AllOK.cons (eM (8192) (1 + q) (8192 * (1 + q)) (by omega)) (
    AllOK.cons (elssF (8192 * (1 + r)) (8192 * (1 + q)) (by omega)) (
    AllOK.cons (ent_cmp (op := .neq) (a := 8192 * (1 + r)) (c := 8192 * (1 + r)) rfl rfl (by simp)) (
    AllOK.cons (ent_cmp (op := .neq) (a := 1 + r) (c := 1 + r) rfl rfl (by simp)) (
    AllOK.cons (elssF (1 + r) (1 + r) (by omega)) (
    AllOK.cons (egtrF (1 + r) (1 + r) (by omega)) (
    AllOK.cons (eS (1 + r) (1 + r) ((1 + r) - (1 + r)) (by omega)) (
    AllOK.cons (egtrT (1 + r) (1 + q) (by omega)) (
    AllOK.cons (eA (0) (1 + q) (1 + q) (by omega)) (
    AllOK.cons (eS (1 + r) (1 + q) ((1 + r) - (1 + q)) (by omega)) (
    AllOK.cons (eM (8192) ((1 + r) - (1 + q)) (8192 * ((1 + r) - (1 + q))) (by omega)) (
    AllOK.cons (eA (8192 * ((1 + r) - (1 + q))) (1 + q) ((8192 * ((1 + r) - (1 + q))) + (1 + q)) (by omega)) (
    AllOK.cons (eA ((1 + r) - (1 + r)) ((1 + r) - (1 + q)) ((1 + r) - (1 + q)) (by omega)) (
    AllOK.cons (egtrF (1 + q) (1048576) (by omega)) (
    AllOK.cons (elssT (0) (1 + q) (by omega)) (
    AllOK.cons (ent_min (a := 1 + q) (c := 64) (b := 1 + q) rfl rfl (by omega) rfl rfl) (
    AllOK.cons (eS (1 + q) (0) (1 + q) (by omega)) (
    AllOK.cons (ent_shl0 (a := q0) (by omega) rfl rfl) (
    AllOK.cons (elssF (1 + q) (1 + q) (by omega)) (
    AllOK.cons (eA (82 + 6 * (1 + r) + 1) (0) (82 + 6 * (1 + r) + 1) (by omega)) (
    AllOK.cons (ent_conv Tryz.underlying3 Tryz.underlying22 rfl (by exact congrArg (Value.int .u64) ((u64_in (1 + q) (by omega)).trans (show (1 + q : Int) = 1 + q by omega)).symm) rfl) (
    AllOK.cons (ent_conv Tryz.underlying3 Tryz.underlying22 rfl (by exact congrArg (Value.int .u64) ((u64_in ((1 + r) - (1 + q)) (by omega)).trans (show ((1 + r) - (1 + q) : Int) = (1 + r) - (1 + q) by omega)).symm) rfl) (
    AllOK.cons (elssF (82 + 6 * (1 + r) + 0) (0) (by omega)) (
    AllOK.cons (egeqF (82 + 6 * (1 + r) + 0) (82 + 6 * (1 + r) + 2) (by omega)) (
    AllOK.cons (ent_add (a := 0) (c := (q0 : Int)) rfl rfl (by exact congrArg (Value.int .u64) ((u64_in (0 + ((q0 : Int))) (by omega)).trans (show (0 + ((q0 : Int)) : Int) = (q0 : Int) by omega)).symm) rfl) (
    AllOK.cons (ent_andN (a := w0) (c := q0) (b := v0) (by omega) (by omega) rfl rfl ha1 rfl rfl) (
    AllOK.cons (ent_cmp (op := .eql) (a := (v0 : Int)) (c := 0) rfl rfl (by rw [show ((v0 : Int) : Int) = 0 by omega]; simp)) (
    AllOK.nil)))))))))))))))))))))))))))))))))))))))))))))))))))))))))))))))))))))
  have hF : ∀ e ∈ Pgbf, FnOK Tryz.prog (sgV (Pgbt r q pg kk mk mo o0 q0 w0 v0)) w w.heap.size e := FnsOK.cons (FnOK.mk rfl fun w' _ => Mpaw_any w' (Nat.zero_le _)) (
    FnsOK.cons (FnOK.any rfl fun w' _ => r9new128 (1 + r) w' (by omega)) (
    FnsOK.cons (pg_fnR (n := 1 + r) (b := o0) (by omega) (by omega) rfl (by exact ho0) rfl rfl) (
    FnsOK.cons (pg_fnW (n := 1 + q) (b := q0) (by omega) (by omega) rfl (by exact hq0) rfl rfl) (
    FnsOK.nil))))
  have hTL : TokL (Pgbt r q pg kk mk mo o0 q0 w0 v0) := (TokL.int (TokL.int (TokL.int (TokL.int (TokL.int (TokL.int (TokL.int (TokL.int (TokL.int (TokL.int (TokL.int (TokL.int (TokL.int (TokL.int (TokL.int (TokL.int (TokL.int (TokL.int (TokL.int (TokL.int (TokL.int (TokL.int (TokL.int (TokL.int (TokL.int (TokL.int (TokL.int (TokL.int (TokL.int (TokL.int (TokL.int (TokL.int (TokL.int (TokL.int (TokL.int TokL.nil)))))))))))))))))))))))))))))))))))
  have hσ := sgV_one hTL
  have hS : SpOK (sgV (Pgbt r q pg kk mk mo o0 q0 w0 v0)) 2 := pg_sp (P := 1 + r) (m := 1) (by omega) rfl (by omega) (by omega) (by intro j hj; rcases (show j = 0 ∨ j = 1 by omega) with rfl | rfl <;> exact ⟨_, rfl, by omega⟩)
  have hO : OrcOK Tryz.prog (sgV (Pgbt r q pg kk mk mo o0 q0 w0 v0)) w w.heap.size (PgbO) := orcS_ok hE (sgV_ne hTL) hF hS (rdG_ok hσ ⟨_, rfl, by omega⟩) noMkS_ok
  have hK : Weak (sgV (Pgbt r q pg kk mk mo o0 q0 w0 v0)) (sgV (Pg1l r q pg kk mk mo w0 0 w0 0 q0 0 0)) w w.heap.size 0 Pgbl130 Pgbh131 Pg1A Pg1H := weak_of (weakOK_pre (n := 11) (l2 := Pg1l r q pg kk mk mo w0 0 w0 0 q0 0 0) hTL rfl rfl (pairs_tok (a := 10) (b := 10) rfl (pairs_tok (a := 26) (b := 11) rfl (pairs_tok (a := 12) (b := 15) rfl (pairs_tok (a := 26) (b := 13) rfl pairs_nil))))) Pgbw
  obtain ⟨lZ, hT0, hZ⟩ := Pg1_tail r q pg kk mk mo w0 0 w0 0 q0 0 w (by omega) (by omega) (by omega) (by omega) (by omega) (by omega) (by omega) (by omega) hb0
  have hTail := hK.ahead hT0
  have key : Seg2 Tryz.prog (sgV (Pgbt r q pg kk mk mo o0 q0 w0 v0)) (sgV (Pg1l r q pg kk mk mo w0 0 w0 0 q0 0 (((1 + r).toNat : Nat) : Int))) w w.heap.size 0 (.code (pgC 0)) Pg0 [] .ret lZ Pg1H := (Seg2.seqP (by rfl) (Seg1.to2 (Pgbp0 _ hσ _ _ hO)) (Seg2.seqP (by rfl) (Seg1.to2 (Pgbp1 _ hσ _ _ hO)) (Seg2.seqP (by rfl) (Seg1.to2 (Pgbp2 _ hσ _ _ hO)) (Seg2.seqP (by rfl) (Seg1.to2 (Seg1.seqP (by rfl) (Pgbp3 _ hσ _ _ hO) (Pgbp4 _ hσ _ _ hO))) (Seg2.seqP (by rfl) (Seg1.to2 (Pgbp5 _ hσ _ _ hO)) (Seg2.seqP (by rfl) (Seg1.to2 (Pgbp6 _ hσ _ _ hO)) (Seg2.seqP (by rfl) (Seg1.to2 (Seg1.seqP (by rfl) (Pgbp7 _ hσ _ _ hO) (Seg1.loopP (by rfl) (Seg1.loopNext (Pgbp8 _ hσ _ _ hO) (Seg1.loopExit (Pgbp9 _ hσ _ _ hO)))))) (Seg2.seqP (by rfl) (Seg1.to2 (Pgbp10 _ hσ _ _ hO)) (Seg2.seqP (by rfl) (Seg1.to2 (Seg1.seqP (by rfl) (Pgbp11 _ hσ _ _ hO) (Seg1.loopP (by rfl) (Seg1.loopNext (Pgbp12 _ hσ _ _ hO) (Seg1.loopNext (Pgbp13 _ hσ _ _ hO) (Seg1.loopNext (Pgbp14 _ hσ _ _ hO) (Seg1.loopNext (Pgbp15 _ hσ _ _ hO) (Seg1.loopNext (Pgbp16 _ hσ _ _ hO) (Seg1.loopExit (Pgbp17 _ hσ _ _ hO)))))))))) (Seg2.seqP (by rfl) (Seg1.to2 (Pgbp18 _ hσ _ _ hO)) (Seg2.seqP (by rfl) (Seg1.to2 (Seg1.seqP (by rfl) (Pgbp19 _ hσ _ _ hO) (Pgbp20 _ hσ _ _ hO))) hTail)))))))))))
  have hb : Tryz.f3.body = some (pgC 0) := by rfl
  have fin := calls_of_seg2 (P := Tryz.prog) (f := 3) (fn := Tryz.f3) (c := bodyOf Tryz.prog 3) (args := #[kf 5, kf 6, kf 7, kf 8]) (l0 := Pg0) (h0 := []) (tabs := []) (sgV_one (Pg1l_tok _ _ _ _ _ _ _ _ _ _ _ _ _)) (Nat.zero_le _) (tabR_nil w) Tryz.func3 hb rfl Pg0_eq pg_w0 key (.inr rfl) hZ rfl
  exact pg_key rfl fin
def Pgct (r pg kk : Int) (mk mo o0 w0 x0 r0 : Nat) : List Value := [.int .i64 (82 + 6 * (1 + r) + 2), .int .i64 (82 + 6 * (1 + r) + 0), .int .i64 (82 + 6 * (1 + r) + 1), .int .i64 70003, .int .i64 70004, .int .u8 pg, .int .u8 kk, .int .u64 ((mk : Int)), .int .u64 ((mo : Int)), .int .i64 (1 + r), .int .i64 (1 + r), .int .u64 ((o0 : Int)), .int .u64 91001, .int .u64 91002, .int .i64 91003, .int .i64 91004, .int .i64 pg, .int .i64 r, .int .i64 (5 * (1 + r)), .int .i64 (82 + (5 * (1 + r))), .int .i64 ((1 + r) + 64), .int .i64 (((1 + r) + 64) - 1), .int .i64 (8192 * (1 + r)), .int .i64 (6 * (1 + r)), .int .i64 kk, .int .u64 ((w0 : Int)), .int .i64 ((1 + r) - (1 + r)), .int .u64 (1 + r), .int .u64 ((1 + r) - (1 + r)), .int .u64 ((x0 : Int)), .int .u64 ((r0 : Int))]
set_option maxHeartbeats 4000000 in
theorem Pgc_any (r pg kk : Int) (mk mo o0 w0 x0 r0 : Nat) (w : World) (hpg : 0 ≤ pg ∧ pg < 256) (hkk : 0 ≤ kk ∧ kk < 256) (hr : Int.tmod pg 128 = r) (hq : Int.tmod kk (1 + r) = r) (hr2 : 0 ≤ r ∧ r < 128) (hm : r < 64) (hBmk : mk < 18446744073709551616) (hBmo : mo < 18446744073709551616) (hBo0 : o0 < 18446744073709551616) (hBw0 : w0 < 18446744073709551616) (hBx0 : x0 < 18446744073709551616) (hBr0 : r0 < 18446744073709551616) (ho0 : o0 = 2 ^ (min (1 + r : Int).toNat 64) - 1) (ha0 : w0 = mk &&& o0) (ha1 : w0 = w0 &&& o0) (ha2 : w0 ≠ 0) (ha3 : x0 + w0 = 18446744073709551616) (ha4 : r0 + w0 = w0) (hb0 : ∀ i : Nat, i < 64 → (i : Int) < 1 + r → r0.testBit i = (decide ((1 + r : Int) ≤ i) && w0.testBit i)) : Calls Tryz.prog 3 #[.int .u8 pg, .int .u8 kk, .int .u64 (mk : Int), .int .u64 (mo : Int)] w fun e w' => e = .returned (.bool true) ∧ Ext w w' := by
  have hE : AllOK Tryz.prog (sgV (Pgct r pg kk mk mo o0 w0 x0 r0)) Pgce := AllOK.cons (ent_conv Tryz.underlying5 Tryz.underlying3 rfl (by exact congrArg (Value.int .i64) ((i64_in pg (by omega)).trans (show (pg : Int) = pg by omega)).symm) rfl) (
    AllOK.cons (ent_rem (a := pg) (c := 128) rfl rfl (by omega) (by exact congrArg (Value.int .i64) hr.symm) rfl) (
    AllOK.cons (eA (1) (r) (1 + r) (by omega)) (
    AllOK.cons (egeqT (1 + r) (1) (by omega)) (
    AllOK.cons (eleqT (1 + r) (4096) (by omega)) (
    AllOK.cons (eM (5) (1 + r) (5 * (1 + r)) (by omega)) (
    AllOK.cons (eA (82) (5 * (1 + r)) (82 + (5 * (1 + r))) (by omega)) (
    AllOK.cons (eA (82 + (5 * (1 + r))) (1 + r) (82 + 6 * (1 + r) + 0) (by omega)) (
    AllOK.cons (eA (1 + r) (64) ((1 + r) + 64) (by omega)) (
    AllOK.cons (eS ((1 + r) + 64) (1) (((1 + r) + 64) - 1) (by omega)) (
    AllOK.cons (ent_quo (a := ((1 + r) + 64) - 1) (c := 64) rfl rfl (by omega) (by exact congrArg (Value.int .i64) (quoC (a := ((1 + r) + 64) - 1) (c := 64) (q := 1) (by omega) (by omega) (by omega) (by omega) (by omega)).symm) rfl) (
    AllOK.cons (eA (82 + 6 * (1 + r) + 0) (1) (82 + 6 * (1 + r) + 1) (by omega)) (
    AllOK.cons (eA (82 + 6 * (1 + r) + 1) (1) (82 + 6 * (1 + r) + 2) (by omega)) (
    AllOK.cons (elssF (82 + 6 * (1 + r) + 2) (1) (by omega)) (
    AllOK.cons (egtrF (82 + 6 * (1 + r) + 2) (65536) (by omega)) (
    AllOK.cons (egeqF (0) (82 + 6 * (1 + r) + 2) (by omega)) (
    AllOK.cons (elssF (1 + r) (1) (by omega)) (
    AllOK.cons (egtrF (1 + r) (4096) (by omega)) (
    AllOK.cons (eM (8192) (1 + r) (8192 * (1 + r)) (by omega)) (
    AllOK.cons (eA (8192 * (1 + r)) (0) (8192 * (1 + r)) (by omega)) (
    AllOK.cons (eA (0) (1 + r) (1 + r) (by omega)) (
    AllOK.cons (eM (6) (1 + r) (6 * (1 + r)) (by omega)) (
    AllOK.cons (eA (82) (6 * (1 + r)) (82 + 6 * (1 + r) + 0) (by omega)) (
    AllOK.cons (eA (1 + r) (63) (((1 + r) + 64) - 1) (by omega)) (
    AllOK.cons (eA (82 + 6 * (1 + r) + 0) (2) (82 + 6 * (1 + r) + 2) (by omega)) (
    AllOK.cons (ent_conv Tryz.underlying5 Tryz.underlying3 rfl (by exact congrArg (Value.int .i64) ((i64_in kk (by omega)).trans (show (kk : Int) = kk by omega)).symm) rfl) (
    AllOK.cons (ent_rem (a := kk) (c := 1 + r) rfl rfl (by omega) (by exact congrArg (Value.int .i64) hq.symm) rfl) (
    AllOK.cons (elssT (0) (1 + r) (by omega)) (
    AllOK.cons (eS (1 + r) (0) (1 + r) (by omega)) (
    AllOK.cons (ent_andN (a := mk) (c := o0) (b := w0) (by omega) (by omega) rfl rfl ha0 rfl rfl) (
    AllOK.cons (eA (82 + 6 * (1 + r) + 0) (0) (82 + 6 * (1 + r) + 0) (by omega)) (
    AllOK.cons (elssF (82 + 6 * (1 + r) + 1) (0) (by omega)) (
    AllOK.cons (egeqF (82 + 6 * (1 + r) + 1) (82 + 6 * (1 + r) + 2) (by omega)) (
    AllOK.cons (egeqT (82 + 6 * (1 + r) + 1) (0) (by omega)) (
    AllOK.cons (elssT (82 + 6 * (1 + r) + 1) (82 + 6 * (1 + r) + 2) (by omega)) (
    AllOK.cons (elssF (64) (1 + r) (by omega)) (
    AllOK.cons (lay_same (P := 1 + r) (T := 1) rfl) (
    AllOK.cons (egeqF (2) (82 + 6 * (1 + r) + 2) (by omega)) (
    AllOK.cons (egtrF (1 + r) (1 + r) (by omega)) (
    AllOK.cons (elssF (8192 * (1 + r)) (8192 * (1 + r)) (by omega)) (
    AllOK.cons (ent_cmp (op := .neq) (a := 8192 * (1 + r)) (c := 8192 * (1 + r)) rfl rfl (by simp)) (
    AllOK.cons (ent_cmp (op := .neq) (a := 1 + r) (c := 1 + r) rfl rfl (by simp)) (
    AllOK.cons (elssF (1 + r) (1 + r) (by omega)) (
    AllOK.cons (eS (1 + r) (1 + r) ((1 + r) - (1 + r)) (by omega)) (
    AllOK.cons (egtrF (1 + r) (1048576) (by omega)) (
    AllOK.cons (ent_min (a := 1 + r) (c := 64) (b := 1 + r) rfl rfl (by omega) rfl rfl) (
    AllOK.cons (ent_shl0 (a := o0) (by omega) rfl rfl) (
    AllOK.cons (eA (82 + 6 * (1 + r) + 1) (0) (82 + 6 * (1 + r) + 1) (by omega)) (
    AllOK.cons (ent_conv Tryz.underlying3 Tryz.underlying22 rfl (by exact congrArg (Value.int .u64) ((u64_in (1 + r) (by omega)).trans (show (1 + r : Int) = 1 + r by omega)).symm) rfl) (
    AllOK.cons (ent_conv Tryz.underlying3 Tryz.underlying22 rfl (by exact congrArg (Value.int .u64) ((u64_in ((1 + r) - (1 + r)) (by omega)).trans (show ((1 + r) - (1 + r) : Int) = (1 + r) - (1 + r) by omega)).symm) rfl) (
    AllOK.cons (elssF (82 + 6 * (1 + r) + 0) (0) (by omega)) (
    AllOK.cons (egeqF (82 + 6 * (1 + r) + 0) (82 + 6 * (1 + r) + 2) (by omega)) (
    AllOK.cons (ent_add (a := 0) (c := (o0 : Int)) rfl rfl (by exact congrArg (Value.int .u64) ((u64_in (0 + ((o0 : Int))) (by omega)).trans (show (0 + ((o0 : Int)) : Int) = (o0 : Int) by omega)).symm) rfl) (
    AllOK.cons (ent_andN (a := w0) (c := o0) (b := w0) (by omega) (by omega) rfl rfl ha1 rfl rfl) (
    AllOK.cons (ent_cmp (op := .eql) (a := (w0 : Int)) (c := 0) rfl rfl (by have h9 : ((w0 : Int) : Int) ≠ 0 := (by omega); first | (simp [h9]; done) | (simp; omega))) (
    AllOK.cons (ent_neg (v := w0) (b := x0) (by omega) (by omega) rfl rfl rfl) (
    AllOK.cons (ent_addw (a := w0) (c := x0) (b := r0) (by omega) rfl rfl rfl rfl) (
    AllOK.nil)))))))))))))))))))))))))))))))))))))))))))))))))))))))))
  have hF : ∀ e ∈ Pgcf, FnOK Tryz.prog (sgV (Pgct r pg kk mk mo o0 w0 x0 r0)) w w.heap.size e := FnsOK.cons (FnOK.mk rfl fun w' _ => Mpaw_any w' (Nat.zero_le _)) (
    FnsOK.cons (FnOK.any rfl fun w' _ => r9new128 (1 + r) w' (by omega)) (
    FnsOK.cons (pg_fnR (n := 1 + r) (b := o0) (by omega) (by omega) rfl (by exact ho0) rfl rfl) (
    FnsOK.cons (pg_fnW (n := 1 + r) (b := o0) (by omega) (by omega) rfl (by exact ho0) rfl rfl) (
    FnsOK.nil))))
  have hTL : TokL (Pgct r pg kk mk mo o0 w0 x0 r0) := (TokL.int (TokL.int (TokL.int (TokL.int (TokL.int (TokL.int (TokL.int (TokL.int (TokL.int (TokL.int (TokL.int (TokL.int (TokL.int (TokL.int (TokL.int (TokL.int (TokL.int (TokL.int (TokL.int (TokL.int (TokL.int (TokL.int (TokL.int (TokL.int (TokL.int (TokL.int (TokL.int (TokL.int (TokL.int (TokL.int (TokL.int TokL.nil)))))))))))))))))))))))))))))))
  have hσ := sgV_one hTL
  have hS : SpOK (sgV (Pgct r pg kk mk mo o0 w0 x0 r0)) 2 := pg_sp (P := 1 + r) (m := 1) (by omega) rfl (by omega) (by omega) (by intro j hj; rcases (show j = 0 ∨ j = 1 by omega) with rfl | rfl <;> exact ⟨_, rfl, by omega⟩)
  have hO : OrcOK Tryz.prog (sgV (Pgct r pg kk mk mo o0 w0 x0 r0)) w w.heap.size (PgcO) := orcS_ok hE (sgV_ne hTL) hF hS (rdG_ok hσ ⟨_, rfl, by omega⟩) noMkS_ok
  have hK : Weak (sgV (Pgct r pg kk mk mo o0 w0 x0 r0)) (sgV (Pg1l r r pg kk mk mo w0 0 r0 0 o0 0 0)) w w.heap.size 0 Pgcl136 Pgch137 Pg1A Pg1H := weak_of (weakOK_pre (n := 11) (l2 := Pg1l r r pg kk mk mo w0 0 r0 0 o0 0 0) hTL rfl rfl (pairs_tok (a := 9) (b := 10) rfl (pairs_tok (a := 25) (b := 11) rfl (pairs_tok (a := 11) (b := 15) rfl (pairs_tok (a := 30) (b := 13) rfl pairs_nil))))) Pgcw
  obtain ⟨lZ, hT0, hZ⟩ := Pg1_tail r r pg kk mk mo w0 0 r0 0 o0 0 w (by omega) (by omega) (by omega) (by omega) (by omega) (by omega) (by omega) (by omega) hb0
  have hTail := hK.ahead hT0
  have key : Seg2 Tryz.prog (sgV (Pgct r pg kk mk mo o0 w0 x0 r0)) (sgV (Pg1l r r pg kk mk mo w0 0 r0 0 o0 0 (((1 + r).toNat : Nat) : Int))) w w.heap.size 0 (.code (pgC 0)) Pg0 [] .ret lZ Pg1H := (Seg2.seqP (by rfl) (Seg1.to2 (Pgcp0 _ hσ _ _ hO)) (Seg2.seqP (by rfl) (Seg1.to2 (Pgcp1 _ hσ _ _ hO)) (Seg2.seqP (by rfl) (Seg1.to2 (Pgcp2 _ hσ _ _ hO)) (Seg2.seqP (by rfl) (Seg1.to2 (Seg1.seqP (by rfl) (Pgcp3 _ hσ _ _ hO) (Pgcp4 _ hσ _ _ hO))) (Seg2.seqP (by rfl) (Seg1.to2 (Pgcp5 _ hσ _ _ hO)) (Seg2.seqP (by rfl) (Seg1.to2 (Pgcp6 _ hσ _ _ hO)) (Seg2.seqP (by rfl) (Seg1.to2 (Seg1.seqP (by rfl) (Pgcp7 _ hσ _ _ hO) (Seg1.loopP (by rfl) (Seg1.loopNext (Pgcp8 _ hσ _ _ hO) (Seg1.loopExit (Pgcp9 _ hσ _ _ hO)))))) (Seg2.seqP (by rfl) (Seg1.to2 (Pgcp10 _ hσ _ _ hO)) (Seg2.seqP (by rfl) (Seg1.to2 (Seg1.seqP (by rfl) (Pgcp11 _ hσ _ _ hO) (Seg1.loopP (by rfl) (Seg1.loopNext (Pgcp12 _ hσ _ _ hO) (Seg1.loopNext (Pgcp13 _ hσ _ _ hO) (Seg1.loopNext (Pgcp14 _ hσ _ _ hO) (Seg1.loopNext (Pgcp15 _ hσ _ _ hO) (Seg1.loopNext (Pgcp16 _ hσ _ _ hO) (Seg1.loopNext (Pgcp17 _ hσ _ _ hO) (Seg1.loopExit (Pgcp18 _ hσ _ _ hO))))))))))) (Seg2.seqP (by rfl) (Seg1.to2 (Pgcp19 _ hσ _ _ hO)) (Seg2.seqP (by rfl) (Seg1.to2 (Seg1.seqP (by rfl) (Pgcp20 _ hσ _ _ hO) (Pgcp21 _ hσ _ _ hO))) hTail)))))))))))
  have hb : Tryz.f3.body = some (pgC 0) := by rfl
  have fin := calls_of_seg2 (P := Tryz.prog) (f := 3) (fn := Tryz.f3) (c := bodyOf Tryz.prog 3) (args := #[kf 5, kf 6, kf 7, kf 8]) (l0 := Pg0) (h0 := []) (tabs := []) (sgV_one (Pg1l_tok _ _ _ _ _ _ _ _ _ _ _ _ _)) (Nat.zero_le _) (tabR_nil w) Tryz.func3 hb rfl Pg0_eq pg_w0 key (.inr rfl) hZ rfl
  exact pg_key rfl fin
def Pgdt (r pg kk : Int) (mk mo o0 w0 v0 : Nat) : List Value := [.int .i64 (82 + 6 * (1 + r) + 2), .int .i64 (82 + 6 * (1 + r) + 0), .int .i64 (82 + 6 * (1 + r) + 1), .int .i64 70003, .int .i64 70004, .int .u8 pg, .int .u8 kk, .int .u64 ((mk : Int)), .int .u64 ((mo : Int)), .int .i64 (1 + r), .int .i64 (1 + r), .int .u64 ((o0 : Int)), .int .u64 91001, .int .u64 91002, .int .i64 91003, .int .i64 91004, .int .i64 pg, .int .i64 r, .int .i64 (5 * (1 + r)), .int .i64 (82 + (5 * (1 + r))), .int .i64 ((1 + r) + 64), .int .i64 (((1 + r) + 64) - 1), .int .i64 (8192 * (1 + r)), .int .i64 (6 * (1 + r)), .int .i64 kk, .int .u64 ((w0 : Int)), .int .i64 ((1 + r) - (1 + r)), .int .u64 (1 + r), .int .u64 ((1 + r) - (1 + r)), .int .u64 ((v0 : Int))]
set_option maxHeartbeats 4000000 in
theorem Pgd_any (r pg kk : Int) (mk mo o0 w0 v0 : Nat) (w : World) (hpg : 0 ≤ pg ∧ pg < 256) (hkk : 0 ≤ kk ∧ kk < 256) (hr : Int.tmod pg 128 = r) (hq : Int.tmod kk (1 + r) = r) (hr2 : 0 ≤ r ∧ r < 128) (hm : r < 64) (hBmk : mk < 18446744073709551616) (hBmo : mo < 18446744073709551616) (hBo0 : o0 < 18446744073709551616) (hBw0 : w0 < 18446744073709551616) (hBv0 : v0 < 18446744073709551616) (ho0 : o0 = 2 ^ (min (1 + r : Int).toNat 64) - 1) (ha0 : w0 = mk &&& o0) (ha1 : v0 = w0 &&& o0) (ha2 : v0 = 0) (hb0 : ∀ i : Nat, i < 64 → (i : Int) < 1 + r → w0.testBit i = (decide ((1 + r : Int) ≤ i) && w0.testBit i)) : Calls Tryz.prog 3 #[.int .u8 pg, .int .u8 kk, .int .u64 (mk : Int), .int .u64 (mo : Int)] w fun e w' => e = .returned (.bool true) ∧ Ext w w' := by
  have hE : AllOK Tryz.prog (sgV (Pgdt r pg kk mk mo o0 w0 v0)) Pgde := AllOK.cons (ent_conv Tryz.underlying5 Tryz.underlying3 rfl (by exact congrArg (Value.int .i64) ((i64_in pg (by omega)).trans (show (pg : Int) = pg by omega)).symm) rfl) (
    AllOK.cons (ent_rem (a := pg) (c := 128) rfl rfl (by omega) (by exact congrArg (Value.int .i64) hr.symm) rfl) (
    AllOK.cons (eA (1) (r) (1 + r) (by omega)) (
    AllOK.cons (egeqT (1 + r) (1) (by omega)) (
    AllOK.cons (eleqT (1 + r) (4096) (by omega)) (
    AllOK.cons (eM (5) (1 + r) (5 * (1 + r)) (by omega)) (
    AllOK.cons (eA (82) (5 * (1 + r)) (82 + (5 * (1 + r))) (by omega)) (
    AllOK.cons (eA (82 + (5 * (1 + r))) (1 + r) (82 + 6 * (1 + r) + 0) (by omega)) (
    AllOK.cons (eA (1 + r) (64) ((1 + r) + 64) (by omega)) (
    AllOK.cons (eS ((1 + r) + 64) (1) (((1 + r) + 64) - 1) (by omega)) (
    AllOK.cons (ent_quo (a := ((1 + r) + 64) - 1) (c := 64) rfl rfl (by omega) (by exact congrArg (Value.int .i64) (quoC (a := ((1 + r) + 64) - 1) (c := 64) (q := 1) (by omega) (by omega) (by omega) (by omega) (by omega)).symm) rfl) (
    AllOK.cons (eA (82 + 6 * (1 + r) + 0) (1) (82 + 6 * (1 + r) + 1) (by omega)) (
    AllOK.cons (eA (82 + 6 * (1 + r) + 1) (1) (82 + 6 * (1 + r) + 2) (by omega)) (
    AllOK.cons (elssF (82 + 6 * (1 + r) + 2) (1) (by omega)) (
    AllOK.cons (egtrF (82 + 6 * (1 + r) + 2) (65536) (by omega)) (
    AllOK.cons (egeqF (0) (82 + 6 * (1 + r) + 2) (by omega)) (
    AllOK.cons (elssF (1 + r) (1) (by omega)) (
    AllOK.cons (egtrF (1 + r) (4096) (by omega)) (
    AllOK.cons (eM (8192) (1 + r) (8192 * (1 + r)) (by omega)) (
    AllOK.cons (eA (8192 * (1 + r)) (0) (8192 * (1 + r)) (by omega)) (
    AllOK.cons (eA (0) (1 + r) (1 + r) (by omega)) (
    AllOK.cons (eM (6) (1 + r) (6 * (1 + r)) (by omega)) (
    AllOK.cons (eA (82) (6 * (1 + r)) (82 + 6 * (1 + r) + 0) (by omega)) (
    AllOK.cons (eA (1 + r) (63) (((1 + r) + 64) - 1) (by omega)) (
    AllOK.cons (eA (82 + 6 * (1 + r) + 0) (2) (82 + 6 * (1 + r) + 2) (by omega)) (
    AllOK.cons (ent_conv Tryz.underlying5 Tryz.underlying3 rfl (by exact congrArg (Value.int .i64) ((i64_in kk (by omega)).trans (show (kk : Int) = kk by omega)).symm) rfl) (
    AllOK.cons (ent_rem (a := kk) (c := 1 + r) rfl rfl (by omega) (by exact congrArg (Value.int .i64) hq.symm) rfl) (
    AllOK.cons (elssT (0) (1 + r) (by omega)) (
    AllOK.cons (eS (1 + r) (0) (1 + r) (by omega)) (
    AllOK.cons (ent_andN (a := mk) (c := o0) (b := w0) (by omega) (by omega) rfl rfl ha0 rfl rfl) (
    AllOK.cons (eA (82 + 6 * (1 + r) + 0) (0) (82 + 6 * (1 + r) + 0) (by omega)) (
    AllOK.cons (elssF (82 + 6 * (1 + r) + 1) (0) (by omega)) (
    AllOK.cons (egeqF (82 + 6 * (1 + r) + 1) (82 + 6 * (1 + r) + 2) (by omega)) (
    AllOK.cons (egeqT (82 + 6 * (1 + r) + 1) (0) (by omega)) (
    AllOK.cons (elssT (82 + 6 * (1 + r) + 1) (82 + 6 * (1 + r) + 2) (by omega)) (
    AllOK.cons (elssF (64) (1 + r) (by omega)) (
    AllOK.cons (lay_same (P := 1 + r) (T := 1) rfl) (
    AllOK.cons (egeqF (2) (82 + 6 * (1 + r) + 2) (by omega)) (
    AllOK.cons (egtrF (1 + r) (1 + r) (by omega)) (
    AllOK.cons (elssF (8192 * (1 + r)) (8192 * (1 + r)) (by omega)) (
    AllOK.cons (ent_cmp (op := .neq) (a := 8192 * (1 + r)) (c := 8192 * (1 + r)) rfl rfl (by simp)) (
    AllOK.cons (ent_cmp (op := .neq) (a := 1 + r) (c := 1 + r) rfl rfl (by simp)) (
    AllOK.cons (elssF (1 + r) (1 + r) (by omega)) (
    AllOK.cons (eS (1 + r) (1 + r) ((1 + r) - (1 + r)) (by omega)) (
    AllOK.cons (egtrF (1 + r) (1048576) (by omega)) (
    AllOK.cons (ent_min (a := 1 + r) (c := 64) (b := 1 + r) rfl rfl (by omega) rfl rfl) (
    AllOK.cons (ent_shl0 (a := o0) (by omega) rfl rfl) (
    AllOK.cons (eA (82 + 6 * (1 + r) + 1) (0) (82 + 6 * (1 + r) + 1) (by omega)) (
    AllOK.cons (ent_conv Tryz.underlying3 Tryz.underlying22 rfl (by exact congrArg (Value.int .u64) ((u64_in (1 + r) (by omega)).trans (show (1 + r : Int) = 1 + r by omega)).symm) rfl) (
    AllOK.cons (ent_conv Tryz.underlying3 Tryz.underlying22 rfl (by exact congrArg (Value.int .u64) ((u64_in ((1 + r) - (1 + r)) (by omega)).trans (show ((1 + r) - (1 + r) : Int) = (1 + r) - (1 + r) by omega)).symm) rfl) (
    AllOK.cons (elssF (82 + 6 * (1 + r) + 0) (0) (by omega)) (
    AllOK.cons (egeqF (82 + 6 * (1 + r) + 0) (82 + 6 * (1 + r) + 2) (by omega)) (
    AllOK.cons (ent_add (a := 0) (c := (o0 : Int)) rfl rfl (by exact congrArg (Value.int .u64) ((u64_in (0 + ((o0 : Int))) (by omega)).trans (show (0 + ((o0 : Int)) : Int) = (o0 : Int) by omega)).symm) rfl) (
    AllOK.cons (ent_andN (a := w0) (c := o0) (b := v0) (by omega) (by omega) rfl rfl ha1 rfl rfl) (
    AllOK.cons (ent_cmp (op := .eql) (a := (v0 : Int)) (c := 0) rfl rfl (by rw [show ((v0 : Int) : Int) = 0 by omega]; simp)) (
    AllOK.nil)))))))))))))))))))))))))))))))))))))))))))))))))))))))
  have hF : ∀ e ∈ Pgdf, FnOK Tryz.prog (sgV (Pgdt r pg kk mk mo o0 w0 v0)) w w.heap.size e := FnsOK.cons (FnOK.mk rfl fun w' _ => Mpaw_any w' (Nat.zero_le _)) (
    FnsOK.cons (FnOK.any rfl fun w' _ => r9new128 (1 + r) w' (by omega)) (
    FnsOK.cons (pg_fnR (n := 1 + r) (b := o0) (by omega) (by omega) rfl (by exact ho0) rfl rfl) (
    FnsOK.cons (pg_fnW (n := 1 + r) (b := o0) (by omega) (by omega) rfl (by exact ho0) rfl rfl) (
    FnsOK.nil))))
  have hTL : TokL (Pgdt r pg kk mk mo o0 w0 v0) := (TokL.int (TokL.int (TokL.int (TokL.int (TokL.int (TokL.int (TokL.int (TokL.int (TokL.int (TokL.int (TokL.int (TokL.int (TokL.int (TokL.int (TokL.int (TokL.int (TokL.int (TokL.int (TokL.int (TokL.int (TokL.int (TokL.int (TokL.int (TokL.int (TokL.int (TokL.int (TokL.int (TokL.int (TokL.int (TokL.int TokL.nil))))))))))))))))))))))))))))))
  have hσ := sgV_one hTL
  have hS : SpOK (sgV (Pgdt r pg kk mk mo o0 w0 v0)) 2 := pg_sp (P := 1 + r) (m := 1) (by omega) rfl (by omega) (by omega) (by intro j hj; rcases (show j = 0 ∨ j = 1 by omega) with rfl | rfl <;> exact ⟨_, rfl, by omega⟩)
  have hO : OrcOK Tryz.prog (sgV (Pgdt r pg kk mk mo o0 w0 v0)) w w.heap.size (PgdO) := orcS_ok hE (sgV_ne hTL) hF hS (rdG_ok hσ ⟨_, rfl, by omega⟩) noMkS_ok
  have hK : Weak (sgV (Pgdt r pg kk mk mo o0 w0 v0)) (sgV (Pg1l r r pg kk mk mo w0 0 w0 0 o0 0 0)) w w.heap.size 0 Pgdl127 Pgdh128 Pg1A Pg1H := weak_of (weakOK_pre (n := 11) (l2 := Pg1l r r pg kk mk mo w0 0 w0 0 o0 0 0) hTL rfl rfl (pairs_tok (a := 9) (b := 10) rfl (pairs_tok (a := 25) (b := 11) rfl (pairs_tok (a := 11) (b := 15) rfl (pairs_tok (a := 25) (b := 13) rfl pairs_nil))))) Pgdw
  obtain ⟨lZ, hT0, hZ⟩ := Pg1_tail r r pg kk mk mo w0 0 w0 0 o0 0 w (by omega) (by omega) (by omega) (by omega) (by omega) (by omega) (by omega) (by omega) hb0
  have hTail := hK.ahead hT0
  have key : Seg2 Tryz.prog (sgV (Pgdt r pg kk mk mo o0 w0 v0)) (sgV (Pg1l r r pg kk mk mo w0 0 w0 0 o0 0 (((1 + r).toNat : Nat) : Int))) w w.heap.size 0 (.code (pgC 0)) Pg0 [] .ret lZ Pg1H := (Seg2.seqP (by rfl) (Seg1.to2 (Pgdp0 _ hσ _ _ hO)) (Seg2.seqP (by rfl) (Seg1.to2 (Pgdp1 _ hσ _ _ hO)) (Seg2.seqP (by rfl) (Seg1.to2 (Pgdp2 _ hσ _ _ hO)) (Seg2.seqP (by rfl) (Seg1.to2 (Seg1.seqP (by rfl) (Pgdp3 _ hσ _ _ hO) (Pgdp4 _ hσ _ _ hO))) (Seg2.seqP (by rfl) (Seg1.to2 (Pgdp5 _ hσ _ _ hO)) (Seg2.seqP (by rfl) (Seg1.to2 (Pgdp6 _ hσ _ _ hO)) (Seg2.seqP (by rfl) (Seg1.to2 (Seg1.seqP (by rfl) (Pgdp7 _ hσ _ _ hO) (Seg1.loopP (by rfl) (Seg1.loopNext (Pgdp8 _ hσ _ _ hO) (Seg1.loopExit (Pgdp9 _ hσ _ _ hO)))))) (Seg2.seqP (by rfl) (Seg1.to2 (Pgdp10 _ hσ _ _ hO)) (Seg2.seqP (by rfl) (Seg1.to2 (Seg1.seqP (by rfl) (Pgdp11 _ hσ _ _ hO) (Seg1.loopP (by rfl) (Seg1.loopNext (Pgdp12 _ hσ _ _ hO) (Seg1.loopNext (Pgdp13 _ hσ _ _ hO) (Seg1.loopNext (Pgdp14 _ hσ _ _ hO) (Seg1.loopNext (Pgdp15 _ hσ _ _ hO) (Seg1.loopNext (Pgdp16 _ hσ _ _ hO) (Seg1.loopExit (Pgdp17 _ hσ _ _ hO)))))))))) (Seg2.seqP (by rfl) (Seg1.to2 (Pgdp18 _ hσ _ _ hO)) (Seg2.seqP (by rfl) (Seg1.to2 (Seg1.seqP (by rfl) (Pgdp19 _ hσ _ _ hO) (Pgdp20 _ hσ _ _ hO))) hTail)))))))))))
  have hb : Tryz.f3.body = some (pgC 0) := by rfl
  have fin := calls_of_seg2 (P := Tryz.prog) (f := 3) (fn := Tryz.f3) (c := bodyOf Tryz.prog 3) (args := #[kf 5, kf 6, kf 7, kf 8]) (l0 := Pg0) (h0 := []) (tabs := []) (sgV_one (Pg1l_tok _ _ _ _ _ _ _ _ _ _ _ _ _)) (Nat.zero_le _) (tabR_nil w) Tryz.func3 hb rfl Pg0_eq pg_w0 key (.inr rfl) hZ rfl
  exact pg_key rfl fin
def Pget (r q pg kk : Int) (mk mo o1 q0 w1 v0 x0 r0 : Nat) : List Value := [.int .i64 (82 + 6 * (1 + r) + 4), .int .i64 (82 + 6 * (1 + r) + 0), .int .i64 (82 + 6 * (1 + r) + 1), .int .i64 (82 + 6 * (1 + r) + 2), .int .i64 (82 + 6 * (1 + r) + 3), .int .u8 pg, .int .u8 kk, .int .u64 ((mk : Int)), .int .u64 ((mo : Int)), .int .i64 (1 + r), .int .i64 (1 + q), .int .u64 ((o1 : Int)), .int .u64 ((q0 : Int)), .int .u64 91002, .int .i64 91003, .int .i64 (1 + r - 64), .int .i64 pg, .int .i64 r, .int .i64 (5 * (1 + r)), .int .i64 (82 + (5 * (1 + r))), .int .i64 ((1 + r) + 64), .int .i64 (((1 + r) + 64) - 1), .int .i64 (8192 * (1 + r)), .int .i64 (6 * (1 + r)), .int .i64 kk, .int .i64 q, .int .u64 ((w1 : Int)), .int .i64 (8192 * (1 + q)), .int .i64 ((1 + r) - (1 + r)), .int .i64 ((1 + r) - (1 + q)), .int .i64 (8192 * ((1 + r) - (1 + q))), .int .i64 ((8192 * ((1 + r) - (1 + q))) + (1 + q)), .int .u64 (1 + q), .int .u64 ((1 + r) - (1 + q)), .int .u64 ((v0 : Int)), .int .u64 ((x0 : Int)), .int .u64 ((r0 : Int))]
set_option maxHeartbeats 4000000 in
theorem Pge_any (r q pg kk : Int) (mk mo o1 q0 w1 v0 x0 r0 : Nat) (w : World) (hpg : 0 ≤ pg ∧ pg < 256) (hkk : 0 ≤ kk ∧ kk < 256) (hr : Int.tmod pg 128 = r) (hq : Int.tmod kk (1 + r) = q) (hr2 : 0 ≤ r ∧ r < 128) (hq2 : 0 ≤ q ∧ q < r) (hm : 64 ≤ r) (hn : 1 + q ≤ 64) (hBmk : mk < 18446744073709551616) (hBmo : mo < 18446744073709551616) (hBo1 : o1 < 18446744073709551616) (hBq0 : q0 < 18446744073709551616) (hBw1 : w1 < 18446744073709551616) (hBv0 : v0 < 18446744073709551616) (hBx0 : x0 < 18446744073709551616) (hBr0 : r0 < 18446744073709551616) (ho1 : o1 = 2 ^ (min (1 + r - 64 : Int).toNat 64) - 1) (hq0 : q0 = 2 ^ (min (1 + q : Int).toNat 64) - 1) (ha0 : mk = mk &&& 18446744073709551615) (ha1 : w1 = mo &&& o1) (ha2 : v0 = mk &&& q0) (ha3 : v0 ≠ 0) (ha4 : x0 + v0 = 18446744073709551616) (ha5 : r0 + v0 = mk) (hb0 : ∀ i : Nat, i < 64 → (i : Int) < 1 + r → r0.testBit i = (decide ((1 + q : Int) ≤ i) && mk.testBit i)) (hb1 : ∀ i : Nat, i < 64 → (i : Int) + 64 < 1 + r → w1.testBit i = (decide ((1 + q : Int) ≤ (i : Int) + 64) && w1.testBit i)) : Calls Tryz.prog 3 #[.int .u8 pg, .int .u8 kk, .int .u64 (mk : Int), .int .u64 (mo : Int)] w fun e w' => e = .returned (.bool true) ∧ Ext w w' := by
  have hE : AllOK Tryz.prog (sgV (Pget r q pg kk mk mo o1 q0 w1 v0 x0 r0)) Pgee := AllOK.cons (ent_conv Tryz.underlying5 Tryz.underlying3 rfl (by exact congrArg (Value.int .i64) ((i64_in pg (by omega)).trans (show (pg : Int) = pg by omega)).symm) rfl) (
    AllOK.cons (ent_rem (a := pg) (c := 128) rfl rfl (by omega) (by exact congrArg (Value.int .i64) hr.symm) rfl) (
    AllOK.cons (eA (1) (r) (1 + r) (by omega)) (
    AllOK.cons (egeqT (1 + r) (1) (by omega)) (
    AllOK.cons (eleqT (1 + r) (4096) (by omega)) (
    AllOK.cons (eM (5) (1 + r) (5 * (1 + r)) (by omega)) (
    AllOK.cons (eA (82) (5 * (1 + r)) (82 + (5 * (1 + r))) (by omega)) (
    AllOK.cons (eA (82 + (5 * (1 + r))) (1 + r) (82 + 6 * (1 + r) + 0) (by omega)) (
    AllOK.cons (eA (1 + r) (64) ((1 + r) + 64) (by omega)) (
    AllOK.cons (eS ((1 + r) + 64) (1) (((1 + r) + 64) - 1) (by omega)) (
    AllOK.cons (ent_quo (a := ((1 + r) + 64) - 1) (c := 64) rfl rfl (by omega) (by exact congrArg (Value.int .i64) (quoC (a := ((1 + r) + 64) - 1) (c := 64) (q := 2) (by omega) (by omega) (by omega) (by omega) (by omega)).symm) rfl) (
    AllOK.cons (eA (82 + 6 * (1 + r) + 0) (2) (82 + 6 * (1 + r) + 2) (by omega)) (
    AllOK.cons (eA (82 + 6 * (1 + r) + 2) (2) (82 + 6 * (1 + r) + 4) (by omega)) (
    AllOK.cons (elssF (82 + 6 * (1 + r) + 4) (1) (by omega)) (
    AllOK.cons (egtrF (82 + 6 * (1 + r) + 4) (65536) (by omega)) (
    AllOK.cons (egeqF (0) (82 + 6 * (1 + r) + 4) (by omega)) (
    AllOK.cons (elssF (1 + r) (1) (by omega)) (
    AllOK.cons (egtrF (1 + r) (4096) (by omega)) (
    AllOK.cons (eM (8192) (1 + r) (8192 * (1 + r)) (by omega)) (
    AllOK.cons (eA (8192 * (1 + r)) (0) (8192 * (1 + r)) (by omega)) (
    AllOK.cons (eA (0) (1 + r) (1 + r) (by omega)) (
    AllOK.cons (eM (6) (1 + r) (6 * (1 + r)) (by omega)) (
    AllOK.cons (eA (82) (6 * (1 + r)) (82 + 6 * (1 + r) + 0) (by omega)) (
    AllOK.cons (eA (1 + r) (63) (((1 + r) + 64) - 1) (by omega)) (
    AllOK.cons (eA (82 + 6 * (1 + r) + 0) (4) (82 + 6 * (1 + r) + 4) (by omega)) (
    AllOK.cons (ent_conv Tryz.underlying5 Tryz.underlying3 rfl (by exact congrArg (Value.int .i64) ((i64_in kk (by omega)).trans (show (kk : Int) = kk by omega)).symm) rfl) (
    AllOK.cons (ent_rem (a := kk) (c := 1 + r) rfl rfl (by omega) (by exact congrArg (Value.int .i64) hq.symm) rfl) (
    AllOK.cons (eA (1) (q) (1 + q) (by omega)) (
    AllOK.cons (elssT (0) (1 + r) (by omega)) (
    AllOK.cons (eS (1 + r) (0) (1 + r) (by omega)) (
    AllOK.cons (ent_andN (a := mk) (c := 18446744073709551615) (b := mk) (by omega) (by omega) rfl rfl ha0 rfl rfl) (
    AllOK.cons (eA (82 + 6 * (1 + r) + 0) (0) (82 + 6 * (1 + r) + 0) (by omega)) (
    AllOK.cons (elssF (82 + 6 * (1 + r) + 2) (0) (by omega)) (
    AllOK.cons (egeqF (82 + 6 * (1 + r) + 2) (82 + 6 * (1 + r) + 4) (by omega)) (
    AllOK.cons (egeqT (82 + 6 * (1 + r) + 2) (0) (by omega)) (
    AllOK.cons (elssT (82 + 6 * (1 + r) + 2) (82 + 6 * (1 + r) + 4) (by omega)) (
    AllOK.cons (elssT (64) (1 + r) (by omega)) (
    AllOK.cons (eS (1 + r) (64) (1 + r - 64) (by omega)) (
    AllOK.cons (ent_andN (a := mo) (c := o1) (b := w1) (by omega) (by omega) rfl rfl ha1 rfl rfl) (
    AllOK.cons (eA (82 + 6 * (1 + r) + 0) (1) (82 + 6 * (1 + r) + 1) (by omega)) (
    AllOK.cons (eA (82 + 6 * (1 + r) + 1) (2) (82 + 6 * (1 + r) + 3) (by omega)) (
    AllOK.cons (elssF (82 + 6 * (1 + r) + 3) (0) (by omega)) (
    AllOK.cons (egeqF (82 + 6 * (1 + r) + 3) (82 + 6 * (1 + r) + 4) (by omega)) (
    AllOK.cons (egeqT (82 + 6 * (1 + r) + 3) (0) (by omega)) (
    AllOK.cons (elssT (82 + 6 * (1 + r) + 3) (82 + 6 * (1 + r) + 4) (by omega)) (
    AllOK.cons (elssF (128) (1 + r) (by omega)) (
    AllOK.cons (elssF (1 + q) (1) (by omega)) (
    AllOK.cons (egtrF (1 + q) (4096) (by omega)) (
    AllOK.cons (lay_same (P := 1 + r) (T := 1) rfl) (
    AllOK.cons (egeqF (2) (82 + 6 * (1 + r) + 4) (by omega)) (
    AllOK.cons (egtrF (1 + q) (1 + r) (by omega)) (
    AllOK.cons (eM (8192) (1 + q) (8192 * (1 + q)) (by omega)) (
    AllOK.cons (elssF (8192 * (1 + r)) (8192 * (1 + q)) (by omega)) (
    AllOK.cons (ent_cmp (op := .neq) (a := 8192 * (1 + r)) (c := 8192 * (1 + r)) rfl rfl (by simp)) (
    AllOK.cons (ent_cmp (op := .neq) (a := 1 + r) (c := 1 + r) rfl rfl (by simp)) (
    AllOK.cons (elssF (1 + r) (1 + r) (by omega)) (
    AllOK.cons (egtrF (1 + r) (1 + r) (by omega)) (
    AllOK.cons (eS (1 + r) (1 + r) ((1 + r) - (1 + r)) (by omega)) (
    AllOK.cons (egtrT (1 + r) (1 + q) (by omega)) (
    AllOK.cons (eA (0) (1 + q) (1 + q) (by omega)) (
    AllOK.cons (eS (1 + r) (1 + q) ((1 + r) - (1 + q)) (by omega)) (
    AllOK.cons (eM (8192) ((1 + r) - (1 + q)) (8192 * ((1 + r) - (1 + q))) (by omega)) (
    AllOK.cons (eA (8192 * ((1 + r) - (1 + q))) (1 + q) ((8192 * ((1 + r) - (1 + q))) + (1 + q)) (by omega)) (
    AllOK.cons (eA ((1 + r) - (1 + r)) ((1 + r) - (1 + q)) ((1 + r) - (1 + q)) (by omega)) (
    AllOK.cons (egtrF (1 + q) (1048576) (by omega)) (
    AllOK.cons (elssT (0) (1 + q) (by omega)) (
    AllOK.cons (ent_min (a := 1 + q) (c := 64) (b := 1 + q) rfl rfl (by omega) rfl rfl) (
    AllOK.cons (eS (1 + q) (0) (1 + q) (by omega)) (
    AllOK.cons (ent_shl0 (a := q0) (by omega) rfl rfl) (
    AllOK.cons (elssF (1 + q) (1 + q) (by omega)) (
    AllOK.cons (eA (82 + 6 * (1 + r) + 2) (0) (82 + 6 * (1 + r) + 2) (by omega)) (
    AllOK.cons (ent_conv Tryz.underlying3 Tryz.underlying22 rfl (by exact congrArg (Value.int .u64) ((u64_in (1 + q) (by omega)).trans (show (1 + q : Int) = 1 + q by omega)).symm) rfl) (
    AllOK.cons (ent_conv Tryz.underlying3 Tryz.underlying22 rfl (by exact congrArg (Value.int .u64) ((u64_in ((1 + r) - (1 + q)) (by omega)).trans (show ((1 + r) - (1 + q) : Int) = (1 + r) - (1 + q) by omega)).symm) rfl) (
    AllOK.cons (elssF (82 + 6 * (1 + r) + 0) (0) (by omega)) (
    AllOK.cons (egeqF (82 + 6 * (1 + r) + 0) (82 + 6 * (1 + r) + 4) (by omega)) (
    AllOK.cons (ent_add (a := 0) (c := (q0 : Int)) rfl rfl (by exact congrArg (Value.int .u64) ((u64_in (0 + ((q0 : Int))) (by omega)).trans (show (0 + ((q0 : Int)) : Int) = (q0 : Int) by omega)).symm) rfl) (
    AllOK.cons (ent_andN (a := mk) (c := q0) (b := v0) (by omega) (by omega) rfl rfl ha2 rfl rfl) (
    AllOK.cons (ent_cmp (op := .eql) (a := (v0 : Int)) (c := 0) rfl rfl (by have h9 : ((v0 : Int) : Int) ≠ 0 := (by omega); first | (simp [h9]; done) | (simp; omega))) (
    AllOK.cons (ent_neg (v := v0) (b := x0) (by omega) (by omega) rfl rfl rfl) (
    AllOK.cons (ent_addw (a := mk) (c := x0) (b := r0) (by omega) rfl rfl rfl rfl) (
    AllOK.nil))))))))))))))))))))))))))))))))))))))))))))))))))))))))))))))))))))))))))))))))
  have hF : ∀ e ∈ Pgef, FnOK Tryz.prog (sgV (Pget r q pg kk mk mo o1 q0 w1 v0 x0 r0)) w w.heap.size e := FnsOK.cons (FnOK.mk rfl fun w' _ => Mpaw_any w' (Nat.zero_le _)) (
    FnsOK.cons (FnOK.any rfl fun w' _ => r9new128 (1 + r) w' (by omega)) (
    FnsOK.cons (pg_fnR (n := 1 + r) (b := 18446744073709551615) (by omega) (by omega) rfl (by rw [show min (1 + r : Int).toNat 64 = 64 by omega]) rfl rfl) (
    FnsOK.cons (pg_fnR (n := 1 + r - 64) (b := o1) (by omega) (by omega) rfl (by exact ho1) rfl rfl) (
    FnsOK.cons (pg_fnW (n := 1 + q) (b := q0) (by omega) (by omega) rfl (by exact hq0) rfl rfl) (
    FnsOK.nil)))))
  have hTL : TokL (Pget r q pg kk mk mo o1 q0 w1 v0 x0 r0) := (TokL.int (TokL.int (TokL.int (TokL.int (TokL.int (TokL.int (TokL.int (TokL.int (TokL.int (TokL.int (TokL.int (TokL.int (TokL.int (TokL.int (TokL.int (TokL.int (TokL.int (TokL.int (TokL.int (TokL.int (TokL.int (TokL.int (TokL.int (TokL.int (TokL.int (TokL.int (TokL.int (TokL.int (TokL.int (TokL.int (TokL.int (TokL.int (TokL.int (TokL.int (TokL.int (TokL.int (TokL.int TokL.nil)))))))))))))))))))))))))))))))))))))
  have hσ := sgV_one hTL
  have hS : SpOK (sgV (Pget r q pg kk mk mo o1 q0 w1 v0 x0 r0)) 4 := pg_sp (P := 1 + r) (m := 2) (by omega) rfl (by omega) (by omega) (by intro j hj; rcases (show j = 0 ∨ j = 1 ∨ j = 2 ∨ j = 3 by omega) with rfl | rfl | rfl | rfl <;> exact ⟨_, rfl, by omega⟩)
  have hO : OrcOK Tryz.prog (sgV (Pget r q pg kk mk mo o1 q0 w1 v0 x0 r0)) w w.heap.size (PgeO) := orcS_ok hE (sgV_ne hTL) hF hS (rdG_ok hσ ⟨_, rfl, by omega⟩) noMkS_ok
  have hK : Weak (sgV (Pget r q pg kk mk mo o1 q0 w1 v0 x0 r0)) (sgV (Pg2l r q pg kk mk mo mk w1 r0 w1 q0 0 0)) w w.heap.size 0 Pgel149 Pgeh150 Pg2A Pg2H := weak_of (weakOK_pre (n := 11) (l2 := Pg2l r q pg kk mk mo mk w1 r0 w1 q0 0 0) hTL rfl rfl (pairs_tok (a := 10) (b := 10) rfl (pairs_tok (a := 7) (b := 11) rfl (pairs_tok (a := 26) (b := 12) rfl (pairs_tok (a := 12) (b := 15) rfl (pairs_int (b := 16) rfl (pairs_tok (a := 36) (b := 13) rfl (pairs_tok (a := 26) (b := 14) rfl pairs_nil)))))))) Pgew
  obtain ⟨lZ, hT0, hZ⟩ := Pg2_tail r q pg kk mk mo mk w1 r0 w1 q0 0 w (by omega) (by omega) (by omega) (by omega) (by omega) (by omega) (by omega) (by omega) hb0 hb1
  have hTail := hK.ahead hT0
  have key : Seg2 Tryz.prog (sgV (Pget r q pg kk mk mo o1 q0 w1 v0 x0 r0)) (sgV (Pg2l r q pg kk mk mo mk w1 r0 w1 q0 0 (((1 + r).toNat : Nat) : Int))) w w.heap.size 0 (.code (pgC 0)) Pg0 [] .ret lZ Pg2H := (Seg2.seqP (by rfl) (Seg1.to2 (Pgep0 _ hσ _ _ hO)) (Seg2.seqP (by rfl) (Seg1.to2 (Pgep1 _ hσ _ _ hO)) (Seg2.seqP (by rfl) (Seg1.to2 (Pgep2 _ hσ _ _ hO)) (Seg2.seqP (by rfl) (Seg1.to2 (Seg1.seqP (by rfl) (Pgep3 _ hσ _ _ hO) (Pgep4 _ hσ _ _ hO))) (Seg2.seqP (by rfl) (Seg1.to2 (Pgep5 _ hσ _ _ hO)) (Seg2.seqP (by rfl) (Seg1.to2 (Pgep6 _ hσ _ _ hO)) (Seg2.seqP (by rfl) (Seg1.to2 (Seg1.seqP (by rfl) (Pgep7 _ hσ _ _ hO) (Seg1.loopP (by rfl) (Seg1.loopNext (Pgep8 _ hσ _ _ hO) (Seg1.loopNext (Pgep9 _ hσ _ _ hO) (Seg1.loopExit (Pgep10 _ hσ _ _ hO))))))) (Seg2.seqP (by rfl) (Seg1.to2 (Pgep11 _ hσ _ _ hO)) (Seg2.seqP (by rfl) (Seg1.to2 (Seg1.seqP (by rfl) (Pgep12 _ hσ _ _ hO) (Seg1.loopP (by rfl) (Seg1.loopNext (Pgep13 _ hσ _ _ hO) (Seg1.loopNext (Pgep14 _ hσ _ _ hO) (Seg1.loopNext (Pgep15 _ hσ _ _ hO) (Seg1.loopNext (Pgep16 _ hσ _ _ hO) (Seg1.loopNext (Pgep17 _ hσ _ _ hO) (Seg1.loopNext (Pgep18 _ hσ _ _ hO) (Seg1.loopExit (Pgep19 _ hσ _ _ hO))))))))))) (Seg2.seqP (by rfl) (Seg1.to2 (Pgep20 _ hσ _ _ hO)) (Seg2.seqP (by rfl) (Seg1.to2 (Seg1.seqP (by rfl) (Pgep21 _ hσ _ _ hO) (Pgep22 _ hσ _ _ hO))) hTail)))))))))))
  have hb : Tryz.f3.body = some (pgC 0) := by rfl
  have fin := calls_of_seg2 (P := Tryz.prog) (f := 3) (fn := Tryz.f3) (c := bodyOf Tryz.prog 3) (args := #[kf 5, kf 6, kf 7, kf 8]) (l0 := Pg0) (h0 := []) (tabs := []) (sgV_one (Pg2l_tok _ _ _ _ _ _ _ _ _ _ _ _ _)) (Nat.zero_le _) (tabR_nil w) Tryz.func3 hb rfl Pg0_eq pg_w0 key (.inr rfl) hZ rfl
  exact pg_key rfl fin
def Pgft (r q pg kk : Int) (mk mo o1 q0 w1 v0 : Nat) : List Value := [.int .i64 (82 + 6 * (1 + r) + 4), .int .i64 (82 + 6 * (1 + r) + 0), .int .i64 (82 + 6 * (1 + r) + 1), .int .i64 (82 + 6 * (1 + r) + 2), .int .i64 (82 + 6 * (1 + r) + 3), .int .u8 pg, .int .u8 kk, .int .u64 ((mk : Int)), .int .u64 ((mo : Int)), .int .i64 (1 + r), .int .i64 (1 + q), .int .u64 ((o1 : Int)), .int .u64 ((q0 : Int)), .int .u64 91002, .int .i64 91003, .int .i64 (1 + r - 64), .int .i64 pg, .int .i64 r, .int .i64 (5 * (1 + r)), .int .i64 (82 + (5 * (1 + r))), .int .i64 ((1 + r) + 64), .int .i64 (((1 + r) + 64) - 1), .int .i64 (8192 * (1 + r)), .int .i64 (6 * (1 + r)), .int .i64 kk, .int .i64 q, .int .u64 ((w1 : Int)), .int .i64 (8192 * (1 + q)), .int .i64 ((1 + r) - (1 + r)), .int .i64 ((1 + r) - (1 + q)), .int .i64 (8192 * ((1 + r) - (1 + q))), .int .i64 ((8192 * ((1 + r) - (1 + q))) + (1 + q)), .int .u64 (1 + q), .int .u64 ((1 + r) - (1 + q)), .int .u64 ((v0 : Int))]
set_option maxHeartbeats 4000000 in
theorem Pgf_any (r q pg kk : Int) (mk mo o1 q0 w1 v0 : Nat) (w : World) (hpg : 0 ≤ pg ∧ pg < 256) (hkk : 0 ≤ kk ∧ kk < 256) (hr : Int.tmod pg 128 = r) (hq : Int.tmod kk (1 + r) = q) (hr2 : 0 ≤ r ∧ r < 128) (hq2 : 0 ≤ q ∧ q < r) (hm : 64 ≤ r) (hn : 1 + q ≤ 64) (hBmk : mk < 18446744073709551616) (hBmo : mo < 18446744073709551616) (hBo1 : o1 < 18446744073709551616) (hBq0 : q0 < 18446744073709551616) (hBw1 : w1 < 18446744073709551616) (hBv0 : v0 < 18446744073709551616) (ho1 : o1 = 2 ^ (min (1 + r - 64 : Int).toNat 64) - 1) (hq0 : q0 = 2 ^ (min (1 + q : Int).toNat 64) - 1) (ha0 : mk = mk &&& 18446744073709551615) (ha1 : w1 = mo &&& o1) (ha2 : v0 = mk &&& q0) (ha3 : v0 = 0) (hb0 : ∀ i : Nat, i < 64 → (i : Int) < 1 + r → mk.testBit i = (decide ((1 + q : Int) ≤ i) && mk.testBit i)) (hb1 : ∀ i : Nat, i < 64 → (i : Int) + 64 < 1 + r → w1.testBit i = (decide ((1 + q : Int) ≤ (i : Int) + 64) && w1.testBit i)) : Calls Tryz.prog 3 #[.int .u8 pg, .int .u8 kk, .int .u64 (mk : Int), .int .u64 (mo : Int)] w fun e w' => e = .returned (.bool true) ∧ Ext w w' := by
  have hE : AllOK Tryz.prog (sgV (Pgft r q pg kk mk mo o1 q0 w1 v0)) Pgfe := AllOK.cons (ent_conv Tryz.underlying5 Tryz.underlying3 rfl (by exact congrArg (Value.int .i64) ((i64_in pg (by omega)).trans (show (pg : Int) = pg by omega)).symm) rfl) (
    AllOK.cons (ent_rem (a := pg) (c := 128) rfl rfl (by omega) (by exact congrArg (Value.int .i64) hr.symm) rfl) (
    AllOK.cons (eA (1) (r) (1 + r) (by omega)) (
    AllOK.cons (egeqT (1 + r) (1) (by omega)) (
    AllOK.cons (eleqT (1 + r) (4096) (by omega)) (
    AllOK.cons (eM (5) (1 + r) (5 * (1 + r)) (by omega)) (
    AllOK.cons (eA (82) (5 * (1 + r)) (82 + (5 * (1 + r))) (by omega)) (
    AllOK.cons (eA (82 + (5 * (1 + r))) (1 + r) (82 + 6 * (1 + r) + 0) (by omega)) (
    AllOK.cons (eA (1 + r) (64) ((1 + r) + 64) (by omega)) (
    AllOK.cons (eS ((1 + r) + 64) (1) (((1 + r) + 64) - 1) (by omega)) (
    AllOK.cons (ent_quo (a := ((1 + r) + 64) - 1) (c := 64) rfl rfl (by omega) (by exact congrArg (Value.int .i64) (quoC (a := ((1 + r) + 64) - 1) (c := 64) (q := 2) (by omega) (by omega) (by omega) (by omega) (by omega)).symm) rfl) (
    AllOK.cons (eA (82 + 6 * (1 + r) + 0) (2) (82 + 6 * (1 + r) + 2) (by omega)) (
    AllOK.cons (eA (82 + 6 * (1 + r) + 2) (2) (82 + 6 * (1 + r) + 4) (by omega)) (
    AllOK.cons (elssF (82 + 6 * (1 + r) + 4) (1) (by omega)) (
    AllOK.cons (egtrF (82 + 6 * (1 + r) + 4) (65536) (by omega)) (
    AllOK.cons (egeqF (0) (82 + 6 * (1 + r) + 4) (by omega)) (
    AllOK.cons (elssF (1 + r) (1) (by omega)) (
    AllOK.cons (egtrF (1 + r) (4096) (by omega)) (
    AllOK.cons (eM (8192) (1 + r) (8192 * (1 + r)) (by omega)) (
    AllOK.cons (eA (8192 * (1 + r)) (0) (8192 * (1 + r)) (by omega)) (
    AllOK.cons (eA (0) (1 + r) (1 + r) (by omega)) (
    AllOK.cons (eM (6) (1 + r) (6 * (1 + r)) (by omega)) (
    AllOK.cons (eA (82) (6 * (1 + r)) (82 + 6 * (1 + r) + 0) (by omega)) (
    AllOK.cons (eA (1 + r) (63) (((1 + r) + 64) - 1) (by omega)) (
    AllOK.cons (eA (82 + 6 * (1 + r) + 0) (4) (82 + 6 * (1 + r) + 4) (by omega)) (
    AllOK.cons (ent_conv Tryz.underlying5 Tryz.underlying3 rfl (by exact congrArg (Value.int .i64) ((i64_in kk (by omega)).trans (show (kk : Int) = kk by omega)).symm) rfl) (
    AllOK.cons (ent_rem (a := kk) (c := 1 + r) rfl rfl (by omega) (by exact congrArg (Value.int .i64) hq.symm) rfl) (
    AllOK.cons (eA (1) (q) (1 + q) (by omega)) (
    AllOK.cons (elssT (0) (1 + r) (by omega)) (
    AllOK.cons (eS (1 + r) (0) (1 + r) (by omega)) (
    AllOK.cons (ent_andN (a := mk) (c := 18446744073709551615) (b := mk) (by omega) (by omega) rfl rfl ha0 rfl rfl) (
    AllOK.cons (eA (82 + 6 * (1 + r) + 0) (0) (82 + 6 * (1 + r) + 0) (by omega)) (
    AllOK.cons (elssF (82 + 6 * (1 + r) + 2) (0) (by omega)) (
    AllOK.cons (egeqF (82 + 6 * (1 + r) + 2) (82 + 6 * (1 + r) + 4) (by omega)) (
    AllOK.cons (egeqT (82 + 6 * (1 + r) + 2) (0) (by omega)) (
    AllOK.cons (elssT (82 + 6 * (1 + r) + 2) (82 + 6 * (1 + r) + 4) (by omega)) (
    AllOK.cons (elssT (64) (1 + r) (by omega)) (
    AllOK.cons (eS (1 + r) (64) (1 + r - 64) (by omega)) (
    AllOK.cons (ent_andN (a := mo) (c := o1) (b := w1) (by omega) (by omega) rfl rfl ha1 rfl rfl) (
    AllOK.cons (eA (82 + 6 * (1 + r) + 0) (1) (82 + 6 * (1 + r) + 1) (by omega)) (
    AllOK.cons (eA (82 + 6 * (1 + r) + 1) (2) (82 + 6 * (1 + r) + 3) (by omega)) (
    AllOK.cons (elssF (82 + 6 * (1 + r) + 3) (0) (by omega)) (
    AllOK.cons (egeqF (82 + 6 * (1 + r) + 3) (82 + 6 * (1 + r) + 4) (by omega)) (
    AllOK.cons (egeqT (82 + 6 * (1 + r) + 3) (0) (by omega)) (
    AllOK.cons (elssT (82 + 6 * (1 + r) + 3) (82 + 6 * (1 + r) + 4) (by omega)) (
    AllOK.cons (elssF (128) (1 + r) (by omega)) (
    AllOK.cons (elssF (1 + q) (1) (by omega)) (
    AllOK.cons (egtrF (1 + q) (4096) (by omega)) (
    AllOK.cons (lay_same (P := 1 + r) (T := 1) rfl) (
    AllOK.cons (egeqF (2) (82 + 6 * (1 + r) + 4) (by omega)) (
    AllOK.cons (egtrF (1 + q) (1 + r) (by omega)) (
    AllOK.cons (eM (8192) (1 + q) (8192 * (1 + q)) (by omega)) (
    AllOK.cons (elssF (8192 * (1 + r)) (8192 * (1 + q)) (by omega)) (
    AllOK.cons (ent_cmp (op := .neq) (a := 8192 * (1 + r)) (c := 8192 * (1 + r)) rfl rfl (by simp)) (
    AllOK.cons (ent_cmp (op := .neq) (a := 1 + r) (c := 1 + r) rfl rfl (by simp)) (
    AllOK.cons (elssF (1 + r) (1 + r) (by omega)) (
    AllOK.cons (egtrF (1 + r) (1 + r) (by omega)) (
    AllOK.cons (eS (1 + r) (1 + r) ((1 + r) - (1 + r)) (by omega)) (
    AllOK.cons (egtrT (1 + r) (1 + q) (by omega)) (
    AllOK.cons (eA (0) (1 + q) (1 + q) (by omega)) (
    AllOK.cons (eS (1 + r) (1 + q) ((1 + r) - (1 + q)) (by omega)) (
    AllOK.cons (eM (8192) ((1 + r) - (1 + q)) (8192 * ((1 + r) - (1 + q))) (by omega)) (
    AllOK.cons (eA (8192 * ((1 + r) - (1 + q))) (1 + q) ((8192 * ((1 + r) - (1 + q))) + (1 + q)) (by omega)) (
    AllOK.cons (eA ((1 + r) - (1 + r)) ((1 + r) - (1 + q)) ((1 + r) - (1 + q)) (by omega)) (
    AllOK.cons (egtrF (1 + q) (1048576) (by omega)) (
    AllOK.cons (elssT (0) (1 + q) (by omega)) (
    AllOK.cons (ent_min (a := 1 + q) (c := 64) (b := 1 + q) rfl rfl (by omega) rfl rfl) (
    AllOK.cons (eS (1 + q) (0) (1 + q) (by omega)) (
    AllOK.cons (ent_shl0 (a := q0) (by omega) rfl rfl) (
    AllOK.cons (elssF (1 + q) (1 + q) (by omega)) (
    AllOK.cons (eA (82 + 6 * (1 + r) + 2) (0) (82 + 6 * (1 + r) + 2) (by omega)) (
    AllOK.cons (ent_conv Tryz.underlying3 Tryz.underlying22 rfl (by exact congrArg (Value.int .u64) ((u64_in (1 + q) (by omega)).trans (show (1 + q : Int) = 1 + q by omega)).symm) rfl) (
    AllOK.cons (ent_conv Tryz.underlying3 Tryz.underlying22 rfl (by exact congrArg (Value.int .u64) ((u64_in ((1 + r) - (1 + q)) (by omega)).trans (show ((1 + r) - (1 + q) : Int) = (1 + r) - (1 + q) by omega)).symm) rfl) (
    AllOK.cons (elssF (82 + 6 * (1 + r) + 0) (0) (by omega)) (
    AllOK.cons (egeqF (82 + 6 * (1 + r) + 0) (82 + 6 * (1 + r) + 4) (by omega)) (
    AllOK.cons (ent_add (a := 0) (c := (q0 : Int)) rfl rfl (by exact congrArg (Value.int .u64) ((u64_in (0 + ((q0 : Int))) (by omega)).trans (show (0 + ((q0 : Int)) : Int) = (q0 : Int) by omega)).symm) rfl) (
    AllOK.cons (ent_andN (a := mk) (c := q0) (b := v0) (by omega) (by omega) rfl rfl ha2 rfl rfl) (
    AllOK.cons (ent_cmp (op := .eql) (a := (v0 : Int)) (c := 0) rfl rfl (by rw [show ((v0 : Int) : Int) = 0 by omega]; simp)) (
    AllOK.nil))))))))))))))))))))))))))))))))))))))))))))))))))))))))))))))))))))))))))))))
  have hF : ∀ e ∈ Pgff, FnOK Tryz.prog (sgV (Pgft r q pg kk mk mo o1 q0 w1 v0)) w w.heap.size e := FnsOK.cons (FnOK.mk rfl fun w' _ => Mpaw_any w' (Nat.zero_le _)) (
    FnsOK.cons (FnOK.any rfl fun w' _ => r9new128 (1 + r) w' (by omega)) (
    FnsOK.cons (pg_fnR (n := 1 + r) (b := 18446744073709551615) (by omega) (by omega) rfl (by rw [show min (1 + r : Int).toNat 64 = 64 by omega]) rfl rfl) (
    FnsOK.cons (pg_fnR (n := 1 + r - 64) (b := o1) (by omega) (by omega) rfl (by exact ho1) rfl rfl) (
    FnsOK.cons (pg_fnW (n := 1 + q) (b := q0) (by omega) (by omega) rfl (by exact hq0) rfl rfl) (
    FnsOK.nil)))))
  have hTL : TokL (Pgft r q pg kk mk mo o1 q0 w1 v0) := (TokL.int (TokL.int (TokL.int (TokL.int (TokL.int (TokL.int (TokL.int (TokL.int (TokL.int (TokL.int (TokL.int (TokL.int (TokL.int (TokL.int (TokL.int (TokL.int (TokL.int (TokL.int (TokL.int (TokL.int (TokL.int (TokL.int (TokL.int (TokL.int (TokL.int (TokL.int (TokL.int (TokL.int (TokL.int (TokL.int (TokL.int (TokL.int (TokL.int (TokL.int (TokL.int TokL.nil)))))))))))))))))))))))))))))))))))
  have hσ := sgV_one hTL
  have hS : SpOK (sgV (Pgft r q pg kk mk mo o1 q0 w1 v0)) 4 := pg_sp (P := 1 + r) (m := 2) (by omega) rfl (by omega) (by omega) (by intro j hj; rcases (show j = 0 ∨ j = 1 ∨ j = 2 ∨ j = 3 by omega) with rfl | rfl | rfl | rfl <;> exact ⟨_, rfl, by omega⟩)
  have hO : OrcOK Tryz.prog (sgV (Pgft r q pg kk mk mo o1 q0 w1 v0)) w w.heap.size (PgfO) := orcS_ok hE (sgV_ne hTL) hF hS (rdG_ok hσ ⟨_, rfl, by omega⟩) noMkS_ok
  have hK : Weak (sgV (Pgft r q pg kk mk mo o1 q0 w1 v0)) (sgV (Pg2l r q pg kk mk mo mk w1 mk w1 q0 0 0)) w w.heap.size 0 Pgfl140 Pgfh141 Pg2A Pg2H := weak_of (weakOK_pre (n := 11) (l2 := Pg2l r q pg kk mk mo mk w1 mk w1 q0 0 0) hTL rfl rfl (pairs_tok (a := 10) (b := 10) rfl (pairs_tok (a := 7) (b := 11) rfl (pairs_tok (a := 26) (b := 12) rfl (pairs_tok (a := 12) (b := 15) rfl (pairs_int (b := 16) rfl (pairs_tok (a := 7) (b := 13) rfl (pairs_tok (a := 26) (b := 14) rfl pairs_nil)))))))) Pgfw
  obtain ⟨lZ, hT0, hZ⟩ := Pg2_tail r q pg kk mk mo mk w1 mk w1 q0 0 w (by omega) (by omega) (by omega) (by omega) (by omega) (by omega) (by omega) (by omega) hb0 hb1
  have hTail := hK.ahead hT0
  have key : Seg2 Tryz.prog (sgV (Pgft r q pg kk mk mo o1 q0 w1 v0)) (sgV (Pg2l r q pg kk mk mo mk w1 mk w1 q0 0 (((1 + r).toNat : Nat) : Int))) w w.heap.size 0 (.code (pgC 0)) Pg0 [] .ret lZ Pg2H := (Seg2.seqP (by rfl) (Seg1.to2 (Pgfp0 _ hσ _ _ hO)) (Seg2.seqP (by rfl) (Seg1.to2 (Pgfp1 _ hσ _ _ hO)) (Seg2.seqP (by rfl) (Seg1.to2 (Pgfp2 _ hσ _ _ hO)) (Seg2.seqP (by rfl) (Seg1.to2 (Seg1.seqP (by rfl) (Pgfp3 _ hσ _ _ hO) (Pgfp4 _ hσ _ _ hO))) (Seg2.seqP (by rfl) (Seg1.to2 (Pgfp5 _ hσ _ _ hO)) (Seg2.seqP (by rfl) (Seg1.to2 (Pgfp6 _ hσ _ _ hO)) (Seg2.seqP (by rfl) (Seg1.to2 (Seg1.seqP (by rfl) (Pgfp7 _ hσ _ _ hO) (Seg1.loopP (by rfl) (Seg1.loopNext (Pgfp8 _ hσ _ _ hO) (Seg1.loopNext (Pgfp9 _ hσ _ _ hO) (Seg1.loopExit (Pgfp10 _ hσ _ _ hO))))))) (Seg2.seqP (by rfl) (Seg1.to2 (Pgfp11 _ hσ _ _ hO)) (Seg2.seqP (by rfl) (Seg1.to2 (Seg1.seqP (by rfl) (Pgfp12 _ hσ _ _ hO) (Seg1.loopP (by rfl) (Seg1.loopNext (Pgfp13 _ hσ _ _ hO) (Seg1.loopNext (Pgfp14 _ hσ _ _ hO) (Seg1.loopNext (Pgfp15 _ hσ _ _ hO) (Seg1.loopNext (Pgfp16 _ hσ _ _ hO) (Seg1.loopNext (Pgfp17 _ hσ _ _ hO) (Seg1.loopExit (Pgfp18 _ hσ _ _ hO)))))))))) (Seg2.seqP (by rfl) (Seg1.to2 (Pgfp19 _ hσ _ _ hO)) (Seg2.seqP (by rfl) (Seg1.to2 (Seg1.seqP (by rfl) (Pgfp20 _ hσ _ _ hO) (Pgfp21 _ hσ _ _ hO))) hTail)))))))))))
  have hb : Tryz.f3.body = some (pgC 0) := by rfl
  have fin := calls_of_seg2 (P := Tryz.prog) (f := 3) (fn := Tryz.f3) (c := bodyOf Tryz.prog 3) (args := #[kf 5, kf 6, kf 7, kf 8]) (l0 := Pg0) (h0 := []) (tabs := []) (sgV_one (Pg2l_tok _ _ _ _ _ _ _ _ _ _ _ _ _)) (Nat.zero_le _) (tabR_nil w) Tryz.func3 hb rfl Pg0_eq pg_w0 key (.inr rfl) hZ rfl
  exact pg_key rfl fin
def Pggt (r q pg kk : Int) (mk mo o1 q1 w1 v1 x0 x1 r0 r1 : Nat) : List Value := [.int .i64 (82 + 6 * (1 + r) + 4), .int .i64 (82 + 6 * (1 + r) + 0), .int .i64 (82 + 6 * (1 + r) + 1), .int .i64 (82 + 6 * (1 + r) + 2), .int .i64 (82 + 6 * (1 + r) + 3), .int .u8 pg, .int .u8 kk, .int .u64 ((mk : Int)), .int .u64 ((mo : Int)), .int .i64 (1 + r), .int .i64 (1 + q), .int .u64 ((o1 : Int)), .int .u64 18446744073709551615, .int .u64 ((q1 : Int)), .int .i64 (1 + q - 64), .int .i64 (1 + r - 64), .int .i64 pg, .int .i64 r, .int .i64 (5 * (1 + r)), .int .i64 (82 + (5 * (1 + r))), .int .i64 ((1 + r) + 64), .int .i64 (((1 + r) + 64) - 1), .int .i64 (8192 * (1 + r)), .int .i64 (6 * (1 + r)), .int .i64 kk, .int .i64 q, .int .u64 ((w1 : Int)), .int .i64 (8192 * (1 + q)), .int .i64 ((1 + r) - (1 + r)), .int .i64 ((1 + r) - (1 + q)), .int .i64 (8192 * ((1 + r) - (1 + q))), .int .i64 ((8192 * ((1 + r) - (1 + q))) + (1 + q)), .int .u64 (1 + q), .int .u64 ((1 + r) - (1 + q)), .int .u64 ((x0 : Int)), .int .u64 ((r0 : Int)), .int .u64 ((v1 : Int)), .int .u64 ((x1 : Int)), .int .u64 ((r1 : Int))]
set_option maxHeartbeats 4000000 in
theorem Pgg_any (r q pg kk : Int) (mk mo o1 q1 w1 v1 x0 x1 r0 r1 : Nat) (w : World) (hpg : 0 ≤ pg ∧ pg < 256) (hkk : 0 ≤ kk ∧ kk < 256) (hr : Int.tmod pg 128 = r) (hq : Int.tmod kk (1 + r) = q) (hr2 : 0 ≤ r ∧ r < 128) (hq2 : 0 ≤ q ∧ q < r) (hm : 64 ≤ r) (hn : 64 < 1 + q) (hBmk : mk < 18446744073709551616) (hBmo : mo < 18446744073709551616) (hBo1 : o1 < 18446744073709551616) (hBq1 : q1 < 18446744073709551616) (hBw1 : w1 < 18446744073709551616) (hBv1 : v1 < 18446744073709551616) (hBx0 : x0 < 18446744073709551616) (hBx1 : x1 < 18446744073709551616) (hBr0 : r0 < 18446744073709551616) (hBr1 : r1 < 18446744073709551616) (ho1 : o1 = 2 ^ (min (1 + r - 64 : Int).toNat 64) - 1) (hq1 : q1 = 2 ^ (min (1 + q - 64 : Int).toNat 64) - 1) (ha0 : mk = mk &&& 18446744073709551615) (ha1 : w1 = mo &&& o1) (ha2 : mk = mk &&& 18446744073709551615) (ha3 : mk ≠ 0) (ha4 : x0 + mk = 18446744073709551616) (ha5 : r0 + mk = mk) (ha6 : v1 = w1 &&& q1) (ha7 : v1 ≠ 0) (ha8 : x1 + v1 = 18446744073709551616) (ha9 : r1 + v1 = w1) (hb0 : ∀ i : Nat, i < 64 → (i : Int) < 1 + r → r0.testBit i = (decide ((1 + q : Int) ≤ i) && mk.testBit i)) (hb1 : ∀ i : Nat, i < 64 → (i : Int) + 64 < 1 + r → r1.testBit i = (decide ((1 + q : Int) ≤ (i : Int) + 64) && w1.testBit i)) : Calls Tryz.prog 3 #[.int .u8 pg, .int .u8 kk, .int .u64 (mk : Int), .int .u64 (mo : Int)] w fun e w' => e = .returned (.bool true) ∧ Ext w w' := by
  have hE : AllOK Tryz.prog (sgV (Pggt r q pg kk mk mo o1 q1 w1 v1 x0 x1 r0 r1)) Pgge := AllOK.cons (ent_conv Tryz.underlying5 Tryz.underlying3 rfl (by exact congrArg (Value.int .i64) ((i64_in pg (by omega)).trans (show (pg : Int) = pg by omega)).symm) rfl) (
    AllOK.cons (ent_rem (a := pg) (c := 128) rfl rfl (by omega) (by exact congrArg (Value.int .i64) hr.symm) rfl) (
    AllOK.cons (eA (1) (r) (1 + r) (by omega)) (
    AllOK.cons (egeqT (1 + r) (1) (by omega)) (
    AllOK.cons (eleqT (1 + r) (4096) (by omega)) (
    AllOK.cons (eM (5) (1 + r) (5 * (1 + r)) (by omega)) (
    AllOK.cons (eA (82) (5 * (1 + r)) (82 + (5 * (1 + r))) (by omega)) (
    AllOK.cons (eA (82 + (5 * (1 + r))) (1 + r) (82 + 6 * (1 + r) + 0) (by omega)) (
    AllOK.cons (eA (1 + r) (64) ((1 + r) + 64) (by omega)) (
    AllOK.cons (eS ((1 + r) + 64) (1) (((1 + r) + 64) - 1) (by omega)) (
    AllOK.cons (ent_quo (a := ((1 + r) + 64) - 1) (c := 64) rfl rfl (by omega) (by exact congrArg (Value.int .i64) (quoC (a := ((1 + r) + 64) - 1) (c := 64) (q := 2) (by omega) (by omega) (by omega) (by omega) (by omega)).symm) rfl) (
    AllOK.cons (eA (82 + 6 * (1 + r) + 0) (2) (82 + 6 * (1 + r) + 2) (by omega)) (
    AllOK.cons (eA (82 + 6 * (1 + r) + 2) (2) (82 + 6 * (1 + r) + 4) (by omega)) (
    AllOK.cons (elssF (82 + 6 * (1 + r) + 4) (1) (by omega)) (
    AllOK.cons (egtrF (82 + 6 * (1 + r) + 4) (65536) (by omega)) (
    AllOK.cons (egeqF (0) (82 + 6 * (1 + r) + 4) (by omega)) (
    AllOK.cons (elssF (1 + r) (1) (by omega)) (
    AllOK.cons (egtrF (1 + r) (4096) (by omega)) (
    AllOK.cons (eM (8192) (1 + r) (8192 * (1 + r)) (by omega)) (
    AllOK.cons (eA (8192 * (1 + r)) (0) (8192 * (1 + r)) (by omega)) (
    AllOK.cons (eA (0) (1 + r) (1 + r) (by omega)) (
    AllOK.cons (eM (6) (1 + r) (6 * (1 + r)) (by omega)) (
    AllOK.cons (eA (82) (6 * (1 + r)) (82 + 6 * (1 + r) + 0) (by omega)) (
    AllOK.cons (eA (1 + r) (63) (((1 + r) + 64) - 1) (by omega)) (
    AllOK.cons (eA (82 + 6 * (1 + r) + 0) (4) (82 + 6 * (1 + r) + 4) (by omega)) (
    AllOK.cons (ent_conv Tryz.underlying5 Tryz.underlying3 rfl (by exact congrArg (Value.int .i64) ((i64_in kk (by omega)).trans (show (kk : Int) = kk by omega)).symm) rfl) (
    AllOK.cons (ent_rem (a := kk) (c := 1 + r) rfl rfl (by omega) (by exact congrArg (Value.int .i64) hq.symm) rfl) (
    AllOK.cons (eA (1) (q) (1 + q) (by omega)) (
    AllOK.cons (elssT (0) (1 + r) (by omega)) (
    AllOK.cons (eS (1 + r) (0) (1 + r) (by omega)) (
    AllOK.cons (ent_andN (a := mk) (c := 18446744073709551615) (b := mk) (by omega) (by omega) rfl rfl ha0 rfl rfl) (
    AllOK.cons (eA (82 + 6 * (1 + r) + 0) (0) (82 + 6 * (1 + r) + 0) (by omega)) (
    AllOK.cons (elssF (82 + 6 * (1 + r) + 2) (0) (by omega)) (
    AllOK.cons (egeqF (82 + 6 * (1 + r) + 2) (82 + 6 * (1 + r) + 4) (by omega)) (
    AllOK.cons (egeqT (82 + 6 * (1 + r) + 2) (0) (by omega)) (
    AllOK.cons (elssT (82 + 6 * (1 + r) + 2) (82 + 6 * (1 + r) + 4) (by omega)) (
    AllOK.cons (elssT (64) (1 + r) (by omega)) (
    AllOK.cons (eS (1 + r) (64) (1 + r - 64) (by omega)) (
    AllOK.cons (ent_andN (a := mo) (c := o1) (b := w1) (by omega) (by omega) rfl rfl ha1 rfl rfl) (
    AllOK.cons (eA (82 + 6 * (1 + r) + 0) (1) (82 + 6 * (1 + r) + 1) (by omega)) (
    AllOK.cons (eA (82 + 6 * (1 + r) + 1) (2) (82 + 6 * (1 + r) + 3) (by omega)) (
    AllOK.cons (elssF (82 + 6 * (1 + r) + 3) (0) (by omega)) (
    AllOK.cons (egeqF (82 + 6 * (1 + r) + 3) (82 + 6 * (1 + r) + 4) (by omega)) (
    AllOK.cons (egeqT (82 + 6 * (1 + r) + 3) (0) (by omega)) (
    AllOK.cons (elssT (82 + 6 * (1 + r) + 3) (82 + 6 * (1 + r) + 4) (by omega)) (
    AllOK.cons (elssF (128) (1 + r) (by omega)) (
    AllOK.cons (elssF (1 + q) (1) (by omega)) (
    AllOK.cons (egtrF (1 + q) (4096) (by omega)) (
    AllOK.cons (lay_same (P := 1 + r) (T := 1) rfl) (
    AllOK.cons (egeqF (2) (82 + 6 * (1 + r) + 4) (by omega)) (
    AllOK.cons (egtrF (1 + q) (1 + r) (by omega)) (
    AllOK.cons (eM (8192) (1 + q) (8192 * (1 + q)) (by omega)) (
    AllOK.cons (elssF (8192 * (1 + r)) (8192 * (1 + q)) (by omega)) (
    AllOK.cons (ent_cmp (op := .neq) (a := 8192 * (1 + r)) (c := 8192 * (1 + r)) rfl rfl (by simp)) (
    AllOK.cons (ent_cmp (op := .neq) (a := 1 + r) (c := 1 + r) rfl rfl (by simp)) (
    AllOK.cons (elssF (1 + r) (1 + r) (by omega)) (
    AllOK.cons (egtrF (1 + r) (1 + r) (by omega)) (
    AllOK.cons (eS (1 + r) (1 + r) ((1 + r) - (1 + r)) (by omega)) (
    AllOK.cons (egtrT (1 + r) (1 + q) (by omega)) (
    AllOK.cons (eA (0) (1 + q) (1 + q) (by omega)) (
    AllOK.cons (eS (1 + r) (1 + q) ((1 + r) - (1 + q)) (by omega)) (
    AllOK.cons (eM (8192) ((1 + r) - (1 + q)) (8192 * ((1 + r) - (1 + q))) (by omega)) (
    AllOK.cons (eA (8192 * ((1 + r) - (1 + q))) (1 + q) ((8192 * ((1 + r) - (1 + q))) + (1 + q)) (by omega)) (
    AllOK.cons (eA ((1 + r) - (1 + r)) ((1 + r) - (1 + q)) ((1 + r) - (1 + q)) (by omega)) (
    AllOK.cons (eA (82 + 6 * (1 + r) + 2) (0) (82 + 6 * (1 + r) + 2) (by omega)) (
    AllOK.cons (ent_conv Tryz.underlying3 Tryz.underlying22 rfl (by exact congrArg (Value.int .u64) ((u64_in (1 + q) (by omega)).trans (show (1 + q : Int) = 1 + q by omega)).symm) rfl) (
    AllOK.cons (ent_conv Tryz.underlying3 Tryz.underlying22 rfl (by exact congrArg (Value.int .u64) ((u64_in ((1 + r) - (1 + q)) (by omega)).trans (show ((1 + r) - (1 + q) : Int) = (1 + r) - (1 + q) by omega)).symm) rfl) (
    AllOK.cons (elssF (82 + 6 * (1 + r) + 0) (0) (by omega)) (
    AllOK.cons (egeqF (82 + 6 * (1 + r) + 0) (82 + 6 * (1 + r) + 4) (by omega)) (
    AllOK.cons (ent_add (a := 0) (c := 18446744073709551615) rfl rfl (by exact congrArg (Value.int .u64) ((u64_in (0 + 18446744073709551615) (by omega)).trans (show (0 + 18446744073709551615 : Int) = 18446744073709551615 by omega)).symm) rfl) (
    AllOK.cons (ent_andN (a := mk) (c := 18446744073709551615) (b := mk) (by omega) (by omega) rfl rfl ha2 rfl rfl) (
    AllOK.cons (ent_cmp (op := .eql) (a := (mk : Int)) (c := 0) rfl rfl (by have h9 : ((mk : Int) : Int) ≠ 0 := (by omega); first | (simp [h9]; done) | (simp; omega))) (
    AllOK.cons (ent_neg (v := mk) (b := x0) (by omega) (by omega) rfl rfl rfl) (
    AllOK.cons (ent_addw (a := mk) (c := x0) (b := r0) (by omega) rfl rfl rfl rfl) (
    AllOK.cons (eA (82 + 6 * (1 + r) + 2) (1) (82 + 6 * (1 + r) + 3) (by omega)) (
    AllOK.cons (elssF (82 + 6 * (1 + r) + 1) (0) (by omega)) (
    AllOK.cons (egeqF (82 + 6 * (1 + r) + 1) (82 + 6 * (1 + r) + 4) (by omega)) (
    AllOK.cons (ent_add (a := 0) (c := (q1 : Int)) rfl rfl (by exact congrArg (Value.int .u64) ((u64_in (0 + ((q1 : Int))) (by omega)).trans (show (0 + ((q1 : Int)) : Int) = (q1 : Int) by omega)).symm) rfl) (
    AllOK.cons (ent_andN (a := w1) (c := q1) (b := v1) (by omega) (by omega) rfl rfl ha6 rfl rfl) (
    AllOK.cons (ent_cmp (op := .eql) (a := (v1 : Int)) (c := 0) rfl rfl (by have h9 : ((v1 : Int) : Int) ≠ 0 := (by omega); first | (simp [h9]; done) | (simp; omega))) (
    AllOK.cons (ent_neg (v := v1) (b := x1) (by omega) (by omega) rfl rfl rfl) (
    AllOK.cons (ent_addw (a := w1) (c := x1) (b := r1) (by omega) rfl rfl rfl rfl) (
    AllOK.nil))))))))))))))))))))))))))))))))))))))))))))))))))))))))))))))))))))))))))))))))))
  have hF : ∀ e ∈ Pggf, FnOK Tryz.prog (sgV (Pggt r q pg kk mk mo o1 q1 w1 v1 x0 x1 r0 r1)) w w.heap.size e := FnsOK.cons (FnOK.mk rfl fun w' _ => Mpaw_any w' (Nat.zero_le _)) (
    FnsOK.cons (FnOK.any rfl fun w' _ => r9new128 (1 + r) w' (by omega)) (
    FnsOK.cons (pg_fnR (n := 1 + r) (b := 18446744073709551615) (by omega) (by omega) rfl (by rw [show min (1 + r : Int).toNat 64 = 64 by omega]) rfl rfl) (
    FnsOK.cons (pg_fnR (n := 1 + r - 64) (b := o1) (by omega) (by omega) rfl (by exact ho1) rfl rfl) (
    FnsOK.nil))))
  have hTL : TokL (Pggt r q pg kk mk mo o1 q1 w1 v1 x0 x1 r0 r1) := (TokL.int (TokL.int (TokL.int (TokL.int (TokL.int (TokL.int (TokL.int (TokL.int (TokL.int (TokL.int (TokL.int (TokL.int (TokL.int (TokL.int (TokL.int (TokL.int (TokL.int (TokL.int (TokL.int (TokL.int (TokL.int (TokL.int (TokL.int (TokL.int (TokL.int (TokL.int (TokL.int (TokL.int (TokL.int (TokL.int (TokL.int (TokL.int (TokL.int (TokL.int (TokL.int (TokL.int (TokL.int (TokL.int (TokL.int TokL.nil)))))))))))))))))))))))))))))))))))))))
  have hσ := sgV_one hTL
  have hS : SpOK (sgV (Pggt r q pg kk mk mo o1 q1 w1 v1 x0 x1 r0 r1)) 4 := pg_sp (P := 1 + r) (m := 2) (by omega) rfl (by omega) (by omega) (by intro j hj; rcases (show j = 0 ∨ j = 1 ∨ j = 2 ∨ j = 3 by omega) with rfl | rfl | rfl | rfl <;> exact ⟨_, rfl, by omega⟩)
  have hO : OrcOK Tryz.prog (sgV (Pggt r q pg kk mk mo o1 q1 w1 v1 x0 x1 r0 r1)) w w.heap.size (PggO) := orcS_ok hE (sgV_ne hTL) hF hS (rdG_ok hσ ⟨_, rfl, by omega⟩) (pgMk_ok (n := 1 + q) (q := q1) (by omega) (by omega) rfl hq1 rfl rfl)
  have hK : Weak (sgV (Pggt r q pg kk mk mo o1 q1 w1 v1 x0 x1 r0 r1)) (sgV (Pg2l r q pg kk mk mo mk w1 r0 r1 18446744073709551615 q1 0)) w w.heap.size 0 Pggl170 Pggh171 Pg2A Pg2H := weak_of (weakOK_pre (n := 11) (l2 := Pg2l r q pg kk mk mo mk w1 r0 r1 18446744073709551615 q1 0) hTL rfl rfl (pairs_tok (a := 10) (b := 10) rfl (pairs_tok (a := 7) (b := 11) rfl (pairs_tok (a := 26) (b := 12) rfl (pairs_tok (a := 12) (b := 15) rfl (pairs_tok (a := 13) (b := 16) rfl (pairs_tok (a := 35) (b := 13) rfl (pairs_tok (a := 38) (b := 14) rfl pairs_nil)))))))) Pggw
  obtain ⟨lZ, hT0, hZ⟩ := Pg2_tail r q pg kk mk mo mk w1 r0 r1 18446744073709551615 q1 w (by omega) (by omega) (by omega) (by omega) (by omega) (by omega) (by omega) (by omega) hb0 hb1
  have hTail := hK.ahead hT0
  have key : Seg2 Tryz.prog (sgV (Pggt r q pg kk mk mo o1 q1 w1 v1 x0 x1 r0 r1)) (sgV (Pg2l r q pg kk mk mo mk w1 r0 r1 18446744073709551615 q1 (((1 + r).toNat : Nat) : Int))) w w.heap.size 0 (.code (pgC 0)) Pg0 [] .ret lZ Pg2H := (Seg2.seqP (by rfl) (Seg1.to2 (Pggp0 _ hσ _ _ hO)) (Seg2.seqP (by rfl) (Seg1.to2 (Pggp1 _ hσ _ _ hO)) (Seg2.seqP (by rfl) (Seg1.to2 (Pggp2 _ hσ _ _ hO)) (Seg2.seqP (by rfl) (Seg1.to2 (Seg1.seqP (by rfl) (Pggp3 _ hσ _ _ hO) (Pggp4 _ hσ _ _ hO))) (Seg2.seqP (by rfl) (Seg1.to2 (Pggp5 _ hσ _ _ hO)) (Seg2.seqP (by rfl) (Seg1.to2 (Pggp6 _ hσ _ _ hO)) (Seg2.seqP (by rfl) (Seg1.to2 (Seg1.seqP (by rfl) (Pggp7 _ hσ _ _ hO) (Seg1.loopP (by rfl) (Seg1.loopNext (Pggp8 _ hσ _ _ hO) (Seg1.loopNext (Pggp9 _ hσ _ _ hO) (Seg1.loopExit (Pggp10 _ hσ _ _ hO))))))) (Seg2.seqP (by rfl) (Seg1.to2 (Pggp11 _ hσ _ _ hO)) (Seg2.seqP (by rfl) (Seg1.to2 (Seg1.seqP (by rfl) (Pggp12 _ hσ _ _ hO) (Seg1.loopP (by rfl) (Seg1.loopNext (Pggp13 _ hσ _ _ hO) (Seg1.loopNext (Pggp14 _ hσ _ _ hO) (Seg1.loopNext (Pggp15 _ hσ _ _ hO) (Seg1.loopNext (Pggp16 _ hσ _ _ hO) (Seg1.loopNext (Pggp17 _ hσ _ _ hO) (Seg1.loopNext (Pggp18 _ hσ _ _ hO) (Seg1.loopNext (Pggp19 _ hσ _ _ hO) (Seg1.loopNext (Pggp20 _ hσ _ _ hO) (Seg1.loopNext (Pggp21 _ hσ _ _ hO) (Seg1.loopExit (Pggp22 _ hσ _ _ hO)))))))))))))) (Seg2.seqP (by rfl) (Seg1.to2 (Pggp23 _ hσ _ _ hO)) (Seg2.seqP (by rfl) (Seg1.to2 (Seg1.seqP (by rfl) (Pggp24 _ hσ _ _ hO) (Pggp25 _ hσ _ _ hO))) hTail)))))))))))
  have hb : Tryz.f3.body = some (pgC 0) := by rfl
  have fin := calls_of_seg2 (P := Tryz.prog) (f := 3) (fn := Tryz.f3) (c := bodyOf Tryz.prog 3) (args := #[kf 5, kf 6, kf 7, kf 8]) (l0 := Pg0) (h0 := []) (tabs := []) (sgV_one (Pg2l_tok _ _ _ _ _ _ _ _ _ _ _ _ _)) (Nat.zero_le _) (tabR_nil w) Tryz.func3 hb rfl Pg0_eq pg_w0 key (.inr rfl) hZ rfl
  exact pg_key rfl fin
def Pght (r q pg kk : Int) (mk mo o1 q1 w1 v1 x0 r0 : Nat) : List Value := [.int .i64 (82 + 6 * (1 + r) + 4), .int .i64 (82 + 6 * (1 + r) + 0), .int .i64 (82 + 6 * (1 + r) + 1), .int .i64 (82 + 6 * (1 + r) + 2), .int .i64 (82 + 6 * (1 + r) + 3), .int .u8 pg, .int .u8 kk, .int .u64 ((mk : Int)), .int .u64 ((mo : Int)), .int .i64 (1 + r), .int .i64 (1 + q), .int .u64 ((o1 : Int)), .int .u64 18446744073709551615, .int .u64 ((q1 : Int)), .int .i64 (1 + q - 64), .int .i64 (1 + r - 64), .int .i64 pg, .int .i64 r, .int .i64 (5 * (1 + r)), .int .i64 (82 + (5 * (1 + r))), .int .i64 ((1 + r) + 64), .int .i64 (((1 + r) + 64) - 1), .int .i64 (8192 * (1 + r)), .int .i64 (6 * (1 + r)), .int .i64 kk, .int .i64 q, .int .u64 ((w1 : Int)), .int .i64 (8192 * (1 + q)), .int .i64 ((1 + r) - (1 + r)), .int .i64 ((1 + r) - (1 + q)), .int .i64 (8192 * ((1 + r) - (1 + q))), .int .i64 ((8192 * ((1 + r) - (1 + q))) + (1 + q)), .int .u64 (1 + q), .int .u64 ((1 + r) - (1 + q)), .int .u64 ((x0 : Int)), .int .u64 ((r0 : Int)), .int .u64 ((v1 : Int))]
set_option maxHeartbeats 4000000 in
theorem Pgh_any (r q pg kk : Int) (mk mo o1 q1 w1 v1 x0 r0 : Nat) (w : World) (hpg : 0 ≤ pg ∧ pg < 256) (hkk : 0 ≤ kk ∧ kk < 256) (hr : Int.tmod pg 128 = r) (hq : Int.tmod kk (1 + r) = q) (hr2 : 0 ≤ r ∧ r < 128) (hq2 : 0 ≤ q ∧ q < r) (hm : 64 ≤ r) (hn : 64 < 1 + q) (hBmk : mk < 18446744073709551616) (hBmo : mo < 18446744073709551616) (hBo1 : o1 < 18446744073709551616) (hBq1 : q1 < 18446744073709551616) (hBw1 : w1 < 18446744073709551616) (hBv1 : v1 < 18446744073709551616) (hBx0 : x0 < 18446744073709551616) (hBr0 : r0 < 18446744073709551616) (ho1 : o1 = 2 ^ (min (1 + r - 64 : Int).toNat 64) - 1) (hq1 : q1 = 2 ^ (min (1 + q - 64 : Int).toNat 64) - 1) (ha0 : mk = mk &&& 18446744073709551615) (ha1 : w1 = mo &&& o1) (ha2 : mk = mk &&& 18446744073709551615) (ha3 : mk ≠ 0) (ha4 : x0 + mk = 18446744073709551616) (ha5 : r0 + mk = mk) (ha6 : v1 = w1 &&& q1) (ha7 : v1 = 0) (hb0 : ∀ i : Nat, i < 64 → (i : Int) < 1 + r → r0.testBit i = (decide ((1 + q : Int) ≤ i) && mk.testBit i)) (hb1 : ∀ i : Nat, i < 64 → (i : Int) + 64 < 1 + r → w1.testBit i = (decide ((1 + q : Int) ≤ (i : Int) + 64) && w1.testBit i)) : Calls Tryz.prog 3 #[.int .u8 pg, .int .u8 kk, .int .u64 (mk : Int), .int .u64 (mo : Int)] w fun e w' => e = .returned (.bool true) ∧ Ext w w' := by
  have hE : AllOK Tryz.prog (sgV (Pght r q pg kk mk mo o1 q1 w1 v1 x0 r0)) Pghe := AllOK.cons (ent_conv Tryz.underlying5 Tryz.underlying3 rfl (by exact congrArg (Value.int .i64) ((i64_in pg (by omega)).trans (show (pg : Int) = pg by omega)).symm) rfl) (
    AllOK.cons (ent_rem (a := pg) (c := 128) rfl rfl (by omega) (by exact congrArg (Value.int .i64) hr.symm) rfl) (
    AllOK.cons (eA (1) (r) (1 + r) (by omega)) (
    AllOK.cons (egeqT (1 + r) (1) (by omega)) (
    AllOK.cons (eleqT (1 + r) (4096) (by omega)) (
    AllOK.cons (eM (5) (1 + r) (5 * (1 + r)) (by omega)) (
    AllOK.cons (eA (82) (5 * (1 + r)) (82 + (5 * (1 + r))) (by omega)) (
    AllOK.cons (eA (82 + (5 * (1 + r))) (1 + r) (82 + 6 * (1 + r) + 0) (by omega)) (
    AllOK.cons (eA (1 + r) (64) ((1 + r) + 64) (by omega)) (
    AllOK.cons (eS ((1 + r) + 64) (1) (((1 + r) + 64) - 1) (by omega)) (
    AllOK.cons (ent_quo (a := ((1 + r) + 64) - 1) (c := 64) rfl rfl (by omega) (by exact congrArg (Value.int .i64) (quoC (a := ((1 + r) + 64) - 1) (c := 64) (q := 2) (by omega) (by omega) (by omega) (by omega) (by omega)).symm) rfl) (
    AllOK.cons (eA (82 + 6 * (1 + r) + 0) (2) (82 + 6 * (1 + r) + 2) (by omega)) (
    AllOK.cons (eA (82 + 6 * (1 + r) + 2) (2) (82 + 6 * (1 + r) + 4) (by omega)) (
    AllOK.cons (elssF (82 + 6 * (1 + r) + 4) (1) (by omega)) (
    AllOK.cons (egtrF (82 + 6 * (1 + r) + 4) (65536) (by omega)) (
    AllOK.cons (egeqF (0) (82 + 6 * (1 + r) + 4) (by omega)) (
    AllOK.cons (elssF (1 + r) (1) (by omega)) (
    AllOK.cons (egtrF (1 + r) (4096) (by omega)) (
    AllOK.cons (eM (8192) (1 + r) (8192 * (1 + r)) (by omega)) (
    AllOK.cons (eA (8192 * (1 + r)) (0) (8192 * (1 + r)) (by omega)) (
    AllOK.cons (eA (0) (1 + r) (1 + r) (by omega)) (
    AllOK.cons (eM (6) (1 + r) (6 * (1 + r)) (by omega)) (
    AllOK.cons (eA (82) (6 * (1 + r)) (82 + 6 * (1 + r) + 0) (by omega)) (
    AllOK.cons (eA (1 + r) (63) (((1 + r) + 64) - 1) (by omega)) (
    AllOK.cons (eA (82 + 6 * (1 + r) + 0) (4) (82 + 6 * (1 + r) + 4) (by omega)) (
    AllOK.cons (ent_conv Tryz.underlying5 Tryz.underlying3 rfl (by exact congrArg (Value.int .i64) ((i64_in kk (by omega)).trans (show (kk : Int) = kk by omega)).symm) rfl) (
    AllOK.cons (ent_rem (a := kk) (c := 1 + r) rfl rfl (by omega) (by exact congrArg (Value.int .i64) hq.symm) rfl) (
    AllOK.cons (eA (1) (q) (1 + q) (by omega)) (
    AllOK.cons (elssT (0) (1 + r) (by omega)) (
    AllOK.cons (eS (1 + r) (0) (1 + r) (by omega)) (
    AllOK.cons (ent_andN (a := mk) (c := 18446744073709551615) (b := mk) (by omega) (by omega) rfl rfl ha0 rfl rfl) (
    AllOK.cons (eA (82 + 6 * (1 + r) + 0) (0) (82 + 6 * (1 + r) + 0) (by omega)) (
    AllOK.cons (elssF (82 + 6 * (1 + r) + 2) (0) (by omega)) (
    AllOK.cons (egeqF (82 + 6 * (1 + r) + 2) (82 + 6 * (1 + r) + 4) (by omega)) (
    AllOK.cons (egeqT (82 + 6 * (1 + r) + 2) (0) (by omega)) (
    AllOK.cons (elssT (82 + 6 * (1 + r) + 2) (82 + 6 * (1 + r) + 4) (by omega)) (
    AllOK.cons (elssT (64) (1 + r) (by omega)) (
    AllOK.cons (eS (1 + r) (64) (1 + r - 64) (by omega)) (
    AllOK.cons (ent_andN (a := mo) (c := o1) (b := w1) (by omega) (by omega) rfl rfl ha1 rfl rfl) (
    AllOK.cons (eA (82 + 6 * (1 + r) + 0) (1) (82 + 6 * (1 + r) + 1) (by omega)) (
    AllOK.cons (eA (82 + 6 * (1 + r) + 1) (2) (82 + 6 * (1 + r) + 3) (by omega)) (
    AllOK.cons (elssF (82 + 6 * (1 + r) + 3) (0) (by omega)) (
    AllOK.cons (egeqF (82 + 6 * (1 + r) + 3) (82 + 6 * (1 + r) + 4) (by omega)) (
    AllOK.cons (egeqT (82 + 6 * (1 + r) + 3) (0) (by omega)) (
    AllOK.cons (elssT (82 + 6 * (1 + r) + 3) (82 + 6 * (1 + r) + 4) (by omega)) (
    AllOK.cons (elssF (128) (1 + r) (by omega)) (
    AllOK.cons (elssF (1 + q) (1) (by omega)) (
    AllOK.cons (egtrF (1 + q) (4096) (by omega)) (
    AllOK.cons (lay_same (P := 1 + r) (T := 1) rfl) (
    AllOK.cons (egeqF (2) (82 + 6 * (1 + r) + 4) (by omega)) (
    AllOK.cons (egtrF (1 + q) (1 + r) (by omega)) (
    AllOK.cons (eM (8192) (1 + q) (8192 * (1 + q)) (by omega)) (
    AllOK.cons (elssF (8192 * (1 + r)) (8192 * (1 + q)) (by omega)) (
    AllOK.cons (ent_cmp (op := .neq) (a := 8192 * (1 + r)) (c := 8192 * (1 + r)) rfl rfl (by simp)) (
    AllOK.cons (ent_cmp (op := .neq) (a := 1 + r) (c := 1 + r) rfl rfl (by simp)) (
    AllOK.cons (elssF (1 + r) (1 + r) (by omega)) (
    AllOK.cons (egtrF (1 + r) (1 + r) (by omega)) (
    AllOK.cons (eS (1 + r) (1 + r) ((1 + r) - (1 + r)) (by omega)) (
    AllOK.cons (egtrT (1 + r) (1 + q) (by omega)) (
    AllOK.cons (eA (0) (1 + q) (1 + q) (by omega)) (
    AllOK.cons (eS (1 + r) (1 + q) ((1 + r) - (1 + q)) (by omega)) (
    AllOK.cons (eM (8192) ((1 + r) - (1 + q)) (8192 * ((1 + r) - (1 + q))) (by omega)) (
    AllOK.cons (eA (8192 * ((1 + r) - (1 + q))) (1 + q) ((8192 * ((1 + r) - (1 + q))) + (1 + q)) (by omega)) (
    AllOK.cons (eA ((1 + r) - (1 + r)) ((1 + r) - (1 + q)) ((1 + r) - (1 + q)) (by omega)) (
    AllOK.cons (eA (82 + 6 * (1 + r) + 2) (0) (82 + 6 * (1 + r) + 2) (by omega)) (
    AllOK.cons (ent_conv Tryz.underlying3 Tryz.underlying22 rfl (by exact congrArg (Value.int .u64) ((u64_in (1 + q) (by omega)).trans (show (1 + q : Int) = 1 + q by omega)).symm) rfl) (
    AllOK.cons (ent_conv Tryz.underlying3 Tryz.underlying22 rfl (by exact congrArg (Value.int .u64) ((u64_in ((1 + r) - (1 + q)) (by omega)).trans (show ((1 + r) - (1 + q) : Int) = (1 + r) - (1 + q) by omega)).symm) rfl) (
    AllOK.cons (elssF (82 + 6 * (1 + r) + 0) (0) (by omega)) (
    AllOK.cons (egeqF (82 + 6 * (1 + r) + 0) (82 + 6 * (1 + r) + 4) (by omega)) (
    AllOK.cons (ent_add (a := 0) (c := 18446744073709551615) rfl rfl (by exact congrArg (Value.int .u64) ((u64_in (0 + 18446744073709551615) (by omega)).trans (show (0 + 18446744073709551615 : Int) = 18446744073709551615 by omega)).symm) rfl) (
    AllOK.cons (ent_andN (a := mk) (c := 18446744073709551615) (b := mk) (by omega) (by omega) rfl rfl ha2 rfl rfl) (
    AllOK.cons (ent_cmp (op := .eql) (a := (mk : Int)) (c := 0) rfl rfl (by have h9 : ((mk : Int) : Int) ≠ 0 := (by omega); first | (simp [h9]; done) | (simp; omega))) (
    AllOK.cons (ent_neg (v := mk) (b := x0) (by omega) (by omega) rfl rfl rfl) (
    AllOK.cons (ent_addw (a := mk) (c := x0) (b := r0) (by omega) rfl rfl rfl rfl) (
    AllOK.cons (eA (82 + 6 * (1 + r) + 2) (1) (82 + 6 * (1 + r) + 3) (by omega)) (
    AllOK.cons (elssF (82 + 6 * (1 + r) + 1) (0) (by omega)) (
    AllOK.cons (egeqF (82 + 6 * (1 + r) + 1) (82 + 6 * (1 + r) + 4) (by omega)) (
    AllOK.cons (ent_add (a := 0) (c := (q1 : Int)) rfl rfl (by exact congrArg (Value.int .u64) ((u64_in (0 + ((q1 : Int))) (by omega)).trans (show (0 + ((q1 : Int)) : Int) = (q1 : Int) by omega)).symm) rfl) (
    AllOK.cons (ent_andN (a := w1) (c := q1) (b := v1) (by omega) (by omega) rfl rfl ha6 rfl rfl) (
    AllOK.cons (ent_cmp (op := .eql) (a := (v1 : Int)) (c := 0) rfl rfl (by rw [show ((v1 : Int) : Int) = 0 by omega]; simp)) (
    AllOK.nil))))))))))))))))))))))))))))))))))))))))))))))))))))))))))))))))))))))))))))))))
  have hF : ∀ e ∈ Pghf, FnOK Tryz.prog (sgV (Pght r q pg kk mk mo o1 q1 w1 v1 x0 r0)) w w.heap.size e := FnsOK.cons (FnOK.mk rfl fun w' _ => Mpaw_any w' (Nat.zero_le _)) (
    FnsOK.cons (FnOK.any rfl fun w' _ => r9new128 (1 + r) w' (by omega)) (
    FnsOK.cons (pg_fnR (n := 1 + r) (b := 18446744073709551615) (by omega) (by omega) rfl (by rw [show min (1 + r : Int).toNat 64 = 64 by omega]) rfl rfl) (
    FnsOK.cons (pg_fnR (n := 1 + r - 64) (b := o1) (by omega) (by omega) rfl (by exact ho1) rfl rfl) (
    FnsOK.nil))))
  have hTL : TokL (Pght r q pg kk mk mo o1 q1 w1 v1 x0 r0) := (TokL.int (TokL.int (TokL.int (TokL.int (TokL.int (TokL.int (TokL.int (TokL.int (TokL.int (TokL.int (TokL.int (TokL.int (TokL.int (TokL.int (TokL.int (TokL.int (TokL.int (TokL.int (TokL.int (TokL.int (TokL.int (TokL.int (TokL.int (TokL.int (TokL.int (TokL.int (TokL.int (TokL.int (TokL.int (TokL.int (TokL.int (TokL.int (TokL.int (TokL.int (TokL.int (TokL.int (TokL.int TokL.nil)))))))))))))))))))))))))))))))))))))
  have hσ := sgV_one hTL
  have hS : SpOK (sgV (Pght r q pg kk mk mo o1 q1 w1 v1 x0 r0)) 4 := pg_sp (P := 1 + r) (m := 2) (by omega) rfl (by omega) (by omega) (by intro j hj; rcases (show j = 0 ∨ j = 1 ∨ j = 2 ∨ j = 3 by omega) with rfl | rfl | rfl | rfl <;> exact ⟨_, rfl, by omega⟩)
  have hO : OrcOK Tryz.prog (sgV (Pght r q pg kk mk mo o1 q1 w1 v1 x0 r0)) w w.heap.size (PghO) := orcS_ok hE (sgV_ne hTL) hF hS (rdG_ok hσ ⟨_, rfl, by omega⟩) (pgMk_ok (n := 1 + q) (q := q1) (by omega) (by omega) rfl hq1 rfl rfl)
  have hK : Weak (sgV (Pght r q pg kk mk mo o1 q1 w1 v1 x0 r0)) (sgV (Pg2l r q pg kk mk mo mk w1 r0 w1 18446744073709551615 q1 0)) w w.heap.size 0 Pghl163 Pghh164 Pg2A Pg2H := weak_of (weakOK_pre (n := 11) (l2 := Pg2l r q pg kk mk mo mk w1 r0 w1 18446744073709551615 q1 0) hTL rfl rfl (pairs_tok (a := 10) (b := 10) rfl (pairs_tok (a := 7) (b := 11) rfl (pairs_tok (a := 26) (b := 12) rfl (pairs_tok (a := 12) (b := 15) rfl (pairs_tok (a := 13) (b := 16) rfl (pairs_tok (a := 35) (b := 13) rfl (pairs_tok (a := 26) (b := 14) rfl pairs_nil)))))))) Pghw
  obtain ⟨lZ, hT0, hZ⟩ := Pg2_tail r q pg kk mk mo mk w1 r0 w1 18446744073709551615 q1 w (by omega) (by omega) (by omega) (by omega) (by omega) (by omega) (by omega) (by omega) hb0 hb1
  have hTail := hK.ahead hT0
  have key : Seg2 Tryz.prog (sgV (Pght r q pg kk mk mo o1 q1 w1 v1 x0 r0)) (sgV (Pg2l r q pg kk mk mo mk w1 r0 w1 18446744073709551615 q1 (((1 + r).toNat : Nat) : Int))) w w.heap.size 0 (.code (pgC 0)) Pg0 [] .ret lZ Pg2H := (Seg2.seqP (by rfl) (Seg1.to2 (Pghp0 _ hσ _ _ hO)) (Seg2.seqP (by rfl) (Seg1.to2 (Pghp1 _ hσ _ _ hO)) (Seg2.seqP (by rfl) (Seg1.to2 (Pghp2 _ hσ _ _ hO)) (Seg2.seqP (by rfl) (Seg1.to2 (Seg1.seqP (by rfl) (Pghp3 _ hσ _ _ hO) (Pghp4 _ hσ _ _ hO))) (Seg2.seqP (by rfl) (Seg1.to2 (Pghp5 _ hσ _ _ hO)) (Seg2.seqP (by rfl) (Seg1.to2 (Pghp6 _ hσ _ _ hO)) (Seg2.seqP (by rfl) (Seg1.to2 (Seg1.seqP (by rfl) (Pghp7 _ hσ _ _ hO) (Seg1.loopP (by rfl) (Seg1.loopNext (Pghp8 _ hσ _ _ hO) (Seg1.loopNext (Pghp9 _ hσ _ _ hO) (Seg1.loopExit (Pghp10 _ hσ _ _ hO))))))) (Seg2.seqP (by rfl) (Seg1.to2 (Pghp11 _ hσ _ _ hO)) (Seg2.seqP (by rfl) (Seg1.to2 (Seg1.seqP (by rfl) (Pghp12 _ hσ _ _ hO) (Seg1.loopP (by rfl) (Seg1.loopNext (Pghp13 _ hσ _ _ hO) (Seg1.loopNext (Pghp14 _ hσ _ _ hO) (Seg1.loopNext (Pghp15 _ hσ _ _ hO) (Seg1.loopNext (Pghp16 _ hσ _ _ hO) (Seg1.loopNext (Pghp17 _ hσ _ _ hO) (Seg1.loopNext (Pghp18 _ hσ _ _ hO) (Seg1.loopNext (Pghp19 _ hσ _ _ hO) (Seg1.loopNext (Pghp20 _ hσ _ _ hO) (Seg1.loopExit (Pghp21 _ hσ _ _ hO))))))))))))) (Seg2.seqP (by rfl) (Seg1.to2 (Pghp22 _ hσ _ _ hO)) (Seg2.seqP (by rfl) (Seg1.to2 (Seg1.seqP (by rfl) (Pghp23 _ hσ _ _ hO) (Pghp24 _ hσ _ _ hO))) hTail)))))))))))
  have hb : Tryz.f3.body = some (pgC 0) := by rfl
  have fin := calls_of_seg2 (P := Tryz.prog) (f := 3) (fn := Tryz.f3) (c := bodyOf Tryz.prog 3) (args := #[kf 5, kf 6, kf 7, kf 8]) (l0 := Pg0) (h0 := []) (tabs := []) (sgV_one (Pg2l_tok _ _ _ _ _ _ _ _ _ _ _ _ _)) (Nat.zero_le _) (tabR_nil w) Tryz.func3 hb rfl Pg0_eq pg_w0 key (.inr rfl) hZ rfl
  exact pg_key rfl fin
def Pgit (r q pg kk : Int) (mk mo o1 q1 w0 w1 v0 v1 x1 r1 : Nat) : List Value := [.int .i64 (82 + 6 * (1 + r) + 4), .int .i64 (82 + 6 * (1 + r) + 0), .int .i64 (82 + 6 * (1 + r) + 1), .int .i64 (82 + 6 * (1 + r) + 2), .int .i64 (82 + 6 * (1 + r) + 3), .int .u8 pg, .int .u8 kk, .int .u64 ((mk : Int)), .int .u64 ((mo : Int)), .int .i64 (1 + r), .int .i64 (1 + q), .int .u64 ((o1 : Int)), .int .u64 18446744073709551615, .int .u64 ((q1 : Int)), .int .i64 (1 + q - 64), .int .i64 (1 + r - 64), .int .i64 pg, .int .i64 r, .int .i64 (5 * (1 + r)), .int .i64 (82 + (5 * (1 + r))), .int .i64 ((1 + r) + 64), .int .i64 (((1 + r) + 64) - 1), .int .i64 (8192 * (1 + r)), .int .i64 (6 * (1 + r)), .int .i64 kk, .int .i64 q, .int .u64 ((w0 : Int)), .int .u64 ((w1 : Int)), .int .i64 (8192 * (1 + q)), .int .i64 ((1 + r) - (1 + r)), .int .i64 ((1 + r) - (1 + q)), .int .i64 (8192 * ((1 + r) - (1 + q))), .int .i64 ((8192 * ((1 + r) - (1 + q))) + (1 + q)), .int .u64 (1 + q), .int .u64 ((1 + r) - (1 + q)), .int .u64 ((v0 : Int)), .int .u64 ((v1 : Int)), .int .u64 ((x1 : Int)), .int .u64 ((r1 : Int))]
set_option maxHeartbeats 4000000 in
theorem Pgi_any (r q pg kk : Int) (mk mo o1 q1 w0 w1 v0 v1 x1 r1 : Nat) (w : World) (hpg : 0 ≤ pg ∧ pg < 256) (hkk : 0 ≤ kk ∧ kk < 256) (hr : Int.tmod pg 128 = r) (hq : Int.tmod kk (1 + r) = q) (hr2 : 0 ≤ r ∧ r < 128) (hq2 : 0 ≤ q ∧ q < r) (hm : 64 ≤ r) (hn : 64 < 1 + q) (hBmk : mk < 18446744073709551616) (hBmo : mo < 18446744073709551616) (hBo1 : o1 < 18446744073709551616) (hBq1 : q1 < 18446744073709551616) (hBw0 : w0 < 18446744073709551616) (hBw1 : w1 < 18446744073709551616) (hBv0 : v0 < 18446744073709551616) (hBv1 : v1 < 18446744073709551616) (hBx1 : x1 < 18446744073709551616) (hBr1 : r1 < 18446744073709551616) (ho1 : o1 = 2 ^ (min (1 + r - 64 : Int).toNat 64) - 1) (hq1 : q1 = 2 ^ (min (1 + q - 64 : Int).toNat 64) - 1) (ha0 : w0 = mk &&& 18446744073709551615) (ha1 : w1 = mo &&& o1) (ha2 : v0 = w0 &&& 18446744073709551615) (ha3 : v0 = 0) (ha4 : v1 = w1 &&& q1) (ha5 : v1 ≠ 0) (ha6 : x1 + v1 = 18446744073709551616) (ha7 : r1 + v1 = w1) (hb0 : ∀ i : Nat, i < 64 → (i : Int) < 1 + r → w0.testBit i = (decide ((1 + q : Int) ≤ i) && w0.testBit i)) (hb1 : ∀ i : Nat, i < 64 → (i : Int) + 64 < 1 + r → r1.testBit i = (decide ((1 + q : Int) ≤ (i : Int) + 64) && w1.testBit i)) : Calls Tryz.prog 3 #[.int .u8 pg, .int .u8 kk, .int .u64 (mk : Int), .int .u64 (mo : Int)] w fun e w' => e = .returned (.bool true) ∧ Ext w w' := by
  have hE : AllOK Tryz.prog (sgV (Pgit r q pg kk mk mo o1 q1 w0 w1 v0 v1 x1 r1)) Pgie := AllOK.cons (ent_conv Tryz.underlying5 Tryz.underlying3 rfl (by exact congrArg (Value.int .i64) ((i64_in pg (by omega)).trans (show (pg : Int) = pg by omega)).symm) rfl) (
    AllOK.cons (ent_rem (a := pg) (c := 128) rfl rfl (by omega) (by exact congrArg (Value.int .i64) hr.symm) rfl) (
    AllOK.cons (eA (1) (r) (1 + r) (by omega)) (
    AllOK.cons (egeqT (1 + r) (1) (by omega)) (
    AllOK.cons (eleqT (1 + r) (4096) (by omega)) (
    AllOK.cons (eM (5) (1 + r) (5 * (1 + r)) (by omega)) (
    AllOK.cons (eA (82) (5 * (1 + r)) (82 + (5 * (1 + r))) (by omega)) (
    AllOK.cons (eA (82 + (5 * (1 + r))) (1 + r) (82 + 6 * (1 + r) + 0) (by omega)) (
    AllOK.cons (eA (1 + r) (64) ((1 + r) + 64) (by omega)) (
    AllOK.cons (eS ((1 + r) + 64) (1) (((1 + r) + 64) - 1) (by omega)) (
    AllOK.cons (ent_quo (a := ((1 + r) + 64) - 1) (c := 64) rfl rfl (by omega) (by exact congrArg (Value.int .i64) (quoC (a := ((1 + r) + 64) - 1) (c := 64) (q := 2) (by omega) (by omega) (by omega) (by omega) (by omega)).symm) rfl) (
    AllOK.cons (eA (82 + 6 * (1 + r) + 0) (2) (82 + 6 * (1 + r) + 2) (by omega)) (
    AllOK.cons (eA (82 + 6 * (1 + r) + 2) (2) (82 + 6 * (1 + r) + 4) (by omega)) (
    AllOK.cons (elssF (82 + 6 * (1 + r) + 4) (1) (by omega)) (
    AllOK.cons (egtrF (82 + 6 * (1 + r) + 4) (65536) (by omega)) (
    AllOK.cons (egeqF (0) (82 + 6 * (1 + r) + 4) (by omega)) (
    AllOK.cons (elssF (1 + r) (1) (by omega)) (
    AllOK.cons (egtrF (1 + r) (4096) (by omega)) (
    AllOK.cons (eM (8192) (1 + r) (8192 * (1 + r)) (by omega)) (
    AllOK.cons (eA (8192 * (1 + r)) (0) (8192 * (1 + r)) (by omega)) (
    AllOK.cons (eA (0) (1 + r) (1 + r) (by omega)) (
    AllOK.cons (eM (6) (1 + r) (6 * (1 + r)) (by omega)) (
    AllOK.cons (eA (82) (6 * (1 + r)) (82 + 6 * (1 + r) + 0) (by omega)) (
    AllOK.cons (eA (1 + r) (63) (((1 + r) + 64) - 1) (by omega)) (
    AllOK.cons (eA (82 + 6 * (1 + r) + 0) (4) (82 + 6 * (1 + r) + 4) (by omega)) (
    AllOK.cons (ent_conv Tryz.underlying5 Tryz.underlying3 rfl (by exact congrArg (Value.int .i64) ((i64_in kk (by omega)).trans (show (kk : Int) = kk by omega)).symm) rfl) (
    AllOK.cons (ent_rem (a := kk) (c := 1 + r) rfl rfl (by omega) (by exact congrArg (Value.int .i64) hq.symm) rfl) (
    AllOK.cons (eA (1) (q) (1 + q) (by omega)) (
    AllOK.cons (elssT (0) (1 + r) (by omega)) (
    AllOK.cons (eS (1 + r) (0) (1 + r) (by omega)) (
    AllOK.cons (ent_andN (a := mk) (c := 18446744073709551615) (b := w0) (by omega) (by omega) rfl rfl ha0 rfl rfl) (
    AllOK.cons (eA (82 + 6 * (1 + r) + 0) (0) (82 + 6 * (1 + r) + 0) (by omega)) (
    AllOK.cons (elssF (82 + 6 * (1 + r) + 2) (0) (by omega)) (
    AllOK.cons (egeqF (82 + 6 * (1 + r) + 2) (82 + 6 * (1 + r) + 4) (by omega)) (
    AllOK.cons (egeqT (82 + 6 * (1 + r) + 2) (0) (by omega)) (
    AllOK.cons (elssT (82 + 6 * (1 + r) + 2) (82 + 6 * (1 + r) + 4) (by omega)) (
    AllOK.cons (elssT (64) (1 + r) (by omega)) (
    AllOK.cons (eS (1 + r) (64) (1 + r - 64) (by omega)) (
    AllOK.cons (ent_andN (a := mo) (c := o1) (b := w1) (by omega) (by omega) rfl rfl ha1 rfl rfl) (
    AllOK.cons (eA (82 + 6 * (1 + r) + 0) (1) (82 + 6 * (1 + r) + 1) (by omega)) (
    AllOK.cons (eA (82 + 6 * (1 + r) + 1) (2) (82 + 6 * (1 + r) + 3) (by omega)) (
    AllOK.cons (elssF (82 + 6 * (1 + r) + 3) (0) (by omega)) (
    AllOK.cons (egeqF (82 + 6 * (1 + r) + 3) (82 + 6 * (1 + r) + 4) (by omega)) (
    AllOK.cons (egeqT (82 + 6 * (1 + r) + 3) (0) (by omega)) (
    AllOK.cons (elssT (82 + 6 * (1 + r) + 3) (82 + 6 * (1 + r) + 4) (by omega)) (
    AllOK.cons (elssF (128) (1 + r) (by omega)) (
    AllOK.cons (elssF (1 + q) (1) (by omega)) (
    AllOK.cons (egtrF (1 + q) (4096) (by omega)) (
    AllOK.cons (lay_same (P := 1 + r) (T := 1) rfl) (
    AllOK.cons (egeqF (2) (82 + 6 * (1 + r) + 4) (by omega)) (
    AllOK.cons (egtrF (1 + q) (1 + r) (by omega)) (
    AllOK.cons (eM (8192) (1 + q) (8192 * (1 + q)) (by omega)) (
    AllOK.cons (elssF (8192 * (1 + r)) (8192 * (1 + q)) (by omega)) (
    AllOK.cons (ent_cmp (op := .neq) (a := 8192 * (1 + r)) (c := 8192 * (1 + r)) rfl rfl (by simp)) (
    AllOK.cons (ent_cmp (op := .neq) (a := 1 + r) (c := 1 + r) rfl rfl (by simp)) (
    AllOK.cons (elssF (1 + r) (1 + r) (by omega)) (
    AllOK.cons (egtrF (1 + r) (1 + r) (by omega)) (
    AllOK.cons (eS (1 + r) (1 + r) ((1 + r) - (1 + r)) (by omega)) (
    AllOK.cons (egtrT (1 + r) (1 + q) (by omega)) (
    AllOK.cons (eA (0) (1 + q) (1 + q) (by omega)) (
    AllOK.cons (eS (1 + r) (1 + q) ((1 + r) - (1 + q)) (by omega)) (
    AllOK.cons (eM (8192) ((1 + r) - (1 + q)) (8192 * ((1 + r) - (1 + q))) (by omega)) (
    AllOK.cons (eA (8192 * ((1 + r) - (1 + q))) (1 + q) ((8192 * ((1 + r) - (1 + q))) + (1 + q)) (by omega)) (
    AllOK.cons (eA ((1 + r) - (1 + r)) ((1 + r) - (1 + q)) ((1 + r) - (1 + q)) (by omega)) (
    AllOK.cons (eA (82 + 6 * (1 + r) + 2) (0) (82 + 6 * (1 + r) + 2) (by omega)) (
    AllOK.cons (ent_conv Tryz.underlying3 Tryz.underlying22 rfl (by exact congrArg (Value.int .u64) ((u64_in (1 + q) (by omega)).trans (show (1 + q : Int) = 1 + q by omega)).symm) rfl) (
    AllOK.cons (ent_conv Tryz.underlying3 Tryz.underlying22 rfl (by exact congrArg (Value.int .u64) ((u64_in ((1 + r) - (1 + q)) (by omega)).trans (show ((1 + r) - (1 + q) : Int) = (1 + r) - (1 + q) by omega)).symm) rfl) (
    AllOK.cons (elssF (82 + 6 * (1 + r) + 0) (0) (by omega)) (
    AllOK.cons (egeqF (82 + 6 * (1 + r) + 0) (82 + 6 * (1 + r) + 4) (by omega)) (
    AllOK.cons (ent_add (a := 0) (c := 18446744073709551615) rfl rfl (by exact congrArg (Value.int .u64) ((u64_in (0 + 18446744073709551615) (by omega)).trans (show (0 + 18446744073709551615 : Int) = 18446744073709551615 by omega)).symm) rfl) (
    AllOK.cons (ent_andN (a := w0) (c := 18446744073709551615) (b := v0) (by omega) (by omega) rfl rfl ha2 rfl rfl) (
    AllOK.cons (ent_cmp (op := .eql) (a := (v0 : Int)) (c := 0) rfl rfl (by rw [show ((v0 : Int) : Int) = 0 by omega]; simp)) (
    AllOK.cons (eA (82 + 6 * (1 + r) + 2) (1) (82 + 6 * (1 + r) + 3) (by omega)) (
    AllOK.cons (elssF (82 + 6 * (1 + r) + 1) (0) (by omega)) (
    AllOK.cons (egeqF (82 + 6 * (1 + r) + 1) (82 + 6 * (1 + r) + 4) (by omega)) (
    AllOK.cons (ent_add (a := 0) (c := (q1 : Int)) rfl rfl (by exact congrArg (Value.int .u64) ((u64_in (0 + ((q1 : Int))) (by omega)).trans (show (0 + ((q1 : Int)) : Int) = (q1 : Int) by omega)).symm) rfl) (
    AllOK.cons (ent_andN (a := w1) (c := q1) (b := v1) (by omega) (by omega) rfl rfl ha4 rfl rfl) (
    AllOK.cons (ent_cmp (op := .eql) (a := (v1 : Int)) (c := 0) rfl rfl (by have h9 : ((v1 : Int) : Int) ≠ 0 := (by omega); first | (simp [h9]; done) | (simp; omega))) (
    AllOK.cons (ent_neg (v := v1) (b := x1) (by omega) (by omega) rfl rfl rfl) (
    AllOK.cons (ent_addw (a := w1) (c := x1) (b := r1) (by omega) rfl rfl rfl rfl) (
    AllOK.nil))))))))))))))))))))))))))))))))))))))))))))))))))))))))))))))))))))))))))))))))
  have hF : ∀ e ∈ Pgif, FnOK Tryz.prog (sgV (Pgit r q pg kk mk mo o1 q1 w0 w1 v0 v1 x1 r1)) w w.heap.size e := FnsOK.cons (FnOK.mk rfl fun w' _ => Mpaw_any w' (Nat.zero_le _)) (
    FnsOK.cons (FnOK.any rfl fun w' _ => r9new128 (1 + r) w' (by omega)) (
    FnsOK.cons (pg_fnR (n := 1 + r) (b := 18446744073709551615) (by omega) (by omega) rfl (by rw [show min (1 + r : Int).toNat 64 = 64 by omega]) rfl rfl) (
    FnsOK.cons (pg_fnR (n := 1 + r - 64) (b := o1) (by omega) (by omega) rfl (by exact ho1) rfl rfl) (
    FnsOK.nil))))
  have hTL : TokL (Pgit r q pg kk mk mo o1 q1 w0 w1 v0 v1 x1 r1) := (TokL.int (TokL.int (TokL.int (TokL.int (TokL.int (TokL.int (TokL.int (TokL.int (TokL.int (TokL.int (TokL.int (TokL.int (TokL.int (TokL.int (TokL.int (TokL.int (TokL.int (TokL.int (TokL.int (TokL.int (TokL.int (TokL.int (TokL.int (TokL.int (TokL.int (TokL.int (TokL.int (TokL.int (TokL.int (TokL.int (TokL.int (TokL.int (TokL.int (TokL.int (TokL.int (TokL.int (TokL.int (TokL.int (TokL.int TokL.nil)))))))))))))))))))))))))))))))))))))))
  have hσ := sgV_one hTL
  have hS : SpOK (sgV (Pgit r q pg kk mk mo o1 q1 w0 w1 v0 v1 x1 r1)) 4 := pg_sp (P := 1 + r) (m := 2) (by omega) rfl (by omega) (by omega) (by intro j hj; rcases (show j = 0 ∨ j = 1 ∨ j = 2 ∨ j = 3 by omega) with rfl | rfl | rfl | rfl <;> exact ⟨_, rfl, by omega⟩)
  have hO : OrcOK Tryz.prog (sgV (Pgit r q pg kk mk mo o1 q1 w0 w1 v0 v1 x1 r1)) w w.heap.size (PgiO) := orcS_ok hE (sgV_ne hTL) hF hS (rdG_ok hσ ⟨_, rfl, by omega⟩) (pgMk_ok (n := 1 + q) (q := q1) (by omega) (by omega) rfl hq1 rfl rfl)
  have hK : Weak (sgV (Pgit r q pg kk mk mo o1 q1 w0 w1 v0 v1 x1 r1)) (sgV (Pg2l r q pg kk mk mo w0 w1 w0 r1 18446744073709551615 q1 0)) w w.heap.size 0 Pgil163 Pgih164 Pg2A Pg2H := weak_of (weakOK_pre (n := 11) (l2 := Pg2l r q pg kk mk mo w0 w1 w0 r1 18446744073709551615 q1 0) hTL rfl rfl (pairs_tok (a := 10) (b := 10) rfl (pairs_tok (a := 26) (b := 11) rfl (pairs_tok (a := 27) (b := 12) rfl (pairs_tok (a := 12) (b := 15) rfl (pairs_tok (a := 13) (b := 16) rfl (pairs_tok (a := 26) (b := 13) rfl (pairs_tok (a := 38) (b := 14) rfl pairs_nil)))))))) Pgiw
  obtain ⟨lZ, hT0, hZ⟩ := Pg2_tail r q pg kk mk mo w0 w1 w0 r1 18446744073709551615 q1 w (by omega) (by omega) (by omega) (by omega) (by omega) (by omega) (by omega) (by omega) hb0 hb1
  have hTail := hK.ahead hT0
  have key : Seg2 Tryz.prog (sgV (Pgit r q pg kk mk mo o1 q1 w0 w1 v0 v1 x1 r1)) (sgV (Pg2l r q pg kk mk mo w0 w1 w0 r1 18446744073709551615 q1 (((1 + r).toNat : Nat) : Int))) w w.heap.size 0 (.code (pgC 0)) Pg0 [] .ret lZ Pg2H := (Seg2.seqP (by rfl) (Seg1.to2 (Pgip0 _ hσ _ _ hO)) (Seg2.seqP (by rfl) (Seg1.to2 (Pgip1 _ hσ _ _ hO)) (Seg2.seqP (by rfl) (Seg1.to2 (Pgip2 _ hσ _ _ hO)) (Seg2.seqP (by rfl) (Seg1.to2 (Seg1.seqP (by rfl) (Pgip3 _ hσ _ _ hO) (Pgip4 _ hσ _ _ hO))) (Seg2.seqP (by rfl) (Seg1.to2 (Pgip5 _ hσ _ _ hO)) (Seg2.seqP (by rfl) (Seg1.to2 (Pgip6 _ hσ _ _ hO)) (Seg2.seqP (by rfl) (Seg1.to2 (Seg1.seqP (by rfl) (Pgip7 _ hσ _ _ hO) (Seg1.loopP (by rfl) (Seg1.loopNext (Pgip8 _ hσ _ _ hO) (Seg1.loopNext (Pgip9 _ hσ _ _ hO) (Seg1.loopExit (Pgip10 _ hσ _ _ hO))))))) (Seg2.seqP (by rfl) (Seg1.to2 (Pgip11 _ hσ _ _ hO)) (Seg2.seqP (by rfl) (Seg1.to2 (Seg1.seqP (by rfl) (Pgip12 _ hσ _ _ hO) (Seg1.loopP (by rfl) (Seg1.loopNext (Pgip13 _ hσ _ _ hO) (Seg1.loopNext (Pgip14 _ hσ _ _ hO) (Seg1.loopNext (Pgip15 _ hσ _ _ hO) (Seg1.loopNext (Pgip16 _ hσ _ _ hO) (Seg1.loopNext (Pgip17 _ hσ _ _ hO) (Seg1.loopNext (Pgip18 _ hσ _ _ hO) (Seg1.loopNext (Pgip19 _ hσ _ _ hO) (Seg1.loopNext (Pgip20 _ hσ _ _ hO) (Seg1.loopExit (Pgip21 _ hσ _ _ hO))))))))))))) (Seg2.seqP (by rfl) (Seg1.to2 (Pgip22 _ hσ _ _ hO)) (Seg2.seqP (by rfl) (Seg1.to2 (Seg1.seqP (by rfl) (Pgip23 _ hσ _ _ hO) (Pgip24 _ hσ _ _ hO))) hTail)))))))))))
  have hb : Tryz.f3.body = some (pgC 0) := by rfl
  have fin := calls_of_seg2 (P := Tryz.prog) (f := 3) (fn := Tryz.f3) (c := bodyOf Tryz.prog 3) (args := #[kf 5, kf 6, kf 7, kf 8]) (l0 := Pg0) (h0 := []) (tabs := []) (sgV_one (Pg2l_tok _ _ _ _ _ _ _ _ _ _ _ _ _)) (Nat.zero_le _) (tabR_nil w) Tryz.func3 hb rfl Pg0_eq pg_w0 key (.inr rfl) hZ rfl
  exact pg_key rfl fin
def Pgjt (r q pg kk : Int) (mk mo o1 q1 w0 w1 v0 v1 : Nat) : List Value := [.int .i64 (82 + 6 * (1 + r) + 4), .int .i64 (82 + 6 * (1 + r) + 0), .int .i64 (82 + 6 * (1 + r) + 1), .int .i64 (82 + 6 * (1 + r) + 2), .int .i64 (82 + 6 * (1 + r) + 3), .int .u8 pg, .int .u8 kk, .int .u64 ((mk : Int)), .int .u64 ((mo : Int)), .int .i64 (1 + r), .int .i64 (1 + q), .int .u64 ((o1 : Int)), .int .u64 18446744073709551615, .int .u64 ((q1 : Int)), .int .i64 (1 + q - 64), .int .i64 (1 + r - 64), .int .i64 pg, .int .i64 r, .int .i64 (5 * (1 + r)), .int .i64 (82 + (5 * (1 + r))), .int .i64 ((1 + r) + 64), .int .i64 (((1 + r) + 64) - 1), .int .i64 (8192 * (1 + r)), .int .i64 (6 * (1 + r)), .int .i64 kk, .int .i64 q, .int .u64 ((w0 : Int)), .int .u64 ((w1 : Int)), .int .i64 (8192 * (1 + q)), .int .i64 ((1 + r) - (1 + r)), .int .i64 ((1 + r) - (1 + q)), .int .i64 (8192 * ((1 + r) - (1 + q))), .int .i64 ((8192 * ((1 + r) - (1 + q))) + (1 + q)), .int .u64 (1 + q), .int .u64 ((1 + r) - (1 + q)), .int .u64 ((v0 : Int)), .int .u64 ((v1 : Int))]
set_option maxHeartbeats 4000000 in
theorem Pgj_any (r q pg kk : Int) (mk mo o1 q1 w0 w1 v0 v1 : Nat) (w : World) (hpg : 0 ≤ pg ∧ pg < 256) (hkk : 0 ≤ kk ∧ kk < 256) (hr : Int.tmod pg 128 = r) (hq : Int.tmod kk (1 + r) = q) (hr2 : 0 ≤ r ∧ r < 128) (hq2 : 0 ≤ q ∧ q < r) (hm : 64 ≤ r) (hn : 64 < 1 + q) (hBmk : mk < 18446744073709551616) (hBmo : mo < 18446744073709551616) (hBo1 : o1 < 18446744073709551616) (hBq1 : q1 < 18446744073709551616) (hBw0 : w0 < 18446744073709551616) (hBw1 : w1 < 18446744073709551616) (hBv0 : v0 < 18446744073709551616) (hBv1 : v1 < 18446744073709551616) (ho1 : o1 = 2 ^ (min (1 + r - 64 : Int).toNat 64) - 1) (hq1 : q1 = 2 ^ (min (1 + q - 64 : Int).toNat 64) - 1) (ha0 : w0 = mk &&& 18446744073709551615) (ha1 : w1 = mo &&& o1) (ha2 : v0 = w0 &&& 18446744073709551615) (ha3 : v0 = 0) (ha4 : v1 = w1 &&& q1) (ha5 : v1 = 0) (hb0 : ∀ i : Nat, i < 64 → (i : Int) < 1 + r → w0.testBit i = (decide ((1 + q : Int) ≤ i) && w0.testBit i)) (hb1 : ∀ i : Nat, i < 64 → (i : Int) + 64 < 1 + r → w1.testBit i = (decide ((1 + q : Int) ≤ (i : Int) + 64) && w1.testBit i)) : Calls Tryz.prog 3 #[.int .u8 pg, .int .u8 kk, .int .u64 (mk : Int), .int .u64 (mo : Int)] w fun e w' => e = .returned (.bool true) ∧ Ext w w' := by
  have hE : AllOK Tryz.prog (sgV (Pgjt r q pg kk mk mo o1 q1 w0 w1 v0 v1)) Pgje := AllOK.cons (ent_conv Tryz.underlying5 Tryz.underlying3 rfl (by exact congrArg (Value.int .i64) ((i64_in pg (by omega)).trans (show (pg : Int) = pg by omega)).symm) rfl) (
    AllOK.cons (ent_rem (a := pg) (c := 128) rfl rfl (by omega) (by exact congrArg (Value.int .i64) hr.symm) rfl) (
    AllOK.cons (eA (1) (r) (1 + r) (by omega)) (
    AllOK.cons (egeqT (1 + r) (1) (by omega)) (
    AllOK.cons (eleqT (1 + r) (4096) (by omega)) (
    AllOK.cons (eM (5) (1 + r) (5 * (1 + r)) (by omega)) (
    AllOK.cons (eA (82) (5 * (1 + r)) (82 + (5 * (1 + r))) (by omega)) (
    AllOK.cons (eA (82 + (5 * (1 + r))) (1 + r) (82 + 6 * (1 + r) + 0) (by omega)) (
    AllOK.cons (eA (1 + r) (64) ((1 + r) + 64) (by omega)) (
    AllOK.cons (eS ((1 + r) + 64) (1) (((1 + r) + 64) - 1) (by omega)) (
    AllOK.cons (ent_quo (a := ((1 + r) + 64) - 1) (c := 64) rfl rfl (by omega) (by exact congrArg (Value.int .i64) (quoC (a := ((1 + r) + 64) - 1) (c := 64) (q := 2) (by omega) (by omega) (by omega) (by omega) (by omega)).symm) rfl) (
    AllOK.cons (eA (82 + 6 * (1 + r) + 0) (2) (82 + 6 * (1 + r) + 2) (by omega)) (
    AllOK.cons (eA (82 + 6 * (1 + r) + 2) (2) (82 + 6 * (1 + r) + 4) (by omega)) (
    AllOK.cons (elssF (82 + 6 * (1 + r) + 4) (1) (by omega)) (
    AllOK.cons (egtrF (82 + 6 * (1 + r) + 4) (65536) (by omega)) (
    AllOK.cons (egeqF (0) (82 + 6 * (1 + r) + 4) (by omega)) (
    AllOK.cons (elssF (1 + r) (1) (by omega)) (
    AllOK.cons (egtrF (1 + r) (4096) (by omega)) (
    AllOK.cons (eM (8192) (1 + r) (8192 * (1 + r)) (by omega)) (
    AllOK.cons (eA (8192 * (1 + r)) (0) (8192 * (1 + r)) (by omega)) (
    AllOK.cons (eA (0) (1 + r) (1 + r) (by omega)) (
    AllOK.cons (eM (6) (1 + r) (6 * (1 + r)) (by omega)) (
    AllOK.cons (eA (82) (6 * (1 + r)) (82 + 6 * (1 + r) + 0) (by omega)) (
    AllOK.cons (eA (1 + r) (63) (((1 + r) + 64) - 1) (by omega)) (
    AllOK.cons (eA (82 + 6 * (1 + r) + 0) (4) (82 + 6 * (1 + r) + 4) (by omega)) (
    AllOK.cons (ent_conv Tryz.underlying5 Tryz.underlying3 rfl (by exact congrArg (Value.int .i64) ((i64_in kk (by omega)).trans (show (kk : Int) = kk by omega)).symm) rfl) (
    AllOK.cons (ent_rem (a := kk) (c := 1 + r) rfl rfl (by omega) (by exact congrArg (Value.int .i64) hq.symm) rfl) (
    AllOK.cons (eA (1) (q) (1 + q) (by omega)) (
    AllOK.cons (elssT (0) (1 + r) (by omega)) (
    AllOK.cons (eS (1 + r) (0) (1 + r) (by omega)) (
    AllOK.cons (ent_andN (a := mk) (c := 18446744073709551615) (b := w0) (by omega) (by omega) rfl rfl ha0 rfl rfl) (
    AllOK.cons (eA (82 + 6 * (1 + r) + 0) (0) (82 + 6 * (1 + r) + 0) (by omega)) (
    AllOK.cons (elssF (82 + 6 * (1 + r) + 2) (0) (by omega)) (
    AllOK.cons (egeqF (82 + 6 * (1 + r) + 2) (82 + 6 * (1 + r) + 4) (by omega)) (
    AllOK.cons (egeqT (82 + 6 * (1 + r) + 2) (0) (by omega)) (
    AllOK.cons (elssT (82 + 6 * (1 + r) + 2) (82 + 6 * (1 + r) + 4) (by omega)) (
    AllOK.cons (elssT (64) (1 + r) (by omega)) (
    AllOK.cons (eS (1 + r) (64) (1 + r - 64) (by omega)) (
    AllOK.cons (ent_andN (a := mo) (c := o1) (b := w1) (by omega) (by omega) rfl rfl ha1 rfl rfl) (
    AllOK.cons (eA (82 + 6 * (1 + r) + 0) (1) (82 + 6 * (1 + r) + 1) (by omega)) (
    AllOK.cons (eA (82 + 6 * (1 + r) + 1) (2) (82 + 6 * (1 + r) + 3) (by omega)) (
    AllOK.cons (elssF (82 + 6 * (1 + r) + 3) (0) (by omega)) (
    AllOK.cons (egeqF (82 + 6 * (1 + r) + 3) (82 + 6 * (1 + r) + 4) (by omega)) (
    AllOK.cons (egeqT (82 + 6 * (1 + r) + 3) (0) (by omega)) (
    AllOK.cons (elssT (82 + 6 * (1 + r) + 3) (82 + 6 * (1 + r) + 4) (by omega)) (
    AllOK.cons (elssF (128) (1 + r) (by omega)) (
    AllOK.cons (elssF (1 + q) (1) (by omega)) (
    AllOK.cons (egtrF (1 + q) (4096) (by omega)) (
    AllOK.cons (lay_same (P := 1 + r) (T := 1) rfl) (
    AllOK.cons (egeqF (2) (82 + 6 * (1 + r) + 4) (by omega)) (
    AllOK.cons (egtrF (1 + q) (1 + r) (by omega)) (
    AllOK.cons (eM (8192) (1 + q) (8192 * (1 + q)) (by omega)) (
    AllOK.cons (elssF (8192 * (1 + r)) (8192 * (1 + q)) (by omega)) (
    AllOK.cons (ent_cmp (op := .neq) (a := 8192 * (1 + r)) (c := 8192 * (1 + r)) rfl rfl (by simp)) (
    AllOK.cons (ent_cmp (op := .neq) (a := 1 + r) (c := 1 + r) rfl rfl (by simp)) (
    AllOK.cons (elssF (1 + r) (1 + r) (by omega)) (
    AllOK.cons (egtrF (1 + r) (1 + r) (by omega)) (
    AllOK.cons (eS (1 + r) (1 + r) ((1 + r) - (1 + r)) (by omega)) (
    AllOK.cons (egtrT (1 + r) (1 + q) (by omega)) (
    AllOK.cons (eA (0) (1 + q) (1 + q) (by omega)) (
    AllOK.cons (eS (1 + r) (1 + q) ((1 + r) - (1 + q)) (by omega)) (
    AllOK.cons (eM (8192) ((1 + r) - (1 + q)) (8192 * ((1 + r) - (1 + q))) (by omega)) (
    AllOK.cons (eA (8192 * ((1 + r) - (1 + q))) (1 + q) ((8192 * ((1 + r) - (1 + q))) + (1 + q)) (by omega)) (
    AllOK.cons (eA ((1 + r) - (1 + r)) ((1 + r) - (1 + q)) ((1 + r) - (1 + q)) (by omega)) (
    AllOK.cons (eA (82 + 6 * (1 + r) + 2) (0) (82 + 6 * (1 + r) + 2) (by omega)) (
    AllOK.cons (ent_conv Tryz.underlying3 Tryz.underlying22 rfl (by exact congrArg (Value.int .u64) ((u64_in (1 + q) (by omega)).trans (show (1 + q : Int) = 1 + q by omega)).symm) rfl) (
    AllOK.cons (ent_conv Tryz.underlying3 Tryz.underlying22 rfl (by exact congrArg (Value.int .u64) ((u64_in ((1 + r) - (1 + q)) (by omega)).trans (show ((1 + r) - (1 + q) : Int) = (1 + r) - (1 + q) by omega)).symm) rfl) (
    AllOK.cons (elssF (82 + 6 * (1 + r) + 0) (0) (by omega)) (
    AllOK.cons (egeqF (82 + 6 * (1 + r) + 0) (82 + 6 * (1 + r) + 4) (by omega)) (
    AllOK.cons (ent_add (a := 0) (c := 18446744073709551615) rfl rfl (by exact congrArg (Value.int .u64) ((u64_in (0 + 18446744073709551615) (by omega)).trans (show (0 + 18446744073709551615 : Int) = 18446744073709551615 by omega)).symm) rfl) (
    AllOK.cons (ent_andN (a := w0) (c := 18446744073709551615) (b := v0) (by omega) (by omega) rfl rfl ha2 rfl rfl) (
    AllOK.cons (ent_cmp (op := .eql) (a := (v0 : Int)) (c := 0) rfl rfl (by rw [show ((v0 : Int) : Int) = 0 by omega]; simp)) (
    AllOK.cons (eA (82 + 6 * (1 + r) + 2) (1) (82 + 6 * (1 + r) + 3) (by omega)) (
    AllOK.cons (elssF (82 + 6 * (1 + r) + 1) (0) (by omega)) (
    AllOK.cons (egeqF (82 + 6 * (1 + r) + 1) (82 + 6 * (1 + r) + 4) (by omega)) (
    AllOK.cons (ent_add (a := 0) (c := (q1 : Int)) rfl rfl (by exact congrArg (Value.int .u64) ((u64_in (0 + ((q1 : Int))) (by omega)).trans (show (0 + ((q1 : Int)) : Int) = (q1 : Int) by omega)).symm) rfl) (
    AllOK.cons (ent_andN (a := w1) (c := q1) (b := v1) (by omega) (by omega) rfl rfl ha4 rfl rfl) (
    AllOK.cons (ent_cmp (op := .eql) (a := (v1 : Int)) (c := 0) rfl rfl (by rw [show ((v1 : Int) : Int) = 0 by omega]; simp)) (
    AllOK.nil))))))))))))))))))))))))))))))))))))))))))))))))))))))))))))))))))))))))))))))
  have hF : ∀ e ∈ Pgjf, FnOK Tryz.prog (sgV (Pgjt r q pg kk mk mo o1 q1 w0 w1 v0 v1)) w w.heap.size e := FnsOK.cons (FnOK.mk rfl fun w' _ => Mpaw_any w' (Nat.zero_le _)) (
    FnsOK.cons (FnOK.any rfl fun w' _ => r9new128 (1 + r) w' (by omega)) (
    FnsOK.cons (pg_fnR (n := 1 + r) (b := 18446744073709551615) (by omega) (by omega) rfl (by rw [show min (1 + r : Int).toNat 64 = 64 by omega]) rfl rfl) (
    FnsOK.cons (pg_fnR (n := 1 + r - 64) (b := o1) (by omega) (by omega) rfl (by exact ho1) rfl rfl) (
    FnsOK.nil))))
  have hTL : TokL (Pgjt r q pg kk mk mo o1 q1 w0 w1 v0 v1) := (TokL.int (TokL.int (TokL.int (TokL.int (TokL.int (TokL.int (TokL.int (TokL.int (TokL.int (TokL.int (TokL.int (TokL.int (TokL.int (TokL.int (TokL.int (TokL.int (TokL.int (TokL.int (TokL.int (TokL.int (TokL.int (TokL.int (TokL.int (TokL.int (TokL.int (TokL.int (TokL.int (TokL.int (TokL.int (TokL.int (TokL.int (TokL.int (TokL.int (TokL.int (TokL.int (TokL.int (TokL.int TokL.nil)))))))))))))))))))))))))))))))))))))
  have hσ := sgV_one hTL
  have hS : SpOK (sgV (Pgjt r q pg kk mk mo o1 q1 w0 w1 v0 v1)) 4 := pg_sp (P := 1 + r) (m := 2) (by omega) rfl (by omega) (by omega) (by intro j hj; rcases (show j = 0 ∨ j = 1 ∨ j = 2 ∨ j = 3 by omega) with rfl | rfl | rfl | rfl <;> exact ⟨_, rfl, by omega⟩)
  have hO : OrcOK Tryz.prog (sgV (Pgjt r q pg kk mk mo o1 q1 w0 w1 v0 v1)) w w.heap.size (PgjO) := orcS_ok hE (sgV_ne hTL) hF hS (rdG_ok hσ ⟨_, rfl, by omega⟩) (pgMk_ok (n := 1 + q) (q := q1) (by omega) (by omega) rfl hq1 rfl rfl)
  have hK : Weak (sgV (Pgjt r q pg kk mk mo o1 q1 w0 w1 v0 v1)) (sgV (Pg2l r q pg kk mk mo w0 w1 w0 w1 18446744073709551615 q1 0)) w w.heap.size 0 Pgjl154 Pgjh155 Pg2A Pg2H := weak_of (weakOK_pre (n := 11) (l2 := Pg2l r q pg kk mk mo w0 w1 w0 w1 18446744073709551615 q1 0) hTL rfl rfl (pairs_tok (a := 10) (b := 10) rfl (pairs_tok (a := 26) (b := 11) rfl (pairs_tok (a := 27) (b := 12) rfl (pairs_tok (a := 12) (b := 15) rfl (pairs_tok (a := 13) (b := 16) rfl (pairs_tok (a := 26) (b := 13) rfl (pairs_tok (a := 27) (b := 14) rfl pairs_nil)))))))) Pgjw
  obtain ⟨lZ, hT0, hZ⟩ := Pg2_tail r q pg kk mk mo w0 w1 w0 w1 18446744073709551615 q1 w (by omega) (by omega) (by omega) (by omega) (by omega) (by omega) (by omega) (by omega) hb0 hb1
  have hTail := hK.ahead hT0
  have key : Seg2 Tryz.prog (sgV (Pgjt r q pg kk mk mo o1 q1 w0 w1 v0 v1)) (sgV (Pg2l r q pg kk mk mo w0 w1 w0 w1 18446744073709551615 q1 (((1 + r).toNat : Nat) : Int))) w w.heap.size 0 (.code (pgC 0)) Pg0 [] .ret lZ Pg2H := (Seg2.seqP (by rfl) (Seg1.to2 (Pgjp0 _ hσ _ _ hO)) (Seg2.seqP (by rfl) (Seg1.to2 (Pgjp1 _ hσ _ _ hO)) (Seg2.seqP (by rfl) (Seg1.to2 (Pgjp2 _ hσ _ _ hO)) (Seg2.seqP (by rfl) (Seg1.to2 (Seg1.seqP (by rfl) (Pgjp3 _ hσ _ _ hO) (Pgjp4 _ hσ _ _ hO))) (Seg2.seqP (by rfl) (Seg1.to2 (Pgjp5 _ hσ _ _ hO)) (Seg2.seqP (by rfl) (Seg1.to2 (Pgjp6 _ hσ _ _ hO)) (Seg2.seqP (by rfl) (Seg1.to2 (Seg1.seqP (by rfl) (Pgjp7 _ hσ _ _ hO) (Seg1.loopP (by rfl) (Seg1.loopNext (Pgjp8 _ hσ _ _ hO) (Seg1.loopNext (Pgjp9 _ hσ _ _ hO) (Seg1.loopExit (Pgjp10 _ hσ _ _ hO))))))) (Seg2.seqP (by rfl) (Seg1.to2 (Pgjp11 _ hσ _ _ hO)) (Seg2.seqP (by rfl) (Seg1.to2 (Seg1.seqP (by rfl) (Pgjp12 _ hσ _ _ hO) (Seg1.loopP (by rfl) (Seg1.loopNext (Pgjp13 _ hσ _ _ hO) (Seg1.loopNext (Pgjp14 _ hσ _ _ hO) (Seg1.loopNext (Pgjp15 _ hσ _ _ hO) (Seg1.loopNext (Pgjp16 _ hσ _ _ hO) (Seg1.loopNext (Pgjp17 _ hσ _ _ hO) (Seg1.loopNext (Pgjp18 _ hσ _ _ hO) (Seg1.loopNext (Pgjp19 _ hσ _ _ hO) (Seg1.loopExit (Pgjp20 _ hσ _ _ hO)))))))))))) (Seg2.seqP (by rfl) (Seg1.to2 (Pgjp21 _ hσ _ _ hO)) (Seg2.seqP (by rfl) (Seg1.to2 (Seg1.seqP (by rfl) (Pgjp22 _ hσ _ _ hO) (Pgjp23 _ hσ _ _ hO))) hTail)))))))))))
  have hb : Tryz.f3.body = some (pgC 0) := by rfl
  have fin := calls_of_seg2 (P := Tryz.prog) (f := 3) (fn := Tryz.f3) (c := bodyOf Tryz.prog 3) (args := #[kf 5, kf 6, kf 7, kf 8]) (l0 := Pg0) (h0 := []) (tabs := []) (sgV_one (Pg2l_tok _ _ _ _ _ _ _ _ _ _ _ _ _)) (Nat.zero_le _) (tabR_nil w) Tryz.func3 hb rfl Pg0_eq pg_w0 key (.inr rfl) hZ rfl
  exact pg_key rfl fin
def Pgkt (r pg kk : Int) (mk mo o1 w1 x0 x1 r0 r1 : Nat) : List Value := [.int .i64 (82 + 6 * (1 + r) + 4), .int .i64 (82 + 6 * (1 + r) + 0), .int .i64 (82 + 6 * (1 + r) + 1), .int .i64 (82 + 6 * (1 + r) + 2), .int .i64 (82 + 6 * (1 + r) + 3), .int .u8 pg, .int .u8 kk, .int .u64 ((mk : Int)), .int .u64 ((mo : Int)), .int .i64 (1 + r), .int .i64 (1 + r), .int .u64 ((o1 : Int)), .int .u64 18446744073709551615, .int .u64 91002, .int .i64 91003, .int .i64 (1 + r - 64), .int .i64 pg, .int .i64 r, .int .i64 (5 * (1 + r)), .int .i64 (82 + (5 * (1 + r))), .int .i64 ((1 + r) + 64), .int .i64 (((1 + r) + 64) - 1), .int .i64 (8192 * (1 + r)), .int .i64 (6 * (1 + r)), .int .i64 kk, .int .u64 ((w1 : Int)), .int .i64 ((1 + r) - (1 + r)), .int .u64 (1 + r), .int .u64 ((1 + r) - (1 + r)), .int .u64 ((x0 : Int)), .int .u64 ((r0 : Int)), .int .u64 ((x1 : Int)), .int .u64 ((r1 : Int))]
set_option maxHeartbeats 4000000 in
theorem Pgk_any (r pg kk : Int) (mk mo o1 w1 x0 x1 r0 r1 : Nat) (w : World) (hpg : 0 ≤ pg ∧ pg < 256) (hkk : 0 ≤ kk ∧ kk < 256) (hr : Int.tmod pg 128 = r) (hq : Int.tmod kk (1 + r) = r) (hr2 : 0 ≤ r ∧ r < 128) (hm : 64 ≤ r) (hBmk : mk < 18446744073709551616) (hBmo : mo < 18446744073709551616) (hBo1 : o1 < 18446744073709551616) (hBw1 : w1 < 18446744073709551616) (hBx0 : x0 < 18446744073709551616) (hBx1 : x1 < 18446744073709551616) (hBr0 : r0 < 18446744073709551616) (hBr1 : r1 < 18446744073709551616) (ho1 : o1 = 2 ^ (min (1 + r - 64 : Int).toNat 64) - 1) (ha0 : mk = mk &&& 18446744073709551615) (ha1 : w1 = mo &&& o1) (ha2 : mk = mk &&& 18446744073709551615) (ha3 : mk ≠ 0) (ha4 : x0 + mk = 18446744073709551616) (ha5 : r0 + mk = mk) (ha6 : w1 = w1 &&& o1) (ha7 : w1 ≠ 0) (ha8 : x1 + w1 = 18446744073709551616) (ha9 : r1 + w1 = w1) (hb0 : ∀ i : Nat, i < 64 → (i : Int) < 1 + r → r0.testBit i = (decide ((1 + r : Int) ≤ i) && mk.testBit i)) (hb1 : ∀ i : Nat, i < 64 → (i : Int) + 64 < 1 + r → r1.testBit i = (decide ((1 + r : Int) ≤ (i : Int) + 64) && w1.testBit i)) : Calls Tryz.prog 3 #[.int .u8 pg, .int .u8 kk, .int .u64 (mk : Int), .int .u64 (mo : Int)] w fun e w' => e = .returned (.bool true) ∧ Ext w w' := by
  have hE : AllOK Tryz.prog (sgV (Pgkt r pg kk mk mo o1 w1 x0 x1 r0 r1)) Pgke := AllOK.cons (ent_conv Tryz.underlying5 Tryz.underlying3 rfl (by exact congrArg (Value.int .i64) ((i64_in pg (by omega)).trans (show (pg : Int) = pg by omega)).symm) rfl) (
    AllOK.cons (ent_rem (a := pg) (c := 128) rfl rfl (by omega) (by exact congrArg (Value.int .i64) hr.symm) rfl) (
    AllOK.cons (eA (1) (r) (1 + r) (by omega)) (
    AllOK.cons (egeqT (1 + r) (1) (by omega)) (
    AllOK.cons (eleqT (1 + r) (4096) (by omega)) (
    AllOK.cons (eM (5) (1 + r) (5 * (1 + r)) (by omega)) (
    AllOK.cons (eA (82) (5 * (1 + r)) (82 + (5 * (1 + r))) (by omega)) (
    AllOK.cons (eA (82 + (5 * (1 + r))) (1 + r) (82 + 6 * (1 + r) + 0) (by omega)) (
    AllOK.cons (eA (1 + r) (64) ((1 + r) + 64) (by omega)) (
    AllOK.cons (eS ((1 + r) + 64) (1) (((1 + r) + 64) - 1) (by omega)) (
    AllOK.cons (ent_quo (a := ((1 + r) + 64) - 1) (c := 64) rfl rfl (by omega) (by exact congrArg (Value.int .i64) (quoC (a := ((1 + r) + 64) - 1) (c := 64) (q := 2) (by omega) (by omega) (by omega) (by omega) (by omega)).symm) rfl) (
    AllOK.cons (eA (82 + 6 * (1 + r) + 0) (2) (82 + 6 * (1 + r) + 2) (by omega)) (
    AllOK.cons (eA (82 + 6 * (1 + r) + 2) (2) (82 + 6 * (1 + r) + 4) (by omega)) (
    AllOK.cons (elssF (82 + 6 * (1 + r) + 4) (1) (by omega)) (
    AllOK.cons (egtrF (82 + 6 * (1 + r) + 4) (65536) (by omega)) (
    AllOK.cons (egeqF (0) (82 + 6 * (1 + r) + 4) (by omega)) (
    AllOK.cons (elssF (1 + r) (1) (by omega)) (
    AllOK.cons (egtrF (1 + r) (4096) (by omega)) (
    AllOK.cons (eM (8192) (1 + r) (8192 * (1 + r)) (by omega)) (
    AllOK.cons (eA (8192 * (1 + r)) (0) (8192 * (1 + r)) (by omega)) (
    AllOK.cons (eA (0) (1 + r) (1 + r) (by omega)) (
    AllOK.cons (eM (6) (1 + r) (6 * (1 + r)) (by omega)) (
    AllOK.cons (eA (82) (6 * (1 + r)) (82 + 6 * (1 + r) + 0) (by omega)) (
    AllOK.cons (eA (1 + r) (63) (((1 + r) + 64) - 1) (by omega)) (
    AllOK.cons (eA (82 + 6 * (1 + r) + 0) (4) (82 + 6 * (1 + r) + 4) (by omega)) (
    AllOK.cons (ent_conv Tryz.underlying5 Tryz.underlying3 rfl (by exact congrArg (Value.int .i64) ((i64_in kk (by omega)).trans (show (kk : Int) = kk by omega)).symm) rfl) (
    AllOK.cons (ent_rem (a := kk) (c := 1 + r) rfl rfl (by omega) (by exact congrArg (Value.int .i64) hq.symm) rfl) (
    AllOK.cons (elssT (0) (1 + r) (by omega)) (
    AllOK.cons (eS (1 + r) (0) (1 + r) (by omega)) (
    AllOK.cons (ent_andN (a := mk) (c := 18446744073709551615) (b := mk) (by omega) (by omega) rfl rfl ha0 rfl rfl) (
    AllOK.cons (eA (82 + 6 * (1 + r) + 0) (0) (82 + 6 * (1 + r) + 0) (by omega)) (
    AllOK.cons (elssF (82 + 6 * (1 + r) + 2) (0) (by omega)) (
    AllOK.cons (egeqF (82 + 6 * (1 + r) + 2) (82 + 6 * (1 + r) + 4) (by omega)) (
    AllOK.cons (egeqT (82 + 6 * (1 + r) + 2) (0) (by omega)) (
    AllOK.cons (elssT (82 + 6 * (1 + r) + 2) (82 + 6 * (1 + r) + 4) (by omega)) (
    AllOK.cons (elssT (64) (1 + r) (by omega)) (
    AllOK.cons (eS (1 + r) (64) (1 + r - 64) (by omega)) (
    AllOK.cons (ent_andN (a := mo) (c := o1) (b := w1) (by omega) (by omega) rfl rfl ha1 rfl rfl) (
    AllOK.cons (eA (82 + 6 * (1 + r) + 0) (1) (82 + 6 * (1 + r) + 1) (by omega)) (
    AllOK.cons (eA (82 + 6 * (1 + r) + 1) (2) (82 + 6 * (1 + r) + 3) (by omega)) (
    AllOK.cons (elssF (82 + 6 * (1 + r) + 3) (0) (by omega)) (
    AllOK.cons (egeqF (82 + 6 * (1 + r) + 3) (82 + 6 * (1 + r) + 4) (by omega)) (
    AllOK.cons (egeqT (82 + 6 * (1 + r) + 3) (0) (by omega)) (
    AllOK.cons (elssT (82 + 6 * (1 + r) + 3) (82 + 6 * (1 + r) + 4) (by omega)) (
    AllOK.cons (elssF (128) (1 + r) (by omega)) (
    AllOK.cons (lay_same (P := 1 + r) (T := 1) rfl) (
    AllOK.cons (egeqF (2) (82 + 6 * (1 + r) + 4) (by omega)) (
    AllOK.cons (egtrF (1 + r) (1 + r) (by omega)) (
    AllOK.cons (elssF (8192 * (1 + r)) (8192 * (1 + r)) (by omega)) (
    AllOK.cons (ent_cmp (op := .neq) (a := 8192 * (1 + r)) (c := 8192 * (1 + r)) rfl rfl (by simp)) (
    AllOK.cons (ent_cmp (op := .neq) (a := 1 + r) (c := 1 + r) rfl rfl (by simp)) (
    AllOK.cons (elssF (1 + r) (1 + r) (by omega)) (
    AllOK.cons (eS (1 + r) (1 + r) ((1 + r) - (1 + r)) (by omega)) (
    AllOK.cons (eA (82 + 6 * (1 + r) + 2) (0) (82 + 6 * (1 + r) + 2) (by omega)) (
    AllOK.cons (ent_conv Tryz.underlying3 Tryz.underlying22 rfl (by exact congrArg (Value.int .u64) ((u64_in (1 + r) (by omega)).trans (show (1 + r : Int) = 1 + r by omega)).symm) rfl) (
    AllOK.cons (ent_conv Tryz.underlying3 Tryz.underlying22 rfl (by exact congrArg (Value.int .u64) ((u64_in ((1 + r) - (1 + r)) (by omega)).trans (show ((1 + r) - (1 + r) : Int) = (1 + r) - (1 + r) by omega)).symm) rfl) (
    AllOK.cons (elssF (82 + 6 * (1 + r) + 0) (0) (by omega)) (
    AllOK.cons (egeqF (82 + 6 * (1 + r) + 0) (82 + 6 * (1 + r) + 4) (by omega)) (
    AllOK.cons (ent_add (a := 0) (c := 18446744073709551615) rfl rfl (by exact congrArg (Value.int .u64) ((u64_in (0 + 18446744073709551615) (by omega)).trans (show (0 + 18446744073709551615 : Int) = 18446744073709551615 by omega)).symm) rfl) (
    AllOK.cons (ent_andN (a := mk) (c := 18446744073709551615) (b := mk) (by omega) (by omega) rfl rfl ha2 rfl rfl) (
    AllOK.cons (ent_cmp (op := .eql) (a := (mk : Int)) (c := 0) rfl rfl (by have h9 : ((mk : Int) : Int) ≠ 0 := (by omega); first | (simp [h9]; done) | (simp; omega))) (
    AllOK.cons (ent_neg (v := mk) (b := x0) (by omega) (by omega) rfl rfl rfl) (
    AllOK.cons (ent_addw (a := mk) (c := x0) (b := r0) (by omega) rfl rfl rfl rfl) (
    AllOK.cons (eA (82 + 6 * (1 + r) + 2) (1) (82 + 6 * (1 + r) + 3) (by omega)) (
    AllOK.cons (elssF (82 + 6 * (1 + r) + 1) (0) (by omega)) (
    AllOK.cons (egeqF (82 + 6 * (1 + r) + 1) (82 + 6 * (1 + r) + 4) (by omega)) (
    AllOK.cons (ent_add (a := 0) (c := (o1 : Int)) rfl rfl (by exact congrArg (Value.int .u64) ((u64_in (0 + ((o1 : Int))) (by omega)).trans (show (0 + ((o1 : Int)) : Int) = (o1 : Int) by omega)).symm) rfl) (
    AllOK.cons (ent_andN (a := w1) (c := o1) (b := w1) (by omega) (by omega) rfl rfl ha6 rfl rfl) (
    AllOK.cons (ent_cmp (op := .eql) (a := (w1 : Int)) (c := 0) rfl rfl (by have h9 : ((w1 : Int) : Int) ≠ 0 := (by omega); first | (simp [h9]; done) | (simp; omega))) (
    AllOK.cons (ent_neg (v := w1) (b := x1) (by omega) (by omega) rfl rfl rfl) (
    AllOK.cons (ent_addw (a := w1) (c := x1) (b := r1) (by omega) rfl rfl rfl rfl) (
    AllOK.nil)))))))))))))))))))))))))))))))))))))))))))))))))))))))))))))))))))))))
  have hF : ∀ e ∈ Pgkf, FnOK Tryz.prog (sgV (Pgkt r pg kk mk mo o1 w1 x0 x1 r0 r1)) w w.heap.size e := FnsOK.cons (FnOK.mk rfl fun w' _ => Mpaw_any w' (Nat.zero_le _)) (
    FnsOK.cons (FnOK.any rfl fun w' _ => r9new128 (1 + r) w' (by omega)) (
    FnsOK.cons (pg_fnR (n := 1 + r) (b := 18446744073709551615) (by omega) (by omega) rfl (by rw [show min (1 + r : Int).toNat 64 = 64 by omega]) rfl rfl) (
    FnsOK.cons (pg_fnR (n := 1 + r - 64) (b := o1) (by omega) (by omega) rfl (by exact ho1) rfl rfl) (
    FnsOK.nil))))
  have hTL : TokL (Pgkt r pg kk mk mo o1 w1 x0 x1 r0 r1) := (TokL.int (TokL.int (TokL.int (TokL.int (TokL.int (TokL.int (TokL.int (TokL.int (TokL.int (TokL.int (TokL.int (TokL.int (TokL.int (TokL.int (TokL.int (TokL.int (TokL.int (TokL.int (TokL.int (TokL.int (TokL.int (TokL.int (TokL.int (TokL.int (TokL.int (TokL.int (TokL.int (TokL.int (TokL.int (TokL.int (TokL.int (TokL.int (TokL.int TokL.nil)))))))))))))))))))))))))))))))))
  have hσ := sgV_one hTL
  have hS : SpOK (sgV (Pgkt r pg kk mk mo o1 w1 x0 x1 r0 r1)) 4 := pg_sp (P := 1 + r) (m := 2) (by omega) rfl (by omega) (by omega) (by intro j hj; rcases (show j = 0 ∨ j = 1 ∨ j = 2 ∨ j = 3 by omega) with rfl | rfl | rfl | rfl <;> exact ⟨_, rfl, by omega⟩)
  have hO : OrcOK Tryz.prog (sgV (Pgkt r pg kk mk mo o1 w1 x0 x1 r0 r1)) w w.heap.size (PgkO) := orcS_ok hE (sgV_ne hTL) hF hS (rdG_ok hσ ⟨_, rfl, by omega⟩) (pgMk_ok (n := 1 + r) (q := o1) (by omega) (by omega) rfl ho1 rfl rfl)
  have hK : Weak (sgV (Pgkt r pg kk mk mo o1 w1 x0 x1 r0 r1)) (sgV (Pg2l r r pg kk mk mo mk w1 r0 r1 18446744073709551615 o1 0)) w w.heap.size 0 Pgkl167 Pgkh168 Pg2A Pg2H := weak_of (weakOK_pre (n := 11) (l2 := Pg2l r r pg kk mk mo mk w1 r0 r1 18446744073709551615 o1 0) hTL rfl rfl (pairs_tok (a := 9) (b := 10) rfl (pairs_tok (a := 7) (b := 11) rfl (pairs_tok (a := 25) (b := 12) rfl (pairs_tok (a := 12) (b := 15) rfl (pairs_tok (a := 11) (b := 16) rfl (pairs_tok (a := 30) (b := 13) rfl (pairs_tok (a := 32) (b := 14) rfl pairs_nil)))))))) Pgkw
  obtain ⟨lZ, hT0, hZ⟩ := Pg2_tail r r pg kk mk mo mk w1 r0 r1 18446744073709551615 o1 w (by omega) (by omega) (by omega) (by omega) (by omega) (by omega) (by omega) (by omega) hb0 hb1
  have hTail := hK.ahead hT0
  have key : Seg2 Tryz.prog (sgV (Pgkt r pg kk mk mo o1 w1 x0 x1 r0 r1)) (sgV (Pg2l r r pg kk mk mo mk w1 r0 r1 18446744073709551615 o1 (((1 + r).toNat : Nat) : Int))) w w.heap.size 0 (.code (pgC 0)) Pg0 [] .ret lZ Pg2H := (Seg2.seqP (by rfl) (Seg1.to2 (Pgkp0 _ hσ _ _ hO)) (Seg2.seqP (by rfl) (Seg1.to2 (Pgkp1 _ hσ _ _ hO)) (Seg2.seqP (by rfl) (Seg1.to2 (Pgkp2 _ hσ _ _ hO)) (Seg2.seqP (by rfl) (Seg1.to2 (Seg1.seqP (by rfl) (Pgkp3 _ hσ _ _ hO) (Pgkp4 _ hσ _ _ hO))) (Seg2.seqP (by rfl) (Seg1.to2 (Pgkp5 _ hσ _ _ hO)) (Seg2.seqP (by rfl) (Seg1.to2 (Pgkp6 _ hσ _ _ hO)) (Seg2.seqP (by rfl) (Seg1.to2 (Seg1.seqP (by rfl) (Pgkp7 _ hσ _ _ hO) (Seg1.loopP (by rfl) (Seg1.loopNext (Pgkp8 _ hσ _ _ hO) (Seg1.loopNext (Pgkp9 _ hσ _ _ hO) (Seg1.loopExit (Pgkp10 _ hσ _ _ hO))))))) (Seg2.seqP (by rfl) (Seg1.to2 (Pgkp11 _ hσ _ _ hO)) (Seg2.seqP (by rfl) (Seg1.to2 (Seg1.seqP (by rfl) (Pgkp12 _ hσ _ _ hO) (Seg1.loopP (by rfl) (Seg1.loopNext (Pgkp13 _ hσ _ _ hO) (Seg1.loopNext (Pgkp14 _ hσ _ _ hO) (Seg1.loopNext (Pgkp15 _ hσ _ _ hO) (Seg1.loopNext (Pgkp16 _ hσ _ _ hO) (Seg1.loopNext (Pgkp17 _ hσ _ _ hO) (Seg1.loopNext (Pgkp18 _ hσ _ _ hO) (Seg1.loopNext (Pgkp19 _ hσ _ _ hO) (Seg1.loopNext (Pgkp20 _ hσ _ _ hO) (Seg1.loopNext (Pgkp21 _ hσ _ _ hO) (Seg1.loopExit (Pgkp22 _ hσ _ _ hO)))))))))))))) (Seg2.seqP (by rfl) (Seg1.to2 (Pgkp23 _ hσ _ _ hO)) (Seg2.seqP (by rfl) (Seg1.to2 (Seg1.seqP (by rfl) (Pgkp24 _ hσ _ _ hO) (Pgkp25 _ hσ _ _ hO))) hTail)))))))))))
  have hb : Tryz.f3.body = some (pgC 0) := by rfl
  have fin := calls_of_seg2 (P := Tryz.prog) (f := 3) (fn := Tryz.f3) (c := bodyOf Tryz.prog 3) (args := #[kf 5, kf 6, kf 7, kf 8]) (l0 := Pg0) (h0 := []) (tabs := []) (sgV_one (Pg2l_tok _ _ _ _ _ _ _ _ _ _ _ _ _)) (Nat.zero_le _) (tabR_nil w) Tryz.func3 hb rfl Pg0_eq pg_w0 key (.inr rfl) hZ rfl
  exact pg_key rfl fin
def Pglt (r pg kk : Int) (mk mo o1 w1 v1 x0 r0 : Nat) : List Value := [.int .i64 (82 + 6 * (1 + r) + 4), .int .i64 (82 + 6 * (1 + r) + 0), .int .i64 (82 + 6 * (1 + r) + 1), .int .i64 (82 + 6 * (1 + r) + 2), .int .i64 (82 + 6 * (1 + r) + 3), .int .u8 pg, .int .u8 kk, .int .u64 ((mk : Int)), .int .u64 ((mo : Int)), .int .i64 (1 + r), .int .i64 (1 + r), .int .u64 ((o1 : Int)), .int .u64 18446744073709551615, .int .u64 91002, .int .i64 91003, .int .i64 (1 + r - 64), .int .i64 pg, .int .i64 r, .int .i64 (5 * (1 + r)), .int .i64 (82 + (5 * (1 + r))), .int .i64 ((1 + r) + 64), .int .i64 (((1 + r) + 64) - 1), .int .i64 (8192 * (1 + r)), .int .i64 (6 * (1 + r)), .int .i64 kk, .int .u64 ((w1 : Int)), .int .i64 ((1 + r) - (1 + r)), .int .u64 (1 + r), .int .u64 ((1 + r) - (1 + r)), .int .u64 ((x0 : Int)), .int .u64 ((r0 : Int)), .int .u64 ((v1 : Int))]
set_option maxHeartbeats 4000000 in
theorem Pgl_any (r pg kk : Int) (mk mo o1 w1 v1 x0 r0 : Nat) (w : World) (hpg : 0 ≤ pg ∧ pg < 256) (hkk : 0 ≤ kk ∧ kk < 256) (hr : Int.tmod pg 128 = r) (hq : Int.tmod kk (1 + r) = r) (hr2 : 0 ≤ r ∧ r < 128) (hm : 64 ≤ r) (hBmk : mk < 18446744073709551616) (hBmo : mo < 18446744073709551616) (hBo1 : o1 < 18446744073709551616) (hBw1 : w1 < 18446744073709551616) (hBv1 : v1 < 18446744073709551616) (hBx0 : x0 < 18446744073709551616) (hBr0 : r0 < 18446744073709551616) (ho1 : o1 = 2 ^ (min (1 + r - 64 : Int).toNat 64) - 1) (ha0 : mk = mk &&& 18446744073709551615) (ha1 : w1 = mo &&& o1) (ha2 : mk = mk &&& 18446744073709551615) (ha3 : mk ≠ 0) (ha4 : x0 + mk = 18446744073709551616) (ha5 : r0 + mk = mk) (ha6 : v1 = w1 &&& o1) (ha7 : v1 = 0) (hb0 : ∀ i : Nat, i < 64 → (i : Int) < 1 + r → r0.testBit i = (decide ((1 + r : Int) ≤ i) && mk.testBit i)) (hb1 : ∀ i : Nat, i < 64 → (i : Int) + 64 < 1 + r → w1.testBit i = (decide ((1 + r : Int) ≤ (i : Int) + 64) && w1.testBit i)) : Calls Tryz.prog 3 #[.int .u8 pg, .int .u8 kk, .int .u64 (mk : Int), .int .u64 (mo : Int)] w fun e w' => e = .returned (.bool true) ∧ Ext w w' := by
  have hE : AllOK Tryz.prog (sgV (Pglt r pg kk mk mo o1 w1 v1 x0 r0)) Pgle := AllOK.cons (ent_conv Tryz.underlying5 Tryz.underlying3 rfl (by exact congrArg (Value.int .i64) ((i64_in pg (by omega)).trans (show (pg : Int) = pg by omega)).symm) rfl) (
    AllOK.cons (ent_rem (a := pg) (c := 128) rfl rfl (by omega) (by exact congrArg (Value.int .i64) hr.symm) rfl) (
    AllOK.cons (eA (1) (r) (1 + r) (by omega)) (
    AllOK.cons (egeqT (1 + r) (1) (by omega)) (
    AllOK.cons (eleqT (1 + r) (4096) (by omega)) (
    AllOK.cons (eM (5) (1 + r) (5 * (1 + r)) (by omega)) (
    AllOK.cons (eA (82) (5 * (1 + r)) (82 + (5 * (1 + r))) (by omega)) (
    AllOK.cons (eA (82 + (5 * (1 + r))) (1 + r) (82 + 6 * (1 + r) + 0) (by omega)) (
    AllOK.cons (eA (1 + r) (64) ((1 + r) + 64) (by omega)) (
    AllOK.cons (eS ((1 + r) + 64) (1) (((1 + r) + 64) - 1) (by omega)) (
    AllOK.cons (ent_quo (a := ((1 + r) + 64) - 1) (c := 64) rfl rfl (by omega) (by exact congrArg (Value.int .i64) (quoC (a := ((1 + r) + 64) - 1) (c := 64) (q := 2) (by omega) (by omega) (by omega) (by omega) (by omega)).symm) rfl) (
    AllOK.cons (eA (82 + 6 * (1 + r) + 0) (2) (82 + 6 * (1 + r) + 2) (by omega)) (
    AllOK.cons (eA (82 + 6 * (1 + r) + 2) (2) (82 + 6 * (1 + r) + 4) (by omega)) (
    AllOK.cons (elssF (82 + 6 * (1 + r) + 4) (1) (by omega)) (
    AllOK.cons (egtrF (82 + 6 * (1 + r) + 4) (65536) (by omega)) (
    AllOK.cons (egeqF (0) (82 + 6 * (1 + r) + 4) (by omega)) (
    AllOK.cons (elssF (1 + r) (1) (by omega)) (
    AllOK.cons (egtrF (1 + r) (4096) (by omega)) (
    AllOK.cons (eM (8192) (1 + r) (8192 * (1 + r)) (by omega)) (
    AllOK.cons (eA (8192 * (1 + r)) (0) (8192 * (1 + r)) (by omega)) (
    AllOK.cons (eA (0) (1 + r) (1 + r) (by omega)) (
    AllOK.cons (eM (6) (1 + r) (6 * (1 + r)) (by omega)) (
    AllOK.cons (eA (82) (6 * (1 + r)) (82 + 6 * (1 + r) + 0) (by omega)) (
    AllOK.cons (eA (1 + r) (63) (((1 + r) + 64) - 1) (by omega)) (
    AllOK.cons (eA (82 + 6 * (1 + r) + 0) (4) (82 + 6 * (1 + r) + 4) (by omega)) (
    AllOK.cons (ent_conv Tryz.underlying5 Tryz.underlying3 rfl (by exact congrArg (Value.int .i64) ((i64_in kk (by omega)).trans (show (kk : Int) = kk by omega)).symm) rfl) (
    AllOK.cons (ent_rem (a := kk) (c := 1 + r) rfl rfl (by omega) (by exact congrArg (Value.int .i64) hq.symm) rfl) (
    AllOK.cons (elssT (0) (1 + r) (by omega)) (
    AllOK.cons (eS (1 + r) (0) (1 + r) (by omega)) (
    AllOK.cons (ent_andN (a := mk) (c := 18446744073709551615) (b := mk) (by omega) (by omega) rfl rfl ha0 rfl rfl) (
    AllOK.cons (eA (82 + 6 * (1 + r) + 0) (0) (82 + 6 * (1 + r) + 0) (by omega)) (
    AllOK.cons (elssF (82 + 6 * (1 + r) + 2) (0) (by omega)) (
    AllOK.cons (egeqF (82 + 6 * (1 + r) + 2) (82 + 6 * (1 + r) + 4) (by omega)) (
    AllOK.cons (egeqT (82 + 6 * (1 + r) + 2) (0) (by omega)) (
    AllOK.cons (elssT (82 + 6 * (1 + r) + 2) (82 + 6 * (1 + r) + 4) (by omega)) (
    AllOK.cons (elssT (64) (1 + r) (by omega)) (
    AllOK.cons (eS (1 + r) (64) (1 + r - 64) (by omega)) (
    AllOK.cons (ent_andN (a := mo) (c := o1) (b := w1) (by omega) (by omega) rfl rfl ha1 rfl rfl) (
    AllOK.cons (eA (82 + 6 * (1 + r) + 0) (1) (82 + 6 * (1 + r) + 1) (by omega)) (
    AllOK.cons (eA (82 + 6 * (1 + r) + 1) (2) (82 + 6 * (1 + r) + 3) (by omega)) (
    AllOK.cons (elssF (82 + 6 * (1 + r) + 3) (0) (by omega)) (
    AllOK.cons (egeqF (82 + 6 * (1 + r) + 3) (82 + 6 * (1 + r) + 4) (by omega)) (
    AllOK.cons (egeqT (82 + 6 * (1 + r) + 3) (0) (by omega)) (
    AllOK.cons (elssT (82 + 6 * (1 + r) + 3) (82 + 6 * (1 + r) + 4) (by omega)) (
    AllOK.cons (elssF (128) (1 + r) (by omega)) (
    AllOK.cons (lay_same (P := 1 + r) (T := 1) rfl) (
    AllOK.cons (egeqF (2) (82 + 6 * (1 + r) + 4) (by omega)) (
    AllOK.cons (egtrF (1 + r) (1 + r) (by omega)) (
    AllOK.cons (elssF (8192 * (1 + r)) (8192 * (1 + r)) (by omega)) (
    AllOK.cons (ent_cmp (op := .neq) (a := 8192 * (1 + r)) (c := 8192 * (1 + r)) rfl rfl (by simp)) (
    AllOK.cons (ent_cmp (op := .neq) (a := 1 + r) (c := 1 + r) rfl rfl (by simp)) (
    AllOK.cons (elssF (1 + r) (1 + r) (by omega)) (
    AllOK.cons (eS (1 + r) (1 + r) ((1 + r) - (1 + r)) (by omega)) (
    AllOK.cons (eA (82 + 6 * (1 + r) + 2) (0) (82 + 6 * (1 + r) + 2) (by omega)) (
    AllOK.cons (ent_conv Tryz.underlying3 Tryz.underlying22 rfl (by exact congrArg (Value.int .u64) ((u64_in (1 + r) (by omega)).trans (show (1 + r : Int) = 1 + r by omega)).symm) rfl) (
    AllOK.cons (ent_conv Tryz.underlying3 Tryz.underlying22 rfl (by exact congrArg (Value.int .u64) ((u64_in ((1 + r) - (1 + r)) (by omega)).trans (show ((1 + r) - (1 + r) : Int) = (1 + r) - (1 + r) by omega)).symm) rfl) (
    AllOK.cons (elssF (82 + 6 * (1 + r) + 0) (0) (by omega)) (
    AllOK.cons (egeqF (82 + 6 * (1 + r) + 0) (82 + 6 * (1 + r) + 4) (by omega)) (
    AllOK.cons (ent_add (a := 0) (c := 18446744073709551615) rfl rfl (by exact congrArg (Value.int .u64) ((u64_in (0 + 18446744073709551615) (by omega)).trans (show (0 + 18446744073709551615 : Int) = 18446744073709551615 by omega)).symm) rfl) (
    AllOK.cons (ent_andN (a := mk) (c := 18446744073709551615) (b := mk) (by omega) (by omega) rfl rfl ha2 rfl rfl) (
    AllOK.cons (ent_cmp (op := .eql) (a := (mk : Int)) (c := 0) rfl rfl (by have h9 : ((mk : Int) : Int) ≠ 0 := (by omega); first | (simp [h9]; done) | (simp; omega))) (
    AllOK.cons (ent_neg (v := mk) (b := x0) (by omega) (by omega) rfl rfl rfl) (
    AllOK.cons (ent_addw (a := mk) (c := x0) (b := r0) (by omega) rfl rfl rfl rfl) (
    AllOK.cons (eA (82 + 6 * (1 + r) + 2) (1) (82 + 6 * (1 + r) + 3) (by omega)) (
    AllOK.cons (elssF (82 + 6 * (1 + r) + 1) (0) (by omega)) (
    AllOK.cons (egeqF (82 + 6 * (1 + r) + 1) (82 + 6 * (1 + r) + 4) (by omega)) (
    AllOK.cons (ent_add (a := 0) (c := (o1 : Int)) rfl rfl (by exact congrArg (Value.int .u64) ((u64_in (0 + ((o1 : Int))) (by omega)).trans (show (0 + ((o1 : Int)) : Int) = (o1 : Int) by omega)).symm) rfl) (
    AllOK.cons (ent_andN (a := w1) (c := o1) (b := v1) (by omega) (by omega) rfl rfl ha6 rfl rfl) (
    AllOK.cons (ent_cmp (op := .eql) (a := (v1 : Int)) (c := 0) rfl rfl (by rw [show ((v1 : Int) : Int) = 0 by omega]; simp)) (
    AllOK.nil)))))))))))))))))))))))))))))))))))))))))))))))))))))))))))))))))))))
  have hF : ∀ e ∈ Pglf, FnOK Tryz.prog (sgV (Pglt r pg kk mk mo o1 w1 v1 x0 r0)) w w.heap.size e := FnsOK.cons (FnOK.mk rfl fun w' _ => Mpaw_any w' (Nat.zero_le _)) (
    FnsOK.cons (FnOK.any rfl fun w' _ => r9new128 (1 + r) w' (by omega)) (
    FnsOK.cons (pg_fnR (n := 1 + r) (b := 18446744073709551615) (by omega) (by omega) rfl (by rw [show min (1 + r : Int).toNat 64 = 64 by omega]) rfl rfl) (
    FnsOK.cons (pg_fnR (n := 1 + r - 64) (b := o1) (by omega) (by omega) rfl (by exact ho1) rfl rfl) (
    FnsOK.nil))))
  have hTL : TokL (Pglt r pg kk mk mo o1 w1 v1 x0 r0) := (TokL.int (TokL.int (TokL.int (TokL.int (TokL.int (TokL.int (TokL.int (TokL.int (TokL.int (TokL.int (TokL.int (TokL.int (TokL.int (TokL.int (TokL.int (TokL.int (TokL.int (TokL.int (TokL.int (TokL.int (TokL.int (TokL.int (TokL.int (TokL.int (TokL.int (TokL.int (TokL.int (TokL.int (TokL.int (TokL.int (TokL.int (TokL.int TokL.nil))))))))))))))))))))))))))))))))
  have hσ := sgV_one hTL
  have hS : SpOK (sgV (Pglt r pg kk mk mo o1 w1 v1 x0 r0)) 4 := pg_sp (P := 1 + r) (m := 2) (by omega) rfl (by omega) (by omega) (by intro j hj; rcases (show j = 0 ∨ j = 1 ∨ j = 2 ∨ j = 3 by omega) with rfl | rfl | rfl | rfl <;> exact ⟨_, rfl, by omega⟩)
  have hO : OrcOK Tryz.prog (sgV (Pglt r pg kk mk mo o1 w1 v1 x0 r0)) w w.heap.size (PglO) := orcS_ok hE (sgV_ne hTL) hF hS (rdG_ok hσ ⟨_, rfl, by omega⟩) (pgMk_ok (n := 1 + r) (q := o1) (by omega) (by omega) rfl ho1 rfl rfl)
  have hK : Weak (sgV (Pglt r pg kk mk mo o1 w1 v1 x0 r0)) (sgV (Pg2l r r pg kk mk mo mk w1 r0 w1 18446744073709551615 o1 0)) w w.heap.size 0 Pgll160 Pglh161 Pg2A Pg2H := weak_of (weakOK_pre (n := 11) (l2 := Pg2l r r pg kk mk mo mk w1 r0 w1 18446744073709551615 o1 0) hTL rfl rfl (pairs_tok (a := 9) (b := 10) rfl (pairs_tok (a := 7) (b := 11) rfl (pairs_tok (a := 25) (b := 12) rfl (pairs_tok (a := 12) (b := 15) rfl (pairs_tok (a := 11) (b := 16) rfl (pairs_tok (a := 30) (b := 13) rfl (pairs_tok (a := 25) (b := 14) rfl pairs_nil)))))))) Pglw
  obtain ⟨lZ, hT0, hZ⟩ := Pg2_tail r r pg kk mk mo mk w1 r0 w1 18446744073709551615 o1 w (by omega) (by omega) (by omega) (by omega) (by omega) (by omega) (by omega) (by omega) hb0 hb1
  have hTail := hK.ahead hT0
  have key : Seg2 Tryz.prog (sgV (Pglt r pg kk mk mo o1 w1 v1 x0 r0)) (sgV (Pg2l r r pg kk mk mo mk w1 r0 w1 18446744073709551615 o1 (((1 + r).toNat : Nat) : Int))) w w.heap.size 0 (.code (pgC 0)) Pg0 [] .ret lZ Pg2H := (Seg2.seqP (by rfl) (Seg1.to2 (Pglp0 _ hσ _ _ hO)) (Seg2.seqP (by rfl) (Seg1.to2 (Pglp1 _ hσ _ _ hO)) (Seg2.seqP (by rfl) (Seg1.to2 (Pglp2 _ hσ _ _ hO)) (Seg2.seqP (by rfl) (Seg1.to2 (Seg1.seqP (by rfl) (Pglp3 _ hσ _ _ hO) (Pglp4 _ hσ _ _ hO))) (Seg2.seqP (by rfl) (Seg1.to2 (Pglp5 _ hσ _ _ hO)) (Seg2.seqP (by rfl) (Seg1.to2 (Pglp6 _ hσ _ _ hO)) (Seg2.seqP (by rfl) (Seg1.to2 (Seg1.seqP (by rfl) (Pglp7 _ hσ _ _ hO) (Seg1.loopP (by rfl) (Seg1.loopNext (Pglp8 _ hσ _ _ hO) (Seg1.loopNext (Pglp9 _ hσ _ _ hO) (Seg1.loopExit (Pglp10 _ hσ _ _ hO))))))) (Seg2.seqP (by rfl) (Seg1.to2 (Pglp11 _ hσ _ _ hO)) (Seg2.seqP (by rfl) (Seg1.to2 (Seg1.seqP (by rfl) (Pglp12 _ hσ _ _ hO) (Seg1.loopP (by rfl) (Seg1.loopNext (Pglp13 _ hσ _ _ hO) (Seg1.loopNext (Pglp14 _ hσ _ _ hO) (Seg1.loopNext (Pglp15 _ hσ _ _ hO) (Seg1.loopNext (Pglp16 _ hσ _ _ hO) (Seg1.loopNext (Pglp17 _ hσ _ _ hO) (Seg1.loopNext (Pglp18 _ hσ _ _ hO) (Seg1.loopNext (Pglp19 _ hσ _ _ hO) (Seg1.loopNext (Pglp20 _ hσ _ _ hO) (Seg1.loopExit (Pglp21 _ hσ _ _ hO))))))))))))) (Seg2.seqP (by rfl) (Seg1.to2 (Pglp22 _ hσ _ _ hO)) (Seg2.seqP (by rfl) (Seg1.to2 (Seg1.seqP (by rfl) (Pglp23 _ hσ _ _ hO) (Pglp24 _ hσ _ _ hO))) hTail)))))))))))
  have hb : Tryz.f3.body = some (pgC 0) := by rfl
  have fin := calls_of_seg2 (P := Tryz.prog) (f := 3) (fn := Tryz.f3) (c := bodyOf Tryz.prog 3) (args := #[kf 5, kf 6, kf 7, kf 8]) (l0 := Pg0) (h0 := []) (tabs := []) (sgV_one (Pg2l_tok _ _ _ _ _ _ _ _ _ _ _ _ _)) (Nat.zero_le _) (tabR_nil w) Tryz.func3 hb rfl Pg0_eq pg_w0 key (.inr rfl) hZ rfl
  exact pg_key rfl fin
def Pgmt (r pg kk : Int) (mk mo o1 w0 w1 v0 x1 r1 : Nat) : List Value := [.int .i64 (82 + 6 * (1 + r) + 4), .int .i64 (82 + 6 * (1 + r) + 0), .int .i64 (82 + 6 * (1 + r) + 1), .int .i64 (82 + 6 * (1 + r) + 2), .int .i64 (82 + 6 * (1 + r) + 3), .int .u8 pg, .int .u8 kk, .int .u64 ((mk : Int)), .int .u64 ((mo : Int)), .int .i64 (1 + r), .int .i64 (1 + r), .int .u64 ((o1 : Int)), .int .u64 18446744073709551615, .int .u64 91002, .int .i64 91003, .int .i64 (1 + r - 64), .int .i64 pg, .int .i64 r, .int .i64 (5 * (1 + r)), .int .i64 (82 + (5 * (1 + r))), .int .i64 ((1 + r) + 64), .int .i64 (((1 + r) + 64) - 1), .int .i64 (8192 * (1 + r)), .int .i64 (6 * (1 + r)), .int .i64 kk, .int .u64 ((w0 : Int)), .int .u64 ((w1 : Int)), .int .i64 ((1 + r) - (1 + r)), .int .u64 (1 + r), .int .u64 ((1 + r) - (1 + r)), .int .u64 ((v0 : Int)), .int .u64 ((x1 : Int)), .int .u64 ((r1 : Int))]
set_option maxHeartbeats 4000000 in
theorem Pgm_any (r pg kk : Int) (mk mo o1 w0 w1 v0 x1 r1 : Nat) (w : World) (hpg : 0 ≤ pg ∧ pg < 256) (hkk : 0 ≤ kk ∧ kk < 256) (hr : Int.tmod pg 128 = r) (hq : Int.tmod kk (1 + r) = r) (hr2 : 0 ≤ r ∧ r < 128) (hm : 64 ≤ r) (hBmk : mk < 18446744073709551616) (hBmo : mo < 18446744073709551616) (hBo1 : o1 < 18446744073709551616) (hBw0 : w0 < 18446744073709551616) (hBw1 : w1 < 18446744073709551616) (hBv0 : v0 < 18446744073709551616) (hBx1 : x1 < 18446744073709551616) (hBr1 : r1 < 18446744073709551616) (ho1 : o1 = 2 ^ (min (1 + r - 64 : Int).toNat 64) - 1) (ha0 : w0 = mk &&& 18446744073709551615) (ha1 : w1 = mo &&& o1) (ha2 : v0 = w0 &&& 18446744073709551615) (ha3 : v0 = 0) (ha4 : w1 = w1 &&& o1) (ha5 : w1 ≠ 0) (ha6 : x1 + w1 = 18446744073709551616) (ha7 : r1 + w1 = w1) (hb0 : ∀ i : Nat, i < 64 → (i : Int) < 1 + r → w0.testBit i = (decide ((1 + r : Int) ≤ i) && w0.testBit i)) (hb1 : ∀ i : Nat, i < 64 → (i : Int) + 64 < 1 + r → r1.testBit i = (decide ((1 + r : Int) ≤ (i : Int) + 64) && w1.testBit i)) : Calls Tryz.prog 3 #[.int .u8 pg, .int .u8 kk, .int .u64 (mk : Int), .int .u64 (mo : Int)] w fun e w' => e = .returned (.bool true) ∧ Ext w w' := by
  have hE : AllOK Tryz.prog (sgV (Pgmt r pg kk mk mo o1 w0 w1 v0 x1 r1)) Pgme := AllOK.cons (ent_conv Tryz.underlying5 Tryz.underlying3 rfl (by exact congrArg (Value.int .i64) ((i64_in pg (by omega)).trans (show (pg : Int) = pg by omega)).symm) rfl) (
    AllOK.cons (ent_rem (a := pg) (c := 128) rfl rfl (by omega) (by exact congrArg (Value.int .i64) hr.symm) rfl) (
    AllOK.cons (eA (1) (r) (1 + r) (by omega)) (
    AllOK.cons (egeqT (1 + r) (1) (by omega)) (
    AllOK.cons (eleqT (1 + r) (4096) (by omega)) (
    AllOK.cons (eM (5) (1 + r) (5 * (1 + r)) (by omega)) (
    AllOK.cons (eA (82) (5 * (1 + r)) (82 + (5 * (1 + r))) (by omega)) (
    AllOK.cons (eA (82 + (5 * (1 + r))) (1 + r) (82 + 6 * (1 + r) + 0) (by omega)) (
    AllOK.cons (eA (1 + r) (64) ((1 + r) + 64) (by omega)) (
    AllOK.cons (eS ((1 + r) + 64) (1) (((1 + r) + 64) - 1) (by omega)) (
    AllOK.cons (ent_quo (a := ((1 + r) + 64) - 1) (c := 64) rfl rfl (by omega) (by exact congrArg (Value.int .i64) (quoC (a := ((1 + r) + 64) - 1) (c := 64) (q := 2) (by omega) (by omega) (by omega) (by omega) (by omega)).symm) rfl) (
    AllOK.cons (eA (82 + 6 * (1 + r) + 0) (2) (82 + 6 * (1 + r) + 2) (by omega)) (
    AllOK.cons (eA (82 + 6 * (1 + r) + 2) (2) (82 + 6 * (1 + r) + 4) (by omega)) (
    AllOK.cons (elssF (82 + 6 * (1 + r) + 4) (1) (by omega)) (
    AllOK.cons (egtrF (82 + 6 * (1 + r) + 4) (65536) (by omega)) (
    AllOK.cons (egeqF (0) (82 + 6 * (1 + r) + 4) (by omega)) (
    AllOK.cons (elssF (1 + r) (1) (by omega)) (
    AllOK.cons (egtrF (1 + r) (4096) (by omega)) (
    AllOK.cons (eM (8192) (1 + r) (8192 * (1 + r)) (by omega)) (
    AllOK.cons (eA (8192 * (1 + r)) (0) (8192 * (1 + r)) (by omega)) (
    AllOK.cons (eA (0) (1 + r) (1 + r) (by omega)) (
    AllOK.cons (eM (6) (1 + r) (6 * (1 + r)) (by omega)) (
    AllOK.cons (eA (82) (6 * (1 + r)) (82 + 6 * (1 + r) + 0) (by omega)) (
    AllOK.cons (eA (1 + r) (63) (((1 + r) + 64) - 1) (by omega)) (
    AllOK.cons (eA (82 + 6 * (1 + r) + 0) (4) (82 + 6 * (1 + r) + 4) (by omega)) (
    AllOK.cons (ent_conv Tryz.underlying5 Tryz.underlying3 rfl (by exact congrArg (Value.int .i64) ((i64_in kk (by omega)).trans (show (kk : Int) = kk by omega)).symm) rfl) (
    AllOK.cons (ent_rem (a := kk) (c := 1 + r) rfl rfl (by omega) (by exact congrArg (Value.int .i64) hq.symm) rfl) (
    AllOK.cons (elssT (0) (1 + r) (by omega)) (
    AllOK.cons (eS (1 + r) (0) (1 + r) (by omega)) (
    AllOK.cons (ent_andN (a := mk) (c := 18446744073709551615) (b := w0) (by omega) (by omega) rfl rfl ha0 rfl rfl) (
    AllOK.cons (eA (82 + 6 * (1 + r) + 0) (0) (82 + 6 * (1 + r) + 0) (by omega)) (
    AllOK.cons (elssF (82 + 6 * (1 + r) + 2) (0) (by omega)) (
    AllOK.cons (egeqF (82 + 6 * (1 + r) + 2) (82 + 6 * (1 + r) + 4) (by omega)) (
    AllOK.cons (egeqT (82 + 6 * (1 + r) + 2) (0) (by omega)) (
    AllOK.cons (elssT (82 + 6 * (1 + r) + 2) (82 + 6 * (1 + r) + 4) (by omega)) (
    AllOK.cons (elssT (64) (1 + r) (by omega)) (
    AllOK.cons (eS (1 + r) (64) (1 + r - 64) (by omega)) (
    AllOK.cons (ent_andN (a := mo) (c := o1) (b := w1) (by omega) (by omega) rfl rfl ha1 rfl rfl) (
    AllOK.cons (eA (82 + 6 * (1 + r) + 0) (1) (82 + 6 * (1 + r) + 1) (by omega)) (
    AllOK.cons (eA (82 + 6 * (1 + r) + 1) (2) (82 + 6 * (1 + r) + 3) (by omega)) (
    AllOK.cons (elssF (82 + 6 * (1 + r) + 3) (0) (by omega)) (
    AllOK.cons (egeqF (82 + 6 * (1 + r) + 3) (82 + 6 * (1 + r) + 4) (by omega)) (
    AllOK.cons (egeqT (82 + 6 * (1 + r) + 3) (0) (by omega)) (
    AllOK.cons (elssT (82 + 6 * (1 + r) + 3) (82 + 6 * (1 + r) + 4) (by omega)) (
    AllOK.cons (elssF (128) (1 + r) (by omega)) (
    AllOK.cons (lay_same (P := 1 + r) (T := 1) rfl) (
    AllOK.cons (egeqF (2) (82 + 6 * (1 + r) + 4) (by omega)) (
    AllOK.cons (egtrF (1 + r) (1 + r) (by omega)) (
    AllOK.cons (elssF (8192 * (1 + r)) (8192 * (1 + r)) (by omega)) (
    AllOK.cons (ent_cmp (op := .neq) (a := 8192 * (1 + r)) (c := 8192 * (1 + r)) rfl rfl (by simp)) (
    AllOK.cons (ent_cmp (op := .neq) (a := 1 + r) (c := 1 + r) rfl rfl (by simp)) (
    AllOK.cons (elssF (1 + r) (1 + r) (by omega)) (
    AllOK.cons (eS (1 + r) (1 + r) ((1 + r) - (1 + r)) (by omega)) (
    AllOK.cons (eA (82 + 6 * (1 + r) + 2) (0) (82 + 6 * (1 + r) + 2) (by omega)) (
    AllOK.cons (ent_conv Tryz.underlying3 Tryz.underlying22 rfl (by exact congrArg (Value.int .u64) ((u64_in (1 + r) (by omega)).trans (show (1 + r : Int) = 1 + r by omega)).symm) rfl) (
    AllOK.cons (ent_conv Tryz.underlying3 Tryz.underlying22 rfl (by exact congrArg (Value.int .u64) ((u64_in ((1 + r) - (1 + r)) (by omega)).trans (show ((1 + r) - (1 + r) : Int) = (1 + r) - (1 + r) by omega)).symm) rfl) (
    AllOK.cons (elssF (82 + 6 * (1 + r) + 0) (0) (by omega)) (
    AllOK.cons (egeqF (82 + 6 * (1 + r) + 0) (82 + 6 * (1 + r) + 4) (by omega)) (
    AllOK.cons (ent_add (a := 0) (c := 18446744073709551615) rfl rfl (by exact congrArg (Value.int .u64) ((u64_in (0 + 18446744073709551615) (by omega)).trans (show (0 + 18446744073709551615 : Int) = 18446744073709551615 by omega)).symm) rfl) (
    AllOK.cons (ent_andN (a := w0) (c := 18446744073709551615) (b := v0) (by omega) (by omega) rfl rfl ha2 rfl rfl) (
    AllOK.cons (ent_cmp (op := .eql) (a := (v0 : Int)) (c := 0) rfl rfl (by rw [show ((v0 : Int) : Int) = 0 by omega]; simp)) (
    AllOK.cons (eA (82 + 6 * (1 + r) + 2) (1) (82 + 6 * (1 + r) + 3) (by omega)) (
    AllOK.cons (elssF (82 + 6 * (1 + r) + 1) (0) (by omega)) (
    AllOK.cons (egeqF (82 + 6 * (1 + r) + 1) (82 + 6 * (1 + r) + 4) (by omega)) (
    AllOK.cons (ent_add (a := 0) (c := (o1 : Int)) rfl rfl (by exact congrArg (Value.int .u64) ((u64_in (0 + ((o1 : Int))) (by omega)).trans (show (0 + ((o1 : Int)) : Int) = (o1 : Int) by omega)).symm) rfl) (
    AllOK.cons (ent_andN (a := w1) (c := o1) (b := w1) (by omega) (by omega) rfl rfl ha4 rfl rfl) (
    AllOK.cons (ent_cmp (op := .eql) (a := (w1 : Int)) (c := 0) rfl rfl (by have h9 : ((w1 : Int) : Int) ≠ 0 := (by omega); first | (simp [h9]; done) | (simp; omega))) (
    AllOK.cons (ent_neg (v := w1) (b := x1) (by omega) (by omega) rfl rfl rfl) (
    AllOK.cons (ent_addw (a := w1) (c := x1) (b := r1) (by omega) rfl rfl rfl rfl) (
    AllOK.nil)))))))))))))))))))))))))))))))))))))))))))))))))))))))))))))))))))))
  have hF : ∀ e ∈ Pgmf, FnOK Tryz.prog (sgV (Pgmt r pg kk mk mo o1 w0 w1 v0 x1 r1)) w w.heap.size e := FnsOK.cons (FnOK.mk rfl fun w' _ => Mpaw_any w' (Nat.zero_le _)) (
    FnsOK.cons (FnOK.any rfl fun w' _ => r9new128 (1 + r) w' (by omega)) (
    FnsOK.cons (pg_fnR (n := 1 + r) (b := 18446744073709551615) (by omega) (by omega) rfl (by rw [show min (1 + r : Int).toNat 64 = 64 by omega]) rfl rfl) (
    FnsOK.cons (pg_fnR (n := 1 + r - 64) (b := o1) (by omega) (by omega) rfl (by exact ho1) rfl rfl) (
    FnsOK.nil))))
  have hTL : TokL (Pgmt r pg kk mk mo o1 w0 w1 v0 x1 r1) := (TokL.int (TokL.int (TokL.int (TokL.int (TokL.int (TokL.int (TokL.int (TokL.int (TokL.int (TokL.int (TokL.int (TokL.int (TokL.int (TokL.int (TokL.int (TokL.int (TokL.int (TokL.int (TokL.int (TokL.int (TokL.int (TokL.int (TokL.int (TokL.int (TokL.int (TokL.int (TokL.int (TokL.int (TokL.int (TokL.int (TokL.int (TokL.int (TokL.int TokL.nil)))))))))))))))))))))))))))))))))
  have hσ := sgV_one hTL
  have hS : SpOK (sgV (Pgmt r pg kk mk mo o1 w0 w1 v0 x1 r1)) 4 := pg_sp (P := 1 + r) (m := 2) (by omega) rfl (by omega) (by omega) (by intro j hj; rcases (show j = 0 ∨ j = 1 ∨ j = 2 ∨ j = 3 by omega) with rfl | rfl | rfl | rfl <;> exact ⟨_, rfl, by omega⟩)
  have hO : OrcOK Tryz.prog (sgV (Pgmt r pg kk mk mo o1 w0 w1 v0 x1 r1)) w w.heap.size (PgmO) := orcS_ok hE (sgV_ne hTL) hF hS (rdG_ok hσ ⟨_, rfl, by omega⟩) (pgMk_ok (n := 1 + r) (q := o1) (by omega) (by omega) rfl ho1 rfl rfl)
  have hK : Weak (sgV (Pgmt r pg kk mk mo o1 w0 w1 v0 x1 r1)) (sgV (Pg2l r r pg kk mk mo w0 w1 w0 r1 18446744073709551615 o1 0)) w w.heap.size 0 Pgml160 Pgmh161 Pg2A Pg2H := weak_of (weakOK_pre (n := 11) (l2 := Pg2l r r pg kk mk mo w0 w1 w0 r1 18446744073709551615 o1 0) hTL rfl rfl (pairs_tok (a := 9) (b := 10) rfl (pairs_tok (a := 25) (b := 11) rfl (pairs_tok (a := 26) (b := 12) rfl (pairs_tok (a := 12) (b := 15) rfl (pairs_tok (a := 11) (b := 16) rfl (pairs_tok (a := 25) (b := 13) rfl (pairs_tok (a := 32) (b := 14) rfl pairs_nil)))))))) Pgmw
  obtain ⟨lZ, hT0, hZ⟩ := Pg2_tail r r pg kk mk mo w0 w1 w0 r1 18446744073709551615 o1 w (by omega) (by omega) (by omega) (by omega) (by omega) (by omega) (by omega) (by omega) hb0 hb1
  have hTail := hK.ahead hT0
  have key : Seg2 Tryz.prog (sgV (Pgmt r pg kk mk mo o1 w0 w1 v0 x1 r1)) (sgV (Pg2l r r pg kk mk mo w0 w1 w0 r1 18446744073709551615 o1 (((1 + r).toNat : Nat) : Int))) w w.heap.size 0 (.code (pgC 0)) Pg0 [] .ret lZ Pg2H := (Seg2.seqP (by rfl) (Seg1.to2 (Pgmp0 _ hσ _ _ hO)) (Seg2.seqP (by rfl) (Seg1.to2 (Pgmp1 _ hσ _ _ hO)) (Seg2.seqP (by rfl) (Seg1.to2 (Pgmp2 _ hσ _ _ hO)) (Seg2.seqP (by rfl) (Seg1.to2 (Seg1.seqP (by rfl) (Pgmp3 _ hσ _ _ hO) (Pgmp4 _ hσ _ _ hO))) (Seg2.seqP (by rfl) (Seg1.to2 (Pgmp5 _ hσ _ _ hO)) (Seg2.seqP (by rfl) (Seg1.to2 (Pgmp6 _ hσ _ _ hO)) (Seg2.seqP (by rfl) (Seg1.to2 (Seg1.seqP (by rfl) (Pgmp7 _ hσ _ _ hO) (Seg1.loopP (by rfl) (Seg1.loopNext (Pgmp8 _ hσ _ _ hO) (Seg1.loopNext (Pgmp9 _ hσ _ _ hO) (Seg1.loopExit (Pgmp10 _ hσ _ _ hO))))))) (Seg2.seqP (by rfl) (Seg1.to2 (Pgmp11 _ hσ _ _ hO)) (Seg2.seqP (by rfl) (Seg1.to2 (Seg1.seqP (by rfl) (Pgmp12 _ hσ _ _ hO) (Seg1.loopP (by rfl) (Seg1.loopNext (Pgmp13 _ hσ _ _ hO) (Seg1.loopNext (Pgmp14 _ hσ _ _ hO) (Seg1.loopNext (Pgmp15 _ hσ _ _ hO) (Seg1.loopNext (Pgmp16 _ hσ _ _ hO) (Seg1.loopNext (Pgmp17 _ hσ _ _ hO) (Seg1.loopNext (Pgmp18 _ hσ _ _ hO) (Seg1.loopNext (Pgmp19 _ hσ _ _ hO) (Seg1.loopNext (Pgmp20 _ hσ _ _ hO) (Seg1.loopExit (Pgmp21 _ hσ _ _ hO))))))))))))) (Seg2.seqP (by rfl) (Seg1.to2 (Pgmp22 _ hσ _ _ hO)) (Seg2.seqP (by rfl) (Seg1.to2 (Seg1.seqP (by rfl) (Pgmp23 _ hσ _ _ hO) (Pgmp24 _ hσ _ _ hO))) hTail)))))))))))
  have hb : Tryz.f3.body = some (pgC 0) := by rfl
  have fin := calls_of_seg2 (P := Tryz.prog) (f := 3) (fn := Tryz.f3) (c := bodyOf Tryz.prog 3) (args := #[kf 5, kf 6, kf 7, kf 8]) (l0 := Pg0) (h0 := []) (tabs := []) (sgV_one (Pg2l_tok _ _ _ _ _ _ _ _ _ _ _ _ _)) (Nat.zero_le _) (tabR_nil w) Tryz.func3 hb rfl Pg0_eq pg_w0 key (.inr rfl) hZ rfl
  exact pg_key rfl fin
def Pgnt (r pg kk : Int) (mk mo o1 w0 w1 v0 v1 : Nat) : List Value := [.int .i64 (82 + 6 * (1 + r) + 4), .int .i64 (82 + 6 * (1 + r) + 0), .int .i64 (82 + 6 * (1 + r) + 1), .int .i64 (82 + 6 * (1 + r) + 2), .int .i64 (82 + 6 * (1 + r) + 3), .int .u8 pg, .int .u8 kk, .int .u64 ((mk : Int)), .int .u64 ((mo : Int)), .int .i64 (1 + r), .int .i64 (1 + r), .int .u64 ((o1 : Int)), .int .u64 18446744073709551615, .int .u64 91002, .int .i64 91003, .int .i64 (1 + r - 64), .int .i64 pg, .int .i64 r, .int .i64 (5 * (1 + r)), .int .i64 (82 + (5 * (1 + r))), .int .i64 ((1 + r) + 64), .int .i64 (((1 + r) + 64) - 1), .int .i64 (8192 * (1 + r)), .int .i64 (6 * (1 + r)), .int .i64 kk, .int .u64 ((w0 : Int)), .int .u64 ((w1 : Int)), .int .i64 ((1 + r) - (1 + r)), .int .u64 (1 + r), .int .u64 ((1 + r) - (1 + r)), .int .u64 ((v0 : Int)), .int .u64 ((v1 : Int))]
set_option maxHeartbeats 4000000 in
theorem Pgn_any (r pg kk : Int) (mk mo o1 w0 w1 v0 v1 : Nat) (w : World) (hpg : 0 ≤ pg ∧ pg < 256) (hkk : 0 ≤ kk ∧ kk < 256) (hr : Int.tmod pg 128 = r) (hq : Int.tmod kk (1 + r) = r) (hr2 : 0 ≤ r ∧ r < 128) (hm : 64 ≤ r) (hBmk : mk < 18446744073709551616) (hBmo : mo < 18446744073709551616) (hBo1 : o1 < 18446744073709551616) (hBw0 : w0 < 18446744073709551616) (hBw1 : w1 < 18446744073709551616) (hBv0 : v0 < 18446744073709551616) (hBv1 : v1 < 18446744073709551616) (ho1 : o1 = 2 ^ (min (1 + r - 64 : Int).toNat 64) - 1) (ha0 : w0 = mk &&& 18446744073709551615) (ha1 : w1 = mo &&& o1) (ha2 : v0 = w0 &&& 18446744073709551615) (ha3 : v0 = 0) (ha4 : v1 = w1 &&& o1) (ha5 : v1 = 0) (hb0 : ∀ i : Nat, i < 64 → (i : Int) < 1 + r → w0.testBit i = (decide ((1 + r : Int) ≤ i) && w0.testBit i)) (hb1 : ∀ i : Nat, i < 64 → (i : Int) + 64 < 1 + r → w1.testBit i = (decide ((1 + r : Int) ≤ (i : Int) + 64) && w1.testBit i)) : Calls Tryz.prog 3 #[.int .u8 pg, .int .u8 kk, .int .u64 (mk : Int), .int .u64 (mo : Int)] w fun e w' => e = .returned (.bool true) ∧ Ext w w' := by
  have hE : AllOK Tryz.prog (sgV (Pgnt r pg kk mk mo o1 w0 w1 v0 v1)) Pgne := AllOK.cons (ent_conv Tryz.underlying5 Tryz.underlying3 rfl (by exact congrArg (Value.int .i64) ((i64_in pg (by omega)).trans (show (pg : Int) = pg by omega)).symm) rfl) (
    AllOK.cons (ent_rem (a := pg) (c := 128) rfl rfl (by omega) (by exact congrArg (Value.int .i64) hr.symm) rfl) (
    AllOK.cons (eA (1) (r) (1 + r) (by omega)) (
    AllOK.cons (egeqT (1 + r) (1) (by omega)) (
    AllOK.cons (eleqT (1 + r) (4096) (by omega)) (
    AllOK.cons (eM (5) (1 + r) (5 * (1 + r)) (by omega)) (
    AllOK.cons (eA (82) (5 * (1 + r)) (82 + (5 * (1 + r))) (by omega)) (
    AllOK.cons (eA (82 + (5 * (1 + r))) (1 + r) (82 + 6 * (1 + r) + 0) (by omega)) (
    AllOK.cons (eA (1 + r) (64) ((1 + r) + 64) (by omega)) (
    AllOK.cons (eS ((1 + r) + 64) (1) (((1 + r) + 64) - 1) (by omega)) (
    AllOK.cons (ent_quo (a := ((1 + r) + 64) - 1) (c := 64) rfl rfl (by omega) (by exact congrArg (Value.int .i64) (quoC (a := ((1 + r) + 64) - 1) (c := 64) (q := 2) (by omega) (by omega) (by omega) (by omega) (by omega)).symm) rfl) (
    AllOK.cons (eA (82 + 6 * (1 + r) + 0) (2) (82 + 6 * (1 + r) + 2) (by omega)) (
    AllOK.cons (eA (82 + 6 * (1 + r) + 2) (2) (82 + 6 * (1 + r) + 4) (by omega)) (
    AllOK.cons (elssF (82 + 6 * (1 + r) + 4) (1) (by omega)) (
    AllOK.cons (egtrF (82 + 6 * (1 + r) + 4) (65536) (by omega)) (
    AllOK.cons (egeqF (0) (82 + 6 * (1 + r) + 4) (by omega)) (
    AllOK.cons (elssF (1 + r) (1) (by omega)) (
    AllOK.cons (egtrF (1 + r) (4096) (by omega)) (
    AllOK.cons (eM (8192) (1 + r) (8192 * (1 + r)) (by omega)) (
    AllOK.cons (eA (8192 * (1 + r)) (0) (8192 * (1 + r)) (by omega)) (
    AllOK.cons (eA (0) (1 + r) (1 + r) (by omega)) (
    AllOK.cons (eM (6) (1 + r) (6 * (1 + r)) (by omega)) (
    AllOK.cons (eA (82) (6 * (1 + r)) (82 + 6 * (1 + r) + 0) (by omega)) (
    AllOK.cons (eA (1 + r) (63) (((1 + r) + 64) - 1) (by omega)) (
    AllOK.cons (eA (82 + 6 * (1 + r) + 0) (4) (82 + 6 * (1 + r) + 4) (by omega)) (
    AllOK.cons (ent_conv Tryz.underlying5 Tryz.underlying3 rfl (by exact congrArg (Value.int .i64) ((i64_in kk (by omega)).trans (show (kk : Int) = kk by omega)).symm) rfl) (
    AllOK.cons (ent_rem (a := kk) (c := 1 + r) rfl rfl (by omega) (by exact congrArg (Value.int .i64) hq.symm) rfl) (
    AllOK.cons (elssT (0) (1 + r) (by omega)) (
    AllOK.cons (eS (1 + r) (0) (1 + r) (by omega)) (
    AllOK.cons (ent_andN (a := mk) (c := 18446744073709551615) (b := w0) (by omega) (by omega) rfl rfl ha0 rfl rfl) (
    AllOK.cons (eA (82 + 6 * (1 + r) + 0) (0) (82 + 6 * (1 + r) + 0) (by omega)) (
    AllOK.cons (elssF (82 + 6 * (1 + r) + 2) (0) (by omega)) (
    AllOK.cons (egeqF (82 + 6 * (1 + r) + 2) (82 + 6 * (1 + r) + 4) (by omega)) (
    AllOK.cons (egeqT (82 + 6 * (1 + r) + 2) (0) (by omega)) (
    AllOK.cons (elssT (82 + 6 * (1 + r) + 2) (82 + 6 * (1 + r) + 4) (by omega)) (
    AllOK.cons (elssT (64) (1 + r) (by omega)) (
    AllOK.cons (eS (1 + r) (64) (1 + r - 64) (by omega)) (
    AllOK.cons (ent_andN (a := mo) (c := o1) (b := w1) (by omega) (by omega) rfl rfl ha1 rfl rfl) (
    AllOK.cons (eA (82 + 6 * (1 + r) + 0) (1) (82 + 6 * (1 + r) + 1) (by omega)) (
    AllOK.cons (eA (82 + 6 * (1 + r) + 1) (2) (82 + 6 * (1 + r) + 3) (by omega)) (
    AllOK.cons (elssF (82 + 6 * (1 + r) + 3) (0) (by omega)) (
    AllOK.cons (egeqF (82 + 6 * (1 + r) + 3) (82 + 6 * (1 + r) + 4) (by omega)) (
    AllOK.cons (egeqT (82 + 6 * (1 + r) + 3) (0) (by omega)) (
    AllOK.cons (elssT (82 + 6 * (1 + r) + 3) (82 + 6 * (1 + r) + 4) (by omega)) (
    AllOK.cons (elssF (128) (1 + r) (by omega)) (
    AllOK.cons (lay_same (P := 1 + r) (T := 1) rfl) (
    AllOK.cons (egeqF (2) (82 + 6 * (1 + r) + 4) (by omega)) (
    AllOK.cons (egtrF (1 + r) (1 + r) (by omega)) (
    AllOK.cons (elssF (8192 * (1 + r)) (8192 * (1 + r)) (by omega)) (
    AllOK.cons (ent_cmp (op := .neq) (a := 8192 * (1 + r)) (c := 8192 * (1 + r)) rfl rfl (by simp)) (
    AllOK.cons (ent_cmp (op := .neq) (a := 1 + r) (c := 1 + r) rfl rfl (by simp)) (
    AllOK.cons (elssF (1 + r) (1 + r) (by omega)) (
    AllOK.cons (eS (1 + r) (1 + r) ((1 + r) - (1 + r)) (by omega)) (
    AllOK.cons (eA (82 + 6 * (1 + r) + 2) (0) (82 + 6 * (1 + r) + 2) (by omega)) (
    AllOK.cons (ent_conv Tryz.underlying3 Tryz.underlying22 rfl (by exact congrArg (Value.int .u64) ((u64_in (1 + r) (by omega)).trans (show (1 + r : Int) = 1 + r by omega)).symm) rfl) (
    AllOK.cons (ent_conv Tryz.underlying3 Tryz.underlying22 rfl (by exact congrArg (Value.int .u64) ((u64_in ((1 + r) - (1 + r)) (by omega)).trans (show ((1 + r) - (1 + r) : Int) = (1 + r) - (1 + r) by omega)).symm) rfl) (
    AllOK.cons (elssF (82 + 6 * (1 + r) + 0) (0) (by omega)) (
    AllOK.cons (egeqF (82 + 6 * (1 + r) + 0) (82 + 6 * (1 + r) + 4) (by omega)) (
    AllOK.cons (ent_add (a := 0) (c := 18446744073709551615) rfl rfl (by exact congrArg (Value.int .u64) ((u64_in (0 + 18446744073709551615) (by omega)).trans (show (0 + 18446744073709551615 : Int) = 18446744073709551615 by omega)).symm) rfl) (
    AllOK.cons (ent_andN (a := w0) (c := 18446744073709551615) (b := v0) (by omega) (by omega) rfl rfl ha2 rfl rfl) (
    AllOK.cons (ent_cmp (op := .eql) (a := (v0 : Int)) (c := 0) rfl rfl (by rw [show ((v0 : Int) : Int) = 0 by omega]; simp)) (
    AllOK.cons (eA (82 + 6 * (1 + r) + 2) (1) (82 + 6 * (1 + r) + 3) (by omega)) (
    AllOK.cons (elssF (82 + 6 * (1 + r) + 1) (0) (by omega)) (
    AllOK.cons (egeqF (82 + 6 * (1 + r) + 1) (82 + 6 * (1 + r) + 4) (by omega)) (
    AllOK.cons (ent_add (a := 0) (c := (o1 : Int)) rfl rfl (by exact congrArg (Value.int .u64) ((u64_in (0 + ((o1 : Int))) (by omega)).trans (show (0 + ((o1 : Int)) : Int) = (o1 : Int) by omega)).symm) rfl) (
    AllOK.cons (ent_andN (a := w1) (c := o1) (b := v1) (by omega) (by omega) rfl rfl ha4 rfl rfl) (
    AllOK.cons (ent_cmp (op := .eql) (a := (v1 : Int)) (c := 0) rfl rfl (by rw [show ((v1 : Int) : Int) = 0 by omega]; simp)) (
    AllOK.nil)))))))))))))))))))))))))))))))))))))))))))))))))))))))))))))))))))
  have hF : ∀ e ∈ Pgnf, FnOK Tryz.prog (sgV (Pgnt r pg kk mk mo o1 w0 w1 v0 v1)) w w.heap.size e := FnsOK.cons (FnOK.mk rfl fun w' _ => Mpaw_any w' (Nat.zero_le _)) (
    FnsOK.cons (FnOK.any rfl fun w' _ => r9new128 (1 + r) w' (by omega)) (
    FnsOK.cons (pg_fnR (n := 1 + r) (b := 18446744073709551615) (by omega) (by omega) rfl (by rw [show min (1 + r : Int).toNat 64 = 64 by omega]) rfl rfl) (
    FnsOK.cons (pg_fnR (n := 1 + r - 64) (b := o1) (by omega) (by omega) rfl (by exact ho1) rfl rfl) (
    FnsOK.nil))))
  have hTL : TokL (Pgnt r pg kk mk mo o1 w0 w1 v0 v1) := (TokL.int (TokL.int (TokL.int (TokL.int (TokL.int (TokL.int (TokL.int (TokL.int (TokL.int (TokL.int (TokL.int (TokL.int (TokL.int (TokL.int (TokL.int (TokL.int (TokL.int (TokL.int (TokL.int (TokL.int (TokL.int (TokL.int (TokL.int (TokL.int (TokL.int (TokL.int (TokL.int (TokL.int (TokL.int (TokL.int (TokL.int (TokL.int TokL.nil))))))))))))))))))))))))))))))))
  have hσ := sgV_one hTL
  have hS : SpOK (sgV (Pgnt r pg kk mk mo o1 w0 w1 v0 v1)) 4 := pg_sp (P := 1 + r) (m := 2) (by omega) rfl (by omega) (by omega) (by intro j hj; rcases (show j = 0 ∨ j = 1 ∨ j = 2 ∨ j = 3 by omega) with rfl | rfl | rfl | rfl <;> exact ⟨_, rfl, by omega⟩)
  have hO : OrcOK Tryz.prog (sgV (Pgnt r pg kk mk mo o1 w0 w1 v0 v1)) w w.heap.size (PgnO) := orcS_ok hE (sgV_ne hTL) hF hS (rdG_ok hσ ⟨_, rfl, by omega⟩) (pgMk_ok (n := 1 + r) (q := o1) (by omega) (by omega) rfl ho1 rfl rfl)
  have hK : Weak (sgV (Pgnt r pg kk mk mo o1 w0 w1 v0 v1)) (sgV (Pg2l r r pg kk mk mo w0 w1 w0 w1 18446744073709551615 o1 0)) w w.heap.size 0 Pgnl151 Pgnh152 Pg2A Pg2H := weak_of (weakOK_pre (n := 11) (l2 := Pg2l r r pg kk mk mo w0 w1 w0 w1 18446744073709551615 o1 0) hTL rfl rfl (pairs_tok (a := 9) (b := 10) rfl (pairs_tok (a := 25) (b := 11) rfl (pairs_tok (a := 26) (b := 12) rfl (pairs_tok (a := 12) (b := 15) rfl (pairs_tok (a := 11) (b := 16) rfl (pairs_tok (a := 25) (b := 13) rfl (pairs_tok (a := 26) (b := 14) rfl pairs_nil)))))))) Pgnw
  obtain ⟨lZ, hT0, hZ⟩ := Pg2_tail r r pg kk mk mo w0 w1 w0 w1 18446744073709551615 o1 w (by omega) (by omega) (by omega) (by omega) (by omega) (by omega) (by omega) (by omega) hb0 hb1
  have hTail := hK.ahead hT0
  have key : Seg2 Tryz.prog (sgV (Pgnt r pg kk mk mo o1 w0 w1 v0 v1)) (sgV (Pg2l r r pg kk mk mo w0 w1 w0 w1 18446744073709551615 o1 (((1 + r).toNat : Nat) : Int))) w w.heap.size 0 (.code (pgC 0)) Pg0 [] .ret lZ Pg2H := (Seg2.seqP (by rfl) (Seg1.to2 (Pgnp0 _ hσ _ _ hO)) (Seg2.seqP (by rfl) (Seg1.to2 (Pgnp1 _ hσ _ _ hO)) (Seg2.seqP (by rfl) (Seg1.to2 (Pgnp2 _ hσ _ _ hO)) (Seg2.seqP (by rfl) (Seg1.to2 (Seg1.seqP (by rfl) (Pgnp3 _ hσ _ _ hO) (Pgnp4 _ hσ _ _ hO))) (Seg2.seqP (by rfl) (Seg1.to2 (Pgnp5 _ hσ _ _ hO)) (Seg2.seqP (by rfl) (Seg1.to2 (Pgnp6 _ hσ _ _ hO)) (Seg2.seqP (by rfl) (Seg1.to2 (Seg1.seqP (by rfl) (Pgnp7 _ hσ _ _ hO) (Seg1.loopP (by rfl) (Seg1.loopNext (Pgnp8 _ hσ _ _ hO) (Seg1.loopNext (Pgnp9 _ hσ _ _ hO) (Seg1.loopExit (Pgnp10 _ hσ _ _ hO))))))) (Seg2.seqP (by rfl) (Seg1.to2 (Pgnp11 _ hσ _ _ hO)) (Seg2.seqP (by rfl) (Seg1.to2 (Seg1.seqP (by rfl) (Pgnp12 _ hσ _ _ hO) (Seg1.loopP (by rfl) (Seg1.loopNext (Pgnp13 _ hσ _ _ hO) (Seg1.loopNext (Pgnp14 _ hσ _ _ hO) (Seg1.loopNext (Pgnp15 _ hσ _ _ hO) (Seg1.loopNext (Pgnp16 _ hσ _ _ hO) (Seg1.loopNext (Pgnp17 _ hσ _ _ hO) (Seg1.loopNext (Pgnp18 _ hσ _ _ hO) (Seg1.loopNext (Pgnp19 _ hσ _ _ hO) (Seg1.loopExit (Pgnp20 _ hσ _ _ hO)))))))))))) (Seg2.seqP (by rfl) (Seg1.to2 (Pgnp21 _ hσ _ _ hO)) (Seg2.seqP (by rfl) (Seg1.to2 (Seg1.seqP (by rfl) (Pgnp22 _ hσ _ _ hO) (Pgnp23 _ hσ _ _ hO))) hTail)))))))))))
  have hb : Tryz.f3.body = some (pgC 0) := by rfl
  have fin := calls_of_seg2 (P := Tryz.prog) (f := 3) (fn := Tryz.f3) (c := bodyOf Tryz.prog 3) (args := #[kf 5, kf 6, kf 7, kf 8]) (l0 := Pg0) (h0 := []) (tabs := []) (sgV_one (Pg2l_tok _ _ _ _ _ _ _ _ _ _ _ _ _)) (Nat.zero_le _) (tabR_nil w) Tryz.func3 hb rfl Pg0_eq pg_w0 key (.inr rfl) hZ rfl
  exact pg_key rfl fin
end Go.Proofs.YtfppinabdalblaaGreat
