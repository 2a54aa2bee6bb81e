/- PagerMay: what the evaluations of Right know (printed by gen_pager.py). -/
import Derived.Test.YthggcmhmjkmjnaaGreatMpD
namespace Go.Proofs.YthggcmhmjkmjnaaGreat
open Go.RowKit Go.IntWalk
set_option linter.unusedVariables false
set_option linter.unusedSimpArgs false
set_option maxRecDepth 100000
theorem key_MpK {f : FuncId} {args args' : Array Value} {w : World} {R : Ending → World → Prop} (e : args = args') (h : Calls Tryz.prog f args w R) : Calls Tryz.prog f args' w R := e ▸ h
def MpTok (P T t n : Int) (nb : Option Addr) (nn nc b off : Nat) (z : Nat → Int) : List Value := [.int .i64 P, .int .i64 T, .int .i64 t, .int .i64 n, .int .i64 (P - 0), .slice nb nn nc, .pointer (some ⟨b, off + 0, none⟩), .pointer (some ⟨b, off + 1, none⟩), .pointer (some ⟨b, off + 2, none⟩), .pointer (some ⟨b, off + 3, none⟩), .int .i64 (z 0), .int .i64 (z 1), .int .i64 (z 2), .int .i64 (z 3), .int .i64 (nn : Int)]
theorem MpTok_l (P T t n : Int) (nb : Option Addr) (nn nc b off : Nat) (z : Nat → Int) : TokL (MpTok P T t n nb nn nc b off z) := (TokL.int (TokL.int (TokL.int (TokL.int (TokL.int (TokL.slice (TokL.ptr (TokL.ptr (TokL.ptr (TokL.ptr (TokL.int (TokL.int (TokL.int (TokL.int (TokL.int TokL.nil)))))))))))))))
def MpB : List Ent := (eGe 3 (kf 0) (vI 1)) ++ (eLe 3 (kf 0) (vI 4096)) ++ (eGe 3 (kf 1) (vI 1)) ++ (eLe 3 (kf 1) (vI 64)) ++ (eLt 3 (vI 0) (kf 0)) ++ ([⟨.bin .sub 3, [kf 0, vI 0], kf 4⟩])
theorem MpB_ok (P T t n : Int) (nb : Option Addr) (nn nc b off : Nat) (z : Nat → Int) (w : World) (h0 : 1 ≤ P) (h1 : P ≤ 4096) (h2 : 1 ≤ T) (h3 : T ≤ 64) : AllOKW Tryz.prog (sgV (MpTok P T t n nb nn nc b off z)) w w.heap.size MpB := ((AllOKW.app (AllOKW.app (AllOKW.app (AllOKW.app (AllOKW.app (okGe (a := P) (c := 1) rfl rfl (by omega)).w (okLe (a := P) (c := 4096) rfl rfl (by omega)).w) (okGe (a := T) (c := 1) rfl rfl (by omega)).w) (okLe (a := T) (c := 64) rfl rfl (by omega)).w) (okLt (a := 0) (c := P) rfl rfl (by omega)).w) (AllOK.one (ent_sub (a := P) (c := 0) rfl rfl (by exact congrArg (Value.int .i64) (i64_in _ (by omega)).symm) rfl)).w))
def MpT_tl : List Ent := (eLt 3 (kf 2) (vI 0))
theorem MpT_tl_ok (P T t n : Int) (nb : Option Addr) (nn nc b off : Nat) (z : Nat → Int) (w : World) (t0 : ¬ (0 ≤ t)) : AllOKW Tryz.prog (sgV (MpTok P T t n nb nn nc b off z)) w w.heap.size MpT_tl := ((okLt (a := t) (c := 0) rfl rfl (by omega)).w)
def MpT_th : List Ent := (eGe 3 (kf 2) (vI 0)) ++ (eGe 3 (kf 2) (kf 1))
theorem MpT_th_ok (P T t n : Int) (nb : Option Addr) (nn nc b off : Nat) (z : Nat → Int) (w : World) (t0 : 0 ≤ t) (t1 : ¬ (t < T)) : AllOKW Tryz.prog (sgV (MpTok P T t n nb nn nc b off z)) w w.heap.size MpT_th := ((AllOKW.app (okGe (a := t) (c := 0) rfl rfl (by omega)).w (okGe (a := t) (c := T) rfl rfl (by omega)).w))
def MpT_to : List Ent := (eGe 3 (kf 2) (vI 0)) ++ (eLt 3 (kf 2) (kf 1))
theorem MpT_to_ok (P T t n : Int) (nb : Option Addr) (nn nc b off : Nat) (z : Nat → Int) (w : World) (t0 : 0 ≤ t) (t1 : t < T) : AllOKW Tryz.prog (sgV (MpTok P T t n nb nn nc b off z)) w w.heap.size MpT_to := ((AllOKW.app (okGe (a := t) (c := 0) rfl rfl (by omega)).w (okLt (a := t) (c := T) rfl rfl (by omega)).w))
def MpN_nl : List Ent := (eLt 3 (kf 3) (vI 1))
theorem MpN_nl_ok (P T t n : Int) (nb : Option Addr) (nn nc b off : Nat) (z : Nat → Int) (w : World) (n0 : ¬ (1 ≤ n)) : AllOKW Tryz.prog (sgV (MpTok P T t n nb nn nc b off z)) w w.heap.size MpN_nl := ((okLt (a := n) (c := 1) rfl rfl (by omega)).w)
def MpN_no : List Ent := (eGe 3 (kf 3) (vI 1)) ++ (eLe 3 (kf 3) (kf 4)) ++ (eLe 3 (kf 3) (vI 4096))
theorem MpN_no_ok (P T t n : Int) (nb : Option Addr) (nn nc b off : Nat) (z : Nat → Int) (w : World) (n0 : 1 ≤ n) (n1 : n ≤ P) (n2 : n ≤ 4096) : AllOKW Tryz.prog (sgV (MpTok P T t n nb nn nc b off z)) w w.heap.size MpN_no := ((AllOKW.app (AllOKW.app (okGe (a := n) (c := 1) rfl rfl (by omega)).w (okLe (a := n) (c := P - 0) rfl rfl (by omega)).w) (okLe (a := n) (c := 4096) rfl rfl (by omega)).w))
def MpN_nm : List Ent := (eGe 3 (kf 3) (vI 1)) ++ (eGt 3 (kf 3) (kf 4)) ++ (eLe 3 (kf 3) (vI 4096))
theorem MpN_nm_ok (P T t n : Int) (nb : Option Addr) (nn nc b off : Nat) (z : Nat → Int) (w : World) (n0 : 1 ≤ n) (n1 : ¬ (n ≤ P)) (n2 : n ≤ 4096) : AllOKW Tryz.prog (sgV (MpTok P T t n nb nn nc b off z)) w w.heap.size MpN_nm := ((AllOKW.app (AllOKW.app (okGe (a := n) (c := 1) rfl rfl (by omega)).w (okGt (a := n) (c := P - 0) rfl rfl (by omega)).w) (okLe (a := n) (c := 4096) rfl rfl (by omega)).w))
def MpN_nh : List Ent := (eGe 3 (kf 3) (vI 1)) ++ (eGt 3 (kf 3) (kf 4)) ++ (eGt 3 (kf 3) (vI 4096))
theorem MpN_nh_ok (P T t n : Int) (nb : Option Addr) (nn nc b off : Nat) (z : Nat → Int) (w : World) (n0 : 1 ≤ n) (n1 : ¬ (n ≤ P)) (n2 : ¬ (n ≤ 4096)) : AllOKW Tryz.prog (sgV (MpTok P T t n nb nn nc b off z)) w w.heap.size MpN_nh := ((AllOKW.app (AllOKW.app (okGe (a := n) (c := 1) rfl rfl (by omega)).w (okGt (a := n) (c := P - 0) rfl rfl (by omega)).w) (okGt (a := n) (c := 4096) rfl rfl (by omega)).w))
def MpC_five : List Ent := ([⟨.len #[30], [kf 5], kf 14⟩]) ++ (eGt 3 (kf 14) (vI 4)) ++ (eLt 3 (vI 0) (kf 14))
theorem MpC_five_ok (P T t n : Int) (nb : Option Addr) (nn nc b off : Nat) (z : Nat → Int) (w : World) (hk : 4 < nn) : AllOKW Tryz.prog (sgV (MpTok P T t n nb nn nc 0 0 z)) w w.heap.size MpC_five := ((AllOKW.app (AllOKW.app (AllOK.one (ent_len Tryz.underlying30 rfl rfl rfl)).w (okGt (a := (nn : Int)) (c := 4) rfl rfl (by omega)).w) (okLt (a := 0) (c := (nn : Int)) rfl rfl (by omega)).w))
def MpF_five : List FnEnt := []
def MpC_k0 : List Ent := ([⟨.len #[30], [kf 5], vI 0⟩])
theorem MpC_k0_ok (P T t n : Int) (nb : Option Addr) (nn nc b off : Nat) (z : Nat → Int) (w : World)  : AllOKW Tryz.prog (sgV (MpTok P T t n nb 0 nc 0 0 z)) w w.heap.size MpC_k0 := ((AllOK.one (ent_len Tryz.underlying30 rfl rfl rfl)).w)
def MpF_k0 : List FnEnt := []
def MpC_k1 : List Ent := ([⟨.len #[30], [kf 5], vI 1⟩]) ++ ([⟨.idx 30, [kf 5, vI 0], kf 6⟩]) ++ ([⟨.load 3, [kf 6], kf 10⟩])
theorem MpC_k1_ok (P T t n : Int) (nb : Option Addr) (nn nc b off : Nat) (z : Nat → Int) (w : World) (hb : b < w.heap.size) (hz : ∀ i, i < 1 → w.cell? ⟨b, off + i, none⟩ = some (.int .i64 (z i))) : AllOKW Tryz.prog (sgV (MpTok P T t n (some ⟨b, off, none⟩) 1 nc b off z)) w w.heap.size MpC_k1 := ((AllOKW.app (AllOKW.app (AllOK.one (ent_len Tryz.underlying30 rfl rfl rfl)).w (AllOK.one (ent_idx (b := b) (off := off) (n := 1) (c := nc) (k := 0) Tryz.underlying30 Tryz.sizeOf3 rfl rfl (by omega) rfl rfl)).w) (AllOKW.cons (ent_load (v := .int .i64 (z 0)) Tryz.isAgg3 rfl hb (hz 0 (by omega)) rfl rfl) AllOKW.nil)))
def MpF_k1 : List FnEnt := [⟨54, [vG [kf 0, kf 1], kf 10], vB true⟩]
theorem MpF_k1_ok (P T t n : Int) (nb : Option Addr) (nn nc b off : Nat) (z : Nat → Int) (w : World) (hG : 0 ≤ w.heap.size) (hL : MayL P T) (g0 : Good (z 0)) : ∀ e ∈ MpF_k1, FnOK Tryz.prog (sgV (MpTok P T t n (some ⟨b, off, none⟩) 1 nc b off z)) w w.heap.size e := by
  intro e he
  simp only [MpF_k1, List.mem_cons, List.not_mem_nil, or_false] at he
  subst he
  exact FnOK.mk rfl fun w' hw' => key_MpK rfl (headB (Nat.le_trans hG hw'.size) hL g0)
def MpC_k2 : List Ent := ([⟨.len #[30], [kf 5], vI 2⟩]) ++ ([⟨.idx 30, [kf 5, vI 0], kf 6⟩]) ++ ([⟨.load 3, [kf 6], kf 10⟩]) ++ ([⟨.idx 30, [kf 5, vI 1], kf 7⟩]) ++ ([⟨.load 3, [kf 7], kf 11⟩])
theorem MpC_k2_ok (P T t n : Int) (nb : Option Addr) (nn nc b off : Nat) (z : Nat → Int) (w : World) (hb : b < w.heap.size) (hz : ∀ i, i < 2 → w.cell? ⟨b, off + i, none⟩ = some (.int .i64 (z i))) : AllOKW Tryz.prog (sgV (MpTok P T t n (some ⟨b, off, none⟩) 2 nc b off z)) w w.heap.size MpC_k2 := ((AllOKW.app (AllOKW.app (AllOKW.app (AllOKW.app (AllOK.one (ent_len Tryz.underlying30 rfl rfl rfl)).w (AllOK.one (ent_idx (b := b) (off := off) (n := 2) (c := nc) (k := 0) Tryz.underlying30 Tryz.sizeOf3 rfl rfl (by omega) rfl rfl)).w) (AllOKW.cons (ent_load (v := .int .i64 (z 0)) Tryz.isAgg3 rfl hb (hz 0 (by omega)) rfl rfl) AllOKW.nil)) (AllOK.one (ent_idx (b := b) (off := off) (n := 2) (c := nc) (k := 1) Tryz.underlying30 Tryz.sizeOf3 rfl rfl (by omega) rfl rfl)).w) (AllOKW.cons (ent_load (v := .int .i64 (z 1)) Tryz.isAgg3 rfl hb (hz 1 (by omega)) rfl rfl) AllOKW.nil)))
def MpF_k2 : List FnEnt := [⟨54, [vG [kf 0, kf 1], kf 10], vB true⟩, ⟨54, [vG [kf 0, kf 1], kf 11], vB true⟩]
theorem MpF_k2_ok (P T t n : Int) (nb : Option Addr) (nn nc b off : Nat) (z : Nat → Int) (w : World) (hG : 0 ≤ w.heap.size) (hL : MayL P T) (g0 : Good (z 0)) (g1 : Good (z 1)) : ∀ e ∈ MpF_k2, FnOK Tryz.prog (sgV (MpTok P T t n (some ⟨b, off, none⟩) 2 nc b off z)) w w.heap.size e := by
  intro e he
  simp only [MpF_k2, List.mem_cons, List.not_mem_nil, or_false] at he
  rcases he with rfl | rfl
  · exact FnOK.mk rfl fun w' hw' => key_MpK rfl (headB (Nat.le_trans hG hw'.size) hL g0)
  · exact FnOK.mk rfl fun w' hw' => key_MpK rfl (headB (Nat.le_trans hG hw'.size) hL g1)
def MpC_k3 : List Ent := ([⟨.len #[30], [kf 5], vI 3⟩]) ++ ([⟨.idx 30, [kf 5, vI 0], kf 6⟩]) ++ ([⟨.load 3, [kf 6], kf 10⟩]) ++ ([⟨.idx 30, [kf 5, vI 1], kf 7⟩]) ++ ([⟨.load 3, [kf 7], kf 11⟩]) ++ ([⟨.idx 30, [kf 5, vI 2], kf 8⟩]) ++ ([⟨.load 3, [kf 8], kf 12⟩])
theorem MpC_k3_ok (P T t n : Int) (nb : Option Addr) (nn nc b off : Nat) (z : Nat → Int) (w : World) (hb : b < w.heap.size) (hz : ∀ i, i < 3 → w.cell? ⟨b, off + i, none⟩ = some (.int .i64 (z i))) : AllOKW Tryz.prog (sgV (MpTok P T t n (some ⟨b, off, none⟩) 3 nc b off z)) w w.heap.size MpC_k3 := ((AllOKW.app (AllOKW.app (AllOKW.app (AllOKW.app (AllOKW.app (AllOKW.app (AllOK.one (ent_len Tryz.underlying30 rfl rfl rfl)).w (AllOK.one (ent_idx (b := b) (off := off) (n := 3) (c := nc) (k := 0) Tryz.underlying30 Tryz.sizeOf3 rfl rfl (by omega) rfl rfl)).w) (AllOKW.cons (ent_load (v := .int .i64 (z 0)) Tryz.isAgg3 rfl hb (hz 0 (by omega)) rfl rfl) AllOKW.nil)) (AllOK.one (ent_idx (b := b) (off := off) (n := 3) (c := nc) (k := 1) Tryz.underlying30 Tryz.sizeOf3 rfl rfl (by omega) rfl rfl)).w) (AllOKW.cons (ent_load (v := .int .i64 (z 1)) Tryz.isAgg3 rfl hb (hz 1 (by omega)) rfl rfl) AllOKW.nil)) (AllOK.one (ent_idx (b := b) (off := off) (n := 3) (c := nc) (k := 2) Tryz.underlying30 Tryz.sizeOf3 rfl rfl (by omega) rfl rfl)).w) (AllOKW.cons (ent_load (v := .int .i64 (z 2)) Tryz.isAgg3 rfl hb (hz 2 (by omega)) rfl rfl) AllOKW.nil)))
def MpF_k3 : List FnEnt := [⟨54, [vG [kf 0, kf 1], kf 10], vB true⟩, ⟨54, [vG [kf 0, kf 1], kf 11], vB true⟩, ⟨54, [vG [kf 0, kf 1], kf 12], vB true⟩]
theorem MpF_k3_ok (P T t n : Int) (nb : Option Addr) (nn nc b off : Nat) (z : Nat → Int) (w : World) (hG : 0 ≤ w.heap.size) (hL : MayL P T) (g0 : Good (z 0)) (g1 : Good (z 1)) (g2 : Good (z 2)) : ∀ e ∈ MpF_k3, FnOK Tryz.prog (sgV (MpTok P T t n (some ⟨b, off, none⟩) 3 nc b off z)) w w.heap.size e := by
  intro e he
  simp only [MpF_k3, List.mem_cons, List.not_mem_nil, or_false] at he
  rcases he with rfl | rfl | rfl
  · exact FnOK.mk rfl fun w' hw' => key_MpK rfl (headB (Nat.le_trans hG hw'.size) hL g0)
  · exact FnOK.mk rfl fun w' hw' => key_MpK rfl (headB (Nat.le_trans hG hw'.size) hL g1)
  · exact FnOK.mk rfl fun w' hw' => key_MpK rfl (headB (Nat.le_trans hG hw'.size) hL g2)
def MpC_k4 : List Ent := ([⟨.len #[30], [kf 5], vI 4⟩]) ++ ([⟨.idx 30, [kf 5, vI 0], kf 6⟩]) ++ ([⟨.load 3, [kf 6], kf 10⟩]) ++ ([⟨.idx 30, [kf 5, vI 1], kf 7⟩]) ++ ([⟨.load 3, [kf 7], kf 11⟩]) ++ ([⟨.idx 30, [kf 5, vI 2], kf 8⟩]) ++ ([⟨.load 3, [kf 8], kf 12⟩]) ++ ([⟨.idx 30, [kf 5, vI 3], kf 9⟩]) ++ ([⟨.load 3, [kf 9], kf 13⟩])
theorem MpC_k4_ok (P T t n : Int) (nb : Option Addr) (nn nc b off : Nat) (z : Nat → Int) (w : World) (hb : b < w.heap.size) (hz : ∀ i, i < 4 → w.cell? ⟨b, off + i, none⟩ = some (.int .i64 (z i))) : AllOKW Tryz.prog (sgV (MpTok P T t n (some ⟨b, off, none⟩) 4 nc b off z)) w w.heap.size MpC_k4 := ((AllOKW.app (AllOKW.app (AllOKW.app (AllOKW.app (AllOKW.app (AllOKW.app (AllOKW.app (AllOKW.app (AllOK.one (ent_len Tryz.underlying30 rfl rfl rfl)).w (AllOK.one (ent_idx (b := b) (off := off) (n := 4) (c := nc) (k := 0) Tryz.underlying30 Tryz.sizeOf3 rfl rfl (by omega) rfl rfl)).w) (AllOKW.cons (ent_load (v := .int .i64 (z 0)) Tryz.isAgg3 rfl hb (hz 0 (by omega)) rfl rfl) AllOKW.nil)) (AllOK.one (ent_idx (b := b) (off := off) (n := 4) (c := nc) (k := 1) Tryz.underlying30 Tryz.sizeOf3 rfl rfl (by omega) rfl rfl)).w) (AllOKW.cons (ent_load (v := .int .i64 (z 1)) Tryz.isAgg3 rfl hb (hz 1 (by omega)) rfl rfl) AllOKW.nil)) (AllOK.one (ent_idx (b := b) (off := off) (n := 4) (c := nc) (k := 2) Tryz.underlying30 Tryz.sizeOf3 rfl rfl (by omega) rfl rfl)).w) (AllOKW.cons (ent_load (v := .int .i64 (z 2)) Tryz.isAgg3 rfl hb (hz 2 (by omega)) rfl rfl) AllOKW.nil)) (AllOK.one (ent_idx (b := b) (off := off) (n := 4) (c := nc) (k := 3) Tryz.underlying30 Tryz.sizeOf3 rfl rfl (by omega) rfl rfl)).w) (AllOKW.cons (ent_load (v := .int .i64 (z 3)) Tryz.isAgg3 rfl hb (hz 3 (by omega)) rfl rfl) AllOKW.nil)))
def MpF_k4 : List FnEnt := [⟨54, [vG [kf 0, kf 1], kf 10], vB true⟩, ⟨54, [vG [kf 0, kf 1], kf 11], vB true⟩, ⟨54, [vG [kf 0, kf 1], kf 12], vB true⟩, ⟨54, [vG [kf 0, kf 1], kf 13], vB true⟩]
theorem MpF_k4_ok (P T t n : Int) (nb : Option Addr) (nn nc b off : Nat) (z : Nat → Int) (w : World) (hG : 0 ≤ w.heap.size) (hL : MayL P T) (g0 : Good (z 0)) (g1 : Good (z 1)) (g2 : Good (z 2)) (g3 : Good (z 3)) : ∀ e ∈ MpF_k4, FnOK Tryz.prog (sgV (MpTok P T t n (some ⟨b, off, none⟩) 4 nc b off z)) w w.heap.size e := by
  intro e he
  simp only [MpF_k4, List.mem_cons, List.not_mem_nil, or_false] at he
  rcases he with rfl | rfl | rfl | rfl
  · exact FnOK.mk rfl fun w' hw' => key_MpK rfl (headB (Nat.le_trans hG hw'.size) hL g0)
  · exact FnOK.mk rfl fun w' hw' => key_MpK rfl (headB (Nat.le_trans hG hw'.size) hL g1)
  · exact FnOK.mk rfl fun w' hw' => key_MpK rfl (headB (Nat.le_trans hG hw'.size) hL g2)
  · exact FnOK.mk rfl fun w' hw' => key_MpK rfl (headB (Nat.le_trans hG hw'.size) hL g3)
def MpC_k1b0 : List Ent := ([⟨.len #[30], [kf 5], vI 1⟩]) ++ ([⟨.idx 30, [kf 5, vI 0], kf 6⟩]) ++ ([⟨.load 3, [kf 6], kf 10⟩])
theorem MpC_k1b0_ok (P T t n : Int) (nb : Option Addr) (nn nc b off : Nat) (z : Nat → Int) (w : World) (hb : b < w.heap.size) (hz : ∀ i, i < 1 → w.cell? ⟨b, off + i, none⟩ = some (.int .i64 (z i))) : AllOKW Tryz.prog (sgV (MpTok P T t n (some ⟨b, off, none⟩) 1 nc b off z)) w w.heap.size MpC_k1b0 := ((AllOKW.app (AllOKW.app (AllOK.one (ent_len Tryz.underlying30 rfl rfl rfl)).w (AllOK.one (ent_idx (b := b) (off := off) (n := 1) (c := nc) (k := 0) Tryz.underlying30 Tryz.sizeOf3 rfl rfl (by omega) rfl rfl)).w) (AllOKW.cons (ent_load (v := .int .i64 (z 0)) Tryz.isAgg3 rfl hb (hz 0 (by omega)) rfl rfl) AllOKW.nil)))
def MpF_k1b0 : List FnEnt := [⟨54, [vG [kf 0, kf 1], kf 10], vB false⟩]
theorem MpF_k1b0_ok (P T t n : Int) (nb : Option Addr) (nn nc b off : Nat) (z : Nat → Int) (w : World) (hG : 0 ≤ w.heap.size) (hL : MayL P T) (g0 : ¬ Good (z 0)) : ∀ e ∈ MpF_k1b0, FnOK Tryz.prog (sgV (MpTok P T t n (some ⟨b, off, none⟩) 1 nc b off z)) w w.heap.size e := by
  intro e he
  simp only [MpF_k1b0, List.mem_cons, List.not_mem_nil, or_false] at he
  subst he
  exact FnOK.mk rfl fun w' hw' => key_MpK rfl (headB0 (Nat.le_trans hG hw'.size) hL g0)
def MpC_k2b0 : List Ent := ([⟨.len #[30], [kf 5], vI 2⟩]) ++ ([⟨.idx 30, [kf 5, vI 0], kf 6⟩]) ++ ([⟨.load 3, [kf 6], kf 10⟩])
theorem MpC_k2b0_ok (P T t n : Int) (nb : Option Addr) (nn nc b off : Nat) (z : Nat → Int) (w : World) (hb : b < w.heap.size) (hz : ∀ i, i < 2 → w.cell? ⟨b, off + i, none⟩ = some (.int .i64 (z i))) : AllOKW Tryz.prog (sgV (MpTok P T t n (some ⟨b, off, none⟩) 2 nc b off z)) w w.heap.size MpC_k2b0 := ((AllOKW.app (AllOKW.app (AllOK.one (ent_len Tryz.underlying30 rfl rfl rfl)).w (AllOK.one (ent_idx (b := b) (off := off) (n := 2) (c := nc) (k := 0) Tryz.underlying30 Tryz.sizeOf3 rfl rfl (by omega) rfl rfl)).w) (AllOKW.cons (ent_load (v := .int .i64 (z 0)) Tryz.isAgg3 rfl hb (hz 0 (by omega)) rfl rfl) AllOKW.nil)))
def MpF_k2b0 : List FnEnt := [⟨54, [vG [kf 0, kf 1], kf 10], vB false⟩]
theorem MpF_k2b0_ok (P T t n : Int) (nb : Option Addr) (nn nc b off : Nat) (z : Nat → Int) (w : World) (hG : 0 ≤ w.heap.size) (hL : MayL P T) (g0 : ¬ Good (z 0)) : ∀ e ∈ MpF_k2b0, FnOK Tryz.prog (sgV (MpTok P T t n (some ⟨b, off, none⟩) 2 nc b off z)) w w.heap.size e := by
  intro e he
  simp only [MpF_k2b0, List.mem_cons, List.not_mem_nil, or_false] at he
  subst he
  exact FnOK.mk rfl fun w' hw' => key_MpK rfl (headB0 (Nat.le_trans hG hw'.size) hL g0)
def MpC_k2b1 : List Ent := ([⟨.len #[30], [kf 5], vI 2⟩]) ++ ([⟨.idx 30, [kf 5, vI 0], kf 6⟩]) ++ ([⟨.load 3, [kf 6], kf 10⟩]) ++ ([⟨.idx 30, [kf 5, vI 1], kf 7⟩]) ++ ([⟨.load 3, [kf 7], kf 11⟩])
theorem MpC_k2b1_ok (P T t n : Int) (nb : Option Addr) (nn nc b off : Nat) (z : Nat → Int) (w : World) (hb : b < w.heap.size) (hz : ∀ i, i < 2 → w.cell? ⟨b, off + i, none⟩ = some (.int .i64 (z i))) : AllOKW Tryz.prog (sgV (MpTok P T t n (some ⟨b, off, none⟩) 2 nc b off z)) w w.heap.size MpC_k2b1 := ((AllOKW.app (AllOKW.app (AllOKW.app (AllOKW.app (AllOK.one (ent_len Tryz.underlying30 rfl rfl rfl)).w (AllOK.one (ent_idx (b := b) (off := off) (n := 2) (c := nc) (k := 0) Tryz.underlying30 Tryz.sizeOf3 rfl rfl (by omega) rfl rfl)).w) (AllOKW.cons (ent_load (v := .int .i64 (z 0)) Tryz.isAgg3 rfl hb (hz 0 (by omega)) rfl rfl) AllOKW.nil)) (AllOK.one (ent_idx (b := b) (off := off) (n := 2) (c := nc) (k := 1) Tryz.underlying30 Tryz.sizeOf3 rfl rfl (by omega) rfl rfl)).w) (AllOKW.cons (ent_load (v := .int .i64 (z 1)) Tryz.isAgg3 rfl hb (hz 1 (by omega)) rfl rfl) AllOKW.nil)))
def MpF_k2b1 : List FnEnt := [⟨54, [vG [kf 0, kf 1], kf 10], vB true⟩, ⟨54, [vG [kf 0, kf 1], kf 11], vB false⟩]
theorem MpF_k2b1_ok (P T t n : Int) (nb : Option Addr) (nn nc b off : Nat) (z : Nat → Int) (w : World) (hG : 0 ≤ w.heap.size) (hL : MayL P T) (g0 : Good (z 0)) (g1 : ¬ Good (z 1)) : ∀ e ∈ MpF_k2b1, FnOK Tryz.prog (sgV (MpTok P T t n (some ⟨b, off, none⟩) 2 nc b off z)) w w.heap.size e := by
  intro e he
  simp only [MpF_k2b1, List.mem_cons, List.not_mem_nil, or_false] at he
  rcases he with rfl | rfl
  · exact FnOK.mk rfl fun w' hw' => key_MpK rfl (headB (Nat.le_trans hG hw'.size) hL g0)
  · exact FnOK.mk rfl fun w' hw' => key_MpK rfl (headB0 (Nat.le_trans hG hw'.size) hL g1)
def MpC_k3b0 : List Ent := ([⟨.len #[30], [kf 5], vI 3⟩]) ++ ([⟨.idx 30, [kf 5, vI 0], kf 6⟩]) ++ ([⟨.load 3, [kf 6], kf 10⟩])
theorem MpC_k3b0_ok (P T t n : Int) (nb : Option Addr) (nn nc b off : Nat) (z : Nat → Int) (w : World) (hb : b < w.heap.size) (hz : ∀ i, i < 3 → w.cell? ⟨b, off + i, none⟩ = some (.int .i64 (z i))) : AllOKW Tryz.prog (sgV (MpTok P T t n (some ⟨b, off, none⟩) 3 nc b off z)) w w.heap.size MpC_k3b0 := ((AllOKW.app (AllOKW.app (AllOK.one (ent_len Tryz.underlying30 rfl rfl rfl)).w (AllOK.one (ent_idx (b := b) (off := off) (n := 3) (c := nc) (k := 0) Tryz.underlying30 Tryz.sizeOf3 rfl rfl (by omega) rfl rfl)).w) (AllOKW.cons (ent_load (v := .int .i64 (z 0)) Tryz.isAgg3 rfl hb (hz 0 (by omega)) rfl rfl) AllOKW.nil)))
def MpF_k3b0 : List FnEnt := [⟨54, [vG [kf 0, kf 1], kf 10], vB false⟩]
theorem MpF_k3b0_ok (P T t n : Int) (nb : Option Addr) (nn nc b off : Nat) (z : Nat → Int) (w : World) (hG : 0 ≤ w.heap.size) (hL : MayL P T) (g0 : ¬ Good (z 0)) : ∀ e ∈ MpF_k3b0, FnOK Tryz.prog (sgV (MpTok P T t n (some ⟨b, off, none⟩) 3 nc b off z)) w w.heap.size e := by
  intro e he
  simp only [MpF_k3b0, List.mem_cons, List.not_mem_nil, or_false] at he
  subst he
  exact FnOK.mk rfl fun w' hw' => key_MpK rfl (headB0 (Nat.le_trans hG hw'.size) hL g0)
def MpC_k3b1 : List Ent := ([⟨.len #[30], [kf 5], vI 3⟩]) ++ ([⟨.idx 30, [kf 5, vI 0], kf 6⟩]) ++ ([⟨.load 3, [kf 6], kf 10⟩]) ++ ([⟨.idx 30, [kf 5, vI 1], kf 7⟩]) ++ ([⟨.load 3, [kf 7], kf 11⟩])
theorem MpC_k3b1_ok (P T t n : Int) (nb : Option Addr) (nn nc b off : Nat) (z : Nat → Int) (w : World) (hb : b < w.heap.size) (hz : ∀ i, i < 3 → w.cell? ⟨b, off + i, none⟩ = some (.int .i64 (z i))) : AllOKW Tryz.prog (sgV (MpTok P T t n (some ⟨b, off, none⟩) 3 nc b off z)) w w.heap.size MpC_k3b1 := ((AllOKW.app (AllOKW.app (AllOKW.app (AllOKW.app (AllOK.one (ent_len Tryz.underlying30 rfl rfl rfl)).w (AllOK.one (ent_idx (b := b) (off := off) (n := 3) (c := nc) (k := 0) Tryz.underlying30 Tryz.sizeOf3 rfl rfl (by omega) rfl rfl)).w) (AllOKW.cons (ent_load (v := .int .i64 (z 0)) Tryz.isAgg3 rfl hb (hz 0 (by omega)) rfl rfl) AllOKW.nil)) (AllOK.one (ent_idx (b := b) (off := off) (n := 3) (c := nc) (k := 1) Tryz.underlying30 Tryz.sizeOf3 rfl rfl (by omega) rfl rfl)).w) (AllOKW.cons (ent_load (v := .int .i64 (z 1)) Tryz.isAgg3 rfl hb (hz 1 (by omega)) rfl rfl) AllOKW.nil)))
def MpF_k3b1 : List FnEnt := [⟨54, [vG [kf 0, kf 1], kf 10], vB true⟩, ⟨54, [vG [kf 0, kf 1], kf 11], vB false⟩]
theorem MpF_k3b1_ok (P T t n : Int) (nb : Option Addr) (nn nc b off : Nat) (z : Nat → Int) (w : World) (hG : 0 ≤ w.heap.size) (hL : MayL P T) (g0 : Good (z 0)) (g1 : ¬ Good (z 1)) : ∀ e ∈ MpF_k3b1, FnOK Tryz.prog (sgV (MpTok P T t n (some ⟨b, off, none⟩) 3 nc b off z)) w w.heap.size e := by
  intro e he
  simp only [MpF_k3b1, List.mem_cons, List.not_mem_nil, or_false] at he
  rcases he with rfl | rfl
  · exact FnOK.mk rfl fun w' hw' => key_MpK rfl (headB (Nat.le_trans hG hw'.size) hL g0)
  · exact FnOK.mk rfl fun w' hw' => key_MpK rfl (headB0 (Nat.le_trans hG hw'.size) hL g1)
def MpC_k3b2 : List Ent := ([⟨.len #[30], [kf 5], vI 3⟩]) ++ ([⟨.idx 30, [kf 5, vI 0], kf 6⟩]) ++ ([⟨.load 3, [kf 6], kf 10⟩]) ++ ([⟨.idx 30, [kf 5, vI 1], kf 7⟩]) ++ ([⟨.load 3, [kf 7], kf 11⟩]) ++ ([⟨.idx 30, [kf 5, vI 2], kf 8⟩]) ++ ([⟨.load 3, [kf 8], kf 12⟩])
theorem MpC_k3b2_ok (P T t n : Int) (nb : Option Addr) (nn nc b off : Nat) (z : Nat → Int) (w : World) (hb : b < w.heap.size) (hz : ∀ i, i < 3 → w.cell? ⟨b, off + i, none⟩ = some (.int .i64 (z i))) : AllOKW Tryz.prog (sgV (MpTok P T t n (some ⟨b, off, none⟩) 3 nc b off z)) w w.heap.size MpC_k3b2 := ((AllOKW.app (AllOKW.app (AllOKW.app (AllOKW.app (AllOKW.app (AllOKW.app (AllOK.one (ent_len Tryz.underlying30 rfl rfl rfl)).w (AllOK.one (ent_idx (b := b) (off := off) (n := 3) (c := nc) (k := 0) Tryz.underlying30 Tryz.sizeOf3 rfl rfl (by omega) rfl rfl)).w) (AllOKW.cons (ent_load (v := .int .i64 (z 0)) Tryz.isAgg3 rfl hb (hz 0 (by omega)) rfl rfl) AllOKW.nil)) (AllOK.one (ent_idx (b := b) (off := off) (n := 3) (c := nc) (k := 1) Tryz.underlying30 Tryz.sizeOf3 rfl rfl (by omega) rfl rfl)).w) (AllOKW.cons (ent_load (v := .int .i64 (z 1)) Tryz.isAgg3 rfl hb (hz 1 (by omega)) rfl rfl) AllOKW.nil)) (AllOK.one (ent_idx (b := b) (off := off) (n := 3) (c := nc) (k := 2) Tryz.underlying30 Tryz.sizeOf3 rfl rfl (by omega) rfl rfl)).w) (AllOKW.cons (ent_load (v := .int .i64 (z 2)) Tryz.isAgg3 rfl hb (hz 2 (by omega)) rfl rfl) AllOKW.nil)))
def MpF_k3b2 : List FnEnt := [⟨54, [vG [kf 0, kf 1], kf 10], vB true⟩, ⟨54, [vG [kf 0, kf 1], kf 11], vB true⟩, ⟨54, [vG [kf 0, kf 1], kf 12], vB false⟩]
theorem MpF_k3b2_ok (P T t n : Int) (nb : Option Addr) (nn nc b off : Nat) (z : Nat → Int) (w : World) (hG : 0 ≤ w.heap.size) (hL : MayL P T) (g0 : Good (z 0)) (g1 : Good (z 1)) (g2 : ¬ Good (z 2)) : ∀ e ∈ MpF_k3b2, FnOK Tryz.prog (sgV (MpTok P T t n (some ⟨b, off, none⟩) 3 nc b off z)) w w.heap.size e := by
  intro e he
  simp only [MpF_k3b2, List.mem_cons, List.not_mem_nil, or_false] at he
  rcases he with rfl | rfl | rfl
  · exact FnOK.mk rfl fun w' hw' => key_MpK rfl (headB (Nat.le_trans hG hw'.size) hL g0)
  · exact FnOK.mk rfl fun w' hw' => key_MpK rfl (headB (Nat.le_trans hG hw'.size) hL g1)
  · exact FnOK.mk rfl fun w' hw' => key_MpK rfl (headB0 (Nat.le_trans hG hw'.size) hL g2)
def MpC_k4b0 : List Ent := ([⟨.len #[30], [kf 5], vI 4⟩]) ++ ([⟨.idx 30, [kf 5, vI 0], kf 6⟩]) ++ ([⟨.load 3, [kf 6], kf 10⟩])
theorem MpC_k4b0_ok (P T t n : Int) (nb : Option Addr) (nn nc b off : Nat) (z : Nat → Int) (w : World) (hb : b < w.heap.size) (hz : ∀ i, i < 4 → w.cell? ⟨b, off + i, none⟩ = some (.int .i64 (z i))) : AllOKW Tryz.prog (sgV (MpTok P T t n (some ⟨b, off, none⟩) 4 nc b off z)) w w.heap.size MpC_k4b0 := ((AllOKW.app (AllOKW.app (AllOK.one (ent_len Tryz.underlying30 rfl rfl rfl)).w (AllOK.one (ent_idx (b := b) (off := off) (n := 4) (c := nc) (k := 0) Tryz.underlying30 Tryz.sizeOf3 rfl rfl (by omega) rfl rfl)).w) (AllOKW.cons (ent_load (v := .int .i64 (z 0)) Tryz.isAgg3 rfl hb (hz 0 (by omega)) rfl rfl) AllOKW.nil)))
def MpF_k4b0 : List FnEnt := [⟨54, [vG [kf 0, kf 1], kf 10], vB false⟩]
theorem MpF_k4b0_ok (P T t n : Int) (nb : Option Addr) (nn nc b off : Nat) (z : Nat → Int) (w : World) (hG : 0 ≤ w.heap.size) (hL : MayL P T) (g0 : ¬ Good (z 0)) : ∀ e ∈ MpF_k4b0, FnOK Tryz.prog (sgV (MpTok P T t n (some ⟨b, off, none⟩) 4 nc b off z)) w w.heap.size e := by
  intro e he
  simp only [MpF_k4b0, List.mem_cons, List.not_mem_nil, or_false] at he
  subst he
  exact FnOK.mk rfl fun w' hw' => key_MpK rfl (headB0 (Nat.le_trans hG hw'.size) hL g0)
def MpC_k4b1 : List Ent := ([⟨.len #[30], [kf 5], vI 4⟩]) ++ ([⟨.idx 30, [kf 5, vI 0], kf 6⟩]) ++ ([⟨.load 3, [kf 6], kf 10⟩]) ++ ([⟨.idx 30, [kf 5, vI 1], kf 7⟩]) ++ ([⟨.load 3, [kf 7], kf 11⟩])
theorem MpC_k4b1_ok (P T t n : Int) (nb : Option Addr) (nn nc b off : Nat) (z : Nat → Int) (w : World) (hb : b < w.heap.size) (hz : ∀ i, i < 4 → w.cell? ⟨b, off + i, none⟩ = some (.int .i64 (z i))) : AllOKW Tryz.prog (sgV (MpTok P T t n (some ⟨b, off, none⟩) 4 nc b off z)) w w.heap.size MpC_k4b1 := ((AllOKW.app (AllOKW.app (AllOKW.app (AllOKW.app (AllOK.one (ent_len Tryz.underlying30 rfl rfl rfl)).w (AllOK.one (ent_idx (b := b) (off := off) (n := 4) (c := nc) (k := 0) Tryz.underlying30 Tryz.sizeOf3 rfl rfl (by omega) rfl rfl)).w) (AllOKW.cons (ent_load (v := .int .i64 (z 0)) Tryz.isAgg3 rfl hb (hz 0 (by omega)) rfl rfl) AllOKW.nil)) (AllOK.one (ent_idx (b := b) (off := off) (n := 4) (c := nc) (k := 1) Tryz.underlying30 Tryz.sizeOf3 rfl rfl (by omega) rfl rfl)).w) (AllOKW.cons (ent_load (v := .int .i64 (z 1)) Tryz.isAgg3 rfl hb (hz 1 (by omega)) rfl rfl) AllOKW.nil)))
def MpF_k4b1 : List FnEnt := [⟨54, [vG [kf 0, kf 1], kf 10], vB true⟩, ⟨54, [vG [kf 0, kf 1], kf 11], vB false⟩]
theorem MpF_k4b1_ok (P T t n : Int) (nb : Option Addr) (nn nc b off : Nat) (z : Nat → Int) (w : World) (hG : 0 ≤ w.heap.size) (hL : MayL P T) (g0 : Good (z 0)) (g1 : ¬ Good (z 1)) : ∀ e ∈ MpF_k4b1, FnOK Tryz.prog (sgV (MpTok P T t n (some ⟨b, off, none⟩) 4 nc b off z)) w w.heap.size e := by
  intro e he
  simp only [MpF_k4b1, List.mem_cons, List.not_mem_nil, or_false] at he
  rcases he with rfl | rfl
  · exact FnOK.mk rfl fun w' hw' => key_MpK rfl (headB (Nat.le_trans hG hw'.size) hL g0)
  · exact FnOK.mk rfl fun w' hw' => key_MpK rfl (headB0 (Nat.le_trans hG hw'.size) hL g1)
def MpC_k4b2 : List Ent := ([⟨.len #[30], [kf 5], vI 4⟩]) ++ ([⟨.idx 30, [kf 5, vI 0], kf 6⟩]) ++ ([⟨.load 3, [kf 6], kf 10⟩]) ++ ([⟨.idx 30, [kf 5, vI 1], kf 7⟩]) ++ ([⟨.load 3, [kf 7], kf 11⟩]) ++ ([⟨.idx 30, [kf 5, vI 2], kf 8⟩]) ++ ([⟨.load 3, [kf 8], kf 12⟩])
theorem MpC_k4b2_ok (P T t n : Int) (nb : Option Addr) (nn nc b off : Nat) (z : Nat → Int) (w : World) (hb : b < w.heap.size) (hz : ∀ i, i < 4 → w.cell? ⟨b, off + i, none⟩ = some (.int .i64 (z i))) : AllOKW Tryz.prog (sgV (MpTok P T t n (some ⟨b, off, none⟩) 4 nc b off z)) w w.heap.size MpC_k4b2 := ((AllOKW.app (AllOKW.app (AllOKW.app (AllOKW.app (AllOKW.app (AllOKW.app (AllOK.one (ent_len Tryz.underlying30 rfl rfl rfl)).w (AllOK.one (ent_idx (b := b) (off := off) (n := 4) (c := nc) (k := 0) Tryz.underlying30 Tryz.sizeOf3 rfl rfl (by omega) rfl rfl)).w) (AllOKW.cons (ent_load (v := .int .i64 (z 0)) Tryz.isAgg3 rfl hb (hz 0 (by omega)) rfl rfl) AllOKW.nil)) (AllOK.one (ent_idx (b := b) (off := off) (n := 4) (c := nc) (k := 1) Tryz.underlying30 Tryz.sizeOf3 rfl rfl (by omega) rfl rfl)).w) (AllOKW.cons (ent_load (v := .int .i64 (z 1)) Tryz.isAgg3 rfl hb (hz 1 (by omega)) rfl rfl) AllOKW.nil)) (AllOK.one (ent_idx (b := b) (off := off) (n := 4) (c := nc) (k := 2) Tryz.underlying30 Tryz.sizeOf3 rfl rfl (by omega) rfl rfl)).w) (AllOKW.cons (ent_load (v := .int .i64 (z 2)) Tryz.isAgg3 rfl hb (hz 2 (by omega)) rfl rfl) AllOKW.nil)))
def MpF_k4b2 : List FnEnt := [⟨54, [vG [kf 0, kf 1], kf 10], vB true⟩, ⟨54, [vG [kf 0, kf 1], kf 11], vB true⟩, ⟨54, [vG [kf 0, kf 1], kf 12], vB false⟩]
theorem MpF_k4b2_ok (P T t n : Int) (nb : Option Addr) (nn nc b off : Nat) (z : Nat → Int) (w : World) (hG : 0 ≤ w.heap.size) (hL : MayL P T) (g0 : Good (z 0)) (g1 : Good (z 1)) (g2 : ¬ Good (z 2)) : ∀ e ∈ MpF_k4b2, FnOK Tryz.prog (sgV (MpTok P T t n (some ⟨b, off, none⟩) 4 nc b off z)) w w.heap.size e := by
  intro e he
  simp only [MpF_k4b2, List.mem_cons, List.not_mem_nil, or_false] at he
  rcases he with rfl | rfl | rfl
  · exact FnOK.mk rfl fun w' hw' => key_MpK rfl (headB (Nat.le_trans hG hw'.size) hL g0)
  · exact FnOK.mk rfl fun w' hw' => key_MpK rfl (headB (Nat.le_trans hG hw'.size) hL g1)
  · exact FnOK.mk rfl fun w' hw' => key_MpK rfl (headB0 (Nat.le_trans hG hw'.size) hL g2)
def MpC_k4b3 : List Ent := ([⟨.len #[30], [kf 5], vI 4⟩]) ++ ([⟨.idx 30, [kf 5, vI 0], kf 6⟩]) ++ ([⟨.load 3, [kf 6], kf 10⟩]) ++ ([⟨.idx 30, [kf 5, vI 1], kf 7⟩]) ++ ([⟨.load 3, [kf 7], kf 11⟩]) ++ ([⟨.idx 30, [kf 5, vI 2], kf 8⟩]) ++ ([⟨.load 3, [kf 8], kf 12⟩]) ++ ([⟨.idx 30, [kf 5, vI 3], kf 9⟩]) ++ ([⟨.load 3, [kf 9], kf 13⟩])
theorem MpC_k4b3_ok (P T t n : Int) (nb : Option Addr) (nn nc b off : Nat) (z : Nat → Int) (w : World) (hb : b < w.heap.size) (hz : ∀ i, i < 4 → w.cell? ⟨b, off + i, none⟩ = some (.int .i64 (z i))) : AllOKW Tryz.prog (sgV (MpTok P T t n (some ⟨b, off, none⟩) 4 nc b off z)) w w.heap.size MpC_k4b3 := ((AllOKW.app (AllOKW.app (AllOKW.app (AllOKW.app (AllOKW.app (AllOKW.app (AllOKW.app (AllOKW.app (AllOK.one (ent_len Tryz.underlying30 rfl rfl rfl)).w (AllOK.one (ent_idx (b := b) (off := off) (n := 4) (c := nc) (k := 0) Tryz.underlying30 Tryz.sizeOf3 rfl rfl (by omega) rfl rfl)).w) (AllOKW.cons (ent_load (v := .int .i64 (z 0)) Tryz.isAgg3 rfl hb (hz 0 (by omega)) rfl rfl) AllOKW.nil)) (AllOK.one (ent_idx (b := b) (off := off) (n := 4) (c := nc) (k := 1) Tryz.underlying30 Tryz.sizeOf3 rfl rfl (by omega) rfl rfl)).w) (AllOKW.cons (ent_load (v := .int .i64 (z 1)) Tryz.isAgg3 rfl hb (hz 1 (by omega)) rfl rfl) AllOKW.nil)) (AllOK.one (ent_idx (b := b) (off := off) (n := 4) (c := nc) (k := 2) Tryz.underlying30 Tryz.sizeOf3 rfl rfl (by omega) rfl rfl)).w) (AllOKW.cons (ent_load (v := .int .i64 (z 2)) Tryz.isAgg3 rfl hb (hz 2 (by omega)) rfl rfl) AllOKW.nil)) (AllOK.one (ent_idx (b := b) (off := off) (n := 4) (c := nc) (k := 3) Tryz.underlying30 Tryz.sizeOf3 rfl rfl (by omega) rfl rfl)).w) (AllOKW.cons (ent_load (v := .int .i64 (z 3)) Tryz.isAgg3 rfl hb (hz 3 (by omega)) rfl rfl) AllOKW.nil)))
def MpF_k4b3 : List FnEnt := [⟨54, [vG [kf 0, kf 1], kf 10], vB true⟩, ⟨54, [vG [kf 0, kf 1], kf 11], vB true⟩, ⟨54, [vG [kf 0, kf 1], kf 12], vB true⟩, ⟨54, [vG [kf 0, kf 1], kf 13], vB false⟩]
theorem MpF_k4b3_ok (P T t n : Int) (nb : Option Addr) (nn nc b off : Nat) (z : Nat → Int) (w : World) (hG : 0 ≤ w.heap.size) (hL : MayL P T) (g0 : Good (z 0)) (g1 : Good (z 1)) (g2 : Good (z 2)) (g3 : ¬ Good (z 3)) : ∀ e ∈ MpF_k4b3, FnOK Tryz.prog (sgV (MpTok P T t n (some ⟨b, off, none⟩) 4 nc b off z)) w w.heap.size e := by
  intro e he
  simp only [MpF_k4b3, List.mem_cons, List.not_mem_nil, or_false] at he
  rcases he with rfl | rfl | rfl | rfl
  · exact FnOK.mk rfl fun w' hw' => key_MpK rfl (headB (Nat.le_trans hG hw'.size) hL g0)
  · exact FnOK.mk rfl fun w' hw' => key_MpK rfl (headB (Nat.le_trans hG hw'.size) hL g1)
  · exact FnOK.mk rfl fun w' hw' => key_MpK rfl (headB (Nat.le_trans hG hw'.size) hL g2)
  · exact FnOK.mk rfl fun w' hw' => key_MpK rfl (headB0 (Nat.le_trans hG hw'.size) hL g3)
end Go.Proofs.YthggcmhmjkmjnaaGreat
