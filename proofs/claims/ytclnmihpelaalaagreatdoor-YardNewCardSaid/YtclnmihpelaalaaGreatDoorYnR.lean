/- Walks: free runs of any number of pages, with any draws. -/
import Derived.Test.YtclnmihpelaalaaGreatDoorRows
import Derived.Test.YtclnmihpelaalaaGreatDoorOwn
import Derived.Test.YtclnmihpelaalaaGreatDoorRefl24
import Derived.Test.YtclnmihpelaalaaGreatDoorRefl21
import Derived.OpenShut
namespace Go.Proofs.YtclnmihpelaalaaGreatDoor
open Go.RowKit Go.IntWalk
set_option linter.unusedVariables false
set_option linter.unusedSimpArgs false

/-- A slice of u32s that came in. -/
def DrawsR (w : World) (A : Option Addr) (n : Nat) (d : Nat → Int) : Prop := SlR w A n 1 (fun j => .int .u32 (d j))
theorem Tryz.infoU32 : (Tryz.prog.info? 119).map (fun i => (i.zero, i.size, i.bytes)) = some (some (.int .u32 0), 1, 4) := by kernel_rfl
theorem Tryz.infoRun : (Tryz.prog.info? 123).map (fun i => (i.zero, i.size, i.bytes)) = some (some (.agg #[.int .i64 0, .int .i64 0]), 2, 16) := by kernel_rfl

set_option maxHeartbeats 2000000 in
set_option maxRecDepth 100000 in
theorem cloneU_any (A : Option Addr) (n c : Nat) (d : Nat → Int) (w : World) (hA : A = none → n = 0) (hn : n ≤ 100) (hd : DrawsR w A n d) :
    Calls Tryz.prog 54 #[.slice A n c] w fun e w' => ∃ A' c', e = .returned (.slice A' n c') ∧ DrawsR w' A' n d ∧ Ext w w' := by
  obtain ⟨i0, hi, hz0, hz1, hz2⟩ := info_parts Tryz.infoU32
  have q22 : ∀ (w : World) (a : Option Addr) (n c n' c' : Nat), (binOp .eql 22 (.slice a n c) (.slice none n' c')).run Tryz.prog w = .ok (.bool a.isNone) w := fun w a n c n' c' => Lib.run_eql_slice_nil w _ _ a n c n' c' Tryz.underlying22
  have HD := Lib.hid (And.intro hd hA)
  clear hd hA
  cases A with
  | none =>
    have h0 := HD.out.2 rfl
    subst h0
    go_enter Tryz.func54, Tryz.ntmps54
    go_wp2
    go_ret
    exact ⟨none, ⟨0, rfl⟩, SlR.nil, Ext.refl _⟩
  | some a =>
    go_enter Tryz.func54, Tryz.ntmps54
    go_wp2_with (at_builtin; refine wpList_pushAll rfl _ _ 22 rfl w.heap.size 119 i0 (.int .u32 0) 1 4 Tryz.underlying22 hi hz0 hz1 hz2 rfl (by decide) _ 0 (fun _ => undef) rfl (OwnS.lit0 w _ 1 _) (some a) n c (fun j => .int .u32 (d j)) rfl ?qc1 (fun _ _ => rfl) ?qc4 ?qc5 ?qc6 (fun j => .int .u32 (d j)) (fun j hj => absurd hj (by omega)) (fun j hj => by rw [Nat.zero_mul, Nat.zero_add]) n (Nat.zero_add _) ?_)
    case qc1 => exact SlR.ext HD.out.1 ((Ext.refl _).alloc _)
    case qc4 => unfold maxLen; omega
    case qc5 => omega
    case qc6 => simp
    intro A' c' w1 hown hgrow hE hor
    go_wp2
    go_ret
    refine ⟨A', c', rfl, ?_, hE w ((Ext.refl _).alloc _) (Nat.le_refl _)⟩
    obtain ⟨A2, c2, e2, _, hs⟩ := hown.form
    cases e2
    exact hs

/-- What is known of the numbers, and of the draws: some; none. -/
def YnRe : List Ent := ⟨.len #[22], [kf 1], kf 2⟩ :: (eLt 3 (vI 0) (kf 2) ++ [⟨.idx 22, [kf 1, vI 0], kf 3⟩, ⟨.load 119, [kf 3], kf 4⟩, ⟨.bin .mul 3, [vI 8192, kf 0], kf 5⟩, ⟨.bin .add 3, [kf 5, vI 0], kf 5⟩, ⟨.bin .add 3, [vI 0, kf 0], kf 0⟩])
def YnRf : List Ent := ⟨.len #[22], [kf 1], kf 2⟩ :: (eGe 3 (vI 0) (kf 2) ++ [⟨.bin .mul 3, [vI 8192, kf 0], kf 5⟩, ⟨.bin .add 3, [kf 5, vI 0], kf 5⟩, ⟨.bin .add 3, [vI 0, kf 0], kf 0⟩])
def YnRw : World := mkW [.cells #[kf 6, kf 1, vI 0, vP 1 0, vZ, vI 0] 126, .cells #[vN, vI 0] 162]
set_option maxHeartbeats 8000000 in
set_option maxRecDepth 100000 in
theorem YnR_et : (evCall (ev Tryz.prog (orcL YnRe (fsL [])) 0 900) Tryz.prog (orcL YnRe (fsL [])) [] 56 #[vP 0 0, .agg #[vI 0, kf 0]] YnRw).isSome = true := by decide +kernel
set_option maxHeartbeats 8000000 in
set_option maxRecDepth 100000 in
theorem YnR_ft : (evCall (ev Tryz.prog (orcL YnRf (fsL [])) 0 900) Tryz.prog (orcL YnRf (fsL [])) [] 56 #[vP 0 0, .agg #[vI 0, kf 0]] YnRw).isSome = true := by decide +kernel
theorem YnR_args {σ : Nat → Value} {r T : Nat} {n : Int} (h0 : σ 0 = .int .i64 n) : RAr σ (twoR r T) #[vP 0 0, .agg #[vI 0, kf 0]] #[.pointer (some ⟨r, 0, none⟩), .agg #[.int .i64 0, .int .i64 n]] := by
  refine ⟨rfl, fun i v v' h1 h2 => ?_⟩
  rcases i with _ | _ | i
  · cases h1; cases h2
    exact RV.ptr (A := twoR r T) ⟨0, 0, none⟩ (show 0 < 2 by decide)
  · cases h1; cases h2
    refine .agg _ _ rfl fun i v v' h1 h2 => ?_
    rcases i with _ | _ | i
    · cases h1; cases h2; exact .int _ _
    · cases h1; cases h2; rw [← h0]; exact .tok _ _
    · simp at h1
  · simp at h1
theorem YnR_r {σ : Nat → Value} {r T : Nat} {p : Int} {D : Value} (h6 : σ 6 = .int .i64 p) (h1 : σ 1 = D) : RAr σ (twoR r T) #[kf 6, kf 1, vI 0, vP 1 0, vZ, vI 0] #[.int .i64 p, D, .int .i64 0, .pointer (some ⟨T, 0, none⟩), .slice none 0 0, .int .i64 0] := by
  refine ⟨rfl, fun i v v' e1 e2 => ?_⟩
  rcases i with _ | _ | _ | _ | _ | _ | i
  · cases e1; cases e2; rw [← h6]; exact .tok _ _
  · cases e1; cases e2; rw [← h1]; exact .tok _ _
  · cases e1; cases e2; exact .int _ _
  · cases e1; cases e2; exact RV.ptr (A := twoR r T) ⟨1, 0, none⟩ (show 1 < 2 by decide)
  · cases e1; cases e2; exact .slice0 _ _
  · cases e1; cases e2; exact .int _ _
  · simp at e1
theorem YnR_T {σ : Nat → Value} {r T : Nat} : RAr σ (twoR r T) #[vN, vI 0] #[.pointer none, .int .i64 0] := by
  refine ⟨rfl, fun i v v' e1 e2 => ?_⟩
  rcases i with _ | _ | i
  · cases e1; cases e2; exact .nilp
  · cases e1; cases e2; exact .int _ _
  · simp at e1
theorem put0_any (r T : Nat) (p n : Int) (DA : Option Addr) (dn dc : Nat) (d : Nat → Int) (W0 w : World) (hr : Blk w r 126 #[.int .i64 p, .slice DA dn dc, .int .i64 0, .pointer (some ⟨T, 0, none⟩), .slice none 0 0, .int .i64 0])
    (hT : Blk w T 162 #[.pointer none, .int .i64 0]) (hd : DrawsR W0 DA dn d) (hE : Ext W0 w) (hlr : W0.heap.size ≤ r) (hlT : W0.heap.size ≤ T) (hne : r ≠ T) (hn0 : 0 ≤ n) (hn : n ≤ 4096) (hdn : dn ≤ 100) :
    Calls Tryz.prog 56 #[.pointer (some ⟨r, 0, none⟩), .agg #[.int .i64 0, .int .i64 n]] w fun e w' => (∃ v, e = .returned v) ∧ Ext W0 w' := by
  by_cases h0 : 0 < dn
  · obtain ⟨b, off, rfl, hc⟩ := hd (by omega)
    have cd := hc 0 (by omega)
    rw [Nat.add_zero] at cd
    have hbl : b < W0.heap.size := World.block_lt_of_cell? _ _ cd
    have hl : TokL [.int .i64 n, .slice (some ⟨b, off, none⟩) dn dc, .int .i64 dn, .pointer (some ⟨b, off, none⟩), .int .u32 (d 0), .int .i64 (8192 * n), .int .i64 p] := .int (.cons trivial (fun h => by cases h) (.int (.ptr (.cons trivial (fun h => by cases h) (.int (.int .nil))))))
    have hes : AllOKW Tryz.prog (sgV [.int .i64 n, .slice (some ⟨b, off, none⟩) dn dc, .int .i64 dn, .pointer (some ⟨b, off, none⟩), .int .u32 (d 0), .int .i64 (8192 * n), .int .i64 p]) W0 W0.heap.size YnRe := by
      refine .cons (ent_len Tryz.underlying22 rfl rfl rfl).w (.app (AllOK.w (okLt (a := 0) (c := dn) rfl rfl (by omega))) (.cons (ent_idx (k := 0) Tryz.underlying22 (fun w => by go_simp) rfl rfl h0 rfl rfl).w (.cons (ent_load (v := .int .u32 (d 0)) (fun w => by go_simp) rfl hbl cd rfl rfl) (.cons (ent_mul (a := 8192) (c := n) rfl rfl ?_ rfl).w (.cons (ent_add (a := 8192 * n) (c := 0) rfl rfl ?_ rfl).w (.cons (ent_add (a := 0) (c := n) rfl rfl ?_ rfl).w .nil))))))
      · show Value.int .i64 (8192 * n) = _; rw [i64_in _ (by omega)]
      · show Value.int .i64 (8192 * n) = _; rw [i64_in _ (by omega), Int.add_zero]
      · show Value.int .i64 n = _; rw [i64_in _ (by omega), Int.zero_add]
    exact ev_callsW (sgV_one hl) (orcL_okW hes (sgV_ne hl) (fsL_ok (fun e he => by cases he))) (WR.two hE hr hT hlr hlT hne (YnR_r rfl rfl) YnR_T) YnR_et (YnR_args rfl)
  · obtain rfl : dn = 0 := by omega
    have hl : TokL [.int .i64 n, .slice DA 0 dc, .int .i64 (0 : Nat), .int .i64 0, .int .i64 0, .int .i64 (8192 * n), .int .i64 p] := .int (.cons trivial (fun h => by cases h) (.int (.int (.int (.int (.int .nil))))))
    have hes : AllOKW Tryz.prog (sgV [.int .i64 n, .slice DA 0 dc, .int .i64 (0 : Nat), .int .i64 0, .int .i64 0, .int .i64 (8192 * n), .int .i64 p]) W0 W0.heap.size YnRf := by
      refine .cons (ent_len Tryz.underlying22 rfl rfl rfl).w (.app (AllOK.w (okGe (a := 0) (c := 0) rfl rfl (by omega))) (.cons (ent_mul (a := 8192) (c := n) rfl rfl ?_ rfl).w (.cons (ent_add (a := 8192 * n) (c := 0) rfl rfl ?_ rfl).w (.cons (ent_add (a := 0) (c := n) rfl rfl ?_ rfl).w .nil))))
      · show Value.int .i64 (8192 * n) = _; rw [i64_in _ (by omega)]
      · show Value.int .i64 (8192 * n) = _; rw [i64_in _ (by omega), Int.add_zero]
      · show Value.int .i64 n = _; rw [i64_in _ (by omega), Int.zero_add]
    exact ev_callsW (sgV_one hl) (orcL_okW hes (sgV_ne hl) (fsL_ok (fun e he => by cases he))) (WR.two hE hr hT hlr hlT hne (YnR_r rfl rfl) YnR_T) YnR_ft (YnR_args rfl)

set_option maxHeartbeats 400000 in
theorem tnew_any (w : World) : Calls Tryz.prog 55 #[] w fun e w' => e = .returned (.pointer (some ⟨w.heap.size, 0, none⟩)) ∧ w' = w.alloc (.cells #[.pointer none, .int .i64 0] 162) := by
  go_enter Tryz.func55, Tryz.ntmps55
  go_wp2
  go_ret
  exact ⟨rfl, rfl⟩
set_option maxHeartbeats 2000000 in
set_option maxRecDepth 100000 in
theorem runsNew_any (p : Int) (DA : Option Addr) (dn dc : Nat) (d : Nat → Int) (w : World) (hA : DA = none → dn = 0) (hn : dn ≤ 100) (hd : DrawsR w DA dn d) (h1 : 1 ≤ p) (h2 : p ≤ 4096) :
    Calls Tryz.prog 32 #[.int .i64 p, .slice DA dn dc] w fun e w' => (∃ a, e = .returned (.pointer a)) ∧ Ext w w' := by
  have HD := Lib.hid hd
  clear hd
  have q1 : decide (p < 1) = false := by rw [decide_eq_false_iff_not]; omega
  have q2 : decide (4096 < p) = false := by rw [decide_eq_false_iff_not]; omega
  go_enter Tryz.func32, Tryz.ntmps32
  go_wp2_with (first
    | (go_at_call 54; refine (cloneU_any DA dn dc d _ hA hn HD.out).mono ?_; rintro e w1 ⟨A1, c1, rfl, hD1, hE1⟩; have HD1 := Lib.hid (And.intro hD1 hE1); clear hD1 hE1)
    | (go_at_call 55; refine (tnew_any _).mono ?_; rintro e w3 ⟨rfl, rfl⟩)
    | (go_at_call 56; refine (put0_any (w1.heap.size + 1) w1.heap.size p p A1 dn c1 d w1 _ ?h1 ?h2 HD1.out.1 ?h4 (Nat.le_succ _) (Nat.le_refl _) (Nat.succ_ne_self _) (Int.le_trans (by decide) h1) h2 hn).mono ?_; (case h1 => exact Blk.new _ _ _ _ (by simp)); (case h2 => exact (Blk.new w1 _ _ _ rfl).alloc _); (case h4 => exact ((Ext.refl _).alloc _).alloc _); rintro e w2 ⟨⟨v2, rfl⟩, hE2⟩))
  go_ret
  exact ⟨⟨_, rfl⟩, HD1.out.2.trans hE2⟩
end Go.Proofs.YtclnmihpelaalaaGreatDoor
