/- Walks: an arena of any setup. -/
import Derived.Test.YtclnmihpelaalaaGreatDoorYnR
import Derived.Test.YtclnmihpelaalaaGreatDoorScript
namespace Go.Proofs.YtclnmihpelaalaaGreatDoor
open Go.RowKit Go.IntWalk
set_option linter.unusedVariables false
set_option linter.unusedSimpArgs false

/-- How many words there are. -/
def wordsN (P T q : Int) : Int := 68 + 14 * T + 5 * P + P + q + q
def YnWe : List Ent := eGe 3 (kf 1) (vI 1) ++ (eLe 3 (kf 1) (vI 4096) ++ (eGe 3 (kf 2) (vI 1) ++ (eLe 3 (kf 2) (vI 64) ++ [⟨.bin .mul 3, [vI 14, kf 2], kf 3⟩, ⟨.bin .add 3, [vI 68, kf 3], kf 4⟩, ⟨.bin .mul 3, [vI 5, kf 1], kf 5⟩, ⟨.bin .add 3, [kf 4, kf 5], kf 6⟩, ⟨.bin .add 3, [kf 6, kf 1], kf 7⟩,
  ⟨.bin .add 3, [kf 1, vI 64], kf 8⟩, ⟨.bin .sub 3, [kf 8, vI 1], kf 9⟩, ⟨.bin .quo 3, [kf 9, vI 64], kf 12⟩, ⟨.bin .add 3, [kf 7, kf 12], kf 10⟩, ⟨.bin .add 3, [kf 10, kf 12], kf 11⟩])))
def isKf11 (r : Option (Value × World)) : Bool := match r with
  | some (.float .f64 11, _) => true
  | _ => false
theorem isKf11_eq {r : Option (Value × World)} (h : isKf11 r = true) : r.map (·.1) = some (kf 11) := by
  unfold isKf11 at h
  split at h
  · rfl
  · cases h
set_option maxHeartbeats 8000000 in
set_option maxRecDepth 100000 in
theorem YnW_t : isKf11 (evCall (ev Tryz.prog (orcL YnWe (fsL [])) 0 900) Tryz.prog (orcL YnWe (fsL [])) [] 31 #[.agg #[kf 1, kf 2]] (baseWorld 0 [])) = true := by decide +kernel
theorem words_any (P T : Int) (w : World) (h : LayMay P T) : Calls Tryz.prog 31 #[.agg #[.int .i64 P, .int .i64 T]] w fun e w' => ∃ q, 1 ≤ q ∧ q ≤ 64 ∧ e = .returned (.int .i64 (wordsN P T q)) ∧ Ext w w' := by
  obtain ⟨h1, h2, h3, h4⟩ := h
  obtain ⟨q, hq1, hq2⟩ : ∃ q : Int, 64 * q ≤ P + 63 ∧ P + 63 < 64 * q + 64 := ⟨(P + 63) / 64, by omega, by omega⟩
  have hl : TokL [.int .i64 0, .int .i64 P, .int .i64 T, .int .i64 (14 * T), .int .i64 (68 + 14 * T), .int .i64 (5 * P), .int .i64 (68 + 14 * T + 5 * P), .int .i64 (68 + 14 * T + 5 * P + P), .int .i64 (P + 64), .int .i64 (P + 63), .int .i64 (68 + 14 * T + 5 * P + P + q), .int .i64 (68 + 14 * T + 5 * P + P + q + q), .int .i64 q] :=
    .int (.int (.int (.int (.int (.int (.int (.int (.int (.int (.int (.int (.int .nil))))))))))))
  have hes : AllOKW Tryz.prog (sgV [.int .i64 0, .int .i64 P, .int .i64 T, .int .i64 (14 * T), .int .i64 (68 + 14 * T), .int .i64 (5 * P), .int .i64 (68 + 14 * T + 5 * P), .int .i64 (68 + 14 * T + 5 * P + P), .int .i64 (P + 64), .int .i64 (P + 63), .int .i64 (68 + 14 * T + 5 * P + P + q), .int .i64 (68 + 14 * T + 5 * P + P + q + q), .int .i64 q]) w w.heap.size YnWe := by
    refine AllOK.w ((okGe (a := P) (c := 1) rfl rfl h1).app ((okLe (a := P) (c := 4096) rfl rfl h2).app ((okGe (a := T) (c := 1) rfl rfl h3).app ((okLe (a := T) (c := 64) rfl rfl h4).app ?_))))
    intro e he
    simp only [List.mem_cons, List.not_mem_nil, or_false] at he
    rcases he with rfl | rfl | rfl | rfl | rfl | rfl | rfl | rfl | rfl | rfl
    · exact ent_mul (a := 14) (c := T) rfl rfl (by show Value.int .i64 (14 * T) = _; rw [i64_in _ (by omega)]) rfl
    · exact ent_add (a := 68) (c := 14 * T) rfl rfl (by show Value.int .i64 (68 + 14 * T) = _; rw [i64_in _ (by omega)]) rfl
    · exact ent_mul (a := 5) (c := P) rfl rfl (by show Value.int .i64 (5 * P) = _; rw [i64_in _ (by omega)]) rfl
    · exact ent_add (a := 68 + 14 * T) (c := 5 * P) rfl rfl (by show Value.int .i64 (68 + 14 * T + 5 * P) = _; rw [i64_in _ (by omega)]) rfl
    · exact ent_add (a := 68 + 14 * T + 5 * P) (c := P) rfl rfl (by show Value.int .i64 (68 + 14 * T + 5 * P + P) = _; rw [i64_in _ (by omega)]) rfl
    · exact ent_add (a := P) (c := 64) rfl rfl (by show Value.int .i64 (P + 64) = _; rw [i64_in _ (by omega)]) rfl
    · exact ent_sub (a := P + 64) (c := 1) rfl rfl (by show Value.int .i64 (P + 63) = _; rw [i64_in _ (by omega)]; congr 1; omega) rfl
    · exact ent_quo (a := P + 63) (c := 64) rfl rfl (by decide) (by show Value.int .i64 q = _; rw [quoC (q := q) (by decide) hq1 hq2 (by omega) (by omega)]) rfl
    · exact ent_add (a := 68 + 14 * T + 5 * P + P) (c := q) rfl rfl (by show Value.int .i64 (68 + 14 * T + 5 * P + P + q) = _; rw [i64_in _ (by omega)]) rfl
    · exact ent_add (a := 68 + 14 * T + 5 * P + P + q) (c := q) rfl rfl (by show Value.int .i64 (68 + 14 * T + 5 * P + P + q + q) = _; rw [i64_in _ (by omega)]) rfl
  refine (ev_calls (sgV_one hl) (orcL_okW hes (sgV_ne hl) (fsL_ok (fun e he => by cases he))) (Nat.zero_le _) (tabR_nil w) (isKf11_eq YnW_t) (args' := #[.agg #[.int .i64 P, .int .i64 T]]) ?_).mono ?_
  · refine ⟨rfl, fun i v v' e1 e2 => ?_⟩
    rcases i with _ | i
    · cases e1; cases e2
      refine .agg _ _ rfl fun i v v' e1 e2 => ?_
      rcases i with _ | _ | i
      · cases e1; cases e2; exact .tok _ 1
      · cases e1; cases e2; exact .tok _ 2
      · simp at e1
    · simp at e1
  · rintro e w' ⟨v', B, rfl, hv, hE⟩
    cases hv
    exact ⟨q, by omega, by omega, rfl, hE⟩

theorem wordsNat_any (P T : Int) (w : World) (h : LayMay P T) : Calls Tryz.prog 31 #[.agg #[.int .i64 P, .int .i64 T]] w fun e w' => (∃ n : Nat, (77 ≤ n ∧ n ≤ 65536) ∧ e = .returned (.int .i64 (n : Int))) ∧ Ext w w' :=
  (words_any P T w h).mono fun e w' ⟨q, h1, h2, he, hE⟩ => ⟨⟨(wordsN P T q).toNat, by obtain ⟨k1, k2, k3, k4⟩ := h; unfold wordsN; omega, by obtain ⟨k1, k2, k3, k4⟩ := h; rw [he, Int.toNat_of_nonneg (by unfold wordsN; omega)]⟩, hE⟩
theorem Tryz.infoU64Y : (Tryz.prog.info? 35).map (fun i => (i.zero, i.size, i.bytes)) = some (some (.int .u64 0), 1, 8) := by kernel_rfl
theorem made_0 {n : Nat} (h : 0 < n) (z : Value) : (madeCells #[z] n)[0]? = some z := by
  rw [← Array.getElem?_toList, toList_madeCells_one]
  simp [h]
set_option maxHeartbeats 1000000 in
set_option maxRecDepth 100000 in
theorem begun_any (n : Nat) (w : World) (h1 : 77 ≤ n) (h2 : n ≤ 65536) : Calls Tryz.prog 30 #[.int .i64 (n : Int), .int .i64 0, .int .u64 1] w fun e w' =>
    (∃ gs gw, e = .returned (.pointer (some ⟨gs, 0, none⟩)) ∧ w'.cell? ⟨gs, 0, none⟩ = some (.slice (some ⟨gw, 0, none⟩) n n) ∧ w'.cell? ⟨gw, 0, none⟩ = some (.int .u64 1)) ∧ Ext w w' := by
  have hmk := run_make_row' (P := Tryz.prog) 59 35 (.int .u64 0) 8 Tryz.underlying59 Tryz.infoU64Y rfl .i64 .i64 n (by omega) (by omega)
  have hm0 := made_0 (n := n) (by omega) (.int .u64 0)
  have q1 : decide ((n : Int) < 1) = false := by rw [decide_eq_false_iff_not]; omega
  have q2 : decide ((65536 : Int) < (n : Int)) = false := by rw [decide_eq_false_iff_not]; omega
  have q3 : (0 : Int) < (n : Int) := by omega
  go_enter Tryz.func30, Tryz.ntmps30
  go_wp2
  go_ret
  have hset : ((madeCells #[Value.int .u64 0] n).setIfInBounds 0 (.int .u64 1))[0]? = some (.int .u64 1) := by
    have hs : 0 < (madeCells #[Value.int .u64 0] n).size := (Array.getElem?_eq_some_iff.1 hm0).1
    simp [hs]
  refine ⟨⟨w.heap.size + 1, w.heap.size, rfl, ?_, ?_⟩, ((Ext.refl _).alloc _).alloc _⟩
  · exact (Blk.new _ _ _ _ (by simp)).cell rfl
  · exact Blk.cell ((Blk.new w _ _ _ rfl).alloc _) hset

set_option maxHeartbeats 2000000 in
set_option maxRecDepth 100000 in
theorem arenaNew_any (P T : Int) (DA : Option Addr) (dn dc : Nat) (d : Nat → Int) (w : World) (hM : LayMay P T) (hA : DA = none → dn = 0) (hn : dn ≤ 100) (hd : DrawsR w DA dn d) :
    Calls Tryz.prog 14 #[.agg #[.int .i64 P, .int .i64 T, .slice DA dn dc]] w fun e w' =>
      (∃ ga gs gw n, e = .returned (.pointer (some ⟨ga, 0, none⟩)) ∧ w'.cell? ⟨ga, 2, none⟩ = some (.pointer (some ⟨gs, 0, none⟩)) ∧ w'.cell? ⟨gs, 0, none⟩ = some (.slice (some ⟨gw, 0, none⟩) n n) ∧ w'.cell? ⟨gw, 0, none⟩ = some (.int .u64 1) ∧ 77 ≤ n) ∧ Ext w w' := by
  have hB := B_yes hM
  have HD := Lib.hid (And.intro hd hM)
  have hP := hM.1
  have hP2 := hM.2.1
  clear hd hM
  go_enter Tryz.func14, Tryz.ntmps14
  go_wp2_with (go_at_call 24; refine (layMay_any _ _ _).mono ?_; rintro e w1 ⟨rfl, hE1⟩)
  have hE01 : Ext w w1 := (((Ext.refl _).alloc _).alloc _).trans hE1
  have b0 : Blk w1 w.heap.size 24 #[.int .i64 P, .int .i64 T, .slice DA dn dc] := ((Blk.new w _ _ _ rfl).alloc _).ext hE1
  have b1 : Blk w1 (w.heap.size + 1) 67 #[.int .i64 P, .int .i64 T] := (Blk.new _ _ _ _ (by simp)).ext hE1
  have HK : ∀ w', Ext w1 w' → w'.cell? ⟨w.heap.size, 0, none⟩ = some (.int .i64 P) ∧ w'.cell? ⟨w.heap.size, 2, none⟩ = some (.slice DA dn dc) ∧ w'.cell? ⟨w.heap.size + 1, 0, none⟩ = some (.int .i64 P) ∧ w'.cell? ⟨w.heap.size + 1, 1, none⟩ = some (.int .i64 T) := fun w' h => ⟨(b0.ext h).cell rfl, (b0.ext h).cell rfl, (b1.ext h).cell rfl, (b1.ext h).cell rfl⟩
  have HKS := Lib.hid HK
  have HD1 := Lib.hid (HD.out.1.ext hE01)
  clear HK b0 b1
  go_region_held3 (fun w' => w'.cell? ⟨w.heap.size, 0, none⟩ = some (.int .i64 P) ∧ w'.cell? ⟨w.heap.size, 2, none⟩ = some (.slice DA dn dc) ∧ w'.cell? ⟨w.heap.size + 1, 0, none⟩ = some (.int .i64 P) ∧ w'.cell? ⟨w.heap.size + 1, 1, none⟩ = some (.int .i64 T)) (first | exact HKS.out _ ((Ext.refl w1).drew) | exact HKS.out _ hA' | exact HKS.out _ hB' | exact HKS.out _ hC' | exact HKS.out _ (hC'.alloc _)) (first
    | (go_at_call 31; refine (wordsNat_any P T _ HD.out.2).mono ?_; rintro e w2 ⟨⟨nw, hnw, rfl⟩, hE2⟩; have hA' : Ext w1 w2 := ((Ext.refl w1).drew).trans hE2)
    | (go_at_call 30; refine (begun_any nw _ hnw.1 hnw.2).mono ?_; rintro e w3 ⟨⟨gs, gw, rfl, hs1, hs2⟩, hE3⟩; have hB' : Ext w1 w3 := hA'.trans hE3)
    | (go_at_call 32; refine (runsNew_any P DA dn dc d _ hA hn ?h1 hP hP2).mono ?_; (case h1 => exact HD1.out.ext hB'); rintro e w4 ⟨⟨ra, rfl⟩, hE4⟩; have hC' : Ext w1 w4 := hB'.trans hE4))
  go_wp2
  go_ret
  exact ⟨⟨w4.heap.size, gs, gw, nw, rfl, (Blk.new w4 _ _ _ rfl).cell rfl, (hE4.alloc _).cell hs1, (hE4.alloc _).cell hs2, hnw.1⟩, hE01.trans (hC'.alloc _)⟩
end Go.Proofs.YtclnmihpelaalaaGreatDoor
