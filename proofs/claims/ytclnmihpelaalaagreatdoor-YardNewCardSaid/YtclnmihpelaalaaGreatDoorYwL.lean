/- YardNew: the walk, whole; its arguments opened. -/
import Derived.Test.YtclnmihpelaalaaGreatDoorYnG
import Derived.Test.YtclnmihpelaalaaGreatDoorRef26c
import Derived.Test.YtclnmihpelaalaaGreatDoorYq
import Derived.OpenShut
import Derived.Lib.QuietBelow
import Derived.Test.YtclnmihpelaalaaGreatDoorOpen2
import Derived.Lib.SmallJoins
namespace Go.Proofs.YtclnmihpelaalaaGreatDoor
open Go.RowKit Go.IntWalk Go.Sort Go.ChangeShapes Go.WideShapes Go.Deep Go.Joins
set_option linter.unusedVariables false
set_option linter.unusedSimpArgs false

set_option maxHeartbeats 1000000 in
set_option maxRecDepth 100000 in
theorem yardErr_any (p t : Int) (DA : Option Addr) (dn dc : Nat) (css : List (List CallD)) (CA : Option Addr) (cc : Nat) (w : World) (hR : rightC p t css ≠ 0) (hcn : css.length ≤ maxLen) (hl : CallssR w CA css) :
    Calls Tryz.prog 5 #[.agg #[.int .i64 p, .int .i64 t, .slice DA dn dc], .slice CA css.length cc] w fun e w' => e = .returned (.tuple #[.pointer none, .int .i64 (rightC p t css)]) ∧ Ext w w' := by
  have HL := Lib.hid hl
  clear hl
  have h1 : (rightC p t css == 0) = false := by simpa using hR
  have h2 : (rightC p t css != 0) = true := by simpa using hR
  go_enter Tryz.func5, Tryz.ntmps5
  go_wp2_with (go_at_call 13; refine (right_any _ _ _ _ _ _ _ hcn ?h1 ⟨_, _, _, rfl⟩).mono ?_; (case h1 => exact HL.out.ext ((Ext.refl _).alloc _)); rintro e w1 ⟨rfl, hE1⟩)
  go_ret2
  exact ⟨rfl, ((Ext.refl _).alloc _).trans hE1⟩

theorem did_eq (w : World) : (Op.equalIn 10000 37 (.agg #[.int .i64 0, .int .i64 0, .int .u64 0, .int .u64 0]) (.agg #[.int .i64 0, .int .i64 0, .int .u64 0, .int .u64 0])).run Tryz.prog w = .ok true w := by kernel_rfl

/-- A slice of integers that came in: nil, or a row of cap cells. -/
def IsRow (k : IntKind) (w : World) (a : Option Addr) (len cap : Nat) (zs : List Int) : Prop :=
  (a = none ∧ len = 0 ∧ cap = 0 ∧ zs = []) ∨
  ∃ x, a = some x ∧ len ≤ cap ∧ cap ≤ maxLen ∧ zs.length = cap ∧ (∀ i, i < zs.length → w.cell? (x.add i) = some (.int k (zs.getD i 0))) ∧ ∀ n ∈ zs, (Lit.int k n).wf = true
theorem draws_of {w : World} {DA : Option Addr} {dn dc : Nat} {zs : List Int} (h : IsRow .u32 w DA dn dc zs) : (DA = none → dn = 0) ∧ DrawsR w DA dn (fun j => zs.getD j 0) := by
  rcases h with ⟨rfl, rfl, rfl, rfl⟩ | ⟨x, rfl, hl, hm, hz, hcell, hwf⟩
  · exact ⟨fun _ => rfl, SlR.nil⟩
  · refine ⟨fun h => (by cases h), fun hn => ?_⟩
    obtain ⟨b, off, rfl, hc⟩ := ints_at hcell (by omega)
    exact ⟨b, off, rfl, fun j hj => hc j (by omega)⟩

set_option maxHeartbeats 4000000 in
set_option maxRecDepth 100000 in
theorem yardNewErr_any (p t : Int) (DA : Option Addr) (dn dc : Nat) (css : List (List CallD)) (CA : Option Addr) (cc : Nat) (k : Int) (w : World) (hG : 2 ≤ w.heap.size) (hT : TabR w tabA) (hcn : css.length ≤ maxLen) (hl : CallssR w CA css)
    (h : 100 < dn ∨ 100 < css.length ∨ rightC p t css ≠ 0) :
    Calls Tryz.prog 3 #[.agg #[.int .i64 p, .int .i64 t, .slice DA dn dc], .slice CA css.length cc, .int .i64 k] w fun e w' => e = .returned (.bool true) ∧ Ext w w' := by
  have HL := Lib.hid (And.intro hl hT)
  clear hl hT
  by_cases h1 : 100 < dn
  · have d1 : decide ((100 : Int) < (dn : Int)) = true := decide_eq_true (by omega)
    go_enter Tryz.func3, Tryz.ntmps3
    go_wp2_with (go_at_call 4; refine (awake27_any _ ?g1 ?g2).mono ?_; (case g1 => exact Nat.le_trans hG ((Ext.refl w).alloc _).size); (case g2 => exact HL.out.2.keep ((Ext.refl w).alloc _)); rintro e w1 ⟨rfl, hE1⟩)
    go_ret
    exact ⟨rfl, ((Ext.refl _).alloc _).trans hE1⟩
  have d1 : decide ((100 : Int) < (dn : Int)) = false := decide_eq_false (by omega)
  by_cases h2 : 100 < css.length
  · have d2 : decide ((100 : Int) < (css.length : Int)) = true := decide_eq_true (by omega)
    go_enter Tryz.func3, Tryz.ntmps3
    go_wp2_with (go_at_call 4; refine (awake27_any _ ?g1 ?g2).mono ?_; (case g1 => exact Nat.le_trans hG ((Ext.refl w).alloc _).size); (case g2 => exact HL.out.2.keep ((Ext.refl w).alloc _)); rintro e w1 ⟨rfl, hE1⟩)
    go_ret
    exact ⟨rfl, ((Ext.refl _).alloc _).trans hE1⟩
  have d2 : decide ((100 : Int) < (css.length : Int)) = false := decide_eq_false (by omega)
  have hR : rightC p t css ≠ 0 := by rcases h with h | h | h <;> first | omega | exact h
  have HR := Lib.hid (And.intro hR h)
  have e1 : (rightC p t css == 0) = false := by simpa using hR
  have e2 : (rightC p t css != 0) = true := by simpa using hR
  clear hR h
  go_enter Tryz.func3, Tryz.ntmps3
  go_wp2_with (first
    | (go_at_call 5; refine (yardErr_any p t DA dn dc css CA cc _ HR.out.1 hcn ?h1).mono ?_; (case h1 => exact HL.out.1.ext ((Ext.refl _).alloc _)); rintro e w1 ⟨rfl, hE1⟩; have hF1 := ((Ext.refl w).alloc _).trans hE1; have b1 := (Blk.new w 24 #[.int .i64 p, .int .i64 t, .slice DA dn dc] _ rfl).ext hE1; have x0 := b1.cell (i := 0) (v := .int .i64 p) rfl; have x1 := b1.cell (i := 1) (v := .int .i64 t) rfl; have x2 := b1.cell (i := 2) (v := .slice DA dn dc) rfl)
    | (go_at_call 6; refine (right26_any p t _ css css.length rfl _ _ _ hcn ?h1 ⟨_, _, _, rfl⟩).mono ?_; (case h1 => exact HL.out.1.ext hF1); rintro e w2 ⟨rfl, hE2⟩; have hF2 := hF1.trans hE2)
    | (go_at_call 4; refine (awake27_any _ ?g1 ?g2).mono ?_; (case g1 => exact Nat.le_trans hG hF2.size); (case g2 => exact HL.out.2.keep hF2); rintro e w3 ⟨rfl, hE3⟩))
  go_ret
  exact ⟨rfl, hF2.trans hE3⟩

set_option maxHeartbeats 4000000 in
set_option maxRecDepth 100000 in
theorem yardNewOut_any (p t : Int) (DA : Option Addr) (dn dc : Nat) (zs : List Int) (css : List (List CallD)) (CA : Option Addr) (cc : Nat) (k : Int) (w : World) (hG : 2 ≤ w.heap.size) (hT : TabR w tabA) (hz : IsRow .u32 w DA dn dc zs) (hl : CallssR w CA css)
    (h1 : dn ≤ 100) (h2 : css.length ≤ 100) (hR : rightC p t css = 0) (hk : k < 0 ∨ (css.length : Int) ≤ k) :
    Calls Tryz.prog 3 #[.agg #[.int .i64 p, .int .i64 t, .slice DA dn dc], .slice CA css.length cc, .int .i64 k] w fun e w' => e = .returned (.bool true) ∧ Ext w w' := by
  have hcn : css.length ≤ maxLen := by unfold maxLen; omega
  obtain ⟨hM, hlen, hall⟩ := right_ok hR
  have HL := Lib.hid (And.intro hl (And.intro hT (And.intro (draws_of hz) (And.intro hR hk))))
  have d1 : decide ((100 : Int) < (dn : Int)) = false := decide_eq_false (by omega)
  have d2 : decide ((100 : Int) < (css.length : Int)) = false := decide_eq_false (by omega)
  have hbe : ∀ w, (binOp .eql 37 (.agg #[.int .i64 0, .int .i64 0, .int .u64 0, .int .u64 0]) (.agg #[.int .i64 0, .int .i64 0, .int .u64 0, .int .u64 0])).run Tryz.prog w = .ok (.bool true) w := fun w => by kernel_rfl
  have hds : decide (0 ≤ k) = false ∨ (decide (0 ≤ k) = true ∧ decide (k < t) = false) := by
    rcases hk with h | h
    · exact .inl (decide_eq_false (by omega))
    · by_cases h0 : 0 ≤ k
      · exact .inr ⟨decide_eq_true h0, decide_eq_false (by omega)⟩
      · exact .inl (decide_eq_false h0)
  clear hl hT hz hR hk hM hall hlen
  rcases hds with g0 | ⟨g0, g1⟩
  all_goals
    go_enter Tryz.func3, Tryz.ntmps3
    go_wp2_with (first
      | (go_at_call 5; refine (yardOk_any p t DA dn dc (fun j => zs.getD j 0) css CA cc _ HL.out.2.2.2.1 HL.out.2.2.1.1 h1 ?q1 ?q2).mono ?_; (case q1 => exact SlR.ext HL.out.2.2.1.2 ((Ext.refl _).alloc _)); (case q2 => exact HL.out.1.ext ((Ext.refl _).alloc _)); rintro e w1 ⟨⟨wA, gy, ga, v, G, rfl, hA1, hY, hAr, hA2⟩, hE1⟩; have hF1 := ((Ext.refl w).alloc _).trans hE1; have hgy : w.heap.size ≤ gy := Nat.le_trans (((Ext.refl w).alloc _).trans hA1).size hY.2.1; have b1 := (Blk.new w 24 #[.int .i64 p, .int .i64 t, .slice DA dn dc] _ rfl).ext hE1; have x0 := b1.cell (i := 0) (v := .int .i64 p) rfl; have x1 := b1.cell (i := 1) (v := .int .i64 t) rfl; have x2 := b1.cell (i := 2) (v := .slice DA dn dc) rfl)
      | (go_at_call 6; refine (right26_any p t _ css css.length rfl _ _ _ hcn ?q1 ⟨_, _, _, rfl⟩).mono ?_; (case q1 => exact HL.out.1.ext hF1); rintro e w2 ⟨rfl, hE2⟩; rw [HL.out.2.2.2.1]; have hF2 := hF1.trans hE2; have y1 := (b1.ext hE2).cell (i := 1) (v := .int .i64 t) rfl)
      | (go_at_call 9; refine (pickNo_any k _ (hY.ext hE2) HL.out.2.2.2.2).mono ?_; rintro e w3 ⟨rfl, hY3, hE3⟩; have hF3 := hE3 w hF2 hgy; have hA3 := hE3 wA (hA2.trans hE2) hY.2.1)
      | (go_at_call 8; refine (entry_any _ hY3).mono ?_; rintro e w4 ⟨rfl, hE4⟩; have hF4 := hF3.trans hE4)
      | (go_at_call 7; refine (leftNo_any k _ (hY3.ext hE4) HL.out.2.2.2.2).mono ?_; rintro e w5 ⟨rfl, hE5⟩; have hF5 := hF4.trans hE5; have hE35 := hE4.trans hE5)
      | (go_at_call 10; refine (rets0_any _ (hY3.ext hE35)).mono ?_; rintro e w6 ⟨⟨c6, rfl⟩, hE6⟩; have hF6 := hF5.trans hE6; have hE36 := hE35.trans hE6)
      | (go_at_call 11; refine (gen_any _ (hY3.ext hE36) (hAr.ext (hA3.trans hE36))).mono ?_; rintro e w7 ⟨rfl, hE7⟩; have hF7 := hF6.trans hE7)
      | (go_at_call 4; refine (awake27_any _ ?q1 ?q2).mono ?_; (case q1 => exact Nat.le_trans hG hF7.size); (case q2 => exact HL.out.2.1.keep hF7); rintro e w8 ⟨rfl, hE8⟩))
    go_ret
    exact ⟨rfl, hF7.trans hE8⟩

set_option maxHeartbeats 4000000 in
set_option maxRecDepth 100000 in
theorem yardNewIn_any (p t : Int) (DA : Option Addr) (dn dc : Nat) (zs : List Int) (css : List (List CallD)) (CA : Option Addr) (cc : Nat) (i : Nat) (w : World) (hG : 2 ≤ w.heap.size) (hT : TabR w tabA) (hz : IsRow .u32 w DA dn dc zs) (hl : CallssR w CA css)
    (h1 : dn ≤ 100) (h2 : css.length ≤ 100) (hR : rightC p t css = 0) (hi : i < css.length) :
    Calls Tryz.prog 3 #[.agg #[.int .i64 p, .int .i64 t, .slice DA dn dc], .slice CA css.length cc, .int .i64 (i : Int)] w fun e w' => e = .returned (.bool true) ∧ Ext w w' := by
  have hcn : css.length ≤ maxLen := by unfold maxLen; omega
  obtain ⟨hM, hlen, hall⟩ := right_ok hR
  obtain ⟨LA, LC, hl1, hl2⟩ := hl
  obtain ⟨b, off, rfl, hc⟩ := hl1 (by omega)
  have cw := hc i (by omega)
  dsimp only at cw
  have HL := Lib.hid (And.intro (show CallssR w (some ⟨b, off, none⟩) css from ⟨LA, LC, hl1, hl2⟩) (And.intro hT (And.intro (draws_of hz) (And.intro hR (And.intro cw (hall i hi).1)))))
  have d1 : decide ((100 : Int) < (dn : Int)) = false := decide_eq_false (by omega)
  have d2 : decide ((100 : Int) < (css.length : Int)) = false := decide_eq_false (by omega)
  have g0 : decide ((0 : Int) ≤ (i : Int)) = true := decide_eq_true (by omega)
  have g1 : decide ((i : Int) < t) = true := decide_eq_true (by omega)
  have q0 : (0 : Int) ≤ (i : Int) := by omega
  have q1 : (i : Int) < (css.length : Int) := by omega
  clear hl1 hl2 hc hT hz hR hM hall hlen cw
  go_enter Tryz.func3, Tryz.ntmps3
  go_wp2_with (first
    | (go_at_call 5; refine (yardOk_any p t DA dn dc (fun j => zs.getD j 0) css _ cc _ HL.out.2.2.2.1 HL.out.2.2.1.1 h1 ?q1 ?q2).mono ?_; (case q1 => exact SlR.ext HL.out.2.2.1.2 ((Ext.refl _).alloc _)); (case q2 => exact HL.out.1.ext ((Ext.refl _).alloc _)); rintro e w1 ⟨⟨wA, gy, ga, v, G, rfl, hA1, hY, hAr, hA2⟩, hE1⟩; have hF1 := ((Ext.refl w).alloc _).trans hE1; have hgy : w.heap.size ≤ gy := Nat.le_trans (((Ext.refl w).alloc _).trans hA1).size hY.2.1; have b1 := (Blk.new w 24 #[.int .i64 p, .int .i64 t, .slice DA dn dc] _ rfl).ext hE1; have x0 := b1.cell (i := 0) (v := .int .i64 p) rfl; have x1 := b1.cell (i := 1) (v := .int .i64 t) rfl; have x2 := b1.cell (i := 2) (v := .slice DA dn dc) rfl)
    | (go_at_call 6; refine (right26_any p t _ css css.length rfl _ _ _ hcn ?q1 ⟨_, _, _, rfl⟩).mono ?_; (case q1 => exact HL.out.1.ext hF1); rintro e w2 ⟨rfl, hE2⟩; rw [HL.out.2.2.2.1]; have hF2 := hF1.trans hE2; have y1 := (b1.ext hE2).cell (i := 1) (v := .int .i64 t) rfl))
  have HY := Lib.hid (And.intro (hY.ext hE2) hF2)
  have c0 := fun d os => cell_regrown (hF2.cell HL.out.2.2.2.2.1) d os
  clear hY hAr hA1 hA2 hE1 hF1 hE2 b1 x0 x1 x2 y1
  refine wp_region_quiet_below (by kernel_rfl) (by kernel_rfl) ?_
  repeat (go_big_quiet_step ((first
    | (go_at_call 7; exact Calls.regrown_of (left_any i _ (HY.out.1.ext (below_regrown _ _ _)) hi HL.out.2.2.2.2.2))
    | (go_at_call 8; exact Calls.regrown_of (entry_any _ (HY.out.1.ext (below_regrown _ _ _))))
    | (go_at_call 4; exact Calls.regrown_of (awake27_any _ (Nat.le_trans hG (HY.out.2.trans (below_regrown _ _ _)).size) (HL.out.2.1.keep (HY.out.2.trans (below_regrown _ _ _))))))))
  refine wpQuiet_nil ?_
  intro _ hw'
  obtain ⟨⟨dq, osq⟩, hw''⟩ := hw'
  subst hw''
  go_wp2
  go_ret
  exact ⟨rfl, HY.out.2.trans (below_regrown _ dq osq)⟩
set_option maxRecDepth 100000

theorem Yw_any (p t : Int) (DA : Option Addr) (dn dc : Nat) (CA : Option Addr) (css : List (List CallD)) (cc : Nat) (k : Int) (w : World) (hT : TabR w tabA) (hG : 2 ≤ w.heap.size) {zs : List Int} (hz : IsRow .u32 w DA dn dc zs) (hcn : css.length ≤ maxLen) (hl : CallssR w CA css) :
    Calls Tryz.prog 3 #[.agg #[.int .i64 p, .int .i64 t, .slice DA dn dc], .slice CA css.length cc, .int .i64 k] w fun e w' => e = .returned (.bool true) ∧ Ext w w' := by
  by_cases h : 100 < dn ∨ 100 < css.length ∨ rightC p t css ≠ 0
  · exact yardNewErr_any p t DA dn dc css CA cc k w hG hT hcn hl h
  · have h1 : dn ≤ 100 := Nat.le_of_not_lt fun h1 => h (.inl h1)
    have h2 : css.length ≤ 100 := Nat.le_of_not_lt fun h1 => h (.inr (.inl h1))
    have hR : rightC p t css = 0 := Classical.byContradiction fun h1 => h (.inr (.inr h1))
    by_cases hk : k < 0 ∨ (css.length : Int) ≤ k
    · exact yardNewOut_any p t DA dn dc zs css CA cc k w hG hT hz hl h1 h2 hR hk
    · obtain ⟨i, rfl⟩ : ∃ i : Nat, k = (i : Int) := ⟨k.toNat, by omega⟩
      exact yardNewIn_any p t DA dn dc zs css CA cc i w hG hT hz hl h1 h2 hR (by omega)

section
variable {H : Type} {enc : TypeId × Value → H} {W : World} {b0 : Nat} {v : Value} {d : DataW H} {p : List MemPlace}
theorem in_setupU (hv : Value.okWide Tryz.prog W .any b0 24 v) (h : DataW.Trod enc Tryz.prog W 0 (fun _ => true) true 24 v d p) :
    ∃ (a b : Int) (DA : Option Addr) (Dn Dc : Nat) (zs : List Int), v = .agg #[.int .i64 a, .int .i64 b, .slice DA Dn Dc] ∧ IsRow .u32 W DA Dn Dc zs := by
  obtain ⟨v0, v1, v2, y0, y1, y2, n, rfl, _, _, h0, h1, h2⟩ := open_agg3 Tryz.underlying24 (by kernel_rfl) (by kernel_rfl) hv h
  obtain ⟨k0, e0, _⟩ := DataW.trod_int Tryz.underlying3 h0
  obtain ⟨k1, e1, _⟩ := DataW.trod_int Tryz.underlying3 h1
  injection e0 with e0
  injection e1 with e1
  subst e0 e1
  rcases open_ints Tryz.underlying22 Tryz.underlying119 (by kernel_rfl) h2 with ⟨hcs, _⟩ | ⟨x, l, c, zs, hcs, _, hl, hm, hz, _, hcell, hwz⟩
  · injection hcs with hcs
    subst hcs
    exact ⟨k0, k1, none, 0, 0, [], rfl, .inl ⟨rfl, rfl, rfl, rfl⟩⟩
  · injection hcs with hcs
    subst hcs
    exact ⟨k0, k1, some x, l, c, zs, rfl, .inr ⟨_, rfl, hl, hm, by simpa using hz, hcell, hwz⟩⟩
theorem in_callss (hv : Value.okWide Tryz.prog W .any b0 25 v) (h : DataW.Trod enc Tryz.prog W 0 (fun _ => true) true 25 v d p) :
    ∃ (A : Option Addr) (l : List (List CallD)) (c : Nat), v = .slice A l.length c ∧ l.length ≤ maxLen ∧ CallssR W A l := by
  obtain ⟨A, n, c, rfl⟩ := okWide_slice Tryz.underlying25 hv
  obtain ⟨fuel, hf⟩ := h
  obtain ⟨A', l, cap, hcs, hl, hr⟩ := open_callss Tryz.underlying25 (by kernel_rfl) Tryz.underlying33 Tryz.underlying44 (by kernel_rfl) (by kernel_rfl) Tryz.underlying3 Tryz.underlying3 Tryz.underlying42 Tryz.underlying3 (by kernel_rfl) hf
  simp only [Value.cells, List.cons.injEq, and_true, Value.slice.injEq] at hcs
  obtain ⟨rfl, rfl, rfl⟩ := hcs
  exact ⟨A, l, c, rfl, hl, hr⟩
end
end Go.Proofs.YtclnmihpelaalaaGreatDoor
