/- Walks: what a yard tells in which nobody has stepped. -/
import Derived.Test.YtclnmihpelaalaaGreatDoorYnY
namespace Go.Proofs.YtclnmihpelaalaaGreatDoor
open Go.RowKit Go.IntWalk
set_option linter.unusedVariables false
set_option linter.unusedSimpArgs false

section
variable {w : World} {base gy ga : Nat} {v : Value} {n P : Int} {css : List (List CallD)} {G : Nat → Nat}

set_option maxHeartbeats 2000000 in
set_option maxRecDepth 100000 in
theorem threadNo_any (t : Int) (w : World) (h : YardR w base gy ga v n P css.length css G) (ht : t < 0 ∨ (css.length : Int) ≤ t) :
    Calls Tryz.prog 18 #[.pointer (some ⟨gy, 0, none⟩), .int .i64 t] w fun e w' => e = .returned (.pointer none) ∧ Ext w w' := by
  obtain ⟨A, c, rfl, _⟩ := h.2.2.1.form
  have c1 := h.1.cell (i := 1) (v := .slice A css.length c) rfl
  clear h
  by_cases h0 : t < 0
  · have d0 : decide (t < 0) = true := decide_eq_true h0
    go_enter Tryz.func18, Tryz.ntmps18
    go_wp2
    go_quiet (fail)
    go_wp2
    go_ret
    exact ⟨rfl, (Ext.refl _).drewN _⟩
  · have d0 : decide (t < 0) = false := decide_eq_false h0
    have d1 : decide ((css.length : Int) ≤ t) = true := decide_eq_true (by omega)
    go_enter Tryz.func18, Tryz.ntmps18
    go_wp2
    go_quiet (fail)
    go_wp2
    go_ret
    exact ⟨rfl, (Ext.refl _).drewN _⟩

set_option maxHeartbeats 4000000 in
set_option maxRecDepth 100000 in
theorem threadAt_any (i : Nat) (w : World) (h : YardR w base gy ga v n P css.length css G) (hi : i < css.length) :
    Calls Tryz.prog 18 #[.pointer (some ⟨gy, 0, none⟩), .int .i64 (i : Int)] w fun e w' => e = .returned (.pointer (if (ix [] css i).length = 0 then none else some ⟨G i, 0, none⟩)) ∧ Ext w w' := by
  obtain ⟨cs, A', c', hb, hs0, hs1⟩ := (h.2.2.2 i hi).1
  obtain ⟨g2, c, rfl⟩ := h.2.2.1.form' (by omega)
  have c1 := h.1.cell (i := 1) (v := .slice (some ⟨g2, 0, none⟩) css.length c) rfl
  have c2 := h.2.2.1.cellAt (j := i) (by omega)
  have t0 := hb.cell hs0
  have t1 := hb.cell hs1
  have q0 : (0 : Int) ≤ (i : Int) := by omega
  have q1 : (i : Int) < (css.length : Int) := by omega
  have d0 : decide ((i : Int) < 0) = false := decide_eq_false (by omega)
  have d1 : decide ((css.length : Int) ≤ (i : Int)) = false := decide_eq_false (by omega)
  generalize (ix [] css i).length = m at t0 ⊢
  clear h hb hs0 hs1
  by_cases hz : m = 0
  · subst hz
    go_enter Tryz.func18, Tryz.ntmps18
    go_wp2
    go_quiet (fail)
    go_wp2
    go_ret
    exact ⟨rfl, (Ext.refl _).drewN _⟩
  · have e1 : ((0 : Int) == (m : Int)) = false := by simp; omega
    rw [if_neg hz]
    go_enter Tryz.func18, Tryz.ntmps18
    go_wp2
    go_quiet (fail)
    go_wp2
    go_ret
    exact ⟨rfl, (Ext.refl _).drewN _⟩

set_option maxHeartbeats 2000000 in
set_option maxRecDepth 100000 in
theorem left_any (i : Nat) (w : World) (h : YardR w base gy ga v n P css.length css G) (hi : i < css.length) (h40 : (ix [] css i).length ≤ 40) :
    Calls Tryz.prog 7 #[.pointer (some ⟨gy, 0, none⟩), .int .i64 (i : Int)] w fun e w' => e = .returned (.int .i64 ((ix [] css i).length : Int)) ∧ Ext w w' := by
  have H := Lib.hid h
  obtain ⟨cs, A', c', hb, hs0, hs1⟩ := (h.2.2.2 i hi).1
  have H2 := Lib.hid (And.intro hb (And.intro hs0 hs1))
  clear h hb hs0 hs1
  by_cases hz : (ix [] css i).length = 0
  · have HZ := Lib.hid hz
    go_enter Tryz.func7, Tryz.ntmps7
    go_wp2_with (go_at_call 18; refine (threadAt_any i _ H.out hi).mono ?_; rintro e w1 ⟨rfl, hE1⟩; rw [if_pos HZ.out])
    go_ret
    exact ⟨by rw [HZ.out]; rfl, hE1⟩
  · have HZ := Lib.hid hz
    clear hz
    go_enter Tryz.func7, Tryz.ntmps7
    go_wp2_with (go_at_call 18; refine (threadAt_any i _ H.out hi).mono ?_; rintro e w1 ⟨rfl, hE1⟩; rw [if_neg HZ.out]; have t0 := (H2.out.1.ext hE1).cell H2.out.2.1; have t1 := (H2.out.1.ext hE1).cell H2.out.2.2)
    go_quiet (fail)
    go_wp2
    go_ret
    exact ⟨by congr 2, hE1.drewN _⟩

set_option maxHeartbeats 2000000 in
set_option maxRecDepth 100000 in
theorem leftNo_any (t : Int) (w : World) (h : YardR w base gy ga v n P css.length css G) (ht : t < 0 ∨ (css.length : Int) ≤ t) :
    Calls Tryz.prog 7 #[.pointer (some ⟨gy, 0, none⟩), .int .i64 t] w fun e w' => e = .returned (.int .i64 0) ∧ Ext w w' := by
  have H := Lib.hid (And.intro h ht)
  clear h ht
  go_enter Tryz.func7, Tryz.ntmps7
  go_wp2_with (go_at_call 18; refine (threadNo_any t _ H.out.1 H.out.2).mono ?_; rintro e w1 ⟨rfl, hE1⟩)
  go_ret
  exact ⟨rfl, hE1⟩

set_option maxHeartbeats 400000 in
theorem entry_any (w : World) (h : YardR w base gy ga v n P css.length css G) :
    Calls Tryz.prog 8 #[.pointer (some ⟨gy, 0, none⟩)] w fun e w' => e = .returned (.int .i64 n) ∧ Ext w w' := by
  have c2 := h.1.cell (i := 2) (v := .int .i64 n) rfl
  go_enter Tryz.func8, Tryz.ntmps8
  go_wp2
  go_ret
  exact ⟨rfl, Ext.refl _⟩

set_option maxHeartbeats 1000000 in
set_option maxRecDepth 100000 in
theorem rets0_any (w : World) (h : YardR w base gy ga v n P css.length css G) :
    Calls Tryz.prog 10 #[.pointer (some ⟨gy, 0, none⟩)] w fun e w' => (∃ c, e = .returned (.slice none 0 c)) ∧ Ext w w' := by
  have c5 := h.1.cell (i := 5) (v := .slice none 0 0) rfl
  have q39 : ∀ (w : World) (a : Option Addr) (n c n' c' : Nat), (binOp .eql 39 (.slice a n c) (.slice none n' c')).run Tryz.prog w = .ok (.bool a.isNone) w := fun w a n c n' c' => Lib.run_eql_slice_nil w _ _ a n c n' c' Tryz.underlying39
  go_enter Tryz.func10, Tryz.ntmps10
  go_wp2
  go_loopg [15] 0 (fun q i wr => q = 0 ∧ i = .int .i64 0 ∧ wr = w)
  case atStart => exact ⟨rfl, rfl, rfl⟩
  case round =>
    obtain ⟨rfl, rfl, rfl⟩ := hrel
    go_wp2
    go_ret
    exact ⟨⟨_, rfl⟩, Ext.refl _⟩

set_option maxHeartbeats 1000000 in
set_option maxRecDepth 100000 in
theorem gen_any (w : World) (h : YardR w base gy ga v n P css.length css G) (ha : ArenaR w ga) :
    Calls Tryz.prog 11 #[.pointer (some ⟨gy, 0, none⟩)] w fun e w' => e = .returned (.int .i64 1) ∧ Ext w w' := by
  obtain ⟨gs, gw, m, h1, h2, h3, h4⟩ := ha
  have c0 := h.1.cell (i := 0) (v := .pointer (some ⟨ga, 0, none⟩)) rfl
  have q0 : (0 : Int) < (m : Int) := by omega
  have q1 : decide ((m : Int) ≤ 0) = false := decide_eq_false (by omega)
  go_enter Tryz.func11, Tryz.ntmps11
  go_wp2
  go_ret
  exact ⟨rfl, Ext.refl _⟩
end

section
variable {w : World} {base gy ga : Nat} {v : Value} {P : Int} {css : List (List CallD)} {G : Nat → Nat}
theorem YardR.entry {n : Int} {k : Nat} (h : YardR w base gy ga v n P k css G) (x : Int) : YardR (w.setCell ⟨gy, 2, none⟩ (.int .i64 x)) base gy ga v x P k css G := by
  refine ⟨by have := h.1.set 2 (.int .i64 x); exact this, h.2.1, h.2.2.1.setOther (fun e => own_ne_blk h.2.2.1 h.1 (by decide) e.symm) _, fun j hj => ⟨(h.2.2.2 j hj).1.far ?_ _, (h.2.2.2 j hj).2⟩⟩
  obtain ⟨cs, A, c, h3, _⟩ := (h.2.2.2 j hj).1
  exact blk_ne h3 h.1 (by decide)
theorem YardR.farD {n : Int} {k g i : Nat} {cs : Array Value} (h : YardR w base gy ga v n P k css G) (hB : Blk w g 37 cs) (u : Value) : YardR (w.setCell ⟨g, i, none⟩ u) base gy ga v n P k css G := by
  refine h.far (p := ⟨g, i, none⟩) (blk_ne h.1 hB (by decide)) (fun e => own_ne_blk h.2.2.1 hB (by decide) e.symm) (fun j hj => ?_) u
  obtain ⟨cs', A, c, h3, _⟩ := (h.2.2.2 j hj).1
  exact blk_ne h3 hB (by decide)
theorem Tryz.infoDidY : (Tryz.prog.info? 37).map (fun i => i.size) = some 4 := by kernel_rfl
theorem pick_res : Tryz.f9.results = #[.cell 4 37] := by kernel_rfl

set_option maxHeartbeats 2000000 in
set_option maxRecDepth 100000 in
theorem pickNo_any (t : Int) (w : World) (h : YardR w base gy ga v 0 P css.length css G) (ht : t < 0 ∨ (css.length : Int) ≤ t) :
    Calls Tryz.prog 9 #[.pointer (some ⟨gy, 0, none⟩), .int .i64 t] w fun e w' => e = .returned (.agg #[.int .i64 0, .int .i64 0, .int .u64 0, .int .u64 0]) ∧ YardR w' base gy ga v 1 P css.length css G ∧ ∀ W1, Ext W1 w → W1.heap.size ≤ gy → Ext W1 w' := by
  have c2 := h.1.cell (i := 2) (v := .int .i64 0) rfl
  have f2 := h.1.frozen 2
  have hl := h.1.lt
  have H := Lib.hid (And.intro h ht)
  clear h ht
  have hD : ∀ w1, Ext ((w.setCell ⟨gy, 2, none⟩ (.int .i64 1)).alloc (.cells #[.int .i64 0, .int .i64 0, .int .u64 0, .int .u64 0] 37)) w1 → Blk w1 w.heap.size 37 #[.int .i64 0, .int .i64 0, .int .u64 0, .int .u64 0] := fun w1 hE => (Blk.new _ _ _ _ (by simp)).ext hE
  have hY : YardR ((w.setCell ⟨gy, 2, none⟩ (.int .i64 1)).alloc (.cells #[.int .i64 0, .int .i64 0, .int .u64 0, .int .u64 0] 37)) base gy ga v 1 P css.length css G := (H.out.1.entry 1).ext ((Ext.refl _).alloc _)
  have HYD := Lib.hid (And.intro hY hD)
  clear hY hD
  go_enter Tryz.func9, Tryz.ntmps9
  go_wp2_with (go_at_call 18; refine (threadNo_any t _ HYD.out.1 H.out.2).mono ?_; rintro e w1 ⟨rfl, hE1⟩; have bD := HYD.out.2 _ hE1; have z0 := bD.cell (i := 0) (v := .int .i64 0) rfl; have z1 := bD.cell (i := 1) (v := .int .i64 0) rfl; have z2 := bD.cell (i := 2) (v := .int .u64 0) rfl; have z3 := bD.cell (i := 3) (v := .int .u64 0) rfl; have y0 := bD.frozen 0; have y1 := bD.frozen 1; have y2 := bD.frozen 2; have y3 := bD.frozen 3)
  have s1 := bD.set 0 (.int .i64 0)
  have s2 := s1.set 1 (.int .i64 0)
  have s3 := s2.set 2 (.int .u64 0)
  have s4 := s3.set 3 (.int .u64 0)
  have r0 := s4.cell (i := 0) (v := .int .i64 0) rfl
  have r1 := s4.cell (i := 1) (v := .int .i64 0) rfl
  have r2 := s4.cell (i := 2) (v := .int .u64 0) rfl
  have r3 := s4.cell (i := 3) (v := .int .u64 0) rfl
  have hY4 := ((((HYD.out.1.ext hE1).farD (i := 0) bD (.int .i64 0)).farD (i := 1) s1 (.int .i64 0)).farD (i := 2) s2 (.int .u64 0)).farD (i := 3) s3 (.int .u64 0)
  refine bodyPost_ret (v := .agg #[.int .i64 0, .int .i64 0, .int .u64 0, .int .u64 0]) ?_ rfl ⟨rfl, hY4, fun W1 h1 h2 => ?_⟩
  · obtain ⟨i, hi, hi3⟩ := Option.map_eq_some_iff.1 Tryz.infoDidY
    simp [results, pick_res, Array.getD_eq_getD_getElem?, isAgg, run_underlying Tryz.underlying37, sizeOf, typeInfo, hi, hi3, loadCellsFrom, Addr.add, r0, r1, r2, r3, go_sem]
  · have h3 := ((h1.setCell (p := ⟨gy, 2, none⟩) h2 (.int .i64 1)).alloc (.cells #[.int .i64 0, .int .i64 0, .int .u64 0, .int .u64 0] 37)).trans hE1
    exact (((h3.setCell h1.size _).setCell h1.size _).setCell h1.size _).setCell h1.size _
end
end Go.Proofs.YtclnmihpelaalaaGreatDoor
