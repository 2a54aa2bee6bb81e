/- Walks: what the desk does with a mark (the others). -/
import Derived.Test.YtoolenhnhlfhmaaGreatDoorDkO
namespace Go.Proofs.YtoolenhnhlfhmaaGreatDoor
open Go.RowKit Go.Sort
set_option linter.unusedVariables false
set_option linter.unusedSimpArgs false

set_option maxHeartbeats 4000000 in
set_option maxRecDepth 100000 in
theorem doesNo_any (m : ModelD) (d base : Nat) (F H S G : Value) (x : MarkD) (w : World) (ho : DeskOk m) (hx : MarkOk x) (hT : Tab w) (hB : TabB w) (hbase : base ≤ w.heap.size) (hD : DeskR w d base m F H S G) (ht : ¬ ThreadP x.thread) :
    Calls Tryz.prog 27 #[.pointer (some ⟨d, 0, none⟩), markV x] w (DoesP m d base x w) := by
  obtain ⟨W0, hW0⟩ : ∃ W0, W0 = w.alloc (.cells (markA x) 34) := ⟨_, rfl⟩
  have hE0 : Ext w W0 := hW0 ▸ (Ext.refl w).alloc _
  have hbx : Blk W0 w.heap.size 34 (markA x) := hW0 ▸ Blk.new _ _ _ _ rfl
  have x0 := hbx.cell (i := 0) (v := .int .i64 x.kind) rfl
  have x1 := hbx.cell (i := 1) (v := .int .i64 x.thread) rfl
  have x2 := hbx.cell (i := 2) (v := .int .i64 x.entry) rfl
  have x3 := hbx.cell (i := 3) (v := .int .i64 x.page) rfl
  have x4 := hbx.cell (i := 4) (v := .int .i64 x.n) rfl
  have x5 := hbx.cell (i := 5) (v := .int .u64 (x.mask : Int)) rfl
  have HA : Hid (∀ W, Calls Tryz.prog 55 #[.int .i64 x.thread] W fun e w' => e = .returned (.bool false) ∧ W = w') := Lib.hid fun W => by have := anybody_any x.thread W; rw [B_no ht] at this; exact this
  have HE0 := Lib.hid (And.intro hE0 (And.intro ht (hD.ext hE0)))
  clear hbx hE0 hD ho hx hT hB ht hbase
  unfold markA at hW0
  unfold markV
  have HW0 := Lib.hid hW0
  clear hW0
  go_enter Tryz.func27, Tryz.ntmps27
  go_upto_region 1 with fail
  rw [← HW0.out]
  go_wp2_with (go_at_call 55; (with_reducible refine (HA.out _).mono ?_); rintro e w1 ⟨rfl, rfl⟩)
  go_ret
  exact ⟨KeepD.ext HE0.out.1, HE0.out.1.size, .inl ⟨rfl, .inl HE0.out.2.1, _, _, _, _, HE0.out.2.2⟩⟩

set_option maxHeartbeats 4000000 in
set_option maxRecDepth 100000 in
theorem does13_any (m : ModelD) (d base : Nat) (F H S G : Value) (x : MarkD) (w : World) (ho : DeskOk m) (hx : MarkOk x) (hT : Tab w) (hB : TabB w) (hbase : base ≤ w.heap.size) (hD : DeskR w d base m F H S G) (ht : ThreadP x.thread) (hk : x.kind = 13) :
    Calls Tryz.prog 27 #[.pointer (some ⟨d, 0, none⟩), markV x] w (DoesP m d base x w) := by
  obtain ⟨FA, fc, rfl, hfc⟩ := hD.own.free.ofSlice
  obtain ⟨HA', hc, rfl, hhc⟩ := hD.own.hands.ofSlice
  obtain ⟨SA, sc, rfl, hsc⟩ := hD.own.spans.ofSlice
  obtain ⟨GA, gc, rfl, hgc⟩ := hD.own.gone.ofSlice
  obtain ⟨W0, hW0⟩ : ∃ W0, W0 = w.alloc (.cells (markA x) 34) := ⟨_, rfl⟩
  have hE0 : Ext w W0 := hW0 ▸ (Ext.refl w).alloc _
  have hbx : Blk W0 w.heap.size 34 (markA x) := hW0 ▸ Blk.new _ _ _ _ rfl
  have hp : ∀ W, Ext W0 W → Calls Tryz.prog 43 #[modelV m FA HA' SA GA fc hc sc gc, .int .i64 x.thread, .int .i64 x.page, .int .i64 x.n] W fun e w' => e = .returned (.bool (B (HasP m x.thread x.page x.n))) ∧ Ext W w' := fun W hE =>
    has_any m FA HA' SA GA fc hc sc gc x.thread x.page x.n W (hT.ext (hE0.trans hE)) ⟨by have := ho.l1; omega, by have := ho.l3; omega⟩ (own_sl' (hD.ext (hE0.trans hE)).own.free) (own_sl' (hD.ext (hE0.trans hE)).own.spans)
  have HA : Hid (∀ W, Calls Tryz.prog 55 #[.int .i64 x.thread] W fun e w' => e = .returned (.bool true) ∧ W = w') := Lib.hid fun W => by have := anybody_any x.thread W; rw [B_yes ht] at this; exact this
  have x0 := hbx.cell (i := 0) (v := .int .i64 x.kind) rfl
  have x1 := hbx.cell (i := 1) (v := .int .i64 x.thread) rfl
  have x2 := hbx.cell (i := 2) (v := .int .i64 x.entry) rfl
  have x3 := hbx.cell (i := 3) (v := .int .i64 x.page) rfl
  have x4 := hbx.cell (i := 4) (v := .int .i64 x.n) rfl
  have x5 := hbx.cell (i := 5) (v := .int .u64 (x.mask : Int)) rfl
  have hb := (hD.ext hE0).blk
  have d0 := hb.cell (i := 0) (v := .int .i64 m.pages) rfl
  have d1 := hb.cell (i := 1) (v := .slice FA m.free.length fc) rfl
  have d2 := hb.cell (i := 2) (v := .slice HA' m.hands.length hc) rfl
  have d3 := hb.cell (i := 3) (v := .slice SA m.spans.length sc) rfl
  have d4 := hb.cell (i := 4) (v := .slice GA m.gone.length gc) rfl
  have y0 := fun d os => cell_regrown d0 d os
  have y1 := fun d os => cell_regrown d1 d os
  have y2 := fun d os => cell_regrown d2 d os
  have y3 := fun d os => cell_regrown d3 d os
  have y4 := fun d os => cell_regrown d4 d os
  have z1 := fun d os => cell_regrown x1 d os
  have z3 := fun d os => cell_regrown x3 d os
  have z4 := fun d os => cell_regrown x4 d os
  have HQ := Lib.hid (And.intro hE0 (And.intro hD (And.intro ht hk)))
  clear hbx hE0 hD ho hx hT hB ht hbase hb
  unfold markA at hW0
  unfold markV
  unfold modelV at hp
  rw [hk] at x0 hW0 ⊢
  have HW0 := Lib.hid hW0
  clear hW0 hk
  by_cases hh : HasP m x.thread x.page x.n
  · rw [B_yes hh] at hp
    have HP := Lib.hid hp
    have HH := Lib.hid hh
    clear hp hh
    go_enter Tryz.func27, Tryz.ntmps27
    go_upto_region 1 with fail
    rw [← HW0.out]
    go_upto_region 17 with (go_at_call 55; (with_reducible refine (HA.out _).mono ?_); rintro e w1 ⟨rfl, rfl⟩)
    refine wp_region_quiet_below (by kernel_rfl) (by kernel_rfl) ?_
    repeat (go_big_quiet_step ((go_at_call 43; exact Calls.regrown_of (HP.out _ (below_regrown _ _ _)))))
    refine wpQuiet_nil ?_
    intro _ hw'
    obtain ⟨⟨dq, osq⟩, hw''⟩ := hw'
    subst hw''
    have HE3 := Lib.hid (show Ext W0 (grow (redrawn W0 dq) osq) from below_regrown _ _ _)
    go_wp2
    go_ret
    exact ⟨KeepD.ext (HQ.out.1.trans HE3.out), (HQ.out.1.trans HE3.out).size, .inl ⟨rfl, .inr (.inr (.inr (.inr (.inr (.inr (.inr (.inl ⟨HQ.out.2.2.2, HH.out⟩))))))), _, _, _, _, HQ.out.2.1.ext (HQ.out.1.trans HE3.out)⟩⟩
  · rw [B_no hh] at hp
    have HP := Lib.hid hp
    have HH := Lib.hid hh
    clear hp hh
    go_enter Tryz.func27, Tryz.ntmps27
    go_upto_region 1 with fail
    rw [← HW0.out]
    go_upto_region 17 with (go_at_call 55; (with_reducible refine (HA.out _).mono ?_); rintro e w1 ⟨rfl, rfl⟩)
    refine wp_region_quiet_below (by kernel_rfl) (by kernel_rfl) ?_
    repeat (go_big_quiet_step ((go_at_call 43; exact Calls.regrown_of (HP.out _ (below_regrown _ _ _)))))
    refine wpQuiet_nil ?_
    intro _ hw'
    obtain ⟨⟨dq, osq⟩, hw''⟩ := hw'
    subst hw''
    have HE3 := Lib.hid (show Ext W0 (grow (redrawn W0 dq) osq) from below_regrown _ _ _)
    go_wp2
    go_ret
    exact ⟨KeepD.ext (HQ.out.1.trans HE3.out), (HQ.out.1.trans HE3.out).size, .inr ⟨rfl, _, _, _, _, _, ⟨HQ.out.2.2.1, .inr (.inr (.inr (.inr (.inr (.inr (.inl ⟨HQ.out.2.2.2, HH.out, rfl⟩))))))⟩, HQ.out.2.1.ext (HQ.out.1.trans HE3.out)⟩⟩

set_option maxHeartbeats 8000000 in
set_option maxRecDepth 100000 in
theorem doesT_any (m : ModelD) (d base : Nat) (F H S G : Value) (x : MarkD) (w : World) (ho : DeskOk m) (hx : MarkOk x) (hT : Tab w) (hB : TabB w) (hbase : base ≤ w.heap.size) (hD : DeskR w d base m F H S G) (ht : ThreadP x.thread) (hk : OtherK x) :
    Calls Tryz.prog 27 #[.pointer (some ⟨d, 0, none⟩), markV x] w (DoesP m d base x w) := by
  obtain ⟨SA, sc, rfl, hsc⟩ := hD.own.spans.ofSlice
  obtain ⟨W0, hW0⟩ : ∃ W0, W0 = w.alloc (.cells (markA x) 34) := ⟨_, rfl⟩
  have hE0 : Ext w W0 := hW0 ▸ (Ext.refl w).alloc _
  have hbx : Blk W0 w.heap.size 34 (markA x) := hW0 ▸ Blk.new _ _ _ _ rfl
  have hp : Calls Tryz.prog 63 #[.pointer (some ⟨d, 0, none⟩), .int .i64 x.page] W0 fun e w' => ∃ q, e = .returned (.pointer q) ∧ Hid (((q = none ∧ ∀ j, j < m.spans.length → (ix noHold m.spans j).page ≠ x.page) ∨ ∃ i g, i < m.spans.length ∧ (ix noHold m.spans i).page = x.page ∧ SA = some ⟨g, 0, none⟩ ∧ q = some ⟨g, i * 8, none⟩) ∧ Ext W0 w') := by
    refine (spanD_any m d base F H G SA sc x.page W0 (by have := ho.l3; omega) ho.r3 (hD.ext hE0)).mono fun e w' ⟨h1, h2⟩ => ?_
    rcases h1 with ⟨rfl, h3⟩ | ⟨i, g, h3, h4, h5, rfl⟩
    · exact ⟨none, rfl, Lib.hid ⟨.inl ⟨rfl, h3⟩, h2⟩⟩
    · exact ⟨_, rfl, Lib.hid ⟨.inr ⟨i, g, h3, h4, h5, rfl⟩, h2⟩⟩
  have HA : Hid (∀ W, Calls Tryz.prog 55 #[.int .i64 x.thread] W fun e w' => e = .returned (.bool true) ∧ W = w') := Lib.hid fun W => by have := anybody_any x.thread W; rw [B_yes ht] at this; exact this
  have x0 := hbx.cell (i := 0) (v := .int .i64 x.kind) rfl
  have x1 := hbx.cell (i := 1) (v := .int .i64 x.thread) rfl
  have x2 := hbx.cell (i := 2) (v := .int .i64 x.entry) rfl
  have x3 := hbx.cell (i := 3) (v := .int .i64 x.page) rfl
  have x4 := hbx.cell (i := 4) (v := .int .i64 x.n) rfl
  have x5 := hbx.cell (i := 5) (v := .int .u64 (x.mask : Int)) rfl
  have HP := Lib.hid hp
  have HQ := Lib.hid (And.intro hE0 (And.intro hD (And.intro ht (And.intro hk (And.intro ho (And.intro hT hbx))))))
  have HB := Lib.hid hbase
  obtain ⟨k1, k2, k3, k4, k5, k6, k7, k8⟩ := hk
  have e1 : (x.kind == 1) = false := by simpa using k1
  have e2 : (x.kind == 15) = false := by simpa using k2
  have e3 : (x.kind == 2) = false := by simpa using k3
  have e4 : (x.kind == 9) = false := by simpa using k4
  have e5 : (x.kind == 10) = false := by simpa using k5
  have e6 : (x.kind == 12) = false := by simpa using k6
  have e7 : (x.kind == 13) = false := by simpa using k7
  have e8 : (x.kind == 14) = false := by simpa using k8
  clear hbx hE0 hD ho hx hT hB ht hbase k1 k2 k3 k4 k5 k6 k7 k8 hp
  unfold markA at hW0
  unfold markV
  have HW0 := Lib.hid hW0
  clear hW0
  go_enter Tryz.func27, Tryz.ntmps27
  go_upto_region 1 with fail
  rw [← HW0.out]
  go_upto_region 21 with (first
    | (go_at_call 55; (with_reducible refine (HA.out _).mono ?_); rintro e w1 ⟨rfl, rfl⟩)
    | (go_at_call 63; (with_reducible refine HP.out.mono ?_); rintro e w1 ⟨q, rfl, hs⟩; have HS := Lib.hid hs; clear hs))
  obtain ⟨hr, hE1⟩ := HS.out.out
  have hEw : Ext w w1 := HQ.out.1.trans hE1
  rcases hr with ⟨rfl, hno⟩ | ⟨i, g, hi, hpg, rfl, rfl⟩
  · have HN := Lib.hid (And.intro hno hEw)
    clear hno hE1 hEw
    go_wp2
    go_ret
    exact ⟨KeepD.ext HN.out.2, HN.out.2.size, .inl ⟨rfl, .inr (.inr (.inr (.inr (.inr (.inr (.inr (.inr (.inr ⟨HQ.out.2.2.2.1, .inl HN.out.1⟩)))))))), _, _, _, _, HQ.out.2.1.ext HN.out.2⟩⟩
  · have hD1 := HQ.out.2.1.ext hEw
    have hbx1 := HQ.out.2.2.2.2.2.2.ext hE1
    have c0 := hbx1.cell (i := 0) (v := .int .i64 x.kind) rfl
    have c1 := hbx1.cell (i := 1) (v := .int .i64 x.thread) rfl
    have c2 := hbx1.cell (i := 2) (v := .int .i64 x.entry) rfl
    have c3 := hbx1.cell (i := 3) (v := .int .i64 x.page) rfl
    have c4 := hbx1.cell (i := 4) (v := .int .i64 x.n) rfl
    have c5 := hbx1.cell (i := 5) (v := .int .u64 (x.mask : Int)) rfl
    have htn : Calls Tryz.prog 64 #[.pointer (some ⟨g, i * 8, none⟩), markV x] w1 fun e w' => ∃ b, e = .returned (.bool b) ∧ Hid (DoesP m d base x w e w') := by
      refine (turns_any (ix noHold m.spans i) x base g m.spans.length sc i m.spans w1 rfl hi rfl (HQ.out.2.2.2.2.2.1.ext hEw) (HQ.out.2.2.2.2.1.al i hi) hD1.own.spans).mono fun e w' hs => ?_
      rcases hs with ⟨rfl, h1, h2⟩ | ⟨rfl, h', h1, h2, h3⟩
      · exact ⟨_, rfl, Lib.hid ⟨KeepD.ext (hEw.trans h2), (hEw.trans h2).size, .inl ⟨rfl, .inr (.inr (.inr (.inr (.inr (.inr (.inr (.inr (.inr ⟨HQ.out.2.2.2.1, .inr ⟨i, hi, hpg, h1⟩⟩)))))))), _, _, _, _, hD1.ext h2⟩⟩⟩
      · have hD2 := hD1.putSpans h3 (m.spans.set i h') (by rw [List.length_set]; exact h2)
        exact ⟨_, rfl, Lib.hid ⟨(KeepD.ext hEw).trans (KeepD.grown hD1.own.spans h3), Nat.le_trans hEw.size h3.size, .inr ⟨rfl, _, _, _, _, _, ⟨HQ.out.2.2.1, .inr (.inr (.inr (.inr (.inr (.inr (.inr (.inr ⟨HQ.out.2.2.2.1, i, h', hi, hpg, h1, rfl⟩)))))))⟩, hD2⟩⟩⟩
    have HT2 := Lib.hid htn
    clear htn hi hpg hE1 hEw hD1 hbx1 x0 x1 x2 x3 x4 x5
    unfold markV at HT2
    go_wp2_with (go_at_call 64; (with_reducible refine HT2.out.mono ?_); rintro e w2 ⟨b, rfl, hs⟩; have HS2 := Lib.hid hs; clear hs)
    go_ret
    exact HS2.out.out

theorem does_any (m : ModelD) (d base : Nat) (F H S G : Value) (x : MarkD) (w : World) (ho : DeskOk m) (hx : MarkOk x) (hT : Tab w) (hB : TabB w) (hbase : base ≤ w.heap.size) (hD : DeskR w d base m F H S G) :
    Calls Tryz.prog 27 #[.pointer (some ⟨d, 0, none⟩), markV x] w (DoesP m d base x w) := by
  by_cases ht : ThreadP x.thread
  rotate_left
  · exact doesNo_any m d base F H S G x w ho hx hT hB hbase hD ht
  by_cases k1 : x.kind = 1
  · exact does1_any m d base F H S G x w ho hx hT hB hbase hD ht k1
  by_cases k15 : x.kind = 15
  · exact does15_any m d base F H S G x w ho hx hT hB hbase hD ht k15
  by_cases k2 : x.kind = 2
  · exact does2_any m d base F H S G x w ho hx hT hB hbase hD ht k2
  by_cases k9 : x.kind = 9
  · exact does9_any m d base F H S G x w ho hx hT hB hbase hD ht k9
  by_cases k10 : x.kind = 10
  · exact does10_any m d base F H S G x w ho hx hT hB hbase hD ht k10
  by_cases k12 : x.kind = 12
  · exact does12_any m d base F H S G x w ho hx hT hB hbase hD ht k12
  by_cases k13 : x.kind = 13
  · exact does13_any m d base F H S G x w ho hx hT hB hbase hD ht k13
  by_cases k14 : x.kind = 14
  · exact does14_any m d base F H S G x w ho hx hT hB hbase hD ht k14
  exact doesT_any m d base F H S G x w ho hx hT hB hbase hD ht ⟨k1, k15, k2, k9, k10, k12, k13, k14⟩
end Go.Proofs.YtoolenhnhlfhmaaGreatDoor
