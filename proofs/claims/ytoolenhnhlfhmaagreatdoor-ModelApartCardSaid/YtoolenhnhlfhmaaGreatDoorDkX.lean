/- Walks: whole. -/
import Derived.Test.YtoolenhnhlfhmaaGreatDoorGQ
namespace Go.Proofs.YtoolenhnhlfhmaaGreatDoor
open Go.RowKit Go.Sort
set_option linter.unusedVariables false
set_option linter.unusedSimpArgs false

/-- What has been seen: of how many of the first k pieces each page is; and of the k-th, up to a page. -/
noncomputable def seenV (l : List (Int × Int)) (k j : Nat) : Value := .int .i64 (cntL (l.take k) (j : Int) : Int)
noncomputable def seenI (l : List (Int × Int)) (k a q j : Nat) : Value := .int .i64 ((cntL (l.take k) (j : Int) + (if a ≤ j ∧ j < q then 1 else 0) : Nat) : Int)
theorem seen_in {l : List (Int × Int)} {k a : Nat} (j : Nat) : seenV l k j = seenI l k a a j := by
  unfold seenV seenI
  rw [if_neg (by omega), Nat.add_zero]
theorem seen_out {l : List (Int × Int)} {k a b : Nat} (hk : k < l.length) (e : ix (0, 0) l k = ((a : Int), (b : Int))) (j : Nat) : seenI l k a (a + b) j = seenV l (k + 1) j := by
  unfold seenV seenI
  rw [List.take_succ_eq_append_getElem hk, cntL_app, cntL_cons, cntL_nil, ← ix_lt (d := ((0, 0) : Int × Int)) hk, e, one_if]
  congr 2
  dsimp only
  rw [Nat.add_zero]
  congr 1
  by_cases h : a ≤ j ∧ j < a + b
  · rw [if_pos h, if_pos (by omega)]
  · rw [if_neg h, if_neg (by omega)]
theorem cntL_le (l : List (Int × Int)) (p : Int) : cntL l p ≤ l.length := List.length_filter_le _ _
theorem info_int2 : (Tryz.prog.info? 3).map (fun i => (i.zero, i.size, i.bytes)) = some (some (.int .i64 0), 1, 8) := by kernel_rfl
set_option maxHeartbeats 8000000 in
set_option maxRecDepth 100000 in
theorem whole_any (m : ModelD) (F H S G : Option Addr) (fc hc sc gc : Nat) (w : World) (hmay : May2 m) (hm : ModelR w m F H S G) :
    Calls Tryz.prog 9 #[modelV m F H S G fc hc sc gc] w fun e w' => e = .returned (.bool true) ∧ Ext w w' := by
  obtain ⟨P, hP⟩ : ∃ P : Nat, m.pages = (P : Int) := ⟨m.pages.toNat, by have := hmay.pages; omega⟩
  have hpg := hmay.pages
  obtain ⟨k1, k2⟩ := (may2_iff.2 hmay).len
  have hlp := pcs_length m
  have l1 : m.free.length ≤ 4096 := by omega
  have l2 : m.hands.length ≤ 4096 := by omega
  have l3 : m.spans.length ≤ 4096 := by omega
  have P1 : P ≤ 4096 := by omega
  have P2 : 1 ≤ P := by omega
  have hl4 : (pcs m).length ≤ 4096 := by omega
  obtain ⟨W0, hW0⟩ : ∃ W0, W0 = w.alloc (.cells #[.int .i64 m.pages, .slice F m.free.length fc, .slice H m.hands.length hc, .slice S m.spans.length sc, .slice G m.gone.length gc] 30) := ⟨_, rfl⟩
  have e0 : Ext w W0 := hW0 ▸ (Ext.refl w).alloc _
  have ba : Blk W0 w.heap.size 30 #[.int .i64 m.pages, .slice F m.free.length fc, .slice H m.hands.length hc, .slice S m.spans.length sc, .slice G m.gone.length gc] := hW0 ▸ Blk.new _ _ _ _ rfl
  have x0 := ba.cell (i := 0) (v := .int .i64 m.pages) rfl
  have HE := Lib.hid hW0
  have HM := Lib.hid (And.intro (hm.ext e0) (And.intro hmay (And.intro hP (And.intro e0 (And.intro ba hlp)))))
  rw [hP] at x0
  have s0 : W0.heap.size = w.heap.size + 1 := by rw [hW0]; exact World.size_alloc _ _
  have hmk := run_make_row' (P := Tryz.prog) 28 3 (.int .i64 0) 8 Tryz.underlying28 info_int2 rfl .i64 .i64 P (by omega) (by omega)
  have HB : Hid (Ext W0 (W0.alloc (.cells (madeCells #[.int .i64 0] P) 3)) ∧ OwnS (W0.alloc (.cells (madeCells #[.int .i64 0] P) 3)) (w.heap.size + 1) 3 1 (.slice (some ⟨w.heap.size + 1, 0, none⟩) P P) P (fun _ => .int .i64 0)) := Lib.hid ⟨(Ext.refl _).alloc _, own_made W0 P (by unfold maxLen; omega) 3 (.int .i64 0) (w.heap.size + 1) s0⟩
  have HSZ := Lib.hid s0
  have hmx : max (P : Int) 0 = (P : Int) := by omega
  clear hW0 e0 ba hm hmay hP hpg k1 k2 hlp
  unfold modelV
  go_enter Tryz.func9, Tryz.ntmps9
  go_upto_region 1 with fail
  rw [← HE.out]
  go_wp2
  try rw [HSZ.out]
  go_loopg [4] m.free.length (fun q i wr => ∃ k : Nat, k ≤ m.free.length ∧ q = m.free.length - k ∧ i = .int .i64 (k : Int) ∧ Ext W0 wr ∧ OwnS wr (w.heap.size + 1) 3 1 (.slice (some ⟨w.heap.size + 1, 0, none⟩) P P) P (seenV (pcs m) k))
  case atStart => exact ⟨0, Nat.zero_le _, rfl, rfl, HB.out.1, HB.out.2.congr fun j _ => by unfold seenV; rw [List.take_zero, cntL_nil]; rfl⟩
  case round =>
    obtain ⟨k, hk, rfl, rfl, hE, hO⟩ := hrel
    have y := (HM.out.2.2.2.2.1.ext hE).cell (i := 1) (v := .slice F m.free.length fc) rfl
    by_cases hlt : k < m.free.length
    · obtain ⟨b, off, hA, hcl⟩ := HM.out.1.free (by omega)
      have a0 := hcl (k * 2 + 0) (by omega)
      have a1 := hcl (k * 2 + 1) (by omega)
      rw [show runV m.free (k * 2 + 0) = runX (ix noRun m.free k) 0 by rw [runV_row]; unfold rowV; rw [show (k * 2 + 0) / 2 = k by omega, show (k * 2 + 0) % 2 = 0 by omega]] at a0
      rw [show runV m.free (k * 2 + 1) = runX (ix noRun m.free k) 1 by rw [runV_row]; unfold rowV; rw [show (k * 2 + 1) / 2 = k by omega, show (k * 2 + 1) % 2 = 1 by omega]] at a1
      have hfit := fit_free HM.out.2.1 (ixMem (d := noRun) hlt)
      have hpc := pcs_free hlt
      generalize ix noRun m.free k = r at a0 a1 hfit hpc
      obtain ⟨f1, f2, f3, f4⟩ := hfit
      unfold fR at f1 f2 f3 f4
      dsimp only at f1 f2 f3 f4
      rw [HM.out.2.2.1] at f3 f4
      obtain ⟨a, hat⟩ : ∃ a : Nat, r.at_ = (a : Int) := ⟨(r.at_).toNat, by omega⟩
      obtain ⟨c, hn⟩ : ∃ c : Nat, r.n = (c : Int) := ⟨(r.n).toNat, by omega⟩
      replace a0 : W0.cell? ⟨b, off + k * 2, none⟩ = some (.int .i64 (a : Int)) := by rw [← hat]; exact a0
      replace a1 : W0.cell? ⟨b, off + k * 2 + 1, none⟩ = some (.int .i64 (c : Int)) := by rw [← hn]; exact a1
      rw [hat, hn] at hpc
      have hac : a + c ≤ P := by omega
      have hkl : k < (pcs m).length := by rw [HM.out.2.2.2.2.2]; omega
      have HR := Lib.hid (And.intro hE (And.intro hpc (And.intro hkl (And.intro hO (And.intro a0 a1)))))
      have q0 : (0 : Int) ≤ (k : Int) := by omega
      have q1 : (k : Int) < (m.free.length : Int) := by omega
      have c0 := hE.cell a0
      have c1 := hE.cell a1
      subst hA
      clear hE hO hpc hat hn f1 f2 f3 f4 hcl a0 a1 hkl
      go_wp2_with fail
      clear y c0 c1
      go_loopg [5] c (fun q i wr => ∃ z : Nat, a ≤ z ∧ z ≤ a + c ∧ q = a + c - z ∧ i = .int .i64 (z : Int) ∧ Ext W0 wr ∧ OwnS wr (w.heap.size + 1) 3 1 (.slice (some ⟨w.heap.size + 1, 0, none⟩) P P) P (seenI (pcs m) k a z))
      case atStart => exact ⟨a, Nat.le_refl _, by omega, by omega, rfl, HR.out.1, HR.out.2.2.2.1.congr (fun j _ => seen_in j)⟩
      case round =>
        obtain ⟨z, hz0, hz1, rfl, rfl, hE, hO⟩ := hrel
        have y := (HM.out.2.2.2.2.1.ext hE).cell (i := 1) (v := .slice (some ⟨b, off, none⟩) m.free.length fc) rfl
        have c0 := hE.cell HR.out.2.2.2.2.1
        have c1 := hE.cell HR.out.2.2.2.2.2
        have d2 : decide ((0 : Int) ≤ (z : Int)) = true := decide_eq_true (by omega)
        by_cases hlz : z < a + c
        · have d1 : decide ((z : Int) < (a : Int) + (c : Int)) = true := decide_eq_true (by omega)
          have d3 : decide ((z : Int) < (P : Int)) = true := decide_eq_true (by omega)
          have s0 := hO.cellAt (j := z) (by omega)
          have s1 := hO.frozenAt z
          have hv : seenI (pcs m) k a z z = .int .i64 ((cntL ((pcs m).take k) (z : Int) : Nat) : Int) := by unfold seenI; rw [if_neg (by omega), Nat.add_zero]
          rw [hv] at s0
          have hcl2 := Nat.le_trans (cntL_le ((pcs m).take k) (z : Int)) (by rw [List.length_take]; exact Nat.min_le_right _ _)
          generalize hvv : cntL ((pcs m).take k) (z : Int) = v at s0 hcl2
          have q2 : (0 : Int) ≤ (z : Int) := by omega
          have q3 : (z : Int) < (P : Int) := by omega
          have HZ := Lib.hid (And.intro hE (And.intro hO hvv))
          clear hE hO hv hvv
          go_wp2_with fail
          go_quiet (fail)
          go_wp2_with fail
          go_roundg (a + c - (z + 1))
          case measure => go_light; omega
          case rel =>
            refine ⟨z + 1, by omega, by omega, rfl, by go_num, (HZ.out.1.drewN _).setCell (by show W0.heap.size ≤ w.heap.size + 1; rw [HSZ.out]; exact Nat.le_refl _) _, ((HZ.out.2.1.ext ((Ext.refl _).drewN _)).set z _).congr fun j _ => ?_⟩
            unfold seenI
            by_cases e : j = z
            · subst e
              rw [if_pos rfl, if_pos (by omega), HZ.out.2.2]
              rfl
            · rw [if_neg e]
              congr 3
              by_cases e2 : a ≤ j ∧ j < z
              · rw [if_pos e2, if_pos (by omega)]
              · rw [if_neg e2, if_neg (by omega)]
        · obtain rfl : z = a + c := by omega
          have d1 : decide (((a + c : Nat) : Int) < (a : Int) + (c : Int)) = false := decide_eq_false (by omega)
          have HZ := Lib.hid (And.intro hE hO)
          clear hE hO
          go_wp2_with fail
          go_quiet (fail)
          go_wp2_with fail
          go_roundg (m.free.length - (k + 1))
          case measure => go_light; omega
          case rel =>
            exact ⟨k + 1, by omega, rfl, by go_num, HZ.out.1.drewN _, (HZ.out.2.ext ((Ext.refl _).drewN _)).congr fun j _ => seen_out HR.out.2.2.1 HR.out.2.1 j⟩
    · obtain rfl : k = m.free.length := by omega
      have HO0 := Lib.hid (And.intro hE hO)
      clear hE hO
      go_wp2_with fail
      clear y
      go_loopg [6] m.hands.length (fun q i wr => ∃ k : Nat, k ≤ m.hands.length ∧ q = m.hands.length - k ∧ i = .int .i64 (k : Int) ∧ Ext W0 wr ∧ OwnS wr (w.heap.size + 1) 3 1 (.slice (some ⟨w.heap.size + 1, 0, none⟩) P P) P (seenV (pcs m) (m.free.length + k)))
      case atStart => exact ⟨0, Nat.zero_le _, rfl, rfl, HO0.out.1, HO0.out.2⟩
      case round =>
        obtain ⟨k, hk, rfl, rfl, hE, hO⟩ := hrel
        have y := (HM.out.2.2.2.2.1.ext hE).cell (i := 2) (v := .slice H m.hands.length hc) rfl
        by_cases hlt : k < m.hands.length
        · obtain ⟨b, off, hA, hcl⟩ := HM.out.1.hands (by omega)
          have a0 := hcl (k * 3 + 1) (by omega)
          have a1 := hcl (k * 3 + 2) (by omega)
          rw [show handV m.hands (k * 3 + 1) = handX (ix noHand m.hands k) 1 by rw [handV_row]; unfold rowV; rw [show (k * 3 + 1) / 3 = k by omega, show (k * 3 + 1) % 3 = 1 by omega]] at a0
          rw [show handV m.hands (k * 3 + 2) = handX (ix noHand m.hands k) 2 by rw [handV_row]; unfold rowV; rw [show (k * 3 + 2) / 3 = k by omega, show (k * 3 + 2) % 3 = 2 by omega]] at a1
          have hfit := fit_hand HM.out.2.1 (ixMem (d := noHand) hlt)
          have hpc := pcs_hand hlt
          generalize ix noHand m.hands k = r at a0 a1 hfit hpc
          obtain ⟨f1, f2, f3, f4⟩ := hfit
          unfold fH at f1 f2 f3 f4
          dsimp only at f1 f2 f3 f4
          rw [HM.out.2.2.1] at f3 f4
          obtain ⟨a, hat⟩ : ∃ a : Nat, r.at_ = (a : Int) := ⟨(r.at_).toNat, by omega⟩
          obtain ⟨c, hn⟩ : ∃ c : Nat, r.n = (c : Int) := ⟨(r.n).toNat, by omega⟩
          replace a0 : W0.cell? ⟨b, off + k * 3 + 1, none⟩ = some (.int .i64 (a : Int)) := by rw [← hat]; exact a0
          replace a1 : W0.cell? ⟨b, off + k * 3 + 2, none⟩ = some (.int .i64 (c : Int)) := by rw [← hn]; exact a1
          rw [hat, hn] at hpc
          have hac : a + c ≤ P := by omega
          have hkl : m.free.length + k < (pcs m).length := by rw [HM.out.2.2.2.2.2]; omega
          have HR := Lib.hid (And.intro hE (And.intro hpc (And.intro hkl (And.intro hO (And.intro a0 a1)))))
          have q0 : (0 : Int) ≤ (k : Int) := by omega
          have q1 : (k : Int) < (m.hands.length : Int) := by omega
          have c0 := hE.cell a0
          have c1 := hE.cell a1
          subst hA
          clear hE hO hpc hat hn f1 f2 f3 f4 hcl a0 a1 hkl
          go_wp2_with fail
          clear y c0 c1
          go_loopg [7] c (fun q i wr => ∃ z : Nat, a ≤ z ∧ z ≤ a + c ∧ q = a + c - z ∧ i = .int .i64 (z : Int) ∧ Ext W0 wr ∧ OwnS wr (w.heap.size + 1) 3 1 (.slice (some ⟨w.heap.size + 1, 0, none⟩) P P) P (seenI (pcs m) (m.free.length + k) a z))
          case atStart => exact ⟨a, Nat.le_refl _, by omega, by omega, rfl, HR.out.1, HR.out.2.2.2.1.congr (fun j _ => seen_in j)⟩
          case round =>
            obtain ⟨z, hz0, hz1, rfl, rfl, hE, hO⟩ := hrel
            have y := (HM.out.2.2.2.2.1.ext hE).cell (i := 2) (v := .slice (some ⟨b, off, none⟩) m.hands.length hc) rfl
            have c0 := hE.cell HR.out.2.2.2.2.1
            have c1 := hE.cell HR.out.2.2.2.2.2
            have d2 : decide ((0 : Int) ≤ (z : Int)) = true := decide_eq_true (by omega)
            by_cases hlz : z < a + c
            · have d1 : decide ((z : Int) < (a : Int) + (c : Int)) = true := decide_eq_true (by omega)
              have d3 : decide ((z : Int) < (P : Int)) = true := decide_eq_true (by omega)
              have s0 := hO.cellAt (j := z) (by omega)
              have s1 := hO.frozenAt z
              have hv : seenI (pcs m) (m.free.length + k) a z z = .int .i64 ((cntL ((pcs m).take (m.free.length + k)) (z : Int) : Nat) : Int) := by unfold seenI; rw [if_neg (by omega), Nat.add_zero]
              rw [hv] at s0
              have hcl2 := Nat.le_trans (cntL_le ((pcs m).take (m.free.length + k)) (z : Int)) (by rw [List.length_take]; exact Nat.min_le_right _ _)
              generalize hvv : cntL ((pcs m).take (m.free.length + k)) (z : Int) = v at s0 hcl2
              have q2 : (0 : Int) ≤ (z : Int) := by omega
              have q3 : (z : Int) < (P : Int) := by omega
              have HZ := Lib.hid (And.intro hE (And.intro hO hvv))
              clear hE hO hv hvv
              go_wp2_with fail
              go_quiet (fail)
              go_wp2_with fail
              go_roundg (a + c - (z + 1))
              case measure => go_light; omega
              case rel =>
                refine ⟨z + 1, by omega, by omega, rfl, by go_num, (HZ.out.1.drewN _).setCell (by show W0.heap.size ≤ w.heap.size + 1; rw [HSZ.out]; exact Nat.le_refl _) _, ((HZ.out.2.1.ext ((Ext.refl _).drewN _)).set z _).congr fun j _ => ?_⟩
                unfold seenI
                by_cases e : j = z
                · subst e
                  rw [if_pos rfl, if_pos (by omega), HZ.out.2.2]
                  rfl
                · rw [if_neg e]
                  congr 3
                  by_cases e2 : a ≤ j ∧ j < z
                  · rw [if_pos e2, if_pos (by omega)]
                  · rw [if_neg e2, if_neg (by omega)]
            · obtain rfl : z = a + c := by omega
              have d1 : decide (((a + c : Nat) : Int) < (a : Int) + (c : Int)) = false := decide_eq_false (by omega)
              have HZ := Lib.hid (And.intro hE hO)
              clear hE hO
              go_wp2_with fail
              go_quiet (fail)
              go_wp2_with fail
              go_roundg (m.hands.length - (k + 1))
              case measure => go_light; omega
              case rel =>
                exact ⟨k + 1, by omega, rfl, by go_num, HZ.out.1.drewN _, (HZ.out.2.ext ((Ext.refl _).drewN _)).congr fun j _ => seen_out HR.out.2.2.1 HR.out.2.1 j⟩
        · obtain rfl : k = m.hands.length := by omega
          have HO1 := Lib.hid (And.intro hE hO)
          clear hE hO
          go_wp2_with fail
          clear y
          go_loopg [8] m.spans.length (fun q i wr => ∃ k : Nat, k ≤ m.spans.length ∧ q = m.spans.length - k ∧ i = .int .i64 (k : Int) ∧ Ext W0 wr ∧ OwnS wr (w.heap.size + 1) 3 1 (.slice (some ⟨w.heap.size + 1, 0, none⟩) P P) P (seenV (pcs m) (m.free.length + (m.hands.length + k))))
          case atStart => exact ⟨0, Nat.zero_le _, rfl, rfl, HO1.out.1, HO1.out.2⟩
          case round =>
            obtain ⟨k, hk, rfl, rfl, hE, hO⟩ := hrel
            have y := (HM.out.2.2.2.2.1.ext hE).cell (i := 3) (v := .slice S m.spans.length sc) rfl
            by_cases hlt : k < m.spans.length
            · obtain ⟨b, off, hA, hcl⟩ := HM.out.1.spans (by omega)
              have a0 := hcl (k * 8 + 0) (by omega)
              have a1 := hcl (k * 8 + 1) (by omega)
              rw [show holdsV m.spans (k * 8 + 0) = holdC (ix noHold m.spans k) 0 by rw [holdsV_row]; unfold rowV; rw [show (k * 8 + 0) / 8 = k by omega, show (k * 8 + 0) % 8 = 0 by omega]] at a0
              rw [show holdsV m.spans (k * 8 + 1) = holdC (ix noHold m.spans k) 1 by rw [holdsV_row]; unfold rowV; rw [show (k * 8 + 1) / 8 = k by omega, show (k * 8 + 1) % 8 = 1 by omega]] at a1
              have hfit := fit_span HM.out.2.1 (ixMem (d := noHold) hlt)
              have hpc := pcs_span hlt
              generalize ix noHold m.spans k = r at a0 a1 hfit hpc
              obtain ⟨f1, f2, f3, f4⟩ := hfit
              unfold fS at f1 f2 f3 f4
              dsimp only at f1 f2 f3 f4
              rw [HM.out.2.2.1] at f3 f4
              obtain ⟨a, hat⟩ : ∃ a : Nat, r.page = (a : Int) := ⟨(r.page).toNat, by omega⟩
              obtain ⟨c, hn⟩ : ∃ c : Nat, r.pages = (c : Int) := ⟨(r.pages).toNat, by omega⟩
              replace a0 : W0.cell? ⟨b, off + k * 8, none⟩ = some (.int .i64 (a : Int)) := by rw [← hat]; exact a0
              replace a1 : W0.cell? ⟨b, off + k * 8 + 1, none⟩ = some (.int .i64 (c : Int)) := by rw [← hn]; exact a1
              rw [hat, hn] at hpc
              have hac : a + c ≤ P := by omega
              have hkl : m.free.length + (m.hands.length + k) < (pcs m).length := by rw [HM.out.2.2.2.2.2]; omega
              have HR := Lib.hid (And.intro hE (And.intro hpc (And.intro hkl (And.intro hO (And.intro a0 a1)))))
              have q0 : (0 : Int) ≤ (k : Int) := by omega
              have q1 : (k : Int) < (m.spans.length : Int) := by omega
              have c0 := hE.cell a0
              have c1 := hE.cell a1
              subst hA
              clear hE hO hpc hat hn f1 f2 f3 f4 hcl a0 a1 hkl
              go_wp2_with fail
              clear y c0 c1
              go_loopg [9] c (fun q i wr => ∃ z : Nat, a ≤ z ∧ z ≤ a + c ∧ q = a + c - z ∧ i = .int .i64 (z : Int) ∧ Ext W0 wr ∧ OwnS wr (w.heap.size + 1) 3 1 (.slice (some ⟨w.heap.size + 1, 0, none⟩) P P) P (seenI (pcs m) (m.free.length + (m.hands.length + k)) a z))
              case atStart => exact ⟨a, Nat.le_refl _, by omega, by omega, rfl, HR.out.1, HR.out.2.2.2.1.congr (fun j _ => seen_in j)⟩
              case round =>
                obtain ⟨z, hz0, hz1, rfl, rfl, hE, hO⟩ := hrel
                have y := (HM.out.2.2.2.2.1.ext hE).cell (i := 3) (v := .slice (some ⟨b, off, none⟩) m.spans.length sc) rfl
                have c0 := hE.cell HR.out.2.2.2.2.1
                have c1 := hE.cell HR.out.2.2.2.2.2
                have d2 : decide ((0 : Int) ≤ (z : Int)) = true := decide_eq_true (by omega)
                by_cases hlz : z < a + c
                · have d1 : decide ((z : Int) < (a : Int) + (c : Int)) = true := decide_eq_true (by omega)
                  have d3 : decide ((z : Int) < (P : Int)) = true := decide_eq_true (by omega)
                  have s0 := hO.cellAt (j := z) (by omega)
                  have s1 := hO.frozenAt z
                  have hv : seenI (pcs m) (m.free.length + (m.hands.length + k)) a z z = .int .i64 ((cntL ((pcs m).take (m.free.length + (m.hands.length + k))) (z : Int) : Nat) : Int) := by unfold seenI; rw [if_neg (by omega), Nat.add_zero]
                  rw [hv] at s0
                  have hcl2 := Nat.le_trans (cntL_le ((pcs m).take (m.free.length + (m.hands.length + k))) (z : Int)) (by rw [List.length_take]; exact Nat.min_le_right _ _)
                  generalize hvv : cntL ((pcs m).take (m.free.length + (m.hands.length + k))) (z : Int) = v at s0 hcl2
                  have q2 : (0 : Int) ≤ (z : Int) := by omega
                  have q3 : (z : Int) < (P : Int) := by omega
                  have HZ := Lib.hid (And.intro hE (And.intro hO hvv))
                  clear hE hO hv hvv
                  go_wp2_with fail
                  go_quiet (fail)
                  go_wp2_with fail
                  go_roundg (a + c - (z + 1))
                  case measure => go_light; omega
                  case rel =>
                    refine ⟨z + 1, by omega, by omega, rfl, by go_num, (HZ.out.1.drewN _).setCell (by show W0.heap.size ≤ w.heap.size + 1; rw [HSZ.out]; exact Nat.le_refl _) _, ((HZ.out.2.1.ext ((Ext.refl _).drewN _)).set z _).congr fun j _ => ?_⟩
                    unfold seenI
                    by_cases e : j = z
                    · subst e
                      rw [if_pos rfl, if_pos (by omega), HZ.out.2.2]
                      rfl
                    · rw [if_neg e]
                      congr 3
                      by_cases e2 : a ≤ j ∧ j < z
                      · rw [if_pos e2, if_pos (by omega)]
                      · rw [if_neg e2, if_neg (by omega)]
                · obtain rfl : z = a + c := by omega
                  have d1 : decide (((a + c : Nat) : Int) < (a : Int) + (c : Int)) = false := decide_eq_false (by omega)
                  have HZ := Lib.hid (And.intro hE hO)
                  clear hE hO
                  go_wp2_with fail
                  go_quiet (fail)
                  go_wp2_with fail
                  go_roundg (m.spans.length - (k + 1))
                  case measure => go_light; omega
                  case rel =>
                    exact ⟨k + 1, by omega, rfl, by go_num, HZ.out.1.drewN _, (HZ.out.2.ext ((Ext.refl _).drewN _)).congr fun j _ => seen_out HR.out.2.2.1 HR.out.2.1 j⟩
            · obtain rfl : k = m.spans.length := by omega
              have HO2 := Lib.hid (And.intro hE hO)
              clear hE hO
              go_wp2_with fail
              clear y
              go_loopg [10] P (fun q i wr => ∃ k : Nat, k ≤ P ∧ q = P - k ∧ i = .int .i64 (k : Int) ∧ Ext W0 wr ∧ OwnS wr (w.heap.size + 1) 3 1 (.slice (some ⟨w.heap.size + 1, 0, none⟩) P P) P (fun _ => .int .i64 1))
              case atStart =>
                refine ⟨0, Nat.zero_le _, rfl, rfl, HO2.out.1, HO2.out.2.congr fun j hj => ?_⟩
                unfold seenV
                rw [← HM.out.2.2.2.2.2, List.take_length, HM.out.2.1.laid.2 (j : Int) (by omega) (by rw [HM.out.2.2.1]; omega)]
                rfl
              case round =>
                obtain ⟨k, hk, rfl, rfl, hE, hO⟩ := hrel
                by_cases hlt : k < P
                · have s0 := hO.cellAt (j := k) (by omega)
                  have q0 : (0 : Int) ≤ (k : Int) := by omega
                  have q1 : (k : Int) < (P : Int) := by omega
                  have HZ := Lib.hid (And.intro hE hO)
                  clear hE hO
                  go_wp2_with fail
                  go_roundg (P - (k + 1))
                  case measure => go_light; omega
                  case rel => exact ⟨k + 1, by omega, rfl, by go_num, HZ.out.1, HZ.out.2⟩
                · obtain rfl : k = P := by omega
                  have HZ := Lib.hid hE
                  clear hE hO
                  go_wp2_with fail
                  go_ret
                  exact ⟨rfl, HM.out.2.2.2.1.trans HZ.out⟩
end Go.Proofs.YtoolenhnhlfhmaaGreatDoor
