/- Walks: SameInts, SameRuns, Same, of what is alike. -/
import Derived.Test.YtoolenhnhlfhmaaGreatDoorDkS
namespace Go.Proofs.YtoolenhnhlfhmaaGreatDoor
open Go.RowKit Go.Sort
set_option linter.unusedVariables false
set_option linter.unusedSimpArgs false

set_option maxHeartbeats 1000000 in
set_option maxRecDepth 100000 in
theorem sameI_eq (l : List Int) (A C : Option Addr) (a c : Nat) (w : World) (hl : l.length ≤ 1000000) (hA : SlR w A l.length 1 (intsV l)) (hC : SlR w C l.length 1 (intsV l)) :
    Calls Tryz.prog 20 #[.slice A l.length a, .slice C l.length c] w fun e w' => e = .returned (.bool true) ∧ Ext w w' := by
  have HH := Lib.hid (And.intro hA hC)
  clear hA hC
  go_enter Tryz.func20, Tryz.ntmps20
  go_wp2_with fail
  go_loopg [5] l.length (fun q i wr => ∃ k : Nat, k ≤ l.length ∧ q = l.length - k ∧ i = .int .i64 (k : Int) ∧ Ext w wr)
  case atStart => exact ⟨0, Nat.zero_le _, rfl, rfl, Ext.refl _⟩
  case round =>
    obtain ⟨k, hk, rfl, rfl, hE⟩ := hrel
    by_cases hlt : k < l.length
    · obtain ⟨b, off, rfl, hc⟩ := HH.out.1 (by omega)
      obtain ⟨b', off', rfl, hc'⟩ := HH.out.2 (by omega)
      have c0 := hE.cell (hc k (by omega))
      have c1 := hE.cell (hc' k (by omega))
      clear hc hc'
      unfold intsV at c0 c1
      generalize ix 0 l k = x at c0 c1
      have q0 : (0 : Int) ≤ (k : Int) := by omega
      have q1 : (k : Int) < (l.length : Int) := by omega
      have HE := Lib.hid hE
      clear hE
      go_wp2_with fail
      go_quiet (fail)
      go_wp2_with fail
      go_roundg (l.length - (k + 1))
      case measure => go_light; omega
      case rel => exact ⟨k + 1, by omega, rfl, by go_num, HE.out.drewN _⟩
    · obtain rfl : k = l.length := by omega
      have HE := Lib.hid hE
      clear hE
      go_wp2_with fail
      go_ret
      exact ⟨rfl, HE.out⟩
set_option maxHeartbeats 1000000 in
set_option maxRecDepth 100000 in
theorem sameR_eq (l : List RunD) (A C : Option Addr) (a c : Nat) (w : World) (hl : l.length ≤ 1000000) (hA : SlR w A l.length 2 (runV l)) (hC : SlR w C l.length 2 (runV l)) :
    Calls Tryz.prog 28 #[.slice A l.length a, .slice C l.length c] w fun e w' => e = .returned (.bool true) ∧ Ext w w' := by
  have HH := Lib.hid (And.intro hA hC)
  clear hA hC
  go_enter Tryz.func28, Tryz.ntmps28
  go_wp2_with fail
  go_loopg [5] l.length (fun q i wr => ∃ k : Nat, k ≤ l.length ∧ q = l.length - k ∧ i = .int .i64 (k : Int) ∧ Ext w wr)
  case atStart => exact ⟨0, Nat.zero_le _, rfl, rfl, Ext.refl _⟩
  case round =>
    obtain ⟨k, hk, rfl, rfl, hE⟩ := hrel
    by_cases hlt : k < l.length
    · obtain ⟨b, off, rfl, hc⟩ := HH.out.1 (by omega)
      obtain ⟨b', off', rfl, hc'⟩ := HH.out.2 (by omega)
      have c0 := hE.cell (hc (k * 2) (by omega))
      have c1 := hE.cell (hc (k * 2 + 1) (by omega))
      have d0 := hE.cell (hc' (k * 2) (by omega))
      have d1 := hE.cell (hc' (k * 2 + 1) (by omega))
      rw [runV0] at c0 d0
      rw [runV1, ← Nat.add_assoc] at c1 d1
      clear hc hc'
      generalize ix noRun l k = r at c0 c1 d0 d1
      have q0 : (0 : Int) ≤ (k : Int) := by omega
      have q1 : (k : Int) < (l.length : Int) := by omega
      have HE := Lib.hid hE
      clear hE
      go_wp2_with fail
      go_quiet (fail)
      go_wp2_with fail
      go_roundg (l.length - (k + 1))
      case measure => go_light; omega
      case rel => exact ⟨k + 1, by omega, rfl, by go_num, HE.out.drewN _⟩
    · obtain rfl : k = l.length := by omega
      have HE := Lib.hid hE
      clear hE
      go_wp2_with fail
      go_ret
      exact ⟨rfl, HE.out⟩

set_option maxHeartbeats 4000000 in
set_option maxRecDepth 100000 in
theorem same28_eq (m : ModelD) (F H S G F2 H2 S2 G2 : Option Addr) (fc hc sc gc fc2 hc2 sc2 gc2 : Nat) (w : World) (hlen : LenM m) (hm : ModelR w m F H S G) (hm2 : ModelR w m F2 H2 S2 G2) :
    Calls Tryz.prog 8 #[modelV m F H S G fc hc sc gc, modelV m F2 H2 S2 G2 fc2 hc2 sc2 gc2] w fun e w' => e = .returned (.bool true) ∧ Ext w w' := by
  obtain ⟨Wa, hWa⟩ : ∃ Wa, Wa = w.alloc (.cells #[.int .i64 m.pages, .slice F m.free.length fc, .slice H m.hands.length hc, .slice S m.spans.length sc, .slice G m.gone.length gc] 30) := ⟨_, rfl⟩
  obtain ⟨W0, hW0⟩ : ∃ W0, W0 = Wa.alloc (.cells #[.int .i64 m.pages, .slice F2 m.free.length fc2, .slice H2 m.hands.length hc2, .slice S2 m.spans.length sc2, .slice G2 m.gone.length gc2] 30) := ⟨_, rfl⟩
  have ea : Ext w Wa := hWa ▸ (Ext.refl w).alloc _
  have ec : Ext Wa W0 := hW0 ▸ (Ext.refl Wa).alloc _
  have sa : Wa.heap.size = w.heap.size + 1 := by rw [hWa]; exact World.size_alloc _ _
  have ba : Blk W0 w.heap.size 30 #[.int .i64 m.pages, .slice F m.free.length fc, .slice H m.hands.length hc, .slice S m.spans.length sc, .slice G m.gone.length gc] := ((hWa ▸ Blk.new _ _ _ _ rfl : Blk Wa w.heap.size _ _).ext ec)
  have bb : Blk W0 (w.heap.size + 1) 30 #[.int .i64 m.pages, .slice F2 m.free.length fc2, .slice H2 m.hands.length hc2, .slice S2 m.spans.length sc2, .slice G2 m.gone.length gc2] := sa ▸ (hW0 ▸ Blk.new _ _ _ _ rfl : Blk W0 Wa.heap.size _ _)
  have e0 : Ext w W0 := ea.trans ec
  have HE : Hid (W0 = (w.alloc (.cells #[.int .i64 m.pages, .slice F m.free.length fc, .slice H m.hands.length hc, .slice S m.spans.length sc, .slice G m.gone.length gc] 30)).alloc (.cells #[.int .i64 m.pages, .slice F2 m.free.length fc2, .slice H2 m.hands.length hc2, .slice S2 m.spans.length sc2, .slice G2 m.gone.length gc2] 30)) := Lib.hid (by rw [hW0, hWa])
  have HW : Hid (Ext w W0 ∧ Blk W0 w.heap.size 30 #[.int .i64 m.pages, .slice F m.free.length fc, .slice H m.hands.length hc, .slice S m.spans.length sc, .slice G m.gone.length gc] ∧ Blk W0 (w.heap.size + 1) 30 #[.int .i64 m.pages, .slice F2 m.free.length fc2, .slice H2 m.hands.length hc2, .slice S2 m.spans.length sc2, .slice G2 m.gone.length gc2]) := Lib.hid ⟨e0, ba, bb⟩
  have HM := Lib.hid (And.intro (hm.ext e0) (And.intro (hm2.ext e0) hlen))
  have l2 := hlen.hands
  have l3 := hlen.spans
  have x0 := ba.cell (i := 0) (v := .int .i64 m.pages) rfl
  have x1 := ba.cell (i := 1) (v := .slice F m.free.length fc) rfl
  have x2 := ba.cell (i := 2) (v := .slice H m.hands.length hc) rfl
  have x3 := ba.cell (i := 3) (v := .slice S m.spans.length sc) rfl
  have x4 := ba.cell (i := 4) (v := .slice G m.gone.length gc) rfl
  have x0' := bb.cell (i := 0) (v := .int .i64 m.pages) rfl
  have x1' := bb.cell (i := 1) (v := .slice F2 m.free.length fc2) rfl
  have x2' := bb.cell (i := 2) (v := .slice H2 m.hands.length hc2) rfl
  have x3' := bb.cell (i := 3) (v := .slice S2 m.spans.length sc2) rfl
  have x4' := bb.cell (i := 4) (v := .slice G2 m.gone.length gc2) rfl
  clear hWa hW0 ea ec sa ba bb e0 hm hm2 hlen
  unfold modelV
  go_enter Tryz.func8, Tryz.ntmps8
  go_upto_region 1 with fail
  rw [← HE.out]
  go_upto_region 3 with (first
    | (go_at_call 28; (refine (sameR_eq m.free F F2 fc fc2 _ HM.out.2.2.free HM.out.1.free HM.out.2.1.free).mono ?_); rintro e w1 ⟨rfl, hE1⟩; have ba1 := HW.out.2.1.ext hE1; have bb1 := HW.out.2.2.ext hE1; have u0 := ba1.cell (i := 0) (v := .int .i64 m.pages) rfl; have u1 := ba1.cell (i := 1) (v := .slice F m.free.length fc) rfl; have u2 := ba1.cell (i := 2) (v := .slice H m.hands.length hc) rfl; have u3 := ba1.cell (i := 3) (v := .slice S m.spans.length sc) rfl; have u4 := ba1.cell (i := 4) (v := .slice G m.gone.length gc) rfl; have u0' := bb1.cell (i := 0) (v := .int .i64 m.pages) rfl; have u1' := bb1.cell (i := 1) (v := .slice F2 m.free.length fc2) rfl; have u2' := bb1.cell (i := 2) (v := .slice H2 m.hands.length hc2) rfl; have u3' := bb1.cell (i := 3) (v := .slice S2 m.spans.length sc2) rfl; have u4' := bb1.cell (i := 4) (v := .slice G2 m.gone.length gc2) rfl; have HE1 := Lib.hid (And.intro hE1 (And.intro ba1 bb1)); clear hE1 ba1 bb1)
    | (go_at_call 20; (refine (sameI_eq m.gone G G2 gc gc2 _ HM.out.2.2.gone (SlR.ext HM.out.1.gone HE1.out.1) (SlR.ext HM.out.2.1.gone HE1.out.1)).mono ?_); rintro e w2 ⟨rfl, hE2⟩; have ba2 := HE1.out.2.1.ext hE2; have bb2 := HE1.out.2.2.ext hE2; have v0 := ba2.cell (i := 0) (v := .int .i64 m.pages) rfl; have v1 := ba2.cell (i := 1) (v := .slice F m.free.length fc) rfl; have v2 := ba2.cell (i := 2) (v := .slice H m.hands.length hc) rfl; have v3 := ba2.cell (i := 3) (v := .slice S m.spans.length sc) rfl; have v4 := ba2.cell (i := 4) (v := .slice G m.gone.length gc) rfl; have v0' := bb2.cell (i := 0) (v := .int .i64 m.pages) rfl; have v1' := bb2.cell (i := 1) (v := .slice F2 m.free.length fc2) rfl; have v2' := bb2.cell (i := 2) (v := .slice H2 m.hands.length hc2) rfl; have v3' := bb2.cell (i := 3) (v := .slice S2 m.spans.length sc2) rfl; have v4' := bb2.cell (i := 4) (v := .slice G2 m.gone.length gc2) rfl; have HE2 := Lib.hid (And.intro (HE1.out.1.trans hE2) (And.intro ba2 bb2)); clear hE2 ba2 bb2))
  go_wp2_with fail
  go_loopg [5] m.hands.length (fun q i wr => ∃ k : Nat, k ≤ m.hands.length ∧ q = m.hands.length - k ∧ i = .int .i64 (k : Int) ∧ Ext w2 wr)
  case atStart => exact ⟨0, Nat.zero_le _, rfl, rfl, Ext.refl _⟩
  case round =>
    obtain ⟨k, hk, rfl, rfl, hE⟩ := hrel
    have y2 := (HE2.out.2.1.ext hE).cell (i := 2) (v := .slice H m.hands.length hc) rfl
    have y2' := (HE2.out.2.2.ext hE).cell (i := 2) (v := .slice H2 m.hands.length hc2) rfl
    by_cases hlt : k < m.hands.length
    · obtain ⟨b, off, rfl, h1⟩ := HM.out.1.hands (by omega)
      obtain ⟨b', off', rfl, h2⟩ := HM.out.2.1.hands (by omega)
      have hr : ∀ j, j < 3 → wr.cell? ⟨b, off + (k * 3 + j), none⟩ = some (handX (ix noHand m.hands k) j) := fun j hj => by
        have := (HE2.out.1.trans hE).cell (h1 (k * 3 + j) (by omega))
        rw [handV_row] at this
        unfold rowV at this
        rwa [show (k * 3 + j) / 3 = k by omega, show (k * 3 + j) % 3 = j by omega] at this
      have hr' : ∀ j, j < 3 → wr.cell? ⟨b', off' + (k * 3 + j), none⟩ = some (handX (ix noHand m.hands k) j) := fun j hj => by
        have := (HE2.out.1.trans hE).cell (h2 (k * 3 + j) (by omega))
        rw [handV_row] at this
        unfold rowV at this
        rwa [show (k * 3 + j) / 3 = k by omega, show (k * 3 + j) % 3 = j by omega] at this
      generalize ix noHand m.hands k = r at hr hr'
      have c0 : wr.cell? ⟨b, off + k * 3, none⟩ = some (.int .i64 r.t) := hr 0 (by omega)
      have c1 : wr.cell? ⟨b, off + k * 3 + 1, none⟩ = some (.int .i64 r.at_) := hr 1 (by omega)
      have c2 : wr.cell? ⟨b, off + k * 3 + 2, none⟩ = some (.int .i64 r.n) := hr 2 (by omega)
      have d0 : wr.cell? ⟨b', off' + k * 3, none⟩ = some (.int .i64 r.t) := hr' 0 (by omega)
      have d1 : wr.cell? ⟨b', off' + k * 3 + 1, none⟩ = some (.int .i64 r.at_) := hr' 1 (by omega)
      have d2 : wr.cell? ⟨b', off' + k * 3 + 2, none⟩ = some (.int .i64 r.n) := hr' 2 (by omega)
      have q0 : (0 : Int) ≤ (k : Int) := by omega
      have q1 : (k : Int) < (m.hands.length : Int) := by omega
      have HEr := Lib.hid hE
      clear hE hr hr' h1 h2
      go_wp2_with fail
      go_quiet (fail)
      go_wp2_with fail
      go_roundg (m.hands.length - (k + 1))
      case measure => go_light; omega
      case rel => exact ⟨k + 1, by omega, rfl, by go_num, HEr.out.drewN _⟩
    · obtain rfl : k = m.hands.length := by omega
      have HEr := Lib.hid (HE2.out.1.trans hE)
      have HB := Lib.hid (And.intro (HE2.out.2.1.ext hE) (HE2.out.2.2.ext hE))
      clear hE
      go_wp2_with fail
      go_loopg [6] m.spans.length (fun q i ws => ∃ k : Nat, k ≤ m.spans.length ∧ q = m.spans.length - k ∧ i = .int .i64 (k : Int) ∧ Ext wr ws)
      case atStart => exact ⟨0, Nat.zero_le _, rfl, rfl, Ext.refl _⟩
      case round =>
        clear y2 y2'
        obtain ⟨k, hk, rfl, rfl, hE⟩ := hrel
        have y3 := (HB.out.1.ext hE).cell (i := 3) (v := .slice S m.spans.length sc) rfl
        have y3' := (HB.out.2.ext hE).cell (i := 3) (v := .slice S2 m.spans.length sc2) rfl
        by_cases hlt : k < m.spans.length
        · obtain ⟨b, off, rfl, h1⟩ := HM.out.1.spans (by omega)
          obtain ⟨b', off', rfl, h2⟩ := HM.out.2.1.spans (by omega)
          have hr : ∀ j, j < 8 → wr.cell? ⟨b, off + (k * 8 + j), none⟩ = some (holdC (ix noHold m.spans k) j) := fun j hj => by
            have := (HEr.out.trans hE).cell (h1 (k * 8 + j) (by omega))
            rwa [holdsV_at _ _ _ hj] at this
          have hr' : ∀ j, j < 8 → wr.cell? ⟨b', off' + (k * 8 + j), none⟩ = some (holdC (ix noHold m.spans k) j) := fun j hj => by
            have := (HEr.out.trans hE).cell (h2 (k * 8 + j) (by omega))
            rwa [holdsV_at _ _ _ hj] at this
          generalize ix noHold m.spans k = r at hr hr'
          have c0 : wr.cell? ⟨b, off + k * 8, none⟩ = some (.int .i64 r.page) := hr 0 (by omega)
          have c1 : wr.cell? ⟨b, off + k * 8 + 1, none⟩ = some (.int .i64 r.pages) := hr 1 (by omega)
          have c2 : wr.cell? ⟨b, off + k * 8 + 2, none⟩ = some (.int .i64 r.cls) := hr 2 (by omega)
          have c3 : wr.cell? ⟨b, off + k * 8 + 3, none⟩ = some (.int .i64 r.holder) := hr 3 (by omega)
          have c4 : wr.cell? ⟨b, off + k * 8 + 4, none⟩ = some (.int .i64 r.claim) := hr 4 (by omega)
          have c5 : wr.cell? ⟨b, off + k * 8 + 5, none⟩ = some (.bool r.swept) := hr 5 (by omega)
          have c6 : wr.cell? ⟨b, off + k * 8 + 6, none⟩ = some (.int .u64 (r.alloc : Int)) := hr 6 (by omega)
          have c7 : wr.cell? ⟨b, off + k * 8 + 7, none⟩ = some (.int .u64 (r.marks : Int)) := hr 7 (by omega)
          have d0 : wr.cell? ⟨b', off' + k * 8, none⟩ = some (.int .i64 r.page) := hr' 0 (by omega)
          have d1 : wr.cell? ⟨b', off' + k * 8 + 1, none⟩ = some (.int .i64 r.pages) := hr' 1 (by omega)
          have d2 : wr.cell? ⟨b', off' + k * 8 + 2, none⟩ = some (.int .i64 r.cls) := hr' 2 (by omega)
          have d3 : wr.cell? ⟨b', off' + k * 8 + 3, none⟩ = some (.int .i64 r.holder) := hr' 3 (by omega)
          have d4 : wr.cell? ⟨b', off' + k * 8 + 4, none⟩ = some (.int .i64 r.claim) := hr' 4 (by omega)
          have d5 : wr.cell? ⟨b', off' + k * 8 + 5, none⟩ = some (.bool r.swept) := hr' 5 (by omega)
          have d6 : wr.cell? ⟨b', off' + k * 8 + 6, none⟩ = some (.int .u64 (r.alloc : Int)) := hr' 6 (by omega)
          have d7 : wr.cell? ⟨b', off' + k * 8 + 7, none⟩ = some (.int .u64 (r.marks : Int)) := hr' 7 (by omega)
          have q0 : (0 : Int) ≤ (k : Int) := by omega
          have q1 : (k : Int) < (m.spans.length : Int) := by omega
          have HEs := Lib.hid hE
          clear hE hr hr' h1 h2
          go_wp2_with fail
          go_quiet (fail)
          go_wp2_with fail
          go_roundg (m.spans.length - (k + 1))
          case measure => go_light; omega
          case rel => exact ⟨k + 1, by omega, rfl, by go_num, HEs.out.drewN _⟩
        · obtain rfl : k = m.spans.length := by omega
          have HEs := Lib.hid hE
          clear hE
          go_wp2_with fail
          go_ret
          exact ⟨rfl, (HW.out.1.trans HEr.out).trans HEs.out⟩
end Go.Proofs.YtoolenhnhlfhmaaGreatDoor
