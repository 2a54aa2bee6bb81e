/- The walk of the law of pages apart: from any numbers, masks, and marks on it answers true. -/
import Derived.Test.YtoolenhnhlfhmaaGreatDoorDkY
namespace Go.Proofs.YtoolenhnhlfhmaaGreatDoor
open Go.RowKit Go.Sort
set_option linter.unusedVariables false
set_option linter.unusedSimpArgs false

/-- A slice that does not lie in a block. -/
def OffS (b n : Nat) (A : Option Addr) : Prop := 0 < n → ∀ a, A = some a → a.block ≠ b
structure OffM (b : Nat) (m : ModelD) (F H S G : Option Addr) : Prop where
  free : OffS b m.free.length F
  hands : OffS b m.hands.length H
  spans : OffS b m.spans.length S
  gone : OffS b m.gone.length G
theorem SlR.off {w : World} {A : Option Addr} {n sz : Nat} {f : Nat → Value} (h : SlR w A n sz f) {p : Addr} (ho : OffS p.block n A) (v : Value) : SlR (w.setCell p v) A n sz f := fun hn => by
  obtain ⟨b, off, rfl, hc⟩ := h hn
  have hb := ho hn _ rfl
  exact ⟨b, off, rfl, fun j hj => (World.cell?_setCell_far w p ⟨b, off + j, none⟩ v (fun e => hb e.symm)).trans (hc j hj)⟩
theorem SlR.offSize {w : World} {A : Option Addr} {n sz : Nat} {f : Nat → Value} (h : SlR w A n sz f) (hs : 0 < sz) : OffS w.heap.size n A := fun hn a e => by
  obtain ⟨b, off, rfl, hc⟩ := h hn
  obtain rfl : a = ⟨b, off, none⟩ := (Option.some.inj e).symm
  have := World.block_lt_of_cell? _ _ (hc 0 (Nat.mul_pos hn hs))
  dsimp only at this ⊢
  omega
theorem OwnS.off {w : World} {base : Nat} {t : TypeId} {sz n c : Nat} {A : Option Addr} {f : Nat → Value} (h : OwnS w base t sz (.slice A n c) n f) {b : Nat} (hb : b < base) : OffS b n A := fun _ a e => by
  subst e
  have := (World.ownsRow.lt h a.block rfl).1
  omega
theorem ModelR.off {w : World} {m : ModelD} {F H S G : Option Addr} (h : ModelR w m F H S G) {p : Addr} (ho : OffM p.block m F H S G) (v : Value) : ModelR (w.setCell p v) m F H S G := ⟨h.free.off ho.free v, h.hands.off ho.hands v, h.spans.off ho.spans v, h.gone.off ho.gone v⟩
theorem ModelR.offSize {w : World} {m : ModelD} {F H S G : Option Addr} (h : ModelR w m F H S G) : OffM w.heap.size m F H S G := ⟨h.free.offSize (by decide), h.hands.offSize (by decide), h.spans.offSize (by decide), h.gone.offSize (by decide)⟩
theorem OwnM.off {w : World} {base : Nat} {m : ModelD} {F H S G : Option Addr} {fc hc sc gc : Nat} (h : OwnM w base m (.slice F m.free.length fc) (.slice H m.hands.length hc) (.slice S m.spans.length sc) (.slice G m.gone.length gc)) {b : Nat} (hb : b < base) : OffM b m F H S G := ⟨h.free.off hb, h.hands.off hb, h.spans.off hb, h.gone.off hb⟩
theorem may2_len {m : ModelD} (h : May2 m) : LenM m := by
  have hp := h.pages
  obtain ⟨k1, k2⟩ := (may2_iff.2 h).len
  have hlp := pcs_length m
  exact ⟨by omega, by omega, by omega, by omega⟩

theorem rem_facts (a b : Int) (hb : 0 < b) (hb2 : b ≤ 4097) : ∃ v, wrap64 ((IntKind.u64.wrap a).tmod b) = v ∧ 0 ≤ v ∧ v < b := by
  have h0 : 0 ≤ IntKind.u64.wrap a := by rw [IntKind.wrap_u64]; omega
  rw [Int.tmod_eq_emod_of_nonneg h0]
  have h1 := Int.emod_nonneg (IntKind.u64.wrap a) (by omega : b ≠ 0)
  have h2 := Int.emod_lt_of_pos (IntKind.u64.wrap a) hb
  refine ⟨IntKind.u64.wrap a % b, ?_, h1, h2⟩
  unfold wrap64; omega

set_option maxHeartbeats 8000000 in
set_option maxRecDepth 100000 in
theorem apart_any (ns ms : List Nat) (l : List MarkD) (A C L : Option Addr) (ac cc lc : Nat) (w : World) (hA : SlR w A ns.length 1 (u8V ns)) (hC : SlR w C ms.length 1 (u64V ms)) (hn : ∀ j, j < ns.length → ix (0 : Nat) ns j < 256) (hms : ∀ j, j < ms.length → ix (0 : Nat) ms j < 18446744073709551616) (hl : ns.length ≤ 4611686018427387904 ∧ ms.length ≤ 4611686018427387904)
    (hL : SlR w L l.length 6 (marksV l)) (hll : l.length ≤ 4611686018427387904) (hx : ∀ j, j < l.length → (ix noMark l j).mask < 18446744073709551616) (hT : Tab w) (hB : TabB w) :
    Calls Tryz.prog 3 #[.slice A ns.length ac, .slice C ms.length cc, .slice L l.length lc] w fun e w' => e = .returned (.bool true) ∧ Ext w w' := by
  have hMade := made_any ns ms A C ac cc w hA hC hn hms hl
  have HMade := Lib.hid hMade
  have HH := Lib.hid (And.intro hL (And.intro hx (And.intro hT hB)))
  clear hMade hA hC hn hms hL hx hT hB
  obtain ⟨l1, l2⟩ := hl
  go_enter Tryz.func3, Tryz.ntmps3
  go_upto_region 2 with (go_at_call 6; (with_reducible refine HMade.out.mono ?_); rintro e w1 ⟨hE1, m, F, H, S, G, fc, hc, sc, gc, rfl, hm1, hm2, hm3⟩; have HM1 := Lib.hid (And.intro hE1 (And.intro hm1 (And.intro hm2 hm3))); clear hE1 hm1 hm2 hm3; unfold modelV)
  obtain ⟨W1, hW1⟩ : ∃ W1, W1 = w1.alloc (.cells #[.int .i64 m.pages, .slice F m.free.length fc, .slice H m.hands.length hc, .slice S m.spans.length sc, .slice G m.gone.length gc] 30) := ⟨_, rfl⟩
  rw [← hW1]
  have hE : Ext w1 W1 := hW1 ▸ (Ext.refl w1).alloc _
  have hblk : Blk W1 w1.heap.size 30 #[.int .i64 m.pages, .slice F m.free.length fc, .slice H m.hands.length hc, .slice S m.spans.length sc, .slice G m.gone.length gc] := hW1 ▸ Blk.new _ _ _ _ rfl
  have HW1 := Lib.hid (And.intro (HM1.out.1.trans hE) (And.intro hblk (And.intro HM1.out.2.1 (And.intro HM1.out.2.2.1 (And.intro (HM1.out.2.2.2.ext hE) HM1.out.2.2.2.offSize)))))
  have HB7 := Lib.hid HM1.out.1.size
  clear hE hblk hW1
  go_wp2
  go_loopg [8] l.length (fun q iv wr => ∃ (i : Nat) (m : ModelD) (F H S G : Option Addr) (fc hc sc gc : Nat), i ≤ l.length ∧ q = l.length - i ∧ iv = .int .i64 (i : Int) ∧ Ext w wr ∧ Blk wr w1.heap.size 30 #[.int .i64 m.pages, .slice F m.free.length fc, .slice H m.hands.length hc, .slice S m.spans.length sc, .slice G m.gone.length gc] ∧ May2 m ∧ MarksOk m ∧ ModelR wr m F H S G ∧ OffM w1.heap.size m F H S G)
  case atStart => exact ⟨0, _, _, _, _, _, _, _, _, _, Nat.zero_le _, rfl, rfl, HW1.out⟩
  case round =>
    obtain ⟨i, m, F, H, S, G, fc, hc, sc, gc, hi, rfl, rfl, hE, hblk, hm1, hm2, hm3, hm4⟩ := hrel
    by_cases hgo : i < l.length ∧ i < 60
    rotate_left
    · have hcs : (decide ((i : Int) < (l.length : Int)) = false ∧ decide (i < l.length) = false) ∨ (decide ((i : Int) < (l.length : Int)) = true ∧ decide (i < l.length) = true ∧ decide ((i : Int) < 60) = false ∧ decide (i < 60) = false) := by
        simp only [decide_eq_true_eq, decide_eq_false_iff_not]; omega
      have hAw := awake_any wr (HH.out.2.2.1.ext hE) (HH.out.2.2.2.ext hE)
      have HAw := Lib.hid (And.intro hAw hE)
      clear hAw hE hblk hm1 hm2 hm3 hm4
      rcases hcs with ⟨d1, d1'⟩ | ⟨d1, d1', d2, d2'⟩
      · go_wp2_with (go_at_call 10; (with_reducible refine HAw.out.1.mono ?_); rintro e w9 ⟨rfl, hE9⟩; have HE9 := Lib.hid hE9; clear hE9)
        go_ret
        exact ⟨rfl, HAw.out.2.trans HE9.out⟩
      · go_wp2_with (go_at_call 10; (with_reducible refine HAw.out.1.mono ?_); rintro e w9 ⟨rfl, hE9⟩; have HE9 := Lib.hid hE9; clear hE9)
        go_ret
        exact ⟨rfl, HAw.out.2.trans HE9.out⟩
    obtain ⟨hlt, hlt2⟩ := hgo
    have d1 : decide ((i : Int) < (l.length : Int)) = true := decide_eq_true (by omega)
    have d2 : decide ((i : Int) < 60) = true := decide_eq_true (by omega)
    have d1' : decide (i < l.length) = true := decide_eq_true (by omega)
    have d2' : decide (i < 60) = true := decide_eq_true (by omega)
    obtain ⟨b, off, rfl, hcl⟩ := HH.out.1 (by omega)
    obtain ⟨x, hx⟩ : ∃ x, ix noMark l i = x := ⟨_, rfl⟩
    have hv : ∀ j, j < 6 → wr.cell? ⟨b, off + (i * 6 + j), none⟩ = some (if j = 0 then Value.int .i64 x.kind else if j = 1 then .int .i64 x.thread else if j = 2 then .int .i64 x.entry else if j = 3 then .int .i64 x.page else if j = 4 then .int .i64 x.n else .int .u64 (x.mask : Int)) := fun j hj => by
      have := hE.cell (hcl (i * 6 + j) (by omega))
      unfold marksV rowV at this
      rw [show (i * 6 + j) / 6 = i by omega, show (i * 6 + j) % 6 = j by omega, hx] at this
      exact this
    have a0 : wr.cell? ⟨b, off + i * 6, none⟩ = some (.int .i64 x.kind) := hv 0 (by omega)
    have a1 : wr.cell? ⟨b, off + i * 6 + 1, none⟩ = some (.int .i64 x.thread) := hv 1 (by omega)
    have a2 : wr.cell? ⟨b, off + i * 6 + 2, none⟩ = some (.int .i64 x.entry) := hv 2 (by omega)
    have a3 : wr.cell? ⟨b, off + i * 6 + 3, none⟩ = some (.int .i64 x.page) := hv 3 (by omega)
    have a4 : wr.cell? ⟨b, off + i * 6 + 4, none⟩ = some (.int .i64 x.n) := hv 4 (by omega)
    have a5 : wr.cell? ⟨b, off + i * 6 + 5, none⟩ = some (.int .u64 (x.mask : Int)) := hv 5 (by omega)
    have hmx : x.mask < 18446744073709551616 := hx ▸ HH.out.2.1 i hlt
    have q0 : (0 : Int) ≤ (i : Int) := by omega
    have q1 : (i : Int) < (l.length : Int) := by omega
    have wi : IntKind.i64.wrap ((i : Int) + 1) = (i : Int) + 1 := by rw [IntKind.wrap_i64]; omega
    have hp1 := hm1.pages
    obtain ⟨kv, hkv, k1, k2⟩ := rem_facts x.kind 18 (by decide) (by decide)
    obtain ⟨tv, htv, t1, t2⟩ := rem_facts x.thread 7 (by decide) (by decide)
    obtain ⟨pv, hpv, p1, p2⟩ := rem_facts x.page (m.pages + 1) (by omega) (by omega)
    obtain ⟨nv, hnv, n1, n2⟩ := rem_facts x.n 6 (by decide) (by decide)
    have wp : IntKind.i64.wrap (m.pages + 1) = m.pages + 1 := by rw [IntKind.wrap_i64]; omega
    have wp2 : IntKind.u64.wrap (m.pages + 1) = m.pages + 1 := by rw [IntKind.wrap_u64]; omega
    have wp3 : m.pages + 1 ≠ 0 := by omega
    obtain ⟨W2, hW2⟩ : ∃ W2, W2 = wr.alloc (.cells #[.int .i64 x.kind, .int .i64 x.thread, .int .i64 x.entry, .int .i64 x.page, .int .i64 x.n, .int .u64 (x.mask : Int)] 34) := ⟨_, rfl⟩
    have hE2 : Ext wr W2 := hW2 ▸ (Ext.refl wr).alloc _
    have hpb : Blk W2 wr.heap.size 34 #[.int .i64 x.kind, .int .i64 x.thread, .int .i64 x.entry, .int .i64 x.page, .int .i64 x.n, .int .u64 (x.mask : Int)] := hW2 ▸ Blk.new _ _ _ _ rfl
    have b0 := hpb.cell (i := 0) (v := .int .i64 x.kind) rfl
    have b1 := hpb.cell (i := 1) (v := .int .i64 x.thread) rfl
    have b3 := hpb.cell (i := 3) (v := .int .i64 x.page) rfl
    have b4 := hpb.cell (i := 4) (v := .int .i64 x.n) rfl
    have z0 := hpb.frozen 0
    have z1 := hpb.frozen 1
    have z3 := hpb.frozen 3
    have z4 := hpb.frozen 4
    have m0 := (hblk.ext hE2).cell (i := 0) (v := .int .i64 m.pages) rfl
    have hne : ¬ w1.heap.size = wr.heap.size := by have := hblk.lt; omega
    have hne2 : ¬ wr.heap.size = w1.heap.size := fun e => hne e.symm
    have HW2 := Lib.hid hW2
    have HR := Lib.hid (And.intro hE (And.intro hblk (And.intro hm1 (And.intro hm2 (And.intro hm3 (And.intro hm4 (And.intro hE2 hpb)))))))
    have HV := Lib.hid (And.intro hmx (And.intro hkv (And.intro htv (And.intro hpv hnv))))
    clear hkv htv hpv hnv
    clear hW2 hE hblk hm1 hm2 hm3 hm4 hE2 hpb hmx hx hv hcl hp1
    go_upto_region 6 with fail
    rw [← HW2.out]
    go_region
    rw [HV.out.2.1, HV.out.2.2.1, HV.out.2.2.2.1, HV.out.2.2.2.2]
    obtain ⟨W3, hW3⟩ : ∃ W3, W3 = ((((W2.setCell ⟨wr.heap.size, 0, none⟩ (.int .i64 kv)).setCell ⟨wr.heap.size, 1, none⟩ (.int .i64 tv)).setCell ⟨wr.heap.size, 3, none⟩ (.int .i64 pv)).setCell ⟨wr.heap.size, 4, none⟩ (.int .i64 nv)).drew := ⟨_, rfl⟩
    rw [← hW3]
    obtain ⟨hE, hblk, hm1, hm2, hm3, hm4, hE2, hpb⟩ := HR.out
    have hle : wr.heap.size ≤ wr.heap.size := Nat.le_refl _
    have hE3 : Ext wr W3 := by
      rw [hW3]
      exact ((((hE2.setCell (p := ⟨wr.heap.size, 0, none⟩) hle _).setCell (p := ⟨wr.heap.size, 1, none⟩) hle _).setCell (p := ⟨wr.heap.size, 3, none⟩) hle _).setCell (p := ⟨wr.heap.size, 4, none⟩) hle _).drew
    have hx3 : Blk W3 wr.heap.size 34 #[.int .i64 kv, .int .i64 tv, .int .i64 x.entry, .int .i64 pv, .int .i64 nv, .int .u64 (x.mask : Int)] := by
      rw [hW3]
      have := ((((hpb.set 0 (.int .i64 kv)).set 1 (.int .i64 tv)).set 3 (.int .i64 pv)).set 4 (.int .i64 nv)).drew
      simp only [List.setIfInBounds_toArray, List.set_cons_succ, List.set_cons_zero] at this
      exact this
    have hb3 := hblk.ext hE3
    obtain ⟨y, hy⟩ : ∃ y : MarkD, y = ⟨kv, tv, x.entry, pv, nv, x.mask⟩ := ⟨_, rfl⟩
    have hyk : MarkOk y := by rw [hy]; exact ⟨by have := hm1.pages; dsimp only; omega, by dsimp only; omega, HV.out.1⟩
    have hacc := accepts_any m y F H S G fc hc sc gc W3 (may2_len hm1) (hm3.ext hE3) hyk (HH.out.2.2.1.ext (hE.trans hE3)) (HH.out.2.2.2.ext (hE.trans hE3))
    rw [hy] at hacc hyk
    unfold modelV markV at hacc
    have HA := Lib.hid (And.intro hacc (And.intro hE3 (And.intro hb3 hyk)))
    have c0 := hb3.cell (i := 0) (v := .int .i64 m.pages) rfl
    have c1 := hb3.cell (i := 1) (v := .slice F m.free.length fc) rfl
    have c2 := hb3.cell (i := 2) (v := .slice H m.hands.length hc) rfl
    have c3 := hb3.cell (i := 3) (v := .slice S m.spans.length sc) rfl
    have c4 := hb3.cell (i := 4) (v := .slice G m.gone.length gc) rfl
    have e0 := hx3.cell (i := 0) (v := .int .i64 kv) rfl
    have e1 := hx3.cell (i := 1) (v := .int .i64 tv) rfl
    have e2 := hx3.cell (i := 2) (v := .int .i64 x.entry) rfl
    have e3 := hx3.cell (i := 3) (v := .int .i64 pv) rfl
    have e4 := hx3.cell (i := 4) (v := .int .i64 nv) rfl
    have e5 := hx3.cell (i := 5) (v := .int .u64 (x.mask : Int)) rfl
    clear hW3 hE3 hx3 hb3 hacc hyk hy hE hblk hm1 hm2 hm3 hm4 hE2 hpb a0 a1 a2 a3 a4 a5 b0 b1 b3 b4 z0 z1 z3 z4 m0 k1 k2 t1 t2 p1 p2 n1 n2 wp wp2 wp3
    go_upto_region 8 with (go_at_call 7; (with_reducible refine HA.out.1.mono ?_); rintro e w4 ⟨hE4, n, bb, F5, H5, S5, G5, fc5, hc5, sc5, gc5, rfl, hO4, hr4⟩; have HS := Lib.hid (And.intro hE4 (And.intro hO4 hr4)); clear hE4 hO4 hr4; unfold modelV)
    clear c0 c1 c2 c3 c4 e0 e1 e2 e3 e4 e5
    obtain ⟨hE, hblk, hm1, hm2, hm3, hm4, hE2, hpb⟩ := HR.out
    obtain ⟨hE4, hO4, hr4⟩ := HS.out
    rcases hr4 with ⟨rfl, rfl, _⟩ | ⟨rfl, hmay, hd⟩
    · obtain ⟨W5, hW5⟩ : ∃ W5, W5 = w4.alloc (.cells #[.int .i64 0, .slice F5 0 fc5, .slice H5 0 hc5, .slice S5 0 sc5, .slice G5 0 gc5] 30) := ⟨_, rfl⟩
      have hq : w4.alloc (.cells #[.int .i64 noModel.pages, .slice F5 noModel.free.length fc5, .slice H5 noModel.hands.length hc5, .slice S5 noModel.spans.length sc5, .slice G5 noModel.gone.length gc5] 30) = W5 := hW5.symm
      rw [hq]
      have hE5 : Ext w4 W5 := hW5 ▸ (Ext.refl w4).alloc _
      have h5 : Blk W5 w4.heap.size 30 #[.int .i64 0, .slice F5 0 fc5, .slice H5 0 hc5, .slice S5 0 sc5, .slice G5 0 gc5] := hW5 ▸ Blk.new _ _ _ _ rfl
      have c0 := h5.cell (i := 0) (v := .int .i64 0) rfl
      have c1 := h5.cell (i := 1) (v := .slice F5 0 fc5) rfl
      have c2 := h5.cell (i := 2) (v := .slice H5 0 hc5) rfl
      have c3 := h5.cell (i := 3) (v := .slice S5 0 sc5) rfl
      have c4 := h5.cell (i := 4) (v := .slice G5 0 gc5) rfl
      have hsame : Calls Tryz.prog 8 #[.agg #[.int .i64 0, .slice F5 0 fc5, .slice H5 0 hc5, .slice S5 0 sc5, .slice G5 0 gc5], .agg #[.int .i64 0, .slice none 0 0, .slice none 0 0, .slice none 0 0, .slice none 0 0]] W5 fun e w' => e = .returned (.bool true) ∧ Ext W5 w' := same28_eq noModel F5 H5 S5 G5 none none none none fc5 hc5 sc5 gc5 0 0 0 0 W5 ⟨by decide, by decide, by decide, by decide⟩ ⟨SlR.nil, SlR.nil, SlR.nil, SlR.nil⟩ ⟨SlR.nil, SlR.nil, SlR.nil, SlR.nil⟩
      have HSm := Lib.hid (And.intro hsame ((HA.out.2.1.trans hE4).trans hE5))
      have HL := Lib.hid (And.intro hE (And.intro hblk (And.intro hm1 (And.intro hm2 (And.intro hm3 hm4)))))
      clear hW5 hq hE5 h5 hsame hE hblk hm1 hm2 hm3 hm4 hE2 hpb hE4 hO4
      go_wp2_with (go_at_call 8; (with_reducible refine HSm.out.1.mono ?_); rintro e w6 ⟨rfl, hE6⟩; have HE6 := Lib.hid hE6; clear hE6)
      go_roundg (l.length - (i + 1))
      case measure => go_light; omega
      case rel =>
        have hx := HSm.out.2.trans HE6.out
        exact ⟨i + 1, m, F, H, S, G, fc, hc, sc, gc, by omega, rfl, by go_num, HL.out.1.trans hx, HL.out.2.1.ext hx, HL.out.2.2.1, HL.out.2.2.2.1, HL.out.2.2.2.2.1.ext hx, HL.out.2.2.2.2.2⟩
    · obtain ⟨hn1, hpg⟩ := does_may hm1 hm2 HA.out.2.2.2 hd
      have hn2 := does_marks hm2 HA.out.2.2.2 hd
      have hlt3 := HA.out.2.2.1.lt
      obtain ⟨W5, hW5⟩ : ∃ W5, W5 = w4.alloc (.cells #[.int .i64 n.pages, .slice F5 n.free.length fc5, .slice H5 n.hands.length hc5, .slice S5 n.spans.length sc5, .slice G5 n.gone.length gc5] 30) := ⟨_, rfl⟩
      rw [← hW5]
      have hE5 : Ext w4 W5 := hW5 ▸ (Ext.refl w4).alloc _
      have h5 : Blk W5 w4.heap.size 30 #[.int .i64 n.pages, .slice F5 n.free.length fc5, .slice H5 n.hands.length hc5, .slice S5 n.spans.length sc5, .slice G5 n.gone.length gc5] := hW5 ▸ Blk.new _ _ _ _ rfl
      have h7 := (HA.out.2.2.1.ext hE4).ext hE5
      have hR5 : ModelR W5 n F5 H5 S5 G5 := OwnM.reads (hO4.ext hE5)
      have hO5 : OffM w1.heap.size n F5 H5 S5 G5 := hO4.off hlt3
      have hwh := whole_any n F5 H5 S5 G5 fc5 hc5 sc5 gc5 W5 hn1 hR5
      unfold modelV at hwh
      have hne5 : (n.pages != m.pages) = false := by simp [hpg]
      have c0 := h5.cell (i := 0) (v := .int .i64 n.pages) rfl
      have c1 := h5.cell (i := 1) (v := .slice F5 n.free.length fc5) rfl
      have c2 := h5.cell (i := 2) (v := .slice H5 n.hands.length hc5) rfl
      have c3 := h5.cell (i := 3) (v := .slice S5 n.spans.length sc5) rfl
      have c4 := h5.cell (i := 4) (v := .slice G5 n.gone.length gc5) rfl
      have d0 := h7.cell (i := 0) (v := .int .i64 m.pages) rfl
      have HW5 := Lib.hid (And.intro hwh (And.intro h5 (And.intro h7 (And.intro hR5 (And.intro hO5 (And.intro hn1 (And.intro hn2 (((hE.trans HA.out.2.1).trans hE4).trans hE5))))))))
      clear hW5 hE5 h5 h7 hR5 hO5 hwh hpg hn1 hn2 hd hmay hlt3 hE hblk hm1 hm2 hm3 hm4 hE2 hpb hE4 hO4
      go_wp2_with (go_at_call 9; (with_reducible refine HW5.out.1.mono ?_); rintro e w6 ⟨rfl, hE6⟩; have h56 := HW5.out.2.1.ext hE6; have h76 := HW5.out.2.2.1.ext hE6; have HE6 := Lib.hid (And.intro hE6 h76); have g0 := h56.cell (i := 0) (v := .int .i64 n.pages) rfl; have g1 := h56.cell (i := 1) (v := .slice F5 n.free.length fc5) rfl; have g2 := h56.cell (i := 2) (v := .slice H5 n.hands.length hc5) rfl; have g3 := h56.cell (i := 3) (v := .slice S5 n.spans.length sc5) rfl; have g4 := h56.cell (i := 4) (v := .slice G5 n.gone.length gc5) rfl; have k0 := h76.cell (i := 0) (v := .int .i64 m.pages) rfl; have kf0 := h76.frozen 0; have k1 := h76.cell (i := 1) (v := .slice F m.free.length fc) rfl; have kf1 := h76.frozen 1; have k2 := h76.cell (i := 2) (v := .slice H m.hands.length hc) rfl; have kf2 := h76.frozen 2; have k3 := h76.cell (i := 3) (v := .slice S m.spans.length sc) rfl; have kf3 := h76.frozen 3; have k4 := h76.cell (i := 4) (v := .slice G m.gone.length gc) rfl; have kf4 := h76.frozen 4; clear h56 h76 hE6)
      go_roundg (l.length - (i + 1))
      case measure => go_light; omega
      case rel =>
        obtain ⟨_, _, _, hR5, hO5, hn1, hn2, hEw⟩ := HW5.out
        have hle7 : w.heap.size ≤ w1.heap.size := HB7.out
        have hB := ((((HE6.out.2.set 0 (.int .i64 n.pages)).set 1 (.slice F5 n.free.length fc5)).set 2 (.slice H5 n.hands.length hc5)).set 3 (.slice S5 n.spans.length sc5)).set 4 (.slice G5 n.gone.length gc5)
        simp only [List.setIfInBounds_toArray, List.set_cons_succ, List.set_cons_zero] at hB
        have hR6 := hR5.ext HE6.out.1
        exact ⟨i + 1, n, F5, H5, S5, G5, fc5, hc5, sc5, gc5, by omega, rfl, by go_num,
          (((((hEw.trans HE6.out.1).setCell (p := ⟨w1.heap.size, 0, none⟩) hle7 _).setCell (p := ⟨w1.heap.size, 1, none⟩) hle7 _).setCell (p := ⟨w1.heap.size, 2, none⟩) hle7 _).setCell (p := ⟨w1.heap.size, 3, none⟩) hle7 _).setCell (p := ⟨w1.heap.size, 4, none⟩) hle7 _,
          hB, hn1, hn2, ((((hR6.off (p := ⟨w1.heap.size, 0, none⟩) hO5 _).off (p := ⟨w1.heap.size, 1, none⟩) hO5 _).off (p := ⟨w1.heap.size, 2, none⟩) hO5 _).off (p := ⟨w1.heap.size, 3, none⟩) hO5 _).off (p := ⟨w1.heap.size, 4, none⟩) hO5 _, hO5⟩
end Go.Proofs.YtoolenhnhlfhmaaGreatDoor
