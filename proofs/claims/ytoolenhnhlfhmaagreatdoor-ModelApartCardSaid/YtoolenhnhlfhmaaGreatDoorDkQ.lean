/- Walks: Accepts. -/
import Derived.Test.YtoolenhnhlfhmaaGreatDoorDkP
import Derived.Laws.ResultCell
namespace Go.Proofs.YtoolenhnhlfhmaaGreatDoor
open Go.RowKit Go.Sort
set_option linter.unusedVariables false
set_option linter.unusedSimpArgs false

theorem results_cell_row2 {P : Program} {fn : Func} {p u : Tmp} {ty : TypeId} (h : fn.results = #[.cell p ty, .tmp u]) (tmps : Array Value) (w : World) (g : Nat) (t : TypeId) (cs : Array Value) (fr : Nat × Nat) (d : TypeDesc)
    (hp : tmps.getD p undef = .pointer (some ⟨g, 0, none⟩)) (hg : w.heap[g]? = some (.cells cs t fr))
    (hu : P.underlying ty = some d) (hd : (match d with | .struct _ | .array _ _ => true | _ => false) = true) (hi : (P.info? ty).map (·.size) = some cs.size) :
    (results fn tmps).run P w = .ok (.tuple #[.agg cs, tmps.getD u undef]) w := by
  rw [results_cell_tmp h, hp]
  simp [asAddr, run_loadVar_row w g t ty cs fr d hg hu hd hi]

theorem rises_step {α : Type} {d : α} {l : List α} {K : α → Int} (h : ∀ i, i < l.length → 0 < i → K (ix d l (i - 1)) < K (ix d l i)) : Rises d l K := by
  intro i j hij hj
  induction j with
  | zero => omega
  | succ j ih =>
    have h1 := h (j + 1) hj (by omega)
    rw [Nat.add_sub_cancel] at h1
    by_cases e : i = j
    · rw [e]; exact h1
    · have := ih (by omega) (by omega)
      omega
theorem sortI_rises {l : List Int} (h : Rises 0 l id) : sortI l = l := by
  unfold sortI
  refine List.mergeSort_of_pairwise ?_
  rw [List.pairwise_iff_getElem]
  intro i j hi hj hij
  have := h i j hij hj
  rw [ix_lt hi, ix_lt hj] at this
  simp only [id_eq] at this
  exact decide_eq_true (by omega)
theorem deskOk_may {m : ModelD} (h : MayS HoldOk m) : DeskOk m := by
  obtain ⟨k1, k2⟩ := h.len
  obtain ⟨p0, p1⟩ := h.pages
  have hf : ∀ i, i < m.free.length → FitP m.pages ((ix noRun m.free i).at_, (ix noRun m.free i).n) := fun i hi => by
    have := (h.laid i (by rw [pcs_length]; omega)).1
    rwa [pcs_free hi] at this
  have hh : ∀ i, i < m.hands.length → FitP m.pages ((ix noHand m.hands i).at_, (ix noHand m.hands i).n) := fun i hi => by
    have := (h.laid (m.free.length + i) (by rw [pcs_length]; omega)).1
    rwa [pcs_hand hi] at this
  refine ⟨by omega, by omega, by omega, by omega, fun i hi => ?_, fun i hi => ?_, rises_step fun i hi h0 => ?_, rises_step fun i hi h0 => (h.hand i hi).2 h0, rises_step fun i hi h0 => (h.span i hi).2 h0, sortI_rises (rises_step (K := id) fun i hi h0 => (h.gone i hi).2 h0), fun i hi => ?_⟩
  · obtain ⟨a, b, c, d⟩ := hf i hi
    dsimp only at a b c d
    exact ⟨a, b, by omega⟩
  · obtain ⟨a, b, c, d⟩ := hh i hi
    dsimp only at a b c d
    exact ⟨a, b, by omega⟩
  · have h1 := h.free i hi h0
    have h2 := (hf (i - 1) (by omega)).2.1
    dsimp only at h2
    unfold runK
    omega
  · have h1 := (h.span i hi).1.2.2.1
    have h2 := slN_le (ix noHold m.spans i).cls
    have h3 : 2 ^ slN (ix noHold m.spans i).cls ≤ 2 ^ 64 := Nat.pow_le_pow_right (by decide) h2
    omega

def noModel : ModelD := ⟨0, [], [], [], []⟩
/-- What Accepts tells. -/
def AccP (m : ModelD) (x : MarkD) (w : World) (e : Ending) (w' : World) : Prop := Ext w w' ∧ ∃ m' b F' H' S' G' fc' hc' sc' gc', e = .returned (.tuple #[modelV m' F' H' S' G' fc' hc' sc' gc', .bool b]) ∧
  OwnM w' w.heap.size m' (.slice F' m'.free.length fc') (.slice H' m'.hands.length hc') (.slice S' m'.spans.length sc') (.slice G' m'.gone.length gc') ∧
  ((b = false ∧ m' = noModel ∧ (¬ MayS HoldOk m ∨ DoesN m x)) ∨ (b = true ∧ MayS HoldOk m ∧ DoesR m x m'))
theorem ownNo (w : World) (b : Nat) : OwnM w b noModel (.slice none 0 0) (.slice none 0 0) (.slice none 0 0) (.slice none 0 0) := ⟨OwnS.nil _ _ _ _ _, OwnS.nil _ _ _ _ _, OwnS.nil _ _ _ _ _, OwnS.nil _ _ _ _ _⟩
theorem OwnM.mono {w : World} {b b' : Nat} {m : ModelD} {F H S G : Value} (h : OwnM w b m F H S G) (hb : b' ≤ b) : OwnM w b' m F H S G := ⟨h.free.mono hb, h.hands.mono hb, h.spans.mono hb, h.gone.mono hb⟩
theorem OwnM.far {w : World} {b : Nat} {m : ModelD} {F H S G : Value} (h : OwnM w b m F H S G) {p : Addr} (hp : p.block < b) (u : Value) : OwnM (w.setCell p u) b m F H S G := ⟨h.free.far hp u, h.hands.far hp u, h.spans.far hp u, h.gone.far hp u⟩
theorem OwnM.slices {w : World} {b : Nat} {m : ModelD} {F H S G : Value} (h : OwnM w b m F H S G) : ∃ F' H' S' G' fc hc sc gc, F = .slice F' m.free.length fc ∧ H = .slice H' m.hands.length hc ∧ S = .slice S' m.spans.length sc ∧ G = .slice G' m.gone.length gc := by
  obtain ⟨F', fc, e1, _⟩ := h.free.ofSlice
  obtain ⟨H', hc, e2, _⟩ := h.hands.ofSlice
  obtain ⟨S', sc, e3, _⟩ := h.spans.ofSlice
  obtain ⟨G', gc, e4, _⟩ := h.gone.ofSlice
  exact ⟨F', H', S', G', fc, hc, sc, gc, e1, e2, e3, e4⟩
theorem acc_res : Tryz.f7.results = #[.cell 4 30, .tmp 5] := by kernel_rfl

set_option maxHeartbeats 8000000 in
set_option maxRecDepth 100000 in
theorem accepts_any (m : ModelD) (x : MarkD) (F H S G : Option Addr) (fc hc sc gc : Nat) (w : World) (hlen : LenM m) (hm : ModelR w m F H S G) (hx : MarkOk x) (hT : Tab w) (hB : TabB w) :
    Calls Tryz.prog 7 #[modelV m F H S G fc hc sc gc, markV x] w (AccP m x w) := by
  obtain ⟨Wa, hWa⟩ : ∃ Wa, Wa = w.alloc (.cells #[.int .i64 m.pages, .slice F m.free.length fc, .slice H m.hands.length hc, .slice S m.spans.length sc, .slice G m.gone.length gc] 30) := ⟨_, rfl⟩
  obtain ⟨Wb, hWb⟩ : ∃ Wb, Wb = Wa.alloc (.cells #[.int .i64 x.kind, .int .i64 x.thread, .int .i64 x.entry, .int .i64 x.page, .int .i64 x.n, .int .u64 (x.mask : Int)] 34) := ⟨_, rfl⟩
  obtain ⟨W0, hW0⟩ : ∃ W0, W0 = Wb.alloc (.cells #[.int .i64 0, .slice none 0 0, .slice none 0 0, .slice none 0 0, .slice none 0 0] 30) := ⟨_, rfl⟩
  have ea : Ext w Wa := hWa ▸ (Ext.refl w).alloc _
  have eb : Ext Wa Wb := hWb ▸ (Ext.refl Wa).alloc _
  have ec : Ext Wb W0 := hW0 ▸ (Ext.refl Wb).alloc _
  have ba : Blk W0 w.heap.size 30 #[.int .i64 m.pages, .slice F m.free.length fc, .slice H m.hands.length hc, .slice S m.spans.length sc, .slice G m.gone.length gc] := ((hWa ▸ Blk.new _ _ _ _ rfl : Blk Wa w.heap.size _ _).ext eb |>.ext ec)
  have sa : Wa.heap.size = w.heap.size + 1 := by rw [hWa]; exact World.size_alloc _ _
  have sb : Wb.heap.size = w.heap.size + 2 := by rw [hWb, World.size_alloc, sa]
  have s0 : W0.heap.size = w.heap.size + 3 := by rw [hW0, World.size_alloc, sb]
  have bb : Blk W0 (w.heap.size + 1) 34 #[.int .i64 x.kind, .int .i64 x.thread, .int .i64 x.entry, .int .i64 x.page, .int .i64 x.n, .int .u64 (x.mask : Int)] := sa ▸ ((hWb ▸ Blk.new _ _ _ _ rfl : Blk Wb Wa.heap.size _ _).ext ec)
  have bc : Blk W0 (w.heap.size + 2) 30 #[.int .i64 0, .slice none 0 0, .slice none 0 0, .slice none 0 0, .slice none 0 0] := sb ▸ (hW0 ▸ Blk.new _ _ _ _ rfl : Blk W0 Wb.heap.size _ _)
  have e0 : Ext w W0 := (ea.trans eb).trans ec
  have HMay : Hid (Calls Tryz.prog 14 #[modelV m F H S G fc hc sc gc] W0 fun e w' => e = .returned (.bool (B (MayS HoldOk m))) ∧ Ext W0 w') := Lib.hid (mayM_any m F H S G fc hc sc gc W0 ⟨hlen.free, hlen.hands, hlen.spans⟩ hlen.gone (hm.ext e0) (hT.ext e0))
  have HE : Hid (W0 = ((w.alloc (.cells #[.int .i64 m.pages, .slice F m.free.length fc, .slice H m.hands.length hc, .slice S m.spans.length sc, .slice G m.gone.length gc] 30)).alloc (.cells #[.int .i64 x.kind, .int .i64 x.thread, .int .i64 x.entry, .int .i64 x.page, .int .i64 x.n, .int .u64 (x.mask : Int)] 34)).alloc (.cells #[.int .i64 0, .slice none 0 0, .slice none 0 0, .slice none 0 0, .slice none 0 0] 30)) := Lib.hid (by rw [hW0, hWb, hWa])
  have HW : Hid (Ext w W0 ∧ Blk W0 (w.heap.size + 1) 34 #[.int .i64 x.kind, .int .i64 x.thread, .int .i64 x.entry, .int .i64 x.page, .int .i64 x.n, .int .u64 (x.mask : Int)] ∧ Blk W0 (w.heap.size + 2) 30 #[.int .i64 0, .slice none 0 0, .slice none 0 0, .slice none 0 0, .slice none 0 0] ∧ W0.heap.size = w.heap.size + 3 ∧ Blk W0 w.heap.size 30 #[.int .i64 m.pages, .slice F m.free.length fc, .slice H m.hands.length hc, .slice S m.spans.length sc, .slice G m.gone.length gc]) := Lib.hid ⟨e0, bb, bc, s0, ba⟩
  have HH : Hid (LenM m ∧ ModelR w m F H S G ∧ MarkOk x ∧ Tab w ∧ TabB w) := Lib.hid ⟨hlen, hm, hx, hT, hB⟩
  have x0 := ba.cell (i := 0) (v := .int .i64 m.pages) rfl
  have x1 := ba.cell (i := 1) (v := .slice F m.free.length fc) rfl
  have x2 := ba.cell (i := 2) (v := .slice H m.hands.length hc) rfl
  have x3 := ba.cell (i := 3) (v := .slice S m.spans.length sc) rfl
  have x4 := ba.cell (i := 4) (v := .slice G m.gone.length gc) rfl
  clear hWa hWb hW0 ea eb ec ba sa sb s0 bb bc e0 hlen hm hx hT hB
  by_cases hmay : MayS HoldOk m
  rotate_left
  · rw [B_no hmay] at HMay
    have HN := Lib.hid hmay
    clear hmay
    unfold modelV at HMay
    unfold modelV markV
    go_enter Tryz.func7, Tryz.ntmps7
    go_upto_region 1 with fail
    rw [← HE.out]
    go_upto_region 2 with (go_at_call 14; (with_reducible refine HMay.out.mono ?_); rintro e w1 ⟨rfl, hE1⟩; have hb1 := HW.out.2.2.1.ext hE1; have g0 := hb1.cell (i := 0) (v := .int .i64 0) rfl; have fz0 := hb1.frozen 0; have g1 := hb1.cell (i := 1) (v := .slice none 0 0) rfl; have fz1 := hb1.frozen 1; have g2 := hb1.cell (i := 2) (v := .slice none 0 0) rfl; have fz2 := hb1.frozen 2; have g3 := hb1.cell (i := 3) (v := .slice none 0 0) rfl; have fz3 := hb1.frozen 3; have g4 := hb1.cell (i := 4) (v := .slice none 0 0) rfl; have fz4 := hb1.frozen 4; have HE1 := Lib.hid (And.intro hE1 hb1); clear hE1 hb1)
    go_wp2
    have hB := ((((HE1.out.2.set 0 (.int .i64 0)).set 1 (.slice none 0 0)).set 2 (.slice none 0 0)).set 3 (.slice none 0 0)).set 4 (.slice none 0 0)
    simp only [List.setIfInBounds_toArray, List.set_cons_succ, List.set_cons_zero] at hB
    have hle : w.heap.size ≤ w.heap.size + 2 := by omega
    refine bodyPost_ret (results_cell_row2 acc_res _ _ (w.heap.size + 2) 30 _ (0, 0) _ rfl hB Tryz.underlying30 rfl own_info) rfl ⟨(((((HW.out.1.trans HE1.out.1).setCell hle _).setCell hle _).setCell hle _).setCell hle _).setCell hle _, noModel, false, none, none, none, none, 0, 0, 0, 0, rfl, ownNo _ _, .inl ⟨rfl, rfl, .inl HN.out⟩⟩
  · rw [B_yes hmay] at HMay
    have HN := Lib.hid hmay
    clear hmay
    unfold modelV at HMay
    unfold modelV markV
    have HO : Hid (∀ W, Ext W0 W → Calls Tryz.prog 26 #[.agg #[.int .i64 m.pages, .slice F m.free.length fc, .slice H m.hands.length hc, .slice S m.spans.length sc, .slice G m.gone.length gc]] W fun e w' => ∃ F' H' S' G' fc' hc' sc' gc', e = .returned (.agg #[.int .i64 m.pages, .slice F' m.free.length fc', .slice H' m.hands.length hc', .slice S' m.spans.length sc', .slice G' m.gone.length gc']) ∧ Ext W w' ∧ OwnM w' W.heap.size m (.slice F' m.free.length fc') (.slice H' m.hands.length hc') (.slice S' m.spans.length sc') (.slice G' m.gone.length gc')) := Lib.hid fun W hE => own_any m F H S G fc hc sc gc W HH.out.1 (HH.out.2.1.ext (HW.out.1.trans hE))
    go_enter Tryz.func7, Tryz.ntmps7
    go_upto_region 1 with fail
    rw [← HE.out]
    go_upto_region 4 with (first
      | (go_at_call 14; (with_reducible refine HMay.out.mono ?_); rintro e w1 ⟨rfl, hE1⟩; have hb1 := HW.out.2.2.2.2.ext hE1; have y0 := hb1.cell (i := 0) (v := .int .i64 m.pages) rfl; have y1 := hb1.cell (i := 1) (v := .slice F m.free.length fc) rfl; have y2 := hb1.cell (i := 2) (v := .slice H m.hands.length hc) rfl; have y3 := hb1.cell (i := 3) (v := .slice S m.spans.length sc) rfl; have y4 := hb1.cell (i := 4) (v := .slice G m.gone.length gc) rfl; have HE1 := Lib.hid hE1; clear hE1 hb1)
      | (go_at_call 26; (with_reducible refine (HO.out _ HE1.out).mono ?_); rintro e w2 ⟨F1, H1, S1, G1, fc1, hc1, sc1, gc1, rfl, hE2, hO2⟩; have HE2 := Lib.hid (And.intro hE2 hO2); clear hE2 hO2))
    obtain ⟨W3, hW3⟩ : ∃ W3, W3 = w2.alloc (.cells #[.int .i64 m.pages, .slice F1 m.free.length fc1, .slice H1 m.hands.length hc1, .slice S1 m.spans.length sc1, .slice G1 m.gone.length gc1] 62) := ⟨_, rfl⟩
    rw [← hW3]
    have hE3 : Ext w2 W3 := hW3 ▸ (Ext.refl w2).alloc _
    have hblk : Blk W3 w2.heap.size 62 #[.int .i64 m.pages, .slice F1 m.free.length fc1, .slice H1 m.hands.length hc1, .slice S1 m.spans.length sc1, .slice G1 m.gone.length gc1] := hW3 ▸ Blk.new _ _ _ _ rfl
    have hD3 : DeskR W3 w2.heap.size w1.heap.size m (.slice F1 m.free.length fc1) (.slice H1 m.hands.length hc1) (.slice S1 m.spans.length sc1) (.slice G1 m.gone.length gc1) := ⟨hblk, HE2.out.2.ext hE3⟩
    have h13 : Ext w1 W3 := HE2.out.1.trans hE3
    have h03 : Ext W0 W3 := HE1.out.trans h13
    have hw3 : Ext w W3 := HW.out.1.trans h03
    have hb3 := HW.out.2.1.ext h03
    have c0 := hb3.cell (i := 0) (v := .int .i64 x.kind) rfl
    have c1 := hb3.cell (i := 1) (v := .int .i64 x.thread) rfl
    have c2 := hb3.cell (i := 2) (v := .int .i64 x.entry) rfl
    have c3 := hb3.cell (i := 3) (v := .int .i64 x.page) rfl
    have c4 := hb3.cell (i := 4) (v := .int .i64 x.n) rfl
    have c5 := hb3.cell (i := 5) (v := .int .u64 (x.mask : Int)) rfl
    have hdo := does_any m w2.heap.size w1.heap.size (.slice F1 m.free.length fc1) (.slice H1 m.hands.length hc1) (.slice S1 m.spans.length sc1) (.slice G1 m.gone.length gc1) x W3 (deskOk_may HN.out) HH.out.2.2.1 (HH.out.2.2.2.1.ext hw3) (HH.out.2.2.2.2.ext hw3) h13.size hD3
    unfold markV at hdo
    have HD := Lib.hid hdo
    have HX := Lib.hid (And.intro h03 (And.intro h13 hw3))
    clear hW3 hE3 hblk hD3 h13 h03 hw3 hb3 hdo x0 x1 x2 x3 x4
    go_upto_region 4 with fail
    go_upto_if 18 with (go_at_call 27; (with_reducible refine HD.out.mono ?_); rintro e w4 hs; have HS := Lib.hid hs; clear hs; obtain ⟨bb, rfl⟩ := DoesP.bool HS.out)
    obtain ⟨hK, hz, hr⟩ := HS.out
    have h04 : Ext W0 w4 := hK W0 HX.out.1 HE1.out.size (Nat.le_trans HE1.out.size HE2.out.1.size)
    have hw4 : Ext w w4 := HW.out.1.trans h04
    have hb1 := HW.out.2.2.1.ext h04
    have h14 : w1.heap.size ≤ w4.heap.size := Nat.le_trans HX.out.2.1.size hz
    have hs0 := HW.out.2.2.2.1
    have h01 := HE1.out.size
    have hle : w.heap.size ≤ w.heap.size + 2 := by omega
    have hlt : w.heap.size + 2 < w1.heap.size := by omega
    have g0 := hb1.cell (i := 0) (v := .int .i64 0) rfl
    have fz0 := hb1.frozen 0
    have g1 := hb1.cell (i := 1) (v := .slice none 0 0) rfl
    have fz1 := hb1.frozen 1
    have g2 := hb1.cell (i := 2) (v := .slice none 0 0) rfl
    have fz2 := hb1.frozen 2
    have g3 := hb1.cell (i := 3) (v := .slice none 0 0) rfl
    have fz3 := hb1.frozen 3
    have g4 := hb1.cell (i := 4) (v := .slice none 0 0) rfl
    have fz4 := hb1.frozen 4
    rcases hr with ⟨e, hn, _⟩ | ⟨e, m', F', H', S', G', hR, hD4⟩
    · obtain rfl : bb = false := by injection e with e; injection e
      have HQ := Lib.hid (And.intro hw4 (And.intro hb1 hn))
      clear hK hz h04 hw4 hb1 h14 hs0 h01 hn e c0 c1 c2 c3 c4 c5
      go_wp2
      have hB := ((((HQ.out.2.1.set 0 (.int .i64 0)).set 1 (.slice none 0 0)).set 2 (.slice none 0 0)).set 3 (.slice none 0 0)).set 4 (.slice none 0 0)
      simp only [List.setIfInBounds_toArray, List.set_cons_succ, List.set_cons_zero] at hB
      refine bodyPost_ret (results_cell_row2 acc_res _ _ (w.heap.size + 2) 30 _ (0, 0) _ rfl hB Tryz.underlying30 rfl own_info) rfl ⟨(((((HQ.out.1).setCell hle _).setCell hle _).setCell hle _).setCell hle _).setCell hle _, noModel, false, none, none, none, none, 0, 0, 0, 0, rfl, ownNo _ _, .inl ⟨rfl, rfl, .inr HQ.out.2.2⟩⟩
    · obtain rfl : bb = true := by injection e with e; injection e
      obtain ⟨F2, H2, S2, G2, fc2, hc2, sc2, gc2, rfl, rfl, rfl, rfl⟩ := hD4.own.slices
      have d0 := hD4.blk.cell (i := 0) (v := .int .i64 m'.pages) rfl
      have d1 := hD4.blk.cell (i := 1) (v := .slice F2 m'.free.length fc2) rfl
      have d2 := hD4.blk.cell (i := 2) (v := .slice H2 m'.hands.length hc2) rfl
      have d3 := hD4.blk.cell (i := 3) (v := .slice S2 m'.spans.length sc2) rfl
      have d4 := hD4.blk.cell (i := 4) (v := .slice G2 m'.gone.length gc2) rfl
      have HQ := Lib.hid (And.intro hw4 (And.intro hb1 (And.intro hR hD4.own)))
      clear hK hz h04 hw4 hb1 h14 hs0 h01 hR hD4 e c0 c1 c2 c3 c4 c5
      go_wp2
      have hB := ((((HQ.out.2.1.set 0 (.int .i64 m'.pages)).set 1 (.slice F2 m'.free.length fc2)).set 2 (.slice H2 m'.hands.length hc2)).set 3 (.slice S2 m'.spans.length sc2)).set 4 (.slice G2 m'.gone.length gc2)
      simp only [List.setIfInBounds_toArray, List.set_cons_succ, List.set_cons_zero] at hB
      refine bodyPost_ret (results_cell_row2 acc_res _ _ (w.heap.size + 2) 30 _ (0, 0) _ rfl hB Tryz.underlying30 rfl own_info) rfl ⟨(((((HQ.out.1).setCell hle _).setCell hle _).setCell hle _).setCell hle _).setCell hle _, m', true, F2, H2, S2, G2, fc2, hc2, sc2, gc2, rfl, (((((HQ.out.2.2.2.far hlt _).far hlt _).far hlt _).far hlt _).far hlt _).mono (by omega), .inr ⟨rfl, HN.out, HQ.out.2.2.1⟩⟩
end Go.Proofs.YtoolenhnhlfhmaaGreatDoor
