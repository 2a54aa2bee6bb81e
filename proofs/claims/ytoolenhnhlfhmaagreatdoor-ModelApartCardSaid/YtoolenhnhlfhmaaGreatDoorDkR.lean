/- Walks: All. -/
import Derived.Test.YtoolenhnhlfhmaaGreatDoorGP
namespace Go.Proofs.YtoolenhnhlfhmaaGreatDoor
open Go.RowKit Go.Sort
set_option linter.unusedVariables false
set_option linter.unusedSimpArgs false

theorem results_cell_row3 {P : Program} {fn : Func} {p u v : Tmp} {ty : TypeId} (h : fn.results = #[.cell p ty, .tmp u, .tmp v]) (tmps : Array Value) (w : World) (g : Nat) (t : TypeId) (cs : Array Value) (fr : Nat × Nat) (d : TypeDesc)
    (hp : tmps.getD p undef = .pointer (some ⟨g, 0, none⟩)) (hg : w.heap[g]? = some (.cells cs t fr))
    (hu : P.underlying ty = some d) (hd : (match d with | .struct _ | .array _ _ => true | _ => false) = true) (hi : (P.info? ty).map (·.size) = some cs.size) :
    (results fn tmps).run P w = .ok (.tuple #[.agg cs, tmps.getD u undef, tmps.getD v undef]) w := by
  have hp' : tmps[p]?.getD undef = .pointer (some ⟨g, 0, none⟩) := by simpa using hp
  simp only [results, h]
  simp [Sem.run_bind, Result.andThen, asAddr, hp', run_loadVar_row w g t ty cs fr d hg hu hd hi]
theorem all_res : Tryz.f12.results = #[.cell 4 30, .tmp 5, .tmp 6] := by kernel_rfl

def noMark : MarkD := ⟨0, 0, 0, 0, 0, 0⟩
/-- The model behind the first k marks, each accepted. -/
def Chain (m : ModelD) (l : List MarkD) : Nat → ModelD → Prop
  | 0, m' => m' = m
  | k + 1, m' => ∃ m1, Chain m l k m1 ∧ DoesR m1 (ix noMark l k) m'
theorem chain_may {m : ModelD} {l : List MarkD} (h : May2 m) (hmk : MarksOk m) : ∀ k m', (∀ j, j < k → MarkOk (ix noMark l j)) → Chain m l k m' → (May2 m' ∧ MarksOk m') ∧ m'.pages = m.pages
  | 0, m', _, e => by subst e; exact ⟨⟨h, hmk⟩, rfl⟩
  | k + 1, m', hx, ⟨m1, hc, hd⟩ => by
    obtain ⟨⟨h1, h2⟩, h3⟩ := chain_may h hmk k m1 (fun j hj => hx j (by omega)) hc
    obtain ⟨k1, k2⟩ := does_may h1 h2 (hx k (by omega)) hd
    exact ⟨⟨k1, does_marks h2 (hx k (by omega)) hd⟩, k2.trans h3⟩
def marksV (l : List MarkD) (j : Nat) : Value := rowV (fun x k => if k = 0 then .int .i64 x.kind else if k = 1 then .int .i64 x.thread else if k = 2 then .int .i64 x.entry else if k = 3 then .int .i64 x.page else if k = 4 then .int .i64 x.n else .int .u64 (x.mask : Int)) noMark 6 l j
/-- What All tells. -/
def AllP (m : ModelD) (l : List MarkD) (w : World) (e : Ending) (w' : World) : Prop := Ext w w' ∧ ∃ m' n b F' H' S' G' fc' hc' sc' gc', e = .returned (.tuple #[modelV m' F' H' S' G' fc' hc' sc' gc', .int .i64 n, .bool b]) ∧
  OwnM w' w.heap.size m' (.slice F' m'.free.length fc') (.slice H' m'.hands.length hc') (.slice S' m'.spans.length sc') (.slice G' m'.gone.length gc') ∧
  ((b = false ∧ n = 0 ∧ m' = noModel ∧ ¬ MayS HoldOk m) ∨ (MayS HoldOk m ∧ ∃ k : Nat, n = (k : Int) ∧ Chain m l k m' ∧ ((b = true ∧ k = l.length) ∨ (b = false ∧ k < l.length ∧ DoesN m' (ix noMark l k)))))

set_option maxHeartbeats 8000000 in
set_option maxRecDepth 100000 in
theorem all_any (m : ModelD) (l : List MarkD) (F H S G L : Option Addr) (fc hc sc gc lc : Nat) (w : World) (hlen : LenM m) (hmk : MarksOk m) (hm : ModelR w m F H S G) (hl : l.length ≤ 1000000) (hL : SlR w L l.length 6 (marksV l)) (hx : ∀ j, j < l.length → MarkOk (ix noMark l j)) (hT : Tab w) (hB : TabB w) :
    Calls Tryz.prog 12 #[modelV m F H S G fc hc sc gc, .slice L l.length lc] w (AllP m l w) := by
  obtain ⟨Wa, hWa⟩ : ∃ Wa, Wa = w.alloc (.cells #[.int .i64 m.pages, .slice F m.free.length fc, .slice H m.hands.length hc, .slice S m.spans.length sc, .slice G m.gone.length gc] 30) := ⟨_, rfl⟩
  obtain ⟨W0, hW0⟩ : ∃ W0, W0 = Wa.alloc (.cells #[.int .i64 0, .slice none 0 0, .slice none 0 0, .slice none 0 0, .slice none 0 0] 30) := ⟨_, rfl⟩
  have ea : Ext w Wa := hWa ▸ (Ext.refl w).alloc _
  have ec : Ext Wa W0 := hW0 ▸ (Ext.refl Wa).alloc _
  have ba : Blk W0 w.heap.size 30 #[.int .i64 m.pages, .slice F m.free.length fc, .slice H m.hands.length hc, .slice S m.spans.length sc, .slice G m.gone.length gc] := ((hWa ▸ Blk.new _ _ _ _ rfl : Blk Wa w.heap.size _ _).ext ec)
  have sa : Wa.heap.size = w.heap.size + 1 := by rw [hWa]; exact World.size_alloc _ _
  have s0 : W0.heap.size = w.heap.size + 2 := by rw [hW0, World.size_alloc, sa]
  have bc : Blk W0 (w.heap.size + 1) 30 #[.int .i64 0, .slice none 0 0, .slice none 0 0, .slice none 0 0, .slice none 0 0] := sa ▸ (hW0 ▸ Blk.new _ _ _ _ rfl : Blk W0 Wa.heap.size _ _)
  have e0 : Ext w W0 := ea.trans ec
  have HMay : Hid (Calls Tryz.prog 14 #[modelV m F H S G fc hc sc gc] W0 fun e w' => e = .returned (.bool (B (MayS HoldOk m))) ∧ Ext W0 w') := Lib.hid (mayM_any m F H S G fc hc sc gc W0 ⟨hlen.free, hlen.hands, hlen.spans⟩ hlen.gone (hm.ext e0) (hT.ext e0))
  have HE : Hid (W0 = (w.alloc (.cells #[.int .i64 m.pages, .slice F m.free.length fc, .slice H m.hands.length hc, .slice S m.spans.length sc, .slice G m.gone.length gc] 30)).alloc (.cells #[.int .i64 0, .slice none 0 0, .slice none 0 0, .slice none 0 0, .slice none 0 0] 30)) := Lib.hid (by rw [hW0, hWa])
  have HW : Hid (Ext w W0 ∧ Blk W0 (w.heap.size + 1) 30 #[.int .i64 0, .slice none 0 0, .slice none 0 0, .slice none 0 0, .slice none 0 0] ∧ W0.heap.size = w.heap.size + 2 ∧ Blk W0 w.heap.size 30 #[.int .i64 m.pages, .slice F m.free.length fc, .slice H m.hands.length hc, .slice S m.spans.length sc, .slice G m.gone.length gc] ∧ SlR W0 L l.length 6 (marksV l)) := Lib.hid ⟨e0, bc, s0, ba, hL.ext e0⟩
  have HH : Hid (LenM m ∧ ModelR w m F H S G ∧ MarksOk m ∧ Tab w ∧ TabB w ∧ ∀ j, j < l.length → MarkOk (ix noMark l j)) := Lib.hid ⟨hlen, hm, hmk, hT, hB, hx⟩
  have x0 := ba.cell (i := 0) (v := .int .i64 m.pages) rfl
  have x1 := ba.cell (i := 1) (v := .slice F m.free.length fc) rfl
  have x2 := ba.cell (i := 2) (v := .slice H m.hands.length hc) rfl
  have x3 := ba.cell (i := 3) (v := .slice S m.spans.length sc) rfl
  have x4 := ba.cell (i := 4) (v := .slice G m.gone.length gc) rfl
  clear hWa hW0 ea ec ba sa s0 bc e0 hlen hm hmk hT hB hx hL
  by_cases hmay : MayS HoldOk m
  rotate_left
  · rw [B_no hmay] at HMay
    have HN := Lib.hid hmay
    clear hmay
    unfold modelV at HMay
    unfold modelV
    go_enter Tryz.func12, Tryz.ntmps12
    go_upto_region 1 with fail
    rw [← HE.out]
    go_upto_region 2 with (go_at_call 14; (with_reducible refine HMay.out.mono ?_); rintro e w1 ⟨rfl, hE1⟩; have hb1 := HW.out.2.1.ext hE1; have g0 := hb1.cell (i := 0) (v := .int .i64 0) rfl; have fz0 := hb1.frozen 0; have g1 := hb1.cell (i := 1) (v := .slice none 0 0) rfl; have fz1 := hb1.frozen 1; have g2 := hb1.cell (i := 2) (v := .slice none 0 0) rfl; have fz2 := hb1.frozen 2; have g3 := hb1.cell (i := 3) (v := .slice none 0 0) rfl; have fz3 := hb1.frozen 3; have g4 := hb1.cell (i := 4) (v := .slice none 0 0) rfl; have fz4 := hb1.frozen 4; have HE1 := Lib.hid (And.intro hE1 hb1); clear hE1 hb1)
    go_wp2
    have hB := ((((HE1.out.2.set 0 (.int .i64 0)).set 1 (.slice none 0 0)).set 2 (.slice none 0 0)).set 3 (.slice none 0 0)).set 4 (.slice none 0 0)
    simp only [List.setIfInBounds_toArray, List.set_cons_succ, List.set_cons_zero] at hB
    have hle : w.heap.size ≤ w.heap.size + 1 := by omega
    refine bodyPost_ret (results_cell_row3 all_res _ _ (w.heap.size + 1) 30 _ (0, 0) _ rfl hB Tryz.underlying30 rfl own_info) rfl ⟨(((((HW.out.1.trans HE1.out.1).setCell hle _).setCell hle _).setCell hle _).setCell hle _).setCell hle _, noModel, 0, false, none, none, none, none, 0, 0, 0, 0, rfl, ownNo _ _, .inl ⟨rfl, rfl, rfl, HN.out⟩⟩
  · rw [B_yes hmay] at HMay
    have HN := Lib.hid hmay
    clear hmay
    unfold modelV at HMay
    unfold modelV
    have HO : Hid (∀ W, Ext W0 W → Calls Tryz.prog 26 #[.agg #[.int .i64 m.pages, .slice F m.free.length fc, .slice H m.hands.length hc, .slice S m.spans.length sc, .slice G m.gone.length gc]] W fun e w' => ∃ F' H' S' G' fc' hc' sc' gc', e = .returned (.agg #[.int .i64 m.pages, .slice F' m.free.length fc', .slice H' m.hands.length hc', .slice S' m.spans.length sc', .slice G' m.gone.length gc']) ∧ Ext W w' ∧ OwnM w' W.heap.size m (.slice F' m.free.length fc') (.slice H' m.hands.length hc') (.slice S' m.spans.length sc') (.slice G' m.gone.length gc')) := Lib.hid fun W hE => own_any m F H S G fc hc sc gc W HH.out.1 (HH.out.2.1.ext (HW.out.1.trans hE))
    go_enter Tryz.func12, Tryz.ntmps12
    go_upto_region 1 with fail
    rw [← HE.out]
    go_upto_region 4 with (first
      | (go_at_call 14; (with_reducible refine HMay.out.mono ?_); rintro e w1 ⟨rfl, hE1⟩; have hb1 := HW.out.2.2.2.1.ext hE1; have y0 := hb1.cell (i := 0) (v := .int .i64 m.pages) rfl; have y1 := hb1.cell (i := 1) (v := .slice F m.free.length fc) rfl; have y2 := hb1.cell (i := 2) (v := .slice H m.hands.length hc) rfl; have y3 := hb1.cell (i := 3) (v := .slice S m.spans.length sc) rfl; have y4 := hb1.cell (i := 4) (v := .slice G m.gone.length gc) rfl; have HE1 := Lib.hid hE1; clear hE1 hb1)
      | (go_at_call 26; (with_reducible refine (HO.out _ HE1.out).mono ?_); rintro e w2 ⟨F1, H1, S1, G1, fc1, hc1, sc1, gc1, rfl, hE2, hO2⟩; have HE2 := Lib.hid (And.intro hE2 hO2); clear hE2 hO2))
    obtain ⟨W3, hW3⟩ : ∃ W3, W3 = w2.alloc (.cells #[.int .i64 m.pages, .slice F1 m.free.length fc1, .slice H1 m.hands.length hc1, .slice S1 m.spans.length sc1, .slice G1 m.gone.length gc1] 62) := ⟨_, rfl⟩
    rw [← hW3]
    have hE3 : Ext w2 W3 := hW3 ▸ (Ext.refl w2).alloc _
    have hblk : Blk W3 w2.heap.size 62 #[.int .i64 m.pages, .slice F1 m.free.length fc1, .slice H1 m.hands.length hc1, .slice S1 m.spans.length sc1, .slice G1 m.gone.length gc1] := hW3 ▸ Blk.new _ _ _ _ rfl
    have hD3 : DeskR W3 w2.heap.size w1.heap.size m (.slice F1 m.free.length fc1) (.slice H1 m.hands.length hc1) (.slice S1 m.spans.length sc1) (.slice G1 m.gone.length gc1) := ⟨hblk, HE2.out.2.ext hE3⟩
    have h13 : Ext w1 W3 := HE2.out.1.trans hE3
    have h03 : Ext W0 W3 := HE1.out.trans h13
    have hw3 : Ext w W3 := HW.out.1.trans h03
    have h12 := HE2.out.1.size
    have hs0 := HW.out.2.2.1
    have h01 := HE1.out.size
    have hle : w.heap.size ≤ w.heap.size + 1 := by omega
    have hlt : w.heap.size + 1 < w1.heap.size := by omega
    have HX := Lib.hid (And.intro h03 (And.intro h13 (And.intro hw3 (And.intro hD3 (And.intro h12 h01)))))
    clear hW3 hE3 hblk hD3 h13 h03 hw3 h12 h01 hs0 x0 x1 x2 x3 x4 y0 y1 y2 y3 y4
    have hml := may2_iff.1 HN.out
    go_wp2
    go_loopg [20] l.length (fun q i wr => ∃ (k : Nat) (mk : ModelD) (F' H' S' G' : Value), k ≤ l.length ∧ q = l.length - k ∧ i = .int .i64 (k : Int) ∧ Ext W0 wr ∧ w1.heap.size ≤ wr.heap.size ∧ Chain m l k mk ∧ DeskR wr w2.heap.size w1.heap.size mk F' H' S' G')
    case atStart => exact ⟨0, m, _, _, _, _, Nat.zero_le _, rfl, rfl, HX.out.1, HX.out.2.1.size, rfl, HX.out.2.2.2.1⟩
    case round =>
      obtain ⟨k, mk, F', H', S', G', hk, rfl, rfl, hE, hsz, hch, hD⟩ := hrel
      by_cases hlt2 : k < l.length
      · obtain ⟨b, off, rfl, hcl⟩ := HW.out.2.2.2.2 (by omega)
        obtain ⟨x, hx⟩ : ∃ x, ix noMark l k = x := ⟨_, rfl⟩
        have hr : ∀ j, j < 6 → wr.cell? ⟨b, off + (k * 6 + j), none⟩ = some (rowV (fun x k => if k = 0 then .int .i64 x.kind else if k = 1 then .int .i64 x.thread else if k = 2 then .int .i64 x.entry else if k = 3 then .int .i64 x.page else if k = 4 then .int .i64 x.n else .int .u64 (x.mask : Int)) noMark 6 l (k * 6 + j)) := fun j hj => hE.cell (hcl (k * 6 + j) (by omega))
        have hv : ∀ j, j < 6 → rowV (fun (x : MarkD) k => if k = 0 then Value.int .i64 x.kind else if k = 1 then .int .i64 x.thread else if k = 2 then .int .i64 x.entry else if k = 3 then .int .i64 x.page else if k = 4 then .int .i64 x.n else .int .u64 (x.mask : Int)) noMark 6 l (k * 6 + j) = (if j = 0 then Value.int .i64 x.kind else if j = 1 then .int .i64 x.thread else if j = 2 then .int .i64 x.entry else if j = 3 then .int .i64 x.page else if j = 4 then .int .i64 x.n else .int .u64 (x.mask : Int)) := fun j hj => by
          unfold rowV
          rw [show (k * 6 + j) / 6 = k by omega, show (k * 6 + j) % 6 = j by omega, hx]
        have a0 : wr.cell? ⟨b, off + k * 6, none⟩ = some (.int .i64 x.kind) := by have := hr 0 (by omega); rw [hv 0 (by omega)] at this; exact this
        have a1 : wr.cell? ⟨b, off + k * 6 + 1, none⟩ = some (.int .i64 x.thread) := by have := hr 1 (by omega); rw [hv 1 (by omega)] at this; exact this
        have a2 : wr.cell? ⟨b, off + k * 6 + 2, none⟩ = some (.int .i64 x.entry) := by have := hr 2 (by omega); rw [hv 2 (by omega)] at this; exact this
        have a3 : wr.cell? ⟨b, off + k * 6 + 3, none⟩ = some (.int .i64 x.page) := by have := hr 3 (by omega); rw [hv 3 (by omega)] at this; exact this
        have a4 : wr.cell? ⟨b, off + k * 6 + 4, none⟩ = some (.int .i64 x.n) := by have := hr 4 (by omega); rw [hv 4 (by omega)] at this; exact this
        have a5 : wr.cell? ⟨b, off + k * 6 + 5, none⟩ = some (.int .u64 (x.mask : Int)) := by have := hr 5 (by omega); rw [hv 5 (by omega)] at this; exact this
        have q0 : (0 : Int) ≤ (k : Int) := by omega
        have q1 : (k : Int) < (l.length : Int) := by omega
        obtain ⟨W2, hW2⟩ : ∃ W2, W2 = wr.alloc (.cells #[.int .i64 x.kind, .int .i64 x.thread, .int .i64 x.entry, .int .i64 x.page, .int .i64 x.n, .int .u64 (x.mask : Int)] 34) := ⟨_, rfl⟩
        have hE2 : Ext wr W2 := hW2 ▸ (Ext.refl wr).alloc _
        have hpb : Blk W2 wr.heap.size 34 #[.int .i64 x.kind, .int .i64 x.thread, .int .i64 x.entry, .int .i64 x.page, .int .i64 x.n, .int .u64 (x.mask : Int)] := hW2 ▸ Blk.new _ _ _ _ rfl
        have b0 := hpb.cell (i := 0) (v := .int .i64 x.kind) rfl
        have b1 := hpb.cell (i := 1) (v := .int .i64 x.thread) rfl
        have b2 := hpb.cell (i := 2) (v := .int .i64 x.entry) rfl
        have b3 := hpb.cell (i := 3) (v := .int .i64 x.page) rfl
        have b4 := hpb.cell (i := 4) (v := .int .i64 x.n) rfl
        have b5 := hpb.cell (i := 5) (v := .int .u64 (x.mask : Int)) rfl
        obtain ⟨⟨hm1, hm2⟩, hm3⟩ := chain_may hml HH.out.2.2.1 k mk (fun j hj => HH.out.2.2.2.2.2 j (by omega)) hch
        have hwW : Ext w W2 := HW.out.1.trans (hE.trans hE2)
        have hdo := does_any mk w2.heap.size w1.heap.size F' H' S' G' x W2 (deskOk_may (may2_iff.2 hm1)) (hx ▸ HH.out.2.2.2.2.2 k hlt2) (HH.out.2.2.2.1.ext hwW) (HH.out.2.2.2.2.1.ext hwW) (Nat.le_trans hsz hE2.size) (hD.ext hE2)
        unfold markV at hdo
        have HD := Lib.hid hdo
        have HW2 := Lib.hid hW2
        have HR := Lib.hid (And.intro (hE.trans hE2) (And.intro (Nat.le_trans hsz hE2.size) (And.intro hch hx)))
        clear hdo hW2 hE hsz hch hx hE2 hpb hwW hm1 hm2 hm3 hr hv hcl hD
        go_upto_region 7 with fail
        rw [← HW2.out]
        go_upto_if 28 with (go_at_call 27; (with_reducible refine HD.out.mono ?_); rintro e w4 hs; have HS := Lib.hid hs; clear hs; obtain ⟨bb, rfl⟩ := DoesP.bool HS.out)
        obtain ⟨hK, hz, hr⟩ := HS.out
        have h04 : Ext W0 w4 := hK W0 HR.out.1 HX.out.2.2.2.2.2 (Nat.le_trans HX.out.2.2.2.2.2 HX.out.2.2.2.2.1)
        have h14 : w1.heap.size ≤ w4.heap.size := Nat.le_trans HR.out.2.1 hz
        rcases hr with ⟨e, hn, F5, H5, S5, G5, hD5⟩ | ⟨e, m', F5, H5, S5, G5, hR, hD5⟩
        · obtain rfl : bb = false := by injection e with e; injection e
          obtain ⟨F2, H2, S2, G2, fc2, hc2, sc2, gc2, rfl, rfl, rfl, rfl⟩ := hD5.own.slices
          have d0 := hD5.blk.cell (i := 0) (v := .int .i64 mk.pages) rfl
          have d1 := hD5.blk.cell (i := 1) (v := .slice F2 mk.free.length fc2) rfl
          have d2 := hD5.blk.cell (i := 2) (v := .slice H2 mk.hands.length hc2) rfl
          have d3 := hD5.blk.cell (i := 3) (v := .slice S2 mk.spans.length sc2) rfl
          have d4 := hD5.blk.cell (i := 4) (v := .slice G2 mk.gone.length gc2) rfl
          have hb1 := HW.out.2.1.ext h04
          have g0 := hb1.cell (i := 0) (v := .int .i64 0) rfl
          have fz0 := hb1.frozen 0
          have g1 := hb1.cell (i := 1) (v := .slice none 0 0) rfl
          have fz1 := hb1.frozen 1
          have g2 := hb1.cell (i := 2) (v := .slice none 0 0) rfl
          have fz2 := hb1.frozen 2
          have g3 := hb1.cell (i := 3) (v := .slice none 0 0) rfl
          have fz3 := hb1.frozen 3
          have g4 := hb1.cell (i := 4) (v := .slice none 0 0) rfl
          have fz4 := hb1.frozen 4
          have HQ := Lib.hid (And.intro (HW.out.1.trans h04) (And.intro hb1 (And.intro hD5.own (And.intro HR.out.2.2.1 (And.intro HR.out.2.2.2 hn)))))
          clear h04 h14 hn hD5 e hK hz hb1 a0 a1 a2 a3 a4 a5 b0 b1 b2 b3 b4 b5
          go_wp2
          have hB := ((((HQ.out.2.1.set 0 (.int .i64 mk.pages)).set 1 (.slice F2 mk.free.length fc2)).set 2 (.slice H2 mk.hands.length hc2)).set 3 (.slice S2 mk.spans.length sc2)).set 4 (.slice G2 mk.gone.length gc2)
          simp only [List.setIfInBounds_toArray, List.set_cons_succ, List.set_cons_zero] at hB
          refine bodyPost_ret (results_cell_row3 all_res _ _ (w.heap.size + 1) 30 _ (0, 0) _ rfl hB Tryz.underlying30 rfl own_info) rfl ⟨(((((HQ.out.1).setCell hle _).setCell hle _).setCell hle _).setCell hle _).setCell hle _, mk, (k : Int), false, F2, H2, S2, G2, fc2, hc2, sc2, gc2, rfl, (((((HQ.out.2.2.1.far hlt _).far hlt _).far hlt _).far hlt _).far hlt _).mono (by omega), .inr ⟨HN.out, ⟨k, rfl, HQ.out.2.2.2.1, .inr ⟨rfl, hlt2, by rw [HQ.out.2.2.2.2.1]; exact HQ.out.2.2.2.2.2⟩⟩⟩⟩
        · obtain rfl : bb = true := by injection e with e; injection e
          have HQ := Lib.hid (And.intro h04 (And.intro h14 (And.intro hR hD5)))
          clear h04 h14 hR hD5 e hK hz a0 a1 a2 a3 a4 a5 b0 b1 b2 b3 b4 b5
          go_wp2
          go_roundg (l.length - (k + 1))
          case measure => go_light; omega
          case rel =>
            exact ⟨k + 1, m', F5, H5, S5, G5, by omega, rfl, by go_num, HQ.out.1, HQ.out.2.1, ⟨mk, HR.out.2.2.1, by rw [HR.out.2.2.2]; exact HQ.out.2.2.1⟩, HQ.out.2.2.2⟩
      · obtain rfl : k = l.length := by omega
        obtain ⟨F2, H2, S2, G2, fc2, hc2, sc2, gc2, rfl, rfl, rfl, rfl⟩ := hD.own.slices
        have d0 := hD.blk.cell (i := 0) (v := .int .i64 mk.pages) rfl
        have d1 := hD.blk.cell (i := 1) (v := .slice F2 mk.free.length fc2) rfl
        have d2 := hD.blk.cell (i := 2) (v := .slice H2 mk.hands.length hc2) rfl
        have d3 := hD.blk.cell (i := 3) (v := .slice S2 mk.spans.length sc2) rfl
        have d4 := hD.blk.cell (i := 4) (v := .slice G2 mk.gone.length gc2) rfl
        have hb1 := HW.out.2.1.ext hE
        have g0 := hb1.cell (i := 0) (v := .int .i64 0) rfl
        have fz0 := hb1.frozen 0
        have g1 := hb1.cell (i := 1) (v := .slice none 0 0) rfl
        have fz1 := hb1.frozen 1
        have g2 := hb1.cell (i := 2) (v := .slice none 0 0) rfl
        have fz2 := hb1.frozen 2
        have g3 := hb1.cell (i := 3) (v := .slice none 0 0) rfl
        have fz3 := hb1.frozen 3
        have g4 := hb1.cell (i := 4) (v := .slice none 0 0) rfl
        have fz4 := hb1.frozen 4
        have HQ := Lib.hid (And.intro (HW.out.1.trans hE) (And.intro hb1 (And.intro hD.own hch)))
        clear hE hch hD hsz hb1
        go_wp2
        have hB := ((((HQ.out.2.1.set 0 (.int .i64 mk.pages)).set 1 (.slice F2 mk.free.length fc2)).set 2 (.slice H2 mk.hands.length hc2)).set 3 (.slice S2 mk.spans.length sc2)).set 4 (.slice G2 mk.gone.length gc2)
        simp only [List.setIfInBounds_toArray, List.set_cons_succ, List.set_cons_zero] at hB
        refine bodyPost_ret (results_cell_row3 all_res _ _ (w.heap.size + 1) 30 _ (0, 0) _ rfl hB Tryz.underlying30 rfl own_info) rfl ⟨(((((HQ.out.1).setCell hle _).setCell hle _).setCell hle _).setCell hle _).setCell hle _, mk, (l.length : Int), true, F2, H2, S2, G2, fc2, hc2, sc2, gc2, rfl, (((((HQ.out.2.2.1.far hlt _).far hlt _).far hlt _).far hlt _).far hlt _).mono (by omega), .inr ⟨HN.out, ⟨l.length, rfl, HQ.out.2.2.2, .inl ⟨rfl, rfl⟩⟩⟩⟩
end Go.Proofs.YtoolenhnhlfhmaaGreatDoor
