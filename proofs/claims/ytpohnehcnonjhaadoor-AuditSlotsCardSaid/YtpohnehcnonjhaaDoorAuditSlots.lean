/- The law AuditSlots of package dustpanlaw30: its walk. -/
import Derived.Test.YtpohnehcnonjhaaDoorLiveLaw
import Derived.Test.YtpohnehcnonjhaaDoorAwake30
import Derived.Deep.RegionHeld3
namespace Go.Proofs.YtpohnehcnonjhaaDoor
open Go.RowKit Go.Sort
set_option linter.unusedVariables false
set_option linter.unusedSimpArgs false

/-- What the statement itself gathers. -/
noncomputable def lvTo (x : SpanD) (g : Int) : Nat → List Int
  | 0 => []
  | k + 1 => if B (slotC x g k = 2) then lvTo x g k ++ [begC x.page x.cls k] else lvTo x g k
theorem lvTo_yes {x : SpanD} {g : Int} {k : Nat} (h : slotC x g k = 2) : lvTo x g (k + 1) = lvTo x g k ++ [begC x.page x.cls k] := if_pos (B_yes h)
theorem lvTo_no {x : SpanD} {g : Int} {k : Nat} (h : ¬ slotC x g k = 2) : lvTo x g (k + 1) = lvTo x g k := if_neg (by rw [B_no h]; simp)
theorem lvTo_len (x : SpanD) (g : Int) : ∀ k, (lvTo x g k).length ≤ k
  | 0 => Nat.le_refl _
  | k + 1 => by
    have h := lvTo_len x g k
    unfold lvTo
    split
    · rw [List.length_append]; simp; omega
    · omega
theorem beg_3 {c : Int} (h0 : 0 ≤ c) (h1 : c ≤ 14) {k : Nat} (hk : (k : Int) < clsS c) : BegP 3 c k := ⟨by omega, by omega, h0, h1, by omega, hk⟩
theorem beg_lt {c : Int} (h0 : 0 ≤ c) (h1 : c ≤ 14) {j k : Nat} (hj : j < k) (hk : (k : Int) < clsS c) : begC 3 c j < begC 3 c k := by
  have hc : c < 14 := by
    by_cases e : c = 14
    · subst e
      have : clsS 14 = 1 := by decide
      omega
    · omega
  have hb := (cls_quo h0 hc).1
  unfold begC
  rw [if_pos (B_yes (beg_3 h0 h1 (by omega))), if_pos (B_yes (beg_3 h0 h1 hk))]
  have : (j : Int) * clsB c < (k : Int) * clsB c := Int.mul_lt_mul_of_pos_right (by omega) (by omega)
  omega
theorem lvTo_law {x : SpanD} (g : Int) (hp : x.page = 3) (h0 : 0 ≤ x.cls) (h1 : x.cls ≤ 14) : ∀ k : Nat, (k : Int) ≤ clsS x.cls → (lvTo x g k).Pairwise (· < ·) ∧ ∀ y, y ∈ lvTo x g k ↔ ∃ j : Nat, j < k ∧ LivP x g j ∧ y = begC x.page x.cls j
  | 0, _ => ⟨by simp [lvTo], fun y => by simp [lvTo]⟩
  | k + 1, hk => by
    obtain ⟨a1, a2⟩ := lvTo_law g hp h0 h1 k (by omega)
    by_cases h : slotC x g k = 2
    · rw [lvTo_yes h]
      refine ⟨List.pairwise_append.2 ⟨a1, by simp, fun y hy z hz => ?_⟩, fun y => ?_⟩
      · rw [List.mem_singleton] at hz
        subst hz
        obtain ⟨j, hj, _, e⟩ := (a2 y).1 hy
        rw [e, hp]
        exact beg_lt h0 h1 hj (by omega)
      · rw [List.mem_append, List.mem_singleton, a2]
        constructor
        · rintro (⟨j, hj, e⟩ | e)
          · exact ⟨j, by omega, e⟩
          · exact ⟨k, by omega, ⟨by rw [hp]; exact beg_3 h0 h1 (by omega), h⟩, e⟩
        · rintro ⟨j, hj, hl, e⟩
          by_cases ej : j = k
          · subst ej; exact .inr e
          · exact .inl ⟨j, by omega, hl, e⟩
    · rw [lvTo_no h]
      refine ⟨a1, fun y => ?_⟩
      rw [a2]
      constructor
      · rintro ⟨j, hj, e⟩
        exact ⟨j, by omega, e⟩
      · rintro ⟨j, hj, hl, e⟩
        by_cases ej : j = k
        · subst ej; exact absurd hl.2 h
        · exact ⟨j, by omega, hl, e⟩
/-- Two of the same span: the slots that live are that one's. -/
theorem live_two {x : SpanD} (g : Int) (hp : x.page = 3) (h0 : 0 ≤ x.cls) (h1 : x.cls ≤ 14) {N : Nat} (hN : clsS x.cls = N) : liveTo [x, x] g 2 = lvTo x g N := by
  obtain ⟨a1, a2⟩ := lvTo_law g hp h0 h1 N (by omega)
  obtain ⟨b1, b2⟩ := liveTo_law [x, x] g 2
  refine strict_ext b1 a1 (fun y => ?_)
  rw [a2, b2]
  constructor
  · rintro ⟨i, hi, j, hl, e⟩
    have ei : ix noSpan [x, x] i = x := by
      rcases (by omega : i = 0 ∨ i = 1) with rfl | rfl <;> rfl
    rw [ei] at hl e
    exact ⟨j, by have := liv_lt hl; omega, hl, e⟩
  · rintro ⟨j, _, hl, e⟩
    exact ⟨0, by omega, j, hl, e⟩

theorem two_spans (w : World) (t : TypeId) (x : SpanD) : SpansR (w.alloc (.cells #[.int .i64 x.page, .int .i64 x.pages, .int .i64 x.cls, .int .i64 x.gen, .int .i64 x.phase, .int .u64 x.alloc, .int .u64 x.mark, .int .i64 x.page, .int .i64 x.pages, .int .i64 x.cls, .int .i64 x.gen, .int .i64 x.phase, .int .u64 x.alloc, .int .u64 x.mark] t)) (some ⟨w.heap.size, 0, none⟩) [x, x] :=
  fun _ => ⟨w.heap.size, 0, rfl, fun j hj => by
    have hj' : j < 14 := hj
    rw [Nat.zero_add]
    rcases (by omega : j = 0 ∨ j = 1 ∨ j = 2 ∨ j = 3 ∨ j = 4 ∨ j = 5 ∨ j = 6 ∨ j = 7 ∨ j = 8 ∨ j = 9 ∨ j = 10 ∨ j = 11 ∨ j = 12 ∨ j = 13) with rfl | rfl | rfl | rfl | rfl | rfl | rfl | rfl | rfl | rfl | rfl | rfl | rfl | rfl <;> exact cell_new w _ t _ _ rfl⟩
theorem live_two_any (x : SpanD) (sA : Option Addr) (g : Int) (N : Nat) (w : World) (hb : SpBd x) (hS : SpansR w sA [x, x]) (hT : Tab w) (hTB : TabB w) (h7 : liveTo [x, x] g 2 = lvTo x g N) :
    Calls Tryd.prog 11 #[.slice sA 2 2, .int .i64 g] w (CompOut w (lvTo x g N)) := by
  have h := live_any [x, x] sA 2 g w (by simp) (fun i hi => by
    have hi' : i < 2 := hi
    rcases (by omega : i = 0 ∨ i = 1) with rfl | rfl <;> exact hb) hS hT hTB
  rw [live_same] at h
  rw [← h7]
  exact h

set_option maxRecDepth 100000 in
set_option maxHeartbeats 8000000 in
theorem auditSlots_any (cl ph gn nw al mk : Nat) (w : World) (h1 : cl < 256) (h2 : ph < 256) (h3 : gn < 65536) (h4 : nw < 65536) (h5 : al < 18446744073709551616) (h6 : mk < 18446744073709551616) (hT : Tab w) (hTB : TabB w) :
    Calls Tryd.prog 3 #[.int .u8 cl, .int .u8 ph, .int .u16 gn, .int .u16 nw, .int .u64 al, .int .u64 mk] w fun e w' =>
      e = .returned (.bool true) ∧ Ext w w' := by
  have HT := Lib.hid (And.intro hT hTB)
  clear hT hTB
  obtain ⟨i0, hi, hz0, hz1, hz2⟩ := info_parts Tryd.infoIntQ
  have HI := Lib.hid (And.intro hi (And.intro hz0 (And.intro hz1 hz2)))
  clear hi hz0 hz1 hz2
  go_enter Tryd.func3, Tryd.ntmps3
  go_wp2_with fail
  have hc0 : 0 ≤ (cl : Int) % 15 := by omega
  have hc1 : (cl : Int) % 15 ≤ 14 := by omega
  have HU := Lib.hid (And.intro h1 (And.intro h2 (And.intro h3 h4)))
  clear h1 h2 h3 h4
  generalize (cl : Int) % 15 = c at hc0 hc1 ⊢
  generalize (1 + (gn : Int) % 5) = gV
  generalize (1 + (ph : Int) % 6) = pV
  generalize (1 + (nw : Int) % 5) = g
  have hBx0 := Blk.new w 25 #[.int .i64 3, .int .i64 1, .int .i64 c, .int .i64 gV, .int .i64 pV, .int .u64 al, .int .u64 mk] _ rfl
  go_at_call 4
  refine (state_any _ _ _).mono ?_
  rintro e w0 ⟨rfl, rfl⟩
  obtain ⟨x, hx⟩ : ∃ x : SpanD, x = ⟨3, 1, c, gV, pV, al, mk⟩ := ⟨_, rfl⟩
  have HX := Lib.hid hx
  have HSp := Lib.hid (show SpBd x by rw [hx]; exact ⟨h5, h6⟩)
  have hcb := clsS_bd c
  obtain ⟨N, hN⟩ := Int.eq_ofNat_of_zero_le hcb.1
  have HN := Lib.hid hN
  have f0 := fun (n : Nat) => show (n : Int) < N → InP x n from fun h => ⟨by omega, by rw [hx]; show (n : Int) < clsS c; omega⟩
  have hsv : stN gV pV = stN x.gen x.phase := by rw [hx]
  have halx : al = x.alloc := by rw [hx]
  have hmkx : mk = x.mark := by rw [hx]
  have f1 := fun (n : Nat) (hn : (n : Int) < N) => @slotC_free x g n (f0 n hn)
  have f2 := fun (n : Nat) (hn : (n : Int) < N) => @slotC_swept x g n (f0 n hn)
  have f3 := fun (n : Nat) (hn : (n : Int) < N) => @slotC_mark x g n (f0 n hn)
  have f4 := fun (n : Nat) (hn : (n : Int) < N) => @slotC_wait x g n (f0 n hn)
  have f5 : slotC x g (N : Int) = 0 := slotC_out (fun h => by have := h.2; rw [hx] at this; have h' : (N : Int) < clsS c := this; omega)
  have f6 : slotC x g (-1) = 0 := slotC_out (fun h => by have := h.1; omega)
  have f7 : liveTo [x, x] g 2 = lvTo x g N := live_two g (by rw [hx]) (by rw [hx]; exact hc0) (by rw [hx]; exact hc1) (by rw [hx]; exact hN)
  have HBeg := Lib.hid (fun (k : Nat) (h : (k : Int) < N) => @beg_3 c hc0 hc1 k (by omega))
  have HLv := Lib.hid (And.intro (fun k h => @lvTo_yes x g k h) (fun k h => @lvTo_no x g k h))
  rw [hx] at HLv
  dsimp only at HLv
  rw [← hx] at HLv
  have hsp : spanV x = .agg #[.int .i64 3, .int .i64 1, .int .i64 c, .int .i64 gV, .int .i64 pV, .int .u64 al, .int .u64 mk] := by rw [hx]; rfl
  have HSlot := Lib.hid (fun (i : Int) w hT => slot_any x g i w HSp.out hT)
  rw [hsp] at HSlot
  have HF := Lib.hid (And.intro f1 (And.intro f2 (And.intro f3 f4)))
  rw [← hsv, ← halx, ← hmkx] at HF
  have HSw := Lib.hid (fun w => swept6_any (stN gV pV) g w (stN_lt _ _))
  have HE := Lib.hid (And.intro f5 (And.intro f6 f7))
  have HBit := Lib.hid (And.intro (fun (n : Nat) (w : World) => bit_any al (n : Int) w h5) (fun (n : Nat) (w : World) => bit_any mk (n : Int) w h6))
  clear f0 f1 f2 f3 f4 f5 f6 f7 hsv halx hmkx hsp hx
  generalize stN gV pV = sv at HF HSw ⊢
  generalize B (StP gV pV) = bv
  go_wp2_with fail
  go_loopg [18, 19] N (fun q v i wy => ∃ k : Nat, k ≤ N ∧ q = N - k ∧ i = .int .i64 k ∧ Ext w wy ∧ Blk wy w.heap.size 25 #[.int .i64 3, .int .i64 1, .int .i64 c, .int .i64 gV, .int .i64 pV, .int .u64 al, .int .u64 mk] ∧ OwnS wy w.heap.size 3 1 v (lvTo x g k).length (intv (lvTo x g k)))
  case atStart => exact ⟨0, Nat.zero_le _, rfl, rfl, (Ext.refl _).alloc _, hBx0, OwnS.nil _ _ _ _ _⟩
  case round =>
    obtain ⟨k, hk, rfl, rfl, hE, hBx, hO⟩ := hrel
    have HO := Lib.hid (And.intro hO hBx)
    clear hO hBx
    go_wp2_with fail
    go_at_call 5
    refine (slots1_any _ _).mono ?_
    rintro e w1 ⟨rfl, hE1⟩
    rw [HN.out]
    by_cases hlt : k < N
    · have hBeg := B_yes (HBeg.out k (by omega))
      go_wp2_with fail
      go_at_call 6
      refine (begin1_any _ _ _ _).mono ?_
      rintro e w2 ⟨rfl, hE2⟩
      rw [hBeg]
      have hE12 := hE1.trans hE2
      have hEw := hE.trans hE12
      have HO2 := Lib.hid (And.intro (HO.out.1.ext hE12) (HO.out.2.ext hE12))
      clear HO hE hE1 hE2 hE12
      have n64 : k < 64 := by omega
      go_wp2_with fail
      go_at_call 7
      refine (HBit.out.1 k _).mono ?_
      rintro e w3 ⟨rfl, rfl⟩
      rw [bitC_nat _ _ n64]
      have f1 := HF.out.1 k (by omega)
      have f2 := HF.out.2.1 k (by omega)
      have f3 := HF.out.2.2.1 k (by omega)
      have f4 := HF.out.2.2.2 k (by omega)
      rw [show ((k : Int).toNat) = k from rfl] at f1 f2 f3 f4
      cases ha : al.testBit k
      · have HR := Lib.hid (f1 ha)
        clear f1 f2 f3 f4 ha
        have c0 := HO2.out.2.cell (i := 0) rfl
        have c1 := HO2.out.2.cell (i := 1) rfl
        have c2 := HO2.out.2.cell (i := 2) rfl
        have c3 := HO2.out.2.cell (i := 3) rfl
        have c4 := HO2.out.2.cell (i := 4) rfl
        have c5 := HO2.out.2.cell (i := 5) rfl
        have c6 := HO2.out.2.cell (i := 6) rfl
        go_wp2_with fail
        go_at_call 9
        refine (HSlot.out (k : Int) _ (HT.out.1.ext hEw)).mono ?_
        rintro e w6 ⟨rfl, hE6⟩
        rw [HR.out]
        go_wp2_with fail
        go_roundg (N - (k + 1))
        case measure => go_light; omega
        exact ⟨k + 1, by omega, rfl, by simp, hEw.trans hE6, HO2.out.2.ext hE6, by rw [HLv.out.2 k (by rw [HR.out]; decide)]; exact HO2.out.1.ext hE6⟩
      cases hs : B (SwP sv g)
      · cases hm : mk.testBit k
        · have HR := Lib.hid (f4 ha hs hm)
          clear f1 f2 f3 f4 ha
          go_wp2_with fail
          go_at_call 8
          refine (HSw.out _).mono ?_
          rintro e w4 ⟨rfl, rfl⟩
          rw [hs]
          go_wp2_with fail
          go_at_call 7
          refine (HBit.out.2 k _).mono ?_
          rintro e w5 ⟨rfl, rfl⟩
          rw [bitC_nat _ _ n64, hm]
          have c0 := HO2.out.2.cell (i := 0) rfl
          have c1 := HO2.out.2.cell (i := 1) rfl
          have c2 := HO2.out.2.cell (i := 2) rfl
          have c3 := HO2.out.2.cell (i := 3) rfl
          have c4 := HO2.out.2.cell (i := 4) rfl
          have c5 := HO2.out.2.cell (i := 5) rfl
          have c6 := HO2.out.2.cell (i := 6) rfl
          go_wp2_with fail
          go_at_call 9
          refine (HSlot.out (k : Int) _ (HT.out.1.ext hEw)).mono ?_
          rintro e w6 ⟨rfl, hE6⟩
          rw [HR.out]
          go_wp2_with fail
          go_roundg (N - (k + 1))
          case measure => go_light; omega
          exact ⟨k + 1, by omega, rfl, by simp, hEw.trans hE6, HO2.out.2.ext hE6, by rw [HLv.out.2 k (by rw [HR.out]; decide)]; exact HO2.out.1.ext hE6⟩
        · have HR := Lib.hid (f3 ha hs hm)
          clear f1 f2 f3 f4 ha
          go_wp2_with fail
          go_at_call 8
          refine (HSw.out _).mono ?_
          rintro e w4 ⟨rfl, rfl⟩
          rw [hs]
          go_wp2_with fail
          go_at_call 7
          refine (HBit.out.2 k _).mono ?_
          rintro e w5 ⟨rfl, rfl⟩
          rw [bitC_nat _ _ n64, hm]
          have hlen := lvTo_len x g k
          have HY := Lib.hid (HLv.out.1 k HR.out)
          have hszw := hEw.size
          generalize lvTo x g k = L at HO2 HY hlen
          have hBs := HO2.out.2.alloc (.cells #[.int .i64 (begC 3 c k)] 3)
          have hVs := HO2.out.1.ext ((Ext.refl _).alloc (.cells #[.int .i64 (begC 3 c k)] 3))
          have hNe := own_blk_ne hVs hBs (by decide)
          go_wp2_with (at_builtin; go_loud (refine wpList_push rfl _ _ 28 rfl w.heap.size 3 i0 (.int .i64 0) 1 8 Tryd.underlying28 HI.out.1 HI.out.2.1 HI.out.2.2.1 HI.out.2.2.2 rfl (by decide) _ L.length (intv L) rfl hVs ⟨_, 0, none⟩ 1 (fun _ => .int .i64 (begC 3 c k)) rfl (fun j hj => by obtain rfl : j = 0 := (by omega); exact cell_new _ _ _ 0 _ rfl) (fun _ _ => rfl) ?b63 ?bby ?bba _ rfl (intv (L ++ [begC 3 c k])) (fun j hj => intv_old hj) (fun j hj => intv_new hj) ?_); (case b63 => unfold maxLen; omega); (case bby => omega); (case bba => simp; omega); intro gq capq w7 hO7 hgrow hExt hor hg7; have hB7 := hBs.grown hgrow hNe; have hE7 := hExt w (hEw.alloc _) (Nat.le_refl _); have c0 := hB7.cell (i := 0) rfl; have c1 := hB7.cell (i := 1) rfl; have c2 := hB7.cell (i := 2) rfl; have c3 := hB7.cell (i := 3) rfl; have c4 := hB7.cell (i := 4) rfl; have c5 := hB7.cell (i := 5) rfl; have c6 := hB7.cell (i := 6) rfl)
          go_at_call 9
          refine (HSlot.out (k : Int) _ (HT.out.1.ext hE7)).mono ?_
          rintro e w8 ⟨rfl, hE8⟩
          rw [HR.out]
          go_wp2_with fail
          go_roundg (N - (k + 1))
          case measure => go_light; omega
          exact ⟨k + 1, by omega, rfl, by simp, hE7.trans hE8, hB7.ext hE8, by rw [HY.out, List.length_append]; exact hO7.ext hE8⟩
      · have HR := Lib.hid (f2 ha hs)
        clear f1 f2 f3 f4 ha
        go_wp2_with fail
        go_at_call 8
        refine (HSw.out _).mono ?_
        rintro e w4 ⟨rfl, rfl⟩
        rw [hs]
        have hlen := lvTo_len x g k
        have HY := Lib.hid (HLv.out.1 k HR.out)
        have hszw := hEw.size
        generalize lvTo x g k = L at HO2 HY hlen
        have hBs := HO2.out.2.alloc (.cells #[.int .i64 (begC 3 c k)] 3)
        have hVs := HO2.out.1.ext ((Ext.refl _).alloc (.cells #[.int .i64 (begC 3 c k)] 3))
        have hNe := own_blk_ne hVs hBs (by decide)
        go_wp2_with (at_builtin; go_loud (refine wpList_push rfl _ _ 28 rfl w.heap.size 3 i0 (.int .i64 0) 1 8 Tryd.underlying28 HI.out.1 HI.out.2.1 HI.out.2.2.1 HI.out.2.2.2 rfl (by decide) _ L.length (intv L) rfl hVs ⟨_, 0, none⟩ 1 (fun _ => .int .i64 (begC 3 c k)) rfl (fun j hj => by obtain rfl : j = 0 := (by omega); exact cell_new _ _ _ 0 _ rfl) (fun _ _ => rfl) ?b63 ?bby ?bba _ rfl (intv (L ++ [begC 3 c k])) (fun j hj => intv_old hj) (fun j hj => intv_new hj) ?_); (case b63 => unfold maxLen; omega); (case bby => omega); (case bba => simp; omega); intro gq capq w7 hO7 hgrow hExt hor hg7; have hB7 := hBs.grown hgrow hNe; have hE7 := hExt w (hEw.alloc _) (Nat.le_refl _); have c0 := hB7.cell (i := 0) rfl; have c1 := hB7.cell (i := 1) rfl; have c2 := hB7.cell (i := 2) rfl; have c3 := hB7.cell (i := 3) rfl; have c4 := hB7.cell (i := 4) rfl; have c5 := hB7.cell (i := 5) rfl; have c6 := hB7.cell (i := 6) rfl)
        go_at_call 9
        refine (HSlot.out (k : Int) _ (HT.out.1.ext hE7)).mono ?_
        rintro e w8 ⟨rfl, hE8⟩
        rw [HR.out]
        go_wp2_with fail
        go_roundg (N - (k + 1))
        case measure => go_light; omega
        exact ⟨k + 1, by omega, rfl, by simp, hE7.trans hE8, hB7.ext hE8, by rw [HY.out, List.length_append]; exact hO7.ext hE8⟩
    · obtain rfl : k = N := by omega
      have hEw := hE.trans hE1
      have c0 := HO.out.2.cell (i := 0) rfl
      have c1 := HO.out.2.cell (i := 1) rfl
      have c2 := HO.out.2.cell (i := 2) rfl
      have c3 := HO.out.2.cell (i := 3) rfl
      have c4 := HO.out.2.cell (i := 4) rfl
      have c5 := HO.out.2.cell (i := 5) rfl
      have c6 := HO.out.2.cell (i := 6) rfl
      have k0 := hE1.cell c0
      have k1 := hE1.cell c1
      have k2 := hE1.cell c2
      have k3 := hE1.cell c3
      have k4 := hE1.cell c4
      have k5 := hE1.cell c5
      have k6 := hE1.cell c6
      clear c0 c1 c2 c3 c4 c5 c6
      obtain ⟨A18, c18, rfl, _, hR18⟩ := HO.out.1.form
      have HR18 := Lib.hid (hR18.ext hE1)
      have hlvl := lvTo_len x g k
      have hsame := fun A9 a b w (h1 : SlR w A9 (lvTo x g k).length 1 (intv (lvTo x g k))) h2 => same_any (lvTo x g k) (lvTo x g k) A9 A18 a b w (by omega) (by omega) h1 h2
      rw [B_yes rfl] at hsame
      have HSame := Lib.hid hsame
      have HLive := Lib.hid (show ∀ W : World, ∀ V : World, Ext w V → V = W.alloc (.cells #[.int .i64 3, .int .i64 1, .int .i64 c, .int .i64 gV, .int .i64 pV, .int .u64 al, .int .u64 mk, .int .i64 3, .int .i64 1, .int .i64 c, .int .i64 gV, .int .i64 pV, .int .u64 al, .int .u64 mk] 25) → Calls Tryd.prog 11 #[.slice (some ⟨W.heap.size, 0, none⟩) 2 2, .int .i64 g] V (CompOut V (lvTo x g k)) from fun W V hV e => by
        refine live_two_any x _ g k V HSp.out ?_ (HT.out.1.ext hV) (HT.out.2.ext hV) HE.out.2.2
        rw [e]
        have := two_spans W 25 x
        rw [HX.out] at this ⊢
        exact this)
      clear hR18 hsame
      go_wp2_with fail
      have HKS := Lib.hid (show ∀ w' : World, Ext w1 w' → Ext w1 w' ∧ w'.cell? ⟨w.heap.size, 0, none⟩ = some (.int .i64 3) ∧ w'.cell? ⟨w.heap.size, 1, none⟩ = some (.int .i64 1) ∧ w'.cell? ⟨w.heap.size, 2, none⟩ = some (.int .i64 c) ∧ w'.cell? ⟨w.heap.size, 3, none⟩ = some (.int .i64 gV) ∧ w'.cell? ⟨w.heap.size, 4, none⟩ = some (.int .i64 pV) ∧ w'.cell? ⟨w.heap.size, 5, none⟩ = some (.int .u64 al) ∧ w'.cell? ⟨w.heap.size, 6, none⟩ = some (.int .u64 mk) from fun V hV => ⟨hV, hV.cell k0, hV.cell k1, hV.cell k2, hV.cell k3, hV.cell k4, hV.cell k5, hV.cell k6⟩)
      go_region_held3 (fun w' => Ext w1 w' ∧ w'.cell? ⟨w.heap.size, 0, none⟩ = some (.int .i64 3) ∧ w'.cell? ⟨w.heap.size, 1, none⟩ = some (.int .i64 1) ∧ w'.cell? ⟨w.heap.size, 2, none⟩ = some (.int .i64 c) ∧ w'.cell? ⟨w.heap.size, 3, none⟩ = some (.int .i64 gV) ∧ w'.cell? ⟨w.heap.size, 4, none⟩ = some (.int .i64 pV) ∧ w'.cell? ⟨w.heap.size, 5, none⟩ = some (.int .u64 al) ∧ w'.cell? ⟨w.heap.size, 6, none⟩ = some (.int .u64 mk)) (first | exact HKS.out _ ((Ext.refl w1).drew) | exact HKS.out _ hA' | exact HKS.out _ hB' | exact HKS.out _ hC' | exact HKS.out _ (hC'.alloc _) | exact HKS.out _ hD' | exact HKS.out _ hF' | exact HKS.out _ hG') ((first
        | (go_at_call 5; refine (slots1_any _ _).mono ?_; rintro e wa ⟨rfl, hEa⟩; rw [HN.out]; have hA' := ((Ext.refl w1).drew).trans hEa)
        | (go_at_call 9; have hgB := hB'; refine (HSlot.out (-1) _ (HT.out.1.ext (hEw.trans hB'))).mono ?_; rintro e wc ⟨rfl, hEc⟩; rw [HE.out.2.1]; have hC' := hB'.trans hEc)
        | (go_at_call 9; refine (HSlot.out (k : Int) _ (HT.out.1.ext (hEw.trans hA'))).mono ?_; rintro e wb ⟨rfl, hEb⟩; rw [HE.out.1]; have hB' := hA'.trans hEb)
        | (go_at_call 11; refine (HLive.out wc _ ((hEw.trans hC').alloc _) rfl).mono ?_; rintro e wd ⟨⟨A9, c9, rfl, hR9⟩, hEd⟩; have hD' := (hC'.alloc _).trans hEd)
        | (go_at_call 10; refine (HSame.out _ _ _ _ hR9 (HR18.out.ext hD')).mono ?_; rintro e we ⟨rfl, hEe⟩; have hF' := hD'.trans hEe)
        | (go_at_call 12; refine (awake30_any _).mono ?_; rintro e wf ⟨rfl, hEf⟩; have hG' := hF'.trans hEf)))
      all_goals go_wp2_with fail
      all_goals go_ret
      all_goals exact ⟨rfl, hEw.trans hG'⟩
end Go.Proofs.YtpohnehcnonjhaaDoor
