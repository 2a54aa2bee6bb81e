/- Walks: Live. -/
import Derived.Test.YtoolenhnhlfhmaaGreatDoorDkR
namespace Go.Proofs.YtoolenhnhlfhmaaGreatDoor
open Go.RowKit Go.Sort
set_option linter.unusedVariables false
set_option linter.unusedSimpArgs false

/-- The slots of a span that live. -/
def livesW (h : HoldD) : Nat := if h.swept then h.alloc else h.marks
noncomputable def livS (h : HoldD) : List Int := (places (livesW h)).map fun (i : Nat) => begC h.page h.cls i
noncomputable def liveTo (l : List HoldD) : Nat → List Int
  | 0 => []
  | k + 1 => liveTo l k ++ livS (ix noHold l k)
theorem livS_len (h : HoldD) : (livS h).length ≤ 64 := by unfold livS; rw [List.length_map]; exact places_len _
theorem liveTo_len (l : List HoldD) : ∀ k, (liveTo l k).length ≤ 64 * k
  | 0 => Nat.le_refl _
  | k + 1 => by
    have := liveTo_len l k
    have := livS_len (ix noHold l k)
    unfold liveTo
    rw [List.length_append]
    omega
theorem livS_take {h : HoldD} {j p : Nat} (hj : j < (places (livesW h)).length) (e : ix 0 (places (livesW h)) j = p) : (livS h).take (j + 1) = (livS h).take j ++ [begC h.page h.cls p] := by
  unfold livS
  rw [List.take_succ_eq_append_getElem (by rw [List.length_map]; exact hj), List.getElem_map, ← e, ix_lt hj]
theorem own_pastS {w : World} {b1 b2 n1 n2 s1 s2 : Nat} {e1 e2 : TypeId} {v1 v2 : Value} {F1 F2 : Nat → Value} {W : World} (h1 : OwnS w b1 e1 s1 v1 n1 F1) (h2 : OwnS W b2 e2 s2 v2 n2 F2) (hb : w.heap.size ≤ b2) : v2.ownBlock = none ∨ v2.ownBlock ≠ v1.ownBlock := by
  cases e : v2.ownBlock with
  | none => exact .inl rfl
  | some k =>
    refine .inr fun e' => ?_
    have l2 := World.ownsRow.lt h2 k e
    have l1 := World.ownsRow.lt h1 k e'.symm
    omega
def LiveP (l : List Int) (w : World) (e : Ending) (w' : World) : Prop := (∃ A c, e = .returned (.slice A l.length c) ∧ SlR w' A l.length 1 (intsV l)) ∧ Ext w w'
noncomputable def liveL (m : ModelD) : List Int := if B (MayS HoldOk m) then liveTo m.spans m.spans.length else []
set_option maxRecDepth 100000 in
set_option maxHeartbeats 4000000 in
theorem liveM_any (m : ModelD) (F H S G : Option Addr) (fc hc sc gc : Nat) (w : World) (hlen : LenM m) (hmk : MarksOk m) (hm : ModelR w m F H S G) (hT : Tab w) (hB : TabB w) :
    Calls Tryz.prog 21 #[modelV m F H S G fc hc sc gc] w (LiveP (liveL m) w) := by
  obtain ⟨W0, hW0⟩ : ∃ W0, W0 = w.alloc (.cells #[.int .i64 m.pages, .slice F m.free.length fc, .slice H m.hands.length hc, .slice S m.spans.length sc, .slice G m.gone.length gc] 30) := ⟨_, rfl⟩
  have e0 : Ext w W0 := hW0 ▸ (Ext.refl w).alloc _
  have ba : Blk W0 w.heap.size 30 #[.int .i64 m.pages, .slice F m.free.length fc, .slice H m.hands.length hc, .slice S m.spans.length sc, .slice G m.gone.length gc] := hW0 ▸ Blk.new _ _ _ _ rfl
  have HMay : Hid (Calls Tryz.prog 14 #[modelV m F H S G fc hc sc gc] W0 fun e w' => e = .returned (.bool (B (MayS HoldOk m))) ∧ Ext W0 w') := Lib.hid (mayM_any m F H S G fc hc sc gc W0 ⟨hlen.free, hlen.hands, hlen.spans⟩ hlen.gone (hm.ext e0) (hT.ext e0))
  have HE := Lib.hid hW0
  have HW : Hid (Ext w W0 ∧ Blk W0 w.heap.size 30 #[.int .i64 m.pages, .slice F m.free.length fc, .slice H m.hands.length hc, .slice S m.spans.length sc, .slice G m.gone.length gc] ∧ SlR W0 S m.spans.length 8 (holdsV m.spans)) := Lib.hid ⟨e0, ba, SlR.ext hm.spans e0⟩
  have HT : Hid (Tab w ∧ TabB w ∧ MarksOk m) := Lib.hid ⟨hT, hB, hmk⟩
  have x0 := ba.cell (i := 0) (v := .int .i64 m.pages) rfl
  have x1 := ba.cell (i := 1) (v := .slice F m.free.length fc) rfl
  have x2 := ba.cell (i := 2) (v := .slice H m.hands.length hc) rfl
  have x3 := ba.cell (i := 3) (v := .slice S m.spans.length sc) rfl
  have x4 := ba.cell (i := 4) (v := .slice G m.gone.length gc) rfl
  obtain ⟨i0, hi, hz0, hz1, hz2⟩ := info_parts Tryz.infoMInt
  have HI := Lib.hid (And.intro hi (And.intro hz0 (And.intro hz1 hz2)))
  clear hi hz0 hz1 hz2
  clear hW0 e0 ba hlen hm hmk hT hB
  unfold modelV at HMay ⊢
  by_cases hmay : MayS HoldOk m
  rotate_left
  · have hL : liveL m = [] := by unfold liveL; rw [B_no hmay]; rfl
    rw [B_no hmay] at HMay
    have HL := Lib.hid hL
    clear hmay hL
    go_enter Tryz.func21, Tryz.ntmps21
    go_upto_region 1 with fail
    rw [← HE.out]
    go_wp2_with (go_at_call 14; (with_reducible refine HMay.out.mono ?_); rintro e w1 ⟨rfl, hE1⟩; have HE1 := Lib.hid hE1; clear hE1)
    go_ret
    rw [HL.out]
    exact ⟨⟨none, 0, rfl, SlR.nil⟩, HW.out.1.trans HE1.out⟩
  · have hL : liveL m = liveTo m.spans m.spans.length := by unfold liveL; rw [B_yes hmay]; rfl
    rw [B_yes hmay, ] at HMay
    have hsl : m.spans.length ≤ 4096 := by have := hmay.len.1; have := hmay.pages.2; omega
    have HL := Lib.hid hL
    have HN := Lib.hid hmay
    clear hmay hL
    go_enter Tryz.func21, Tryz.ntmps21
    go_upto_region 1 with fail
    rw [← HE.out]
    go_upto_region 3 with (go_at_call 14; (with_reducible refine HMay.out.mono ?_); rintro e w1 ⟨rfl, hE1⟩; have y3 := hE1.cell x3; have HE1 := Lib.hid hE1; clear hE1)
    clear x0 x1 x2 x3 x4
    go_wp2
    go_loopg [2, 16] m.spans.length (fun q v i wr => ∃ k : Nat, k ≤ m.spans.length ∧ q = m.spans.length - k ∧ i = .int .i64 (k : Int) ∧ Ext W0 wr ∧ OwnS wr W0.heap.size 3 1 v (liveTo m.spans k).length (intsV (liveTo m.spans k)))
    case atStart => exact ⟨0, Nat.zero_le _, rfl, rfl, HE1.out, OwnS.nil _ _ _ _ _⟩
    case round =>
      obtain ⟨k, hk, rfl, rfl, hE, hO⟩ := hrel
      by_cases hlt : k < m.spans.length
      · obtain ⟨b, off, rfl, hc⟩ := HW.out.2.2 (by omega)
        obtain ⟨x, hx⟩ : ∃ x, ix noHold m.spans k = x := ⟨_, rfl⟩
        have hr : ∀ j, j < 8 → wr.cell? ⟨b, off + (k * 8 + j), none⟩ = some (holdC x j) := fun j hj => by
          have := hE.cell (hc (k * 8 + j) (by omega))
          rw [holdsV_at _ _ _ hj, hx] at this
          exact this
        have a0 : wr.cell? ⟨b, off + k * 8, none⟩ = some (.int .i64 x.page) := hr 0 (by omega)
        have a1 : wr.cell? ⟨b, off + k * 8 + 1, none⟩ = some (.int .i64 x.pages) := hr 1 (by omega)
        have a2 : wr.cell? ⟨b, off + k * 8 + 2, none⟩ = some (.int .i64 x.cls) := hr 2 (by omega)
        have a3 : wr.cell? ⟨b, off + k * 8 + 3, none⟩ = some (.int .i64 x.holder) := hr 3 (by omega)
        have a4 : wr.cell? ⟨b, off + k * 8 + 4, none⟩ = some (.int .i64 x.claim) := hr 4 (by omega)
        have a5 : wr.cell? ⟨b, off + k * 8 + 5, none⟩ = some (.bool x.swept) := hr 5 (by omega)
        have a6 : wr.cell? ⟨b, off + k * 8 + 6, none⟩ = some (.int .u64 (x.alloc : Int)) := hr 6 (by omega)
        have a7 : wr.cell? ⟨b, off + k * 8 + 7, none⟩ = some (.int .u64 (x.marks : Int)) := hr 7 (by omega)
        have hbd : livesW x < 18446744073709551616 := by
          unfold livesW
          split
          · exact hx ▸ alloc_lt (HN.out.span k hlt).1
          · exact hx ▸ HT.out.2.2 _ (ixMem hlt)
        have HB := Lib.hid hbd
        have HLk := Lib.hid (show liveTo m.spans (k + 1) = liveTo m.spans k ++ livS x by rw [← hx]; rfl)
        have HC := Lib.hid (liveTo_len m.spans k)
        generalize liveTo m.spans k = acc at HLk HC hO
        have HO := Lib.hid hO
        have HKE := Lib.hid hE
        have q0 : (0 : Int) ≤ (k : Int) := by omega
        have q1 : (k : Int) < (m.spans.length : Int) := by omega
        have hplc : ∀ W, Ext wr W → Calls Tryz.prog 45 #[.int .u64 (livesW x : Int)] W (PlacesOut (livesW x) W) := fun W hW => places_any (livesW x) W HB.out (HT.out.2.1.ext ((HW.out.1.trans HKE.out).trans hW))
        have hsw : (x.swept = true ∧ livesW x = x.alloc) ∨ (x.swept = false ∧ livesW x = x.marks) := by
          unfold livesW
          cases x.swept <;> simp
        clear hO hE hbd hx hr hc
        have hEb : Ext wr (wr.alloc (.cells #[.int .i64 x.page, .int .i64 x.pages, .int .i64 x.cls, .int .i64 x.holder, .int .i64 x.claim, .bool x.swept, .int .u64 (x.alloc : Int), .int .u64 (x.marks : Int)] 51)) := (Ext.refl wr).alloc _
        have hbb : Blk (wr.alloc (.cells #[.int .i64 x.page, .int .i64 x.pages, .int .i64 x.cls, .int .i64 x.holder, .int .i64 x.claim, .bool x.swept, .int .u64 (x.alloc : Int), .int .u64 (x.marks : Int)] 51)) wr.heap.size 51 #[.int .i64 x.page, .int .i64 x.pages, .int .i64 x.cls, .int .i64 x.holder, .int .i64 x.claim, .bool x.swept, .int .u64 (x.alloc : Int), .int .u64 (x.marks : Int)] := Blk.new _ _ _ _ rfl
        have HEb := Lib.hid (And.intro hEb hbb)
        clear hEb hbb
        rcases hsw with ⟨e5, hv⟩ | ⟨e5, hv⟩
        · have HPc : Hid (∀ W, Ext wr W → Calls Tryz.prog 45 #[.int .u64 (x.alloc : Int)] W (PlacesOut (livesW x) W)) := Lib.hid (by rw [← hv]; exact hplc)
          rw [e5] at a5 HEb
          clear hplc hv
          go_wp2_with fail
          go_at_call 45
          refine (HPc.out _ HEb.out.1).mono ?_
          rintro e w1 ⟨⟨PA, pc, rfl, hP⟩, hE1⟩
          rw [World.size_alloc] at hP
          have hEw1 := (HKE.out.trans HEb.out.1).trans hE1
          have hBx := HEb.out.2.ext hE1
          have hO1 := (HO.out.ext HEb.out.1).ext hE1
          have hne := own_pastS HO.out hP (by omega)
          clear a0 a1 a2 a3 a4 a5 a6 a7
          have hPl := places_len (livesW x)
          have HPL := Lib.hid (And.intro hP (And.intro hE1 (And.intro hEw1 (And.intro hBx (And.intro hO1 hne)))))
          clear hE1 hP hEw1 hBx hO1 hne
          obtain ⟨N, hN⟩ : ∃ N, (places (livesW x)).length = N := ⟨_, rfl⟩
          have HNN := Lib.hid hN
          have HLN := Lib.hid (show (livS x).length = N by unfold livS; rw [List.length_map]; exact hN)
          rw [hN] at HPL hPl ⊢
          clear hN
          go_wp2_with fail
          go_loopg [2, 30] N (fun q v i wy => ∃ j : Nat, j ≤ N ∧ q = N - j ∧ i = .int .i64 (j : Int) ∧ Ext W0 wy ∧ wr.heap.size < wy.heap.size ∧ Blk wy wr.heap.size 51 #[.int .i64 x.page, .int .i64 x.pages, .int .i64 x.cls, .int .i64 x.holder, .int .i64 x.claim, .bool true, .int .u64 (x.alloc : Int), .int .u64 (x.marks : Int)] ∧ OwnS wy (wr.heap.size + 1) 3 1 (.slice PA N pc) N (natv (places (livesW x))) ∧ OwnS wy W0.heap.size 3 1 v (acc ++ (livS x).take j).length (intsV (acc ++ (livS x).take j)) ∧ ((Value.slice PA N pc).ownBlock = none ∨ (Value.slice PA N pc).ownBlock ≠ v.ownBlock))
          case atStart => exact ⟨0, Nat.zero_le _, rfl, rfl, HPL.out.2.2.1, HPL.out.2.2.2.1.lt, HPL.out.2.2.2.1, HPL.out.1, by rw [List.take_zero, List.append_nil]; exact HPL.out.2.2.2.2.1, HPL.out.2.2.2.2.2⟩
          case round =>
            obtain ⟨j, hj, rfl, rfl, hE, hsz, hBx, hP, hO, hne⟩ := hrel
            have HZ := Lib.hid (And.intro hBx (And.intro hP (And.intro hO hne)))
            by_cases hlt2 : j < N
            · have c0 := hBx.cell (i := 0) (v := .int .i64 x.page) rfl
              have c2 := hBx.cell (i := 2) (v := .int .i64 x.cls) rfl
              clear hO hP hne hBx
              obtain ⟨gp, cp, hgp⟩ := HZ.out.2.1.form' (by omega)
              obtain rfl : PA = some ⟨gp, 0, none⟩ := by injection hgp
              clear hgp
              have cp0 := HZ.out.2.1.cellAt (j := j) (by omega)
              unfold natv at cp0
              generalize hpp : ix 0 (places (livesW x)) j = p at cp0
              have HPP := Lib.hid (livS_take (by rw [HNN.out]; exact hlt2) hpp)
              have hlenT : ((livS x).take j).length ≤ 64 := Nat.le_trans (by rw [List.length_take]; exact Nat.min_le_right _ _) (livS_len x)
              clear hpp
              have q2 : (0 : Int) ≤ (j : Int) := by omega
              have q3 : (j : Int) < (N : Int) := by omega
              have HTT := Lib.hid (HT.out.1.ext (HW.out.1.trans hE))
              have HEy := Lib.hid hE
              clear hE
              have hHC := HC.out
              go_wp2_with fail
              go_at_call 46
              refine (begin_s_any _ _ _ _ HTT.out).mono ?_
              rintro e w2 ⟨rfl, hE2⟩
              have HE2 := Lib.hid hE2
              generalize hL : acc ++ (livS x).take j = L at HZ
              have HLL := Lib.hid hL
              have hLl : L.length ≤ 64 * k + 64 := by rw [← hL, List.length_append]; omega
              have hsz2 := (HW.out.1.trans (HEy.out.trans hE2)).size
              have hsz3 := (HEy.out.trans hE2).size
              clear hE2 hL
              go_wp2_with (at_builtin; go_loud (refine wpList_push rfl _ _ 28 rfl W0.heap.size 3 i0 (.int .i64 0) 1 8 Tryz.underlying28 HI.out.1 HI.out.2.1 HI.out.2.2.1 HI.out.2.2.2 rfl (by decide) _ L.length (intsV L) rfl ((HZ.out.2.2.1.ext HE2.out).ext ((Ext.refl _).alloc _)) ⟨w2.heap.size, 0, none⟩ 1 (fun _ => .int .i64 (begC x.page x.cls p)) rfl (fun j hj => by obtain rfl : j = 0 := (by omega); exact cell_new _ _ _ 0 _ rfl) (fun _ _ => rfl) ?b63 ?bby ?bba _ rfl (intsV (L ++ [begC x.page x.cls p])) (fun j hj => intsV_old hj) (fun j hj => intsV_new hj) ?_); (case b63 => unfold maxLen; omega); (case bby => omega); (case bba => simp; omega); intro gq capq w4 hO4 hgrow hExt hor hg4)
              go_roundg (N - (j + 1))
              case measure => go_light; omega
              have hB3 := (HZ.out.1.ext HE2.out).alloc (.cells #[.int .i64 (begC x.page x.cls p)] 3)
              have hP3 := (HZ.out.2.1.ext HE2.out).ext ((Ext.refl w2).alloc (.cells #[.int .i64 (begC x.page x.cls p)] 3))
              have hV3 := (HZ.out.2.2.1.ext HE2.out).ext ((Ext.refl w2).alloc (.cells #[.int .i64 (begC x.page x.cls p)] 3))
              have hlt4 := World.ownsRow.lt (HZ.out.2.1.ext HE2.out) gp rfl
              have hb4 := hB3.grown hgrow (Ne.symm (own_ne_blk hV3 hB3 (by decide)))
              refine ⟨j + 1, by omega, rfl, by simp, hExt W0 ((HEy.out.trans HE2.out).alloc _) (Nat.le_refl _), hb4.lt, hb4, hP3.grown hgrow HZ.out.2.2.2, ?_, .inr ?_⟩
              · rw [HPP.out, ← List.append_assoc, HLL.out, List.length_append]
                exact hO4
              · intro e'
                simp only [Value.ownBlock, Option.some.injEq] at e'
                rcases hor with h | h
                · rcases HZ.out.2.2.2 with h' | h'
                  · cases h'
                  · exact h' ((congrArg some e').trans h.symm)
                · simp only [World.size_alloc] at h
                  omega
            · obtain rfl : j = N := by omega
              have HX := Lib.hid (And.intro hE hO)
              clear hE hO hP hne hBx
              go_wp2_with fail
              go_roundg (m.spans.length - (k + 1))
              case measure => go_light; omega
              refine ⟨k + 1, by omega, rfl, by simp, HX.out.1, ?_⟩
              have := HX.out.2
              rw [← HLN.out, List.take_length] at this
              rw [HLk.out]
              exact this
        · have HPc : Hid (∀ W, Ext wr W → Calls Tryz.prog 45 #[.int .u64 (x.marks : Int)] W (PlacesOut (livesW x) W)) := Lib.hid (by rw [← hv]; exact hplc)
          rw [e5] at a5 HEb
          clear hplc hv
          go_wp2_with fail
          go_at_call 45
          refine (HPc.out _ HEb.out.1).mono ?_
          rintro e w1 ⟨⟨PA, pc, rfl, hP⟩, hE1⟩
          rw [World.size_alloc] at hP
          have hEw1 := (HKE.out.trans HEb.out.1).trans hE1
          have hBx := HEb.out.2.ext hE1
          have hO1 := (HO.out.ext HEb.out.1).ext hE1
          have hne := own_pastS HO.out hP (by omega)
          clear a0 a1 a2 a3 a4 a5 a6 a7
          have hPl := places_len (livesW x)
          have HPL := Lib.hid (And.intro hP (And.intro hE1 (And.intro hEw1 (And.intro hBx (And.intro hO1 hne)))))
          clear hE1 hP hEw1 hBx hO1 hne
          obtain ⟨N, hN⟩ : ∃ N, (places (livesW x)).length = N := ⟨_, rfl⟩
          have HNN := Lib.hid hN
          have HLN := Lib.hid (show (livS x).length = N by unfold livS; rw [List.length_map]; exact hN)
          rw [hN] at HPL hPl ⊢
          clear hN
          go_wp2_with fail
          go_loopg [2, 30] N (fun q v i wy => ∃ j : Nat, j ≤ N ∧ q = N - j ∧ i = .int .i64 (j : Int) ∧ Ext W0 wy ∧ wr.heap.size < wy.heap.size ∧ Blk wy wr.heap.size 51 #[.int .i64 x.page, .int .i64 x.pages, .int .i64 x.cls, .int .i64 x.holder, .int .i64 x.claim, .bool false, .int .u64 (x.alloc : Int), .int .u64 (x.marks : Int)] ∧ OwnS wy (wr.heap.size + 1) 3 1 (.slice PA N pc) N (natv (places (livesW x))) ∧ OwnS wy W0.heap.size 3 1 v (acc ++ (livS x).take j).length (intsV (acc ++ (livS x).take j)) ∧ ((Value.slice PA N pc).ownBlock = none ∨ (Value.slice PA N pc).ownBlock ≠ v.ownBlock))
          case atStart => exact ⟨0, Nat.zero_le _, rfl, rfl, HPL.out.2.2.1, HPL.out.2.2.2.1.lt, HPL.out.2.2.2.1, HPL.out.1, by rw [List.take_zero, List.append_nil]; exact HPL.out.2.2.2.2.1, HPL.out.2.2.2.2.2⟩
          case round =>
            obtain ⟨j, hj, rfl, rfl, hE, hsz, hBx, hP, hO, hne⟩ := hrel
            have HZ := Lib.hid (And.intro hBx (And.intro hP (And.intro hO hne)))
            by_cases hlt2 : j < N
            · have c0 := hBx.cell (i := 0) (v := .int .i64 x.page) rfl
              have c2 := hBx.cell (i := 2) (v := .int .i64 x.cls) rfl
              clear hO hP hne hBx
              obtain ⟨gp, cp, hgp⟩ := HZ.out.2.1.form' (by omega)
              obtain rfl : PA = some ⟨gp, 0, none⟩ := by injection hgp
              clear hgp
              have cp0 := HZ.out.2.1.cellAt (j := j) (by omega)
              unfold natv at cp0
              generalize hpp : ix 0 (places (livesW x)) j = p at cp0
              have HPP := Lib.hid (livS_take (by rw [HNN.out]; exact hlt2) hpp)
              have hlenT : ((livS x).take j).length ≤ 64 := Nat.le_trans (by rw [List.length_take]; exact Nat.min_le_right _ _) (livS_len x)
              clear hpp
              have q2 : (0 : Int) ≤ (j : Int) := by omega
              have q3 : (j : Int) < (N : Int) := by omega
              have HTT := Lib.hid (HT.out.1.ext (HW.out.1.trans hE))
              have HEy := Lib.hid hE
              clear hE
              have hHC := HC.out
              go_wp2_with fail
              go_at_call 46
              refine (begin_s_any _ _ _ _ HTT.out).mono ?_
              rintro e w2 ⟨rfl, hE2⟩
              have HE2 := Lib.hid hE2
              generalize hL : acc ++ (livS x).take j = L at HZ
              have HLL := Lib.hid hL
              have hLl : L.length ≤ 64 * k + 64 := by rw [← hL, List.length_append]; omega
              have hsz2 := (HW.out.1.trans (HEy.out.trans hE2)).size
              have hsz3 := (HEy.out.trans hE2).size
              clear hE2 hL
              go_wp2_with (at_builtin; go_loud (refine wpList_push rfl _ _ 28 rfl W0.heap.size 3 i0 (.int .i64 0) 1 8 Tryz.underlying28 HI.out.1 HI.out.2.1 HI.out.2.2.1 HI.out.2.2.2 rfl (by decide) _ L.length (intsV L) rfl ((HZ.out.2.2.1.ext HE2.out).ext ((Ext.refl _).alloc _)) ⟨w2.heap.size, 0, none⟩ 1 (fun _ => .int .i64 (begC x.page x.cls p)) rfl (fun j hj => by obtain rfl : j = 0 := (by omega); exact cell_new _ _ _ 0 _ rfl) (fun _ _ => rfl) ?b63 ?bby ?bba _ rfl (intsV (L ++ [begC x.page x.cls p])) (fun j hj => intsV_old hj) (fun j hj => intsV_new hj) ?_); (case b63 => unfold maxLen; omega); (case bby => omega); (case bba => simp; omega); intro gq capq w4 hO4 hgrow hExt hor hg4)
              go_roundg (N - (j + 1))
              case measure => go_light; omega
              have hB3 := (HZ.out.1.ext HE2.out).alloc (.cells #[.int .i64 (begC x.page x.cls p)] 3)
              have hP3 := (HZ.out.2.1.ext HE2.out).ext ((Ext.refl w2).alloc (.cells #[.int .i64 (begC x.page x.cls p)] 3))
              have hV3 := (HZ.out.2.2.1.ext HE2.out).ext ((Ext.refl w2).alloc (.cells #[.int .i64 (begC x.page x.cls p)] 3))
              have hlt4 := World.ownsRow.lt (HZ.out.2.1.ext HE2.out) gp rfl
              have hb4 := hB3.grown hgrow (Ne.symm (own_ne_blk hV3 hB3 (by decide)))
              refine ⟨j + 1, by omega, rfl, by simp, hExt W0 ((HEy.out.trans HE2.out).alloc _) (Nat.le_refl _), hb4.lt, hb4, hP3.grown hgrow HZ.out.2.2.2, ?_, .inr ?_⟩
              · rw [HPP.out, ← List.append_assoc, HLL.out, List.length_append]
                exact hO4
              · intro e'
                simp only [Value.ownBlock, Option.some.injEq] at e'
                rcases hor with h | h
                · rcases HZ.out.2.2.2 with h' | h'
                  · cases h'
                  · exact h' ((congrArg some e').trans h.symm)
                · simp only [World.size_alloc] at h
                  omega
            · obtain rfl : j = N := by omega
              have HX := Lib.hid (And.intro hE hO)
              clear hE hO hP hne hBx
              go_wp2_with fail
              go_roundg (m.spans.length - (k + 1))
              case measure => go_light; omega
              refine ⟨k + 1, by omega, rfl, by simp, HX.out.1, ?_⟩
              have := HX.out.2
              rw [← HLN.out, List.take_length] at this
              rw [HLk.out]
              exact this
      · obtain rfl : k = m.spans.length := by omega
        have HX := Lib.hid (And.intro hE hO)
        obtain ⟨A, c, rfl, _⟩ := hO.ofSlice
        clear hE hO
        go_wp2_with fail
        go_ret
        rw [HL.out]
        exact ⟨⟨A, c, rfl, own_sl' HX.out.2⟩, HW.out.1.trans HX.out.1⟩
end Go.Proofs.YtoolenhnhlfhmaaGreatDoor
