/- Walks: audit.may, audit.Who. -/
import Derived.Test.YtpohnehcnonjhaaDoorPieces2
namespace Go.Proofs.YtpohnehcnonjhaaDoor
open Go.RowKit
set_option linter.unusedVariables false
set_option linter.unusedSimpArgs false
attribute [local go_sem] Oper.semAt_some

set_option maxHeartbeats 400000 in
theorem mayPc_any (x : Pc) (w : World) : Calls Tryd.prog 36 #[.agg #[.int .i64 x.a, .int .i64 x.n]] w fun e w' =>
    e = .returned (.bool (B (MayPc x))) ∧ w' = w.alloc (.cells #[.int .i64 x.a, .int .i64 x.n] 47) := by
  go_enter Tryd.func36, Tryd.ntmps36
  go_wp2
  all_goals go_ret
  all_goals exact ⟨ret_B (by unfold MayPc; (try simp) <;> omega), rfl⟩

theorem who_res : Tryd.f23.results = #[.cell 8 3, .cell 9 3] := by kernel_rfl

set_option maxRecDepth 100000 in
set_option maxHeartbeats 4000000 in
theorem who_any (fr : List RunD) (sp : List SpanD) (hd : List HandD) (fA sA hA : Option Addr) (fc sc hc : Nat) (p : Int) (w : World) (hfl : fr.length ≤ maxLen) (hsl : sp.length ≤ maxLen) (hhl : hd.length ≤ maxLen) (hs : (pcs fr sp hd).length ≤ 9223372036854775807)
    (hF : RunsR w fA fr) (hS : SpansR w sA sp) (hH : HandsR w hA hd) :
    Calls Tryd.prog 23 #[.slice fA fr.length fc, .slice sA sp.length sc, .slice hA hd.length hc, .int .i64 p] w fun e w' =>
      e = .returned (.tuple #[.int .i64 (whoK (pcs fr sp hd) p), .int .i64 (whoN (pcs fr sp hd) p)]) ∧ Ext w w' := by
  refine (callsIn_wide (n := 8)).1 ?_
  refine callsIn_of_wp_marks Tryd.func23 rfl trivial ?_ rfl
  simp only [Tryd.ntmps23, List.size_toArray, List.length_cons, List.length_nil, Nat.reduceAdd, Nat.reduceSub, Array.replicate_succ, Array.replicate_zero, List.push_toArray, List.append_toArray, List.nil_append, List.cons_append]
  have HS := Lib.hid (And.intro (SlB.of hF (by omega)) (And.intro (SlB.of hS (by omega)) (SlB.of hH (by omega))))
  clear hF hS hH
  obtain ⟨B0, hB0⟩ : ∃ B0, w.heap.size = B0 := ⟨_, rfl⟩
  rw [hB0] at HS
  gi_wp2_with (refine ⟨trivial, ?_⟩; gi_at_call 35; refine (pieces_in _ _ _ _ _ _ _ _ _ _ _).mono ?_; rintro e w' ⟨rfl, rfl⟩)
  have b0 := ((((Boxed.new w 3 (.int .i64 p)).alloc (.cells #[.int .i64 0] 3)).alloc (.cells #[.int .i64 0] 3)).alloc (.cells #[.slice fA fr.length fc] 48)).alloc (.cells #[.slice sA sp.length sc] 36) |>.alloc (.cells #[.slice hA hd.length hc] 66)
  have b1 := (((Boxed.new (w.alloc (.cells #[.int .i64 p] 3)) 3 (.int .i64 0)).alloc (.cells #[.int .i64 0] 3)).alloc (.cells #[.slice fA fr.length fc] 48)).alloc (.cells #[.slice sA sp.length sc] 36) |>.alloc (.cells #[.slice hA hd.length hc] 66)
  have b2 := ((Boxed.new ((w.alloc (.cells #[.int .i64 p] 3)).alloc (.cells #[.int .i64 0] 3)) 3 (.int .i64 0)).alloc (.cells #[.slice fA fr.length fc] 48)).alloc (.cells #[.slice sA sp.length sc] 36) |>.alloc (.cells #[.slice hA hd.length hc] 66)
  have b3 := (Boxed.new (((w.alloc (.cells #[.int .i64 p] 3)).alloc (.cells #[.int .i64 0] 3)).alloc (.cells #[.int .i64 0] 3)) 48 (.slice fA fr.length fc)).alloc (.cells #[.slice sA sp.length sc] 36) |>.alloc (.cells #[.slice hA hd.length hc] 66)
  have b4 := (Boxed.new ((((w.alloc (.cells #[.int .i64 p] 3)).alloc (.cells #[.int .i64 0] 3)).alloc (.cells #[.int .i64 0] 3)).alloc (.cells #[.slice fA fr.length fc] 48)) 36 (.slice sA sp.length sc)).alloc (.cells #[.slice hA hd.length hc] 66)
  have b5 := Boxed.new (((((w.alloc (.cells #[.int .i64 p] 3)).alloc (.cells #[.int .i64 0] 3)).alloc (.cells #[.int .i64 0] 3)).alloc (.cells #[.slice fA fr.length fc] 48)).alloc (.cells #[.slice sA sp.length sc] 36)) 66 (.slice hA hd.length hc)
  have hE : Ext w ((((((w.alloc (.cells #[.int .i64 p] 3)).alloc (.cells #[.int .i64 0] 3)).alloc (.cells #[.int .i64 0] 3)).alloc (.cells #[.slice fA fr.length fc] 48)).alloc (.cells #[.slice sA sp.length sc] 36)).alloc (.cells #[.slice hA hd.length hc] 66)) := (((((((Ext.refl w).alloc _).alloc _).alloc _).alloc _).alloc _).alloc _)
  have hsz : ((((((w.alloc (.cells #[.int .i64 p] 3)).alloc (.cells #[.int .i64 0] 3)).alloc (.cells #[.int .i64 0] 3)).alloc (.cells #[.slice fA fr.length fc] 48)).alloc (.cells #[.slice sA sp.length sc] 36)).alloc (.cells #[.slice hA hd.length hc] 66)).heap.size = B0 + 6 := by simp; omega
  simp only [World.size_alloc, hB0] at b0 b1 b2 b3 b4 b5
  obtain ⟨W0, hW0⟩ : ∃ W0, ((((((w.alloc (.cells #[.int .i64 p] 3)).alloc (.cells #[.int .i64 0] 3)).alloc (.cells #[.int .i64 0] 3)).alloc (.cells #[.slice fA fr.length fc] 48)).alloc (.cells #[.slice sA sp.length sc] 36)).alloc (.cells #[.slice hA hd.length hc] 66)) = W0 := ⟨_, rfl⟩
  rw [hW0] at b0 b1 b2 b3 b4 b5 hE hsz ⊢
  clear hW0
  have hBw : Below B0 w W0 := by rw [← hB0]; exact hE

  refine wpIn_rangeFunc_ownH rfl (by omega) (gf := 53) (lb := #[.pointer (some ⟨B0 + 1 + 1 + 1, 0, none⟩), .pointer (some ⟨B0 + 1 + 1 + 1 + 1, 0, none⟩), .pointer (some ⟨B0 + 1 + 1 + 1 + 2, 0, none⟩)]) rfl trivial (enters_of Tryd.func53 (by kernel_rfl) rfl)
    (pieces_stops 7 (by omega) B0 (B0 + 1 + 1 + 1) fr sp hd fA sA hA fc sc hc hfl hsl hhl W0 (by omega) (by omega) b3 b4 b5 (HS.out.1.below hBw) (HS.out.2.1.below hBw) (HS.out.2.2.below hBw)) (fun h k => h.trans k) (fun W l o o' => KpB.put (by omega) (by omega) W l o o') (Below.refl _ _) (fun _ => rfl)
    (fun pre W => ((Boxed W B0 3 (.int .i64 p) ∧ Boxed W (B0 + 1) 3 (.int .i64 (whoK pre p))) ∧ Boxed W (B0 + 1 + 1) 3 (.int .i64 (whoN pre p))) ∧ (Below B0 w W ∧ B0 + 6 ≤ W.heap.size))
    (fun _ _ _ => False)
    (OwnFrom.and (OwnFrom.and (OwnFrom.and (Own.from (boxed_own _ _ _) _) (Own.from (boxed_own _ _ _) _)) (Own.from (boxed_own _ _ _) _)) (OwnFrom.and (ownFrom_below (by omega) (by omega)) (ownFrom_size _ _)))
    (fun _ _ _ _ _ hs _ _ => hs)
    ⟨⟨⟨b0, b1⟩, b2⟩, hBw, by omega⟩
    (fun x a' W => ∃ Bx, B0 + 6 ≤ Bx ∧ Blk W Bx 47 #[.int .i64 x.a, .int .i64 x.n] ∧ a' = { tmps := #[.slice fA fr.length fc, .slice sA sp.length sc, .slice hA hd.length hc, .int .i64 p, undef, undef, undef, .pointer (some ⟨B0, 0, none⟩), .pointer (some ⟨B0 + 1, 0, none⟩), .pointer (some ⟨B0 + 1 + 1, 0, none⟩), .int .i64 x.kind, .pointer (some ⟨Bx, 0, none⟩), .slice fA fr.length fc, .slice sA sp.length sc, .slice hA hd.length hc, .func (.func 53) #[] #[.pointer (some ⟨B0 + 1 + 1 + 1, 0, none⟩), .pointer (some ⟨B0 + 1 + 1 + 1 + 1, 0, none⟩), .pointer (some ⟨B0 + 1 + 1 + 1 + 2, 0, none⟩)], .int .i64 x.kind, .agg #[.int .i64 x.a, .int .i64 x.n], undef, undef, undef, undef, undef, undef, undef, undef, undef, undef, undef, undef, undef, undef, undef, undef, undef, undef, undef, undef, undef, undef, undef, undef, undef], defers := [] })
    (fun x a' _ X Y row hs hg hr => by obtain ⟨Bx, e1, e2, e3⟩ := hs; exact ⟨Bx, e1, blk_own Bx _ (fun (_ : Unit) => #[.int .i64 x.a, .int .i64 x.n]) () X Y row e2 hg (fun r e => (hr r e).2), e3⟩)
    ?assign ?body ?done ?stop
  case assign =>
    rintro l pre x W K ⟨⟨⟨bp, bk⟩, bn⟩, hBW, hs1⟩ hK
    simp only [encPc]
    gi_wp2
    exact hK _ _ ((KeepsOthers.alloc _ _).from _) ((KpB.refl _ _ _).alloc (by omega) (by omega) _) ⟨⟨⟨bp.alloc _, bk.alloc _⟩, bn.alloc _⟩, hBW.alloc (by omega) _, by simp; omega⟩ ⟨W.heap.size, by omega, Blk.new _ _ _ _ rfl, rfl⟩
  case body =>
    rintro l pre x a' W hl ⟨r, hr⟩ ⟨⟨⟨bp, bk⟩, bn⟩, hBW, hs1⟩ ⟨Bx, hBx, bX, rfl⟩ hlt
    have hN := whoN_le pre p
    have hN2 : whoN pre p ≤ 9223372036854775806 := by omega
    have HH := Lib.hid (And.intro bp (And.intro bk (And.intro bn hBW)))
    have cp := bp.cell
    have x0 := bX.cell (i := 0) (v := .int .i64 x.a) rfl
    have x1 := bX.cell (i := 1) (v := .int .i64 x.n) rfl
    have cp' := (bp.alloc (.cells #[.int .i64 x.a, .int .i64 x.n] 47)).cell
    have cn' := (bn.alloc (.cells #[.int .i64 x.a, .int .i64 x.n] 47)).cell
    have fn' := (bn.alloc (.cells #[.int .i64 x.a, .int .i64 x.n] 47)).frozen
    have ck' := (bk.alloc (.cells #[.int .i64 x.a, .int .i64 x.n] 47)).cell
    have fk' := (bk.alloc (.cells #[.int .i64 x.a, .int .i64 x.n] 47)).frozen
    have x0' := (bX.alloc (.cells #[.int .i64 x.a, .int .i64 x.n] 47)).cell (i := 0) (v := .int .i64 x.a) rfl
    have x1' := (bX.alloc (.cells #[.int .i64 x.a, .int .i64 x.n] 47)).cell (i := 1) (v := .int .i64 x.n) rfl
    clear bp bk bn hBW bX hlt hr hN
    by_cases hm : MayPc x
    · have hB : B (MayPc x) = true := B_yes hm
      obtain ⟨m1, m2, m3, m4⟩ := hm
      by_cases hc1 : p < x.a
      · have d1 : decide (p < x.a) = true := by simpa using hc1
        have HN := Lib.hid (who_no (xs := pre) (x := x) (p := p) (fun h => by omega))
        gi_wp2_with (refine ⟨trivial, ?_⟩; gi_at_call 36; refine (CallsIn.inRound l (callsIn_wide.2 (mayPc_any x _))).mono ?_; rintro e w' ⟨rfl, rfl⟩)
        exact ⟨(KeepsOthers.alloc _ _).from _, (KpB.refl _ _ _).alloc (by omega) (by omega) _, ⟨⟨HH.out.1.alloc _, by rw [HN.out.2]; exact HH.out.2.1.alloc _⟩, by rw [HN.out.1]; exact HH.out.2.2.1.alloc _⟩, HH.out.2.2.2.alloc (by omega) _, by simp; omega⟩
      · have d1 : decide (p < x.a) = false := by simpa using hc1
        by_cases hc2 : x.a + x.n ≤ p
        · have d2 : decide (x.a + x.n ≤ p) = true := by simpa using hc2
          have HN := Lib.hid (who_no (xs := pre) (x := x) (p := p) (fun h => by omega))
          gi_wp2_with (refine ⟨trivial, ?_⟩; gi_at_call 36; refine (CallsIn.inRound l (callsIn_wide.2 (mayPc_any x _))).mono ?_; rintro e w' ⟨rfl, rfl⟩)
          exact ⟨(KeepsOthers.alloc _ _).from _, (KpB.refl _ _ _).alloc (by omega) (by omega) _, ⟨⟨HH.out.1.alloc _, by rw [HN.out.2]; exact HH.out.2.1.alloc _⟩, by rw [HN.out.1]; exact HH.out.2.2.1.alloc _⟩, HH.out.2.2.2.alloc (by omega) _, by simp; omega⟩
        · have d2 : decide (x.a + x.n ≤ p) = false := by simpa using hc2
          have HN := Lib.hid (who_yes (xs := pre) (x := x) (p := p) ⟨⟨m1, m2, m3, m4⟩, by omega, by omega⟩)
          by_cases h0 : whoN pre p = 0
          · have e0 : ((whoN pre p : Int) == 0) = true := by simpa using h0
            gi_wp2_with (refine ⟨trivial, ?_⟩; gi_at_call 36; refine (CallsIn.inRound l (callsIn_wide.2 (mayPc_any x _))).mono ?_; rintro e w' ⟨rfl, rfl⟩)
            exact ⟨(((KeepsOthers.alloc _ _).trans (KeepsOthers.setCell _ _ _)).trans (KeepsOthers.setCell _ _ _)).from _, (((KpB.refl _ _ _).alloc (by omega) (by omega) _).setCell (p := ⟨B0 + 1, 0, none⟩) (by simp) (by simp) _).setCell (p := ⟨B0 + 1 + 1, 0, none⟩) (by simp; omega) (by simp) _, ⟨⟨((HH.out.1.alloc _).other (by omega) _).other (by omega) _, by rw [HN.out.2, if_pos h0]; exact ((HH.out.2.1.alloc _).set _).other (by omega) _⟩, by rw [HN.out.1, h0]; exact ((HH.out.2.2.1.alloc _).other (by omega) _).set _⟩, ((HH.out.2.2.2.alloc (by omega) _).setCell (p := ⟨B0 + 1, 0, none⟩) (by simp) _).setCell (p := ⟨B0 + 1 + 1, 0, none⟩) (by simp; omega) _, by simp; omega⟩
          · have e0 : ((whoN pre p : Int) == 0) = false := by simpa using h0
            gi_wp2_with (refine ⟨trivial, ?_⟩; gi_at_call 36; refine (CallsIn.inRound l (callsIn_wide.2 (mayPc_any x _))).mono ?_; rintro e w' ⟨rfl, rfl⟩)
            exact ⟨((KeepsOthers.alloc _ _).trans (KeepsOthers.setCell _ _ _)).from _, ((KpB.refl _ _ _).alloc (by omega) (by omega) _).setCell (p := ⟨B0 + 1 + 1, 0, none⟩) (by simp; omega) (by simp) _, ⟨⟨(HH.out.1.alloc _).other (by omega) _, by rw [HN.out.2, if_neg h0]; exact (HH.out.2.1.alloc _).other (by omega) _⟩, by rw [HN.out.1]; exact (HH.out.2.2.1.alloc _).set _⟩, (HH.out.2.2.2.alloc (by omega) _).setCell (p := ⟨B0 + 1 + 1, 0, none⟩) (by simp; omega) _, by simp; omega⟩
    · have hB : B (MayPc x) = false := B_no hm
      have HN := Lib.hid (who_no (xs := pre) (x := x) (p := p) (fun h => hm h.1))
      clear hm
      gi_wp2_with (refine ⟨trivial, ?_⟩; gi_at_call 36; refine (CallsIn.inRound l (callsIn_wide.2 (mayPc_any x _))).mono ?_; rintro e w' ⟨rfl, rfl⟩)
      exact ⟨(KeepsOthers.alloc _ _).from _, (KpB.refl _ _ _).alloc (by omega) (by omega) _, ⟨⟨HH.out.1.alloc _, by rw [HN.out.2]; exact HH.out.2.1.alloc _⟩, by rw [HN.out.1]; exact HH.out.2.2.1.alloc _⟩, HH.out.2.2.2.alloc (by omega) _, by simp; omega⟩
  case done =>
    rintro D ys W hD rfl ⟨⟨⟨bp, bk⟩, bn⟩, hBW, hs1⟩ hK
    have ck := bk.cell
    have cn := bn.cell
    have fk := bk.frozen
    have fn := bn.frozen
    gi_wp2
    gi_region
    all_goals gi_wp2
    have e1 := (bk.set (.int .i64 (whoK (pcs fr sp hd) p))).other (B' := B0 + 1 + 1) (by omega) (.int .i64 (whoN (pcs fr sp hd) p))
    have e2 := (bn.other (B' := B0 + 1) (by omega) (.int .i64 (whoK (pcs fr sp hd) p))).set (.int .i64 (whoN (pcs fr sp hd) p))
    have hK' := ((KeepsOthers.setCell W ⟨B0 + 1, 0, none⟩ (.int .i64 (whoK (pcs fr sp hd) p))).trans (KeepsOthers.setCell _ ⟨B0 + 1 + 1, 0, none⟩ (.int .i64 (whoN (pcs fr sp hd) p)))).same D _ hK rfl
    have hB' := (hBW.setCell (p := ⟨B0 + 1, 0, none⟩) (by simp) (.int .i64 (whoK (pcs fr sp hd) p))).setCell (p := ⟨B0 + 1 + 1, 0, none⟩) (by simp; omega) (.int .i64 (whoN (pcs fr sp hd) p))
    generalize ((W.setCell ⟨B0 + 1, 0, none⟩ (.int .i64 (whoK (pcs fr sp hd) p))).setCell ⟨B0 + 1 + 1, 0, none⟩ (.int .i64 (whoN (pcs fr sp hd) p))) = Wz at e1 e2 hK' hB' ⊢
    have hKd : Wz.drew.heap[D]? = some (.deferred (some [])) := hK'
    refine ⟨by simp, .inl ⟨_, _, rfl, run_takeDeferred hKd, ?_⟩⟩
    have k1 := cell_kept (show Wz.drew.cell? ⟨B0 + 1, 0, none⟩ = _ from e1.cell) (grownBy_putObj' _ D (.deferred none)) (fun r e => by cases e; exact ⟨_, hKd, rfl⟩)
    have k2 := cell_kept (show Wz.drew.cell? ⟨B0 + 1 + 1, 0, none⟩ = _ from e2.cell) (grownBy_putObj' _ D (.deferred none)) (fun r e => by cases e; exact ⟨_, hKd, rfl⟩)
    refine ⟨.tuple #[.int .i64 (whoK (pcs fr sp hd) p), .int .i64 (whoN (pcs fr sp hd) p)], ?_, rfl, ?_⟩
    · simp [results, who_res, go_sem, k1, k2]
    · show Below w.heap.size w _
      rw [hB0]
      exact hB'.drew.trans (belowK_b (w := w) (by omega) _ D _ _ (by omega) hKd rfl rfl)
  case stop =>
    rintro D c pre W _ _ h _
    exact h.elim
end Go.Proofs.YtpohnehcnonjhaaDoor
