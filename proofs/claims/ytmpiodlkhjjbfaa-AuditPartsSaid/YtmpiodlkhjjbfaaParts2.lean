/- Walk: dustpanlaw30.parts. -/
import Derived.Test.YtmpiodlkhjjbfaaParts
namespace Go.Proofs.Ytmpiodlkhjjbfaa
open Go.RowKit
set_option linter.unusedVariables false
set_option linter.unusedSimpArgs false

def PartsOut (w : World) (e : Ending) (w' : World) : Prop :=
  ∃ (i at_ : Nat) (fr : List RunD) (sp : List SpanD) (hd : List HandD) (fA sA hA : Option Addr) (fc sc hc : Nat), i ≤ 40 ∧ e = .returned (.tuple #[.int .i64 at_, .slice fA fr.length fc, .slice sA sp.length sc, .slice hA hd.length hc]) ∧ PI i at_ fr sp hd ∧
    OwnS w' w.heap.size 33 2 (.slice fA fr.length fc) fr.length (runv fr) ∧ OwnS w' w.heap.size 66 7 (.slice sA sp.length sc) sp.length (spanv sp) ∧ OwnS w' w.heap.size 63 3 (.slice hA hd.length hc) hd.length (handv hd) ∧ Ext w w'

theorem parts_res : Try.f8.results = #[.tmp 4, .tmp 5, .tmp 6, .tmp 7] := by kernel_rfl
theorem parts_end {w wr : World} {k at_ L M N : Nat} {fr : List RunD} {sp : List SpanD} {hd : List HandD} {fA sA hA : Option Addr} {fc sc hc : Nat} {a : Act}
    (h : PI k at_ fr sp hd ∧ OwnS wr w.heap.size 33 2 (.slice fA L fc) L (runv fr) ∧ OwnS wr w.heap.size 66 7 (.slice sA M sc) M (spanv sp) ∧ OwnS wr w.heap.size 63 3 (.slice hA N hc) N (handv hd) ∧ Ext w wr ∧ fr.length = L ∧ sp.length = M ∧ hd.length = N) (hk : k ≤ 40)
    (hd : a.defers = []) (hr : (a.tmps.getD 4 undef = .int .i64 at_) ∧ (a.tmps.getD 5 undef = .slice fA L fc) ∧ (a.tmps.getD 6 undef = .slice sA M sc) ∧ (a.tmps.getD 7 undef = .slice hA N hc)) :
    bodyPost Try.prog Try.f8 (PartsOut w) Exit.ret a wr := by
  obtain ⟨hP, hF, hS, hH, hE, rfl, rfl, rfl⟩ := h
  obtain ⟨r4, r5, r6, r7⟩ := hr
  rw [Array.getD_eq_getD_getElem?] at r4 r5 r6 r7
  refine bodyPost_ret (v := .tuple #[.int .i64 at_, .slice fA fr.length fc, .slice sA sp.length sc, .slice hA _ hc]) ?_ hd ⟨k, at_, fr, sp, _, fA, sA, hA, fc, sc, hc, hk, rfl, hP, hF, hS, hH, hE⟩
  simp [results, parts_res, r4, r5, r6, r7, go_sem]

set_option maxHeartbeats 4000000 in
set_option maxRecDepth 100000 in
theorem parts_any (A : Option Addr) (xs : List Nat) (c : Nat) (w : World) (hn : xs.length ≤ maxLen) (hl : BytesR2 w A xs) :
    Calls Try.prog 8 #[.slice A xs.length c, .int .i64 3] w (PartsOut w) := by
  have hn' : xs.length ≤ 9223372036854775807 := hn
  have HL := Lib.hid hl
  clear hl hn
  obtain ⟨iR, hi, hz0, hz1, hz2⟩ := info_parts Try.infoRun
  have HR := Lib.hid (And.intro hi (And.intro hz0 (And.intro hz1 hz2)))
  clear hi hz0 hz1 hz2
  obtain ⟨iS, hi, hz0, hz1, hz2⟩ := info_parts Try.infoSpan
  have HS := Lib.hid (And.intro hi (And.intro hz0 (And.intro hz1 hz2)))
  clear hi hz0 hz1 hz2
  obtain ⟨iH, hi, hz0, hz1, hz2⟩ := info_parts Try.infoHand
  have HH := Lib.hid (And.intro hi (And.intro hz0 (And.intro hz1 hz2)))
  clear hi hz0 hz1 hz2
  go_enter Try.func8, Try.ntmps8
  go_wp2_with fail
  go_loopg [8, 9, 10, 11, 12] 40 (fun q f s h a i wr => ∃ (k at_ L M N : Nat) (fr : List RunD) (sp : List SpanD) (hd : List HandD) (fA sA hA : Option Addr) (fc sc hc : Nat), (fr.length = L ∧ sp.length = M ∧ hd.length = N) ∧ k ≤ 40 ∧ q = 40 - k ∧ i = .int .i64 k ∧ a = .int .i64 at_ ∧ f = .slice fA L fc ∧ s = .slice sA M sc ∧ h = .slice hA N hc ∧ PI k at_ fr sp hd ∧
    OwnS wr w.heap.size 33 2 (.slice fA L fc) L (runv fr) ∧ OwnS wr w.heap.size 66 7 (.slice sA M sc) M (spanv sp) ∧ OwnS wr w.heap.size 63 3 (.slice hA N hc) N (handv hd) ∧ Ext w wr)
  case atStart => exact ⟨0, 0, 0, 0, 0, [], [], [], none, none, none, 0, 0, 0, ⟨rfl, rfl, rfl⟩, by omega, rfl, rfl, rfl, rfl, rfl, rfl, PI.nil, OwnS.nil _ _ _ _ _, OwnS.nil _ _ _ _ _, OwnS.nil _ _ _ _ _, Ext.refl _⟩
  case round =>
    obtain ⟨k, at_, L, M, N, fr, sp, hd, fA, sA, hA, fc, sc, hc, hlen, hk, rfl, rfl, rfl, rfl, rfl, rfl, hP, hF, hS, hH, hE⟩ := hrel
    have HP := Lib.hid (And.intro hP (And.intro hF (And.intro hS (And.intro hH (And.intro hE hlen)))))
    have pa := hP.hat
    have plf : L ≤ k := by rw [← hlen.1]; exact hP.lf
    have pls : M ≤ k := by rw [← hlen.2.1]; exact hP.ls
    have plh : N ≤ k := by rw [← hlen.2.2]; exact hP.lh
    have hsz := hE.size
    clear hP hF hS hH hlen
    by_cases hlt : k < xs.length ∧ k < 40
    · obtain ⟨h1, h2⟩ := hlt
      obtain ⟨b, off, rfl, hcell⟩ := HL.out.1 (by omega)
      have c0 : wr.cell? ⟨b, off + k, none⟩ = some (.int .u8 (ix 0 xs k : Nat)) := hE.cell (hcell k (by omega))
      have x0 := HL.out.2 k
      have q0 : (0 : Int) ≤ (k : Int) := by omega
      have q1 : (k : Int) < (xs.length : Int) := by omega
      have q2 : decide ((k : Int) < 40) = true := by simp; omega
      generalize ix 0 xs k = y at c0 x0
      obtain ⟨n, hn⟩ : ∃ n, 1 + y / 16 % 4 = n := ⟨_, rfl⟩
      have e1 : 1 + (y : Int) / 16 % 4 = (n : Int) := by omega
      have bn1 : 1 ≤ n := by omega
      have bn2 : n ≤ 4 := by omega
      obtain ⟨m, hm⟩ : ∃ m, y % 4 = m := ⟨_, rfl⟩
      have e2 : (y : Int) % 4 = (m : Int) := by omega
      have bm : m < 4 := by omega
      clear hcell hn hm hE
      by_cases hm0 : m = 0
      · subst hm0
        have t0 : (((y : Nat) : Int) % 4 == 0) = true := by simp; omega
        have t1 : (((y : Nat) : Int) % 4 == 1) = false := by simp; omega
        have t0' : (((0 : Nat) : Int) == 0) = true := by simp
        have t1' : (((0 : Nat) : Int) == 1) = false := by simp
        by_cases hL0 : L = 0
        · subst hL0
          have HOR := Lib.hid (show fr.length = 0 ∨ (ix noRun fr (fr.length - 1)).a + (ix noRun fr (fr.length - 1)).n < at_ from .inl HP.out.2.2.2.2.2.1)
          go_wp2_with fail
          go_quiet (fail)
          have hD := (Ext.refl wr).drewN nq
          have HPn := Lib.hid (And.intro HP.out.1 (And.intro (HP.out.2.1.ext hD) (And.intro (HP.out.2.2.1.ext hD) (And.intro (HP.out.2.2.2.1.ext hD) (And.intro (HP.out.2.2.2.2.1.trans hD) HP.out.2.2.2.2.2)))))
          have hszn := Nat.le_trans hsz hD.size
          have c0n := hD.cell c0
          generalize wr.drewN nq = wq at hD HPn hszn c0n ⊢
          clear HP hsz c0 hD
          go_wp2_with (at_builtin; go_loud (refine wpList_push rfl _ _ 23 rfl w.heap.size 33 iR (.agg #[.int .i64 0, .int .i64 0]) 2 16 Try.underlying23 HR.out.1 HR.out.2.1 HR.out.2.2.1 HR.out.2.2.2 rfl (by decide) (.slice fA (0) fc) (0) (runv fr) rfl (HPn.out.2.1.ext ((Ext.refl _).alloc _)) ⟨wq.heap.size, 0, none⟩ 1 (run1 ⟨at_, n⟩) rfl (fun j hj => run_cells wq _ ⟨at_, n⟩ hj) (run1_one _) ?b63 ?bby ?bba _ rfl (runv (fr ++ [⟨at_, n⟩])) ?bo ?bn ?_); (case b63 => unfold maxLen; omega); (case bby => omega); (case bba => simp; omega); (case bo => exact fun j hj => runv_old (by rw [HPn.out.2.2.2.2.2.1]; exact hj)); (case bn => exact fun j hj => by have := runv_new (l := fr) (x := ⟨at_, n⟩) hj; rwa [HPn.out.2.2.2.2.2.1] at this); intro g cap w' hO' hgrow hExt hor hg)
          have hP2 := HPn.out.1.free (n := n) (by omega) bn1 bn2 HOR.out
          obtain ⟨_, hFo, hSo, hHo, hEo, hl1, hl2, hl3⟩ := HPn.out
          have nhSo := (hSo.ext ((Ext.refl _).alloc _)).grown hgrow (own_types hSo hFo (by decide))
          have nhHo := (hHo.ext ((Ext.refl _).alloc _)).grown hgrow (own_types hHo hFo (by decide))
          have hE2 := hExt w (hEo.trans ((Ext.refl _).alloc _)) (Nat.le_refl _)
          have HZ := Lib.hid (And.intro hP2 (And.intro hO' (And.intro nhSo (And.intro nhHo (And.intro hE2 (And.intro hl1 (And.intro hl2 hl3)))))))
          clear hP2 hO' hE2 hl1 hl2 hl3 hor hExt hgrow hFo hSo hHo hEo HPn c0n nhSo nhHo
          all_goals go_wp2_with fail
          go_roundg (40 - (k + 1))
          case measure => go_light; omega
          exact ⟨k + 1, at_ + n, 0 + 1, M, N, fr ++ [⟨at_, n⟩], sp, hd, some ⟨g, 0, none⟩, sA, hA, cap, sc, hc, ⟨by rw [List.length_append, HZ.out.2.2.2.2.2.1]; rfl, HZ.out.2.2.2.2.2.2.1, HZ.out.2.2.2.2.2.2.2⟩, by omega, rfl, by simp, by simp, by simp, by simp, by simp, HZ.out.1, HZ.out.2.1, HZ.out.2.2.1, HZ.out.2.2.2.1, HZ.out.2.2.2.2.1⟩
        · obtain ⟨z, rfl⟩ : ∃ z, L = z + 1 := ⟨L - 1, by omega⟩
          obtain ⟨gF, fcx, hfa⟩ := HP.out.2.1.form' (by omega)
          obtain ⟨rfl, rfl⟩ : fA = some ⟨gF, 0, none⟩ ∧ fc = fcx := by injection hfa with h1 h2 h3; exact ⟨h1, h3⟩
          have r0 := HP.out.2.1.cellAt (j := z * 2) (by omega)
          have r1 := HP.out.2.1.cellAt (j := z * 2 + 1) (by omega)
          rw [runv0] at r0
          rw [runv1] at r1
          have hmz := HP.out.1.may ⟨1, (ix noRun fr z).a, (ix noRun fr z).n⟩ (mem_pcs.2 (.inl ⟨_, ix_mem (by have := HP.out.2.2.2.2.2.1; omega), rfl⟩))
          obtain ⟨z1, z2, z3, z4⟩ := hmz
          dsimp only at z1 z2 z3 z4
          generalize hx : ix noRun fr z = x at r0 r1 z1 z2 z3 z4
          have HX := Lib.hid hx
          clear hx hfa hL0
          have l0 : (((z + 1 : Nat) : Int) == 0) = false := by simp; omega
          have l0' : ((z : Int) + 1 == 0) = false := by simp; omega
          have g0 : (0 : Int) ≤ (z : Int) := by omega
          have g1 : (z : Int) < ((z + 1 : Nat) : Int) := by omega
          have g2 : (z : Int) < (z : Int) + 1 := by omega
          by_cases hlast : x.a + x.n < at_
          · have d1 : decide (x.a + x.n < (at_ : Int)) = true := by simpa using hlast
            have HOR := Lib.hid (show fr.length = 0 ∨ (ix noRun fr (fr.length - 1)).a + (ix noRun fr (fr.length - 1)).n < at_ from .inr (by rw [HP.out.2.2.2.2.2.1, Nat.add_sub_cancel, HX.out]; exact hlast))
            go_wp2_with fail
            go_quiet (fail)
            have hD := (Ext.refl wr).drewN nq
            have HPn := Lib.hid (And.intro HP.out.1 (And.intro (HP.out.2.1.ext hD) (And.intro (HP.out.2.2.1.ext hD) (And.intro (HP.out.2.2.2.1.ext hD) (And.intro (HP.out.2.2.2.2.1.trans hD) HP.out.2.2.2.2.2)))))
            have hszn := Nat.le_trans hsz hD.size
            have c0n := hD.cell c0
            generalize wr.drewN nq = wq at hD HPn hszn c0n ⊢
            clear HP hsz c0 hD
            go_wp2_with (at_builtin; go_loud (refine wpList_push rfl _ _ 23 rfl w.heap.size 33 iR (.agg #[.int .i64 0, .int .i64 0]) 2 16 Try.underlying23 HR.out.1 HR.out.2.1 HR.out.2.2.1 HR.out.2.2.2 rfl (by decide) (.slice (some ⟨gF, 0, none⟩) (z + 1) fc) (z + 1) (runv fr) rfl (HPn.out.2.1.ext ((Ext.refl _).alloc _)) ⟨wq.heap.size, 0, none⟩ 1 (run1 ⟨at_, n⟩) rfl (fun j hj => run_cells wq _ ⟨at_, n⟩ hj) (run1_one _) ?b63 ?bby ?bba _ rfl (runv (fr ++ [⟨at_, n⟩])) ?bo ?bn ?_); (case b63 => unfold maxLen; omega); (case bby => omega); (case bba => simp; omega); (case bo => exact fun j hj => runv_old (by rw [HPn.out.2.2.2.2.2.1]; exact hj)); (case bn => exact fun j hj => by have := runv_new (l := fr) (x := ⟨at_, n⟩) hj; rwa [HPn.out.2.2.2.2.2.1] at this); intro g cap w' hO' hgrow hExt hor hg)
            have hP2 := HPn.out.1.free (n := n) (by omega) bn1 bn2 HOR.out
            obtain ⟨_, hFo, hSo, hHo, hEo, hl1, hl2, hl3⟩ := HPn.out
            have nhSo := (hSo.ext ((Ext.refl _).alloc _)).grown hgrow (own_types hSo hFo (by decide))
            have nhHo := (hHo.ext ((Ext.refl _).alloc _)).grown hgrow (own_types hHo hFo (by decide))
            have hE2 := hExt w (hEo.trans ((Ext.refl _).alloc _)) (Nat.le_refl _)
            have HZ := Lib.hid (And.intro hP2 (And.intro hO' (And.intro nhSo (And.intro nhHo (And.intro hE2 (And.intro hl1 (And.intro hl2 hl3)))))))
            clear hP2 hO' hE2 hl1 hl2 hl3 hor hExt hgrow hFo hSo hHo hEo HPn c0n nhSo nhHo
            all_goals go_wp2_with fail
            go_roundg (40 - (k + 1))
            case measure => go_light; omega
            exact ⟨k + 1, at_ + n, z + 1 + 1, M, N, fr ++ [⟨at_, n⟩], sp, hd, some ⟨g, 0, none⟩, sA, hA, cap, sc, hc, ⟨by rw [List.length_append, HZ.out.2.2.2.2.2.1]; rfl, HZ.out.2.2.2.2.2.2.1, HZ.out.2.2.2.2.2.2.2⟩, by omega, rfl, by simp, by simp, by simp, by simp, by simp, HZ.out.1, HZ.out.2.1, HZ.out.2.2.1, HZ.out.2.2.2.1, HZ.out.2.2.2.2.1⟩
          · have d1 : decide (x.a + x.n < (at_ : Int)) = false := by simpa using hlast
            go_wp2_with fail
            go_quiet (fail)
            have hD := (Ext.refl wr).drewN nq
            have HPn := Lib.hid (And.intro HP.out.1 (And.intro (HP.out.2.1.ext hD) (And.intro (HP.out.2.2.1.ext hD) (And.intro (HP.out.2.2.2.1.ext hD) (And.intro (HP.out.2.2.2.2.1.trans hD) HP.out.2.2.2.2.2)))))
            have hszn := Nat.le_trans hsz hD.size
            have c0n := hD.cell c0
            generalize wr.drewN nq = wq at hD HPn hszn c0n ⊢
            clear HP hsz c0 hD
            obtain ⟨c15, hc15⟩ : ∃ v, y % 15 = v := ⟨_, rfl⟩
            obtain ⟨al, hal⟩ : ∃ v, y * 77 + 1 = v := ⟨_, rfl⟩
            obtain ⟨mk, hmk⟩ : ∃ v, y * 5 = v := ⟨_, rfl⟩
            have e15 : (y : Int) % 15 = (c15 : Int) := by omega
            have e77 : (y : Int) * 77 + 1 = (al : Int) := by omega
            have e5 : (y : Int) * 5 = (mk : Int) := by omega
            have b15 : c15 < 15 := by omega
            have a0 : al ≠ 0 := by omega
            have bal : al < 20000 := by omega
            have bmk : mk < 2000 := by omega
            have HA0 := Lib.hid a0
            have Wy : IntKind.u64.wrap (y : Int) = (y : Int) := w_u64 (by omega) (by omega)
            have W77 : IntKind.u64.wrap ((y : Int) * 77) = (y : Int) * 77 := w_u64 (by omega) (by omega)
            have Wal : IntKind.u64.wrap (al : Int) = (al : Int) := w_u64 (by omega) (by omega)
            have Wmk : IntKind.u64.wrap (mk : Int) = (mk : Int) := w_u64 (by omega) (by omega)
            clear hc15 hal hmk a0
            by_cases hc14 : c15 < 14
            · have d14 : decide ((c15 : Int) < 14) = true := by simp; omega
              have hpg := clsP_bd (c := (c15 : Int)) (by omega) (by omega)
              obtain ⟨n2, hn2⟩ : ∃ n2 : Nat, clsP (c15 : Int) = n2 := ⟨(clsP (c15 : Int)).toNat, by omega⟩
              rw [hn2] at hpg
              have HN2 := Lib.hid hn2
              clear hn2
              go_wp2_with fail
              refine (pages1_any _ _).mono ?_
              rintro e wp ⟨rfl, hEp⟩
              rw [HN2.out]
              have HPm := Lib.hid (And.intro HPn.out.1 (And.intro (HPn.out.2.1.ext hEp) (And.intro (HPn.out.2.2.1.ext hEp) (And.intro (HPn.out.2.2.2.1.ext hEp) (And.intro (HPn.out.2.2.2.2.1.trans hEp) HPn.out.2.2.2.2.2)))))
              have hszm := Nat.le_trans hszn hEp.size
              have c0m := hEp.cell c0n
              clear HPn hszn c0n hEp
              go_wp2_with fail
              go_region_law ((refine step_push (by rfl) _ _ 24 (by rfl) w.heap.size 66 iS (.agg #[.int .i64 0, .int .i64 0, .int .i64 0, .int .i64 0, .int .i64 0, .int .u64 0, .int .u64 0]) 7 56 Try.underlying24 HS.out.1 HS.out.2.1 HS.out.2.2.1 HS.out.2.2.2 (by rfl) (by omega) (.slice sA M sc) M (spanv sp) (by rfl) (HPm.out.2.2.1.ext ((Ext.refl _).alloc _).drew) ⟨wp.heap.size, 0, none⟩ 1 (span1 ⟨at_, n2, c15, 3, 1, al, mk⟩) (by rfl) (fun j hj => span_cells_drew wp _ ⟨at_, n2, c15, 3, 1, al, mk⟩ hj) (span1_one _) (by unfold maxLen; omega) (by omega) (by simp; omega) _ rfl (spanv (sp ++ [⟨at_, n2, c15, 3, 1, al, mk⟩])) (fun j hj => spanv_old (by rw [HPm.out.2.2.2.2.2.2.1]; exact hj)) (fun j hj => by have := spanv_new (l := sp) (x := ⟨at_, n2, c15, 3, 1, al, mk⟩) hj; rwa [HPm.out.2.2.2.2.2.2.1] at this) ?_; intro g cap w' hO' hgrow hExt hor hg))
              all_goals (have hP2 := HPm.out.1.span (c := (c15 : Int)) (n := n2) (al := al) (mk := mk) (by omega) (by omega) (by omega) HA0.out)
              all_goals (obtain ⟨_, hFo, hSo, hHo, hEo, hl1, hl2, hl3⟩ := HPm.out)
              all_goals (have nhFo := (hFo.ext ((Ext.refl _).alloc _).drew).grown hgrow (own_types hFo hSo (by decide)))
              all_goals (have nhHo := (hHo.ext ((Ext.refl _).alloc _).drew).grown hgrow (own_types hHo hSo (by decide)))
              all_goals (have hE2 := hExt w (hEo.trans ((Ext.refl _).alloc _).drew) (Nat.le_refl _))
              all_goals (have HZ := Lib.hid (And.intro hP2 (And.intro nhFo (And.intro hO' (And.intro nhHo (And.intro hE2 (And.intro hl1 (And.intro hl2 hl3))))))))
              all_goals (clear hP2 hO' hE2 hl1 hl2 hl3 hor hExt hgrow hFo hSo hHo hEo HPm c0m nhFo nhHo)
              all_goals (go_wp2_with fail)
              all_goals (go_roundg (40 - (k + 1)); (case measure => go_light; omega); exact ⟨k + 1, at_ + n2, z + 1, M + 1, N, fr, sp ++ [⟨at_, n2, c15, 3, 1, al, mk⟩], hd, (some ⟨gF, 0, none⟩), some ⟨g, 0, none⟩, hA, fc, cap, hc, ⟨HZ.out.2.2.2.2.2.1, by rw [List.length_append, HZ.out.2.2.2.2.2.2.1]; rfl, HZ.out.2.2.2.2.2.2.2⟩, by omega, rfl, by simp, by simp, by simp, by simp, by simp, HZ.out.1, HZ.out.2.1, HZ.out.2.2.1, HZ.out.2.2.2.1, HZ.out.2.2.2.2.1⟩)
            · have d14 : decide ((c15 : Int) < 14) = false := by simp; omega
              go_wp2_with fail
              go_region_law ((refine step_push (by rfl) _ _ 24 (by rfl) w.heap.size 66 iS (.agg #[.int .i64 0, .int .i64 0, .int .i64 0, .int .i64 0, .int .i64 0, .int .u64 0, .int .u64 0]) 7 56 Try.underlying24 HS.out.1 HS.out.2.1 HS.out.2.2.1 HS.out.2.2.2 (by rfl) (by omega) (.slice sA M sc) M (spanv sp) (by rfl) (HPn.out.2.2.1.ext ((Ext.refl _).alloc _).drew) ⟨wq.heap.size, 0, none⟩ 1 (span1 ⟨at_, n, c15, 3, 1, al, mk⟩) (by rfl) (fun j hj => span_cells_drew wq _ ⟨at_, n, c15, 3, 1, al, mk⟩ hj) (span1_one _) (by unfold maxLen; omega) (by omega) (by simp; omega) _ rfl (spanv (sp ++ [⟨at_, n, c15, 3, 1, al, mk⟩])) (fun j hj => spanv_old (by rw [HPn.out.2.2.2.2.2.2.1]; exact hj)) (fun j hj => by have := spanv_new (l := sp) (x := ⟨at_, n, c15, 3, 1, al, mk⟩) hj; rwa [HPn.out.2.2.2.2.2.2.1] at this) ?_; intro g cap w' hO' hgrow hExt hor hg))
              all_goals (have hP2 := HPn.out.1.span (c := (c15 : Int)) (n := n) (al := al) (mk := mk) (by omega) bn1 bn2 HA0.out)
              all_goals (obtain ⟨_, hFo, hSo, hHo, hEo, hl1, hl2, hl3⟩ := HPn.out)
              all_goals (have nhFo := (hFo.ext ((Ext.refl _).alloc _).drew).grown hgrow (own_types hFo hSo (by decide)))
              all_goals (have nhHo := (hHo.ext ((Ext.refl _).alloc _).drew).grown hgrow (own_types hHo hSo (by decide)))
              all_goals (have hE2 := hExt w (hEo.trans ((Ext.refl _).alloc _).drew) (Nat.le_refl _))
              all_goals (have HZ := Lib.hid (And.intro hP2 (And.intro nhFo (And.intro hO' (And.intro nhHo (And.intro hE2 (And.intro hl1 (And.intro hl2 hl3))))))))
              all_goals (clear hP2 hO' hE2 hl1 hl2 hl3 hor hExt hgrow hFo hSo hHo hEo HPn c0n nhFo nhHo)
              all_goals (go_wp2_with fail)
              all_goals (go_roundg (40 - (k + 1)); (case measure => go_light; omega); exact ⟨k + 1, at_ + n, z + 1, M + 1, N, fr, sp ++ [⟨at_, n, c15, 3, 1, al, mk⟩], hd, (some ⟨gF, 0, none⟩), some ⟨g, 0, none⟩, hA, fc, cap, hc, ⟨HZ.out.2.2.2.2.2.1, by rw [List.length_append, HZ.out.2.2.2.2.2.2.1]; rfl, HZ.out.2.2.2.2.2.2.2⟩, by omega, rfl, by simp, by simp, by simp, by simp, by simp, HZ.out.1, HZ.out.2.1, HZ.out.2.2.1, HZ.out.2.2.2.1, HZ.out.2.2.2.2.1⟩)
      · have t0 : (((y : Nat) : Int) % 4 == 0) = false := by simp; omega
        have t0' : ((m : Int) == 0) = false := by simp; omega
        by_cases hm1 : m = 1
        · subst hm1
          have t1 : (((y : Nat) : Int) % 4 == 1) = true := by simp; omega
          have t1' : (((1 : Nat) : Int) == 1) = true := by simp
          by_cases h150 : 150 < y
          · have d1 : decide ((150 : Int) < (y : Int)) = true := by simp; omega
            go_wp2_with fail
            go_quiet (fail)
            have hD := (Ext.refl wr).drewN nq
            have HPn := Lib.hid (And.intro HP.out.1 (And.intro (HP.out.2.1.ext hD) (And.intro (HP.out.2.2.1.ext hD) (And.intro (HP.out.2.2.2.1.ext hD) (And.intro (HP.out.2.2.2.2.1.trans hD) HP.out.2.2.2.2.2)))))
            have hszn := Nat.le_trans hsz hD.size
            have c0n := hD.cell c0
            generalize wr.drewN nq = wq at hD HPn hszn c0n ⊢
            clear HP hsz c0 hD
            go_wp2_with (at_builtin; go_loud (refine wpList_push rfl _ _ 25 rfl w.heap.size 63 iH (.agg #[.int .i64 0, .int .i64 0, .int .i64 0]) 3 24 Try.underlying25 HH.out.1 HH.out.2.1 HH.out.2.2.1 HH.out.2.2.2 rfl (by decide) (.slice hA N hc) N (handv hd) rfl (HPn.out.2.2.2.1.ext ((Ext.refl _).alloc _)) ⟨wq.heap.size, 0, none⟩ 1 (hand1 ⟨(k : Int) % 5, at_, n⟩) rfl (fun j hj => hand_cells wq _ ⟨(k : Int) % 5, at_, n⟩ hj) (hand1_one _) ?b63 ?bby ?bba _ rfl (handv (hd ++ [⟨(k : Int) % 5, at_, n⟩])) ?bo ?bn ?_); (case b63 => unfold maxLen; omega); (case bby => omega); (case bba => simp; omega); (case bo => exact fun j hj => handv_old (by rw [HPn.out.2.2.2.2.2.2.2]; exact hj)); (case bn => exact fun j hj => by have := handv_new (l := hd) (x := ⟨(k : Int) % 5, at_, n⟩) hj; rwa [HPn.out.2.2.2.2.2.2.2] at this); intro g cap w' hO' hgrow hExt hor hg)
            have hP2 := HPn.out.1.hand (t := (k : Int) % 5) (n := n) (by omega) bn1 bn2
            obtain ⟨_, hFo, hSo, hHo, hEo, hl1, hl2, hl3⟩ := HPn.out
            have nhFo := (hFo.ext ((Ext.refl _).alloc _)).grown hgrow (own_types hFo hHo (by decide))
            have nhSo := (hSo.ext ((Ext.refl _).alloc _)).grown hgrow (own_types hSo hHo (by decide))
            have hE2 := hExt w (hEo.trans ((Ext.refl _).alloc _)) (Nat.le_refl _)
            have HZ := Lib.hid (And.intro hP2 (And.intro nhFo (And.intro nhSo (And.intro hO' (And.intro hE2 (And.intro hl1 (And.intro hl2 hl3)))))))
            clear hP2 hO' hE2 hl1 hl2 hl3 hor hExt hgrow hFo hSo hHo hEo HPn c0n nhFo nhSo
            all_goals go_wp2_with fail
            go_roundg (40 - (k + 1))
            case measure => go_light; omega
            exact ⟨k + 1, at_ + n, L, M, N + 1, fr, sp, hd ++ [⟨(k : Int) % 5, at_, n⟩], fA, sA, some ⟨g, 0, none⟩, fc, sc, cap, ⟨HZ.out.2.2.2.2.2.1, HZ.out.2.2.2.2.2.2.1, by rw [List.length_append, HZ.out.2.2.2.2.2.2.2]; rfl⟩, by omega, rfl, by simp, by simp, by simp, by simp, by simp, HZ.out.1, HZ.out.2.1, HZ.out.2.2.1, HZ.out.2.2.2.1, HZ.out.2.2.2.2.1⟩
          · have d1 : decide ((150 : Int) < (y : Int)) = false := by simp; omega
            go_wp2_with fail
            go_quiet (fail)
            have hD := (Ext.refl wr).drewN nq
            have HPn := Lib.hid (And.intro HP.out.1 (And.intro (HP.out.2.1.ext hD) (And.intro (HP.out.2.2.1.ext hD) (And.intro (HP.out.2.2.2.1.ext hD) (And.intro (HP.out.2.2.2.2.1.trans hD) HP.out.2.2.2.2.2)))))
            have hszn := Nat.le_trans hsz hD.size
            have c0n := hD.cell c0
            generalize wr.drewN nq = wq at hD HPn hszn c0n ⊢
            clear HP hsz c0 hD
            obtain ⟨c15, hc15⟩ : ∃ v, y % 15 = v := ⟨_, rfl⟩
            obtain ⟨al, hal⟩ : ∃ v, y * 77 + 1 = v := ⟨_, rfl⟩
            obtain ⟨mk, hmk⟩ : ∃ v, y * 5 = v := ⟨_, rfl⟩
            have e15 : (y : Int) % 15 = (c15 : Int) := by omega
            have e77 : (y : Int) * 77 + 1 = (al : Int) := by omega
            have e5 : (y : Int) * 5 = (mk : Int) := by omega
            have b15 : c15 < 15 := by omega
            have a0 : al ≠ 0 := by omega
            have bal : al < 20000 := by omega
            have bmk : mk < 2000 := by omega
            have HA0 := Lib.hid a0
            have Wy : IntKind.u64.wrap (y : Int) = (y : Int) := w_u64 (by omega) (by omega)
            have W77 : IntKind.u64.wrap ((y : Int) * 77) = (y : Int) * 77 := w_u64 (by omega) (by omega)
            have Wal : IntKind.u64.wrap (al : Int) = (al : Int) := w_u64 (by omega) (by omega)
            have Wmk : IntKind.u64.wrap (mk : Int) = (mk : Int) := w_u64 (by omega) (by omega)
            clear hc15 hal hmk a0
            by_cases hc14 : c15 < 14
            · have d14 : decide ((c15 : Int) < 14) = true := by simp; omega
              have hpg := clsP_bd (c := (c15 : Int)) (by omega) (by omega)
              obtain ⟨n2, hn2⟩ : ∃ n2 : Nat, clsP (c15 : Int) = n2 := ⟨(clsP (c15 : Int)).toNat, by omega⟩
              rw [hn2] at hpg
              have HN2 := Lib.hid hn2
              clear hn2
              go_wp2_with fail
              refine (pages1_any _ _).mono ?_
              rintro e wp ⟨rfl, hEp⟩
              rw [HN2.out]
              have HPm := Lib.hid (And.intro HPn.out.1 (And.intro (HPn.out.2.1.ext hEp) (And.intro (HPn.out.2.2.1.ext hEp) (And.intro (HPn.out.2.2.2.1.ext hEp) (And.intro (HPn.out.2.2.2.2.1.trans hEp) HPn.out.2.2.2.2.2)))))
              have hszm := Nat.le_trans hszn hEp.size
              have c0m := hEp.cell c0n
              clear HPn hszn c0n hEp
              go_wp2_with fail
              go_region_law ((refine step_push (by rfl) _ _ 24 (by rfl) w.heap.size 66 iS (.agg #[.int .i64 0, .int .i64 0, .int .i64 0, .int .i64 0, .int .i64 0, .int .u64 0, .int .u64 0]) 7 56 Try.underlying24 HS.out.1 HS.out.2.1 HS.out.2.2.1 HS.out.2.2.2 (by rfl) (by omega) (.slice sA M sc) M (spanv sp) (by rfl) (HPm.out.2.2.1.ext ((Ext.refl _).alloc _).drew) ⟨wp.heap.size, 0, none⟩ 1 (span1 ⟨at_, n2, c15, 3, 1, al, mk⟩) (by rfl) (fun j hj => span_cells_drew wp _ ⟨at_, n2, c15, 3, 1, al, mk⟩ hj) (span1_one _) (by unfold maxLen; omega) (by omega) (by simp; omega) _ rfl (spanv (sp ++ [⟨at_, n2, c15, 3, 1, al, mk⟩])) (fun j hj => spanv_old (by rw [HPm.out.2.2.2.2.2.2.1]; exact hj)) (fun j hj => by have := spanv_new (l := sp) (x := ⟨at_, n2, c15, 3, 1, al, mk⟩) hj; rwa [HPm.out.2.2.2.2.2.2.1] at this) ?_; intro g cap w' hO' hgrow hExt hor hg))
              all_goals (have hP2 := HPm.out.1.span (c := (c15 : Int)) (n := n2) (al := al) (mk := mk) (by omega) (by omega) (by omega) HA0.out)
              all_goals (obtain ⟨_, hFo, hSo, hHo, hEo, hl1, hl2, hl3⟩ := HPm.out)
              all_goals (have nhFo := (hFo.ext ((Ext.refl _).alloc _).drew).grown hgrow (own_types hFo hSo (by decide)))
              all_goals (have nhHo := (hHo.ext ((Ext.refl _).alloc _).drew).grown hgrow (own_types hHo hSo (by decide)))
              all_goals (have hE2 := hExt w (hEo.trans ((Ext.refl _).alloc _).drew) (Nat.le_refl _))
              all_goals (have HZ := Lib.hid (And.intro hP2 (And.intro nhFo (And.intro hO' (And.intro nhHo (And.intro hE2 (And.intro hl1 (And.intro hl2 hl3))))))))
              all_goals (clear hP2 hO' hE2 hl1 hl2 hl3 hor hExt hgrow hFo hSo hHo hEo HPm c0m nhFo nhHo)
              all_goals (go_wp2_with fail)
              all_goals (go_roundg (40 - (k + 1)); (case measure => go_light; omega); exact ⟨k + 1, at_ + n2, L, M + 1, N, fr, sp ++ [⟨at_, n2, c15, 3, 1, al, mk⟩], hd, fA, some ⟨g, 0, none⟩, hA, fc, cap, hc, ⟨HZ.out.2.2.2.2.2.1, by rw [List.length_append, HZ.out.2.2.2.2.2.2.1]; rfl, HZ.out.2.2.2.2.2.2.2⟩, by omega, rfl, by simp, by simp, by simp, by simp, by simp, HZ.out.1, HZ.out.2.1, HZ.out.2.2.1, HZ.out.2.2.2.1, HZ.out.2.2.2.2.1⟩)
            · have d14 : decide ((c15 : Int) < 14) = false := by simp; omega
              go_wp2_with fail
              go_region_law ((refine step_push (by rfl) _ _ 24 (by rfl) w.heap.size 66 iS (.agg #[.int .i64 0, .int .i64 0, .int .i64 0, .int .i64 0, .int .i64 0, .int .u64 0, .int .u64 0]) 7 56 Try.underlying24 HS.out.1 HS.out.2.1 HS.out.2.2.1 HS.out.2.2.2 (by rfl) (by omega) (.slice sA M sc) M (spanv sp) (by rfl) (HPn.out.2.2.1.ext ((Ext.refl _).alloc _).drew) ⟨wq.heap.size, 0, none⟩ 1 (span1 ⟨at_, n, c15, 3, 1, al, mk⟩) (by rfl) (fun j hj => span_cells_drew wq _ ⟨at_, n, c15, 3, 1, al, mk⟩ hj) (span1_one _) (by unfold maxLen; omega) (by omega) (by simp; omega) _ rfl (spanv (sp ++ [⟨at_, n, c15, 3, 1, al, mk⟩])) (fun j hj => spanv_old (by rw [HPn.out.2.2.2.2.2.2.1]; exact hj)) (fun j hj => by have := spanv_new (l := sp) (x := ⟨at_, n, c15, 3, 1, al, mk⟩) hj; rwa [HPn.out.2.2.2.2.2.2.1] at this) ?_; intro g cap w' hO' hgrow hExt hor hg))
              all_goals (have hP2 := HPn.out.1.span (c := (c15 : Int)) (n := n) (al := al) (mk := mk) (by omega) bn1 bn2 HA0.out)
              all_goals (obtain ⟨_, hFo, hSo, hHo, hEo, hl1, hl2, hl3⟩ := HPn.out)
              all_goals (have nhFo := (hFo.ext ((Ext.refl _).alloc _).drew).grown hgrow (own_types hFo hSo (by decide)))
              all_goals (have nhHo := (hHo.ext ((Ext.refl _).alloc _).drew).grown hgrow (own_types hHo hSo (by decide)))
              all_goals (have hE2 := hExt w (hEo.trans ((Ext.refl _).alloc _).drew) (Nat.le_refl _))
              all_goals (have HZ := Lib.hid (And.intro hP2 (And.intro nhFo (And.intro hO' (And.intro nhHo (And.intro hE2 (And.intro hl1 (And.intro hl2 hl3))))))))
              all_goals (clear hP2 hO' hE2 hl1 hl2 hl3 hor hExt hgrow hFo hSo hHo hEo HPn c0n nhFo nhHo)
              all_goals (go_wp2_with fail)
              all_goals (go_roundg (40 - (k + 1)); (case measure => go_light; omega); exact ⟨k + 1, at_ + n, L, M + 1, N, fr, sp ++ [⟨at_, n, c15, 3, 1, al, mk⟩], hd, fA, some ⟨g, 0, none⟩, hA, fc, cap, hc, ⟨HZ.out.2.2.2.2.2.1, by rw [List.length_append, HZ.out.2.2.2.2.2.2.1]; rfl, HZ.out.2.2.2.2.2.2.2⟩, by omega, rfl, by simp, by simp, by simp, by simp, by simp, HZ.out.1, HZ.out.2.1, HZ.out.2.2.1, HZ.out.2.2.2.1, HZ.out.2.2.2.2.1⟩)
        · have t1 : (((y : Nat) : Int) % 4 == 1) = false := by simp; omega
          have t1' : ((m : Int) == 1) = false := by simp; omega
          go_wp2_with fail
          go_quiet (fail)
          have hD := (Ext.refl wr).drewN nq
          have HPn := Lib.hid (And.intro HP.out.1 (And.intro (HP.out.2.1.ext hD) (And.intro (HP.out.2.2.1.ext hD) (And.intro (HP.out.2.2.2.1.ext hD) (And.intro (HP.out.2.2.2.2.1.trans hD) HP.out.2.2.2.2.2)))))
          have hszn := Nat.le_trans hsz hD.size
          have c0n := hD.cell c0
          generalize wr.drewN nq = wq at hD HPn hszn c0n ⊢
          clear HP hsz c0 hD
          obtain ⟨c15, hc15⟩ : ∃ v, y % 15 = v := ⟨_, rfl⟩
          obtain ⟨al, hal⟩ : ∃ v, y * 77 + 1 = v := ⟨_, rfl⟩
          obtain ⟨mk, hmk⟩ : ∃ v, y * 5 = v := ⟨_, rfl⟩
          have e15 : (y : Int) % 15 = (c15 : Int) := by omega
          have e77 : (y : Int) * 77 + 1 = (al : Int) := by omega
          have e5 : (y : Int) * 5 = (mk : Int) := by omega
          have b15 : c15 < 15 := by omega
          have a0 : al ≠ 0 := by omega
          have bal : al < 20000 := by omega
          have bmk : mk < 2000 := by omega
          have HA0 := Lib.hid a0
          have Wy : IntKind.u64.wrap (y : Int) = (y : Int) := w_u64 (by omega) (by omega)
          have W77 : IntKind.u64.wrap ((y : Int) * 77) = (y : Int) * 77 := w_u64 (by omega) (by omega)
          have Wal : IntKind.u64.wrap (al : Int) = (al : Int) := w_u64 (by omega) (by omega)
          have Wmk : IntKind.u64.wrap (mk : Int) = (mk : Int) := w_u64 (by omega) (by omega)
          clear hc15 hal hmk a0
          by_cases hc14 : c15 < 14
          · have d14 : decide ((c15 : Int) < 14) = true := by simp; omega
            have hpg := clsP_bd (c := (c15 : Int)) (by omega) (by omega)
            obtain ⟨n2, hn2⟩ : ∃ n2 : Nat, clsP (c15 : Int) = n2 := ⟨(clsP (c15 : Int)).toNat, by omega⟩
            rw [hn2] at hpg
            have HN2 := Lib.hid hn2
            clear hn2
            go_wp2_with fail
            refine (pages1_any _ _).mono ?_
            rintro e wp ⟨rfl, hEp⟩
            rw [HN2.out]
            have HPm := Lib.hid (And.intro HPn.out.1 (And.intro (HPn.out.2.1.ext hEp) (And.intro (HPn.out.2.2.1.ext hEp) (And.intro (HPn.out.2.2.2.1.ext hEp) (And.intro (HPn.out.2.2.2.2.1.trans hEp) HPn.out.2.2.2.2.2)))))
            have hszm := Nat.le_trans hszn hEp.size
            have c0m := hEp.cell c0n
            clear HPn hszn c0n hEp
            go_wp2_with fail
            go_region_law ((refine step_push (by rfl) _ _ 24 (by rfl) w.heap.size 66 iS (.agg #[.int .i64 0, .int .i64 0, .int .i64 0, .int .i64 0, .int .i64 0, .int .u64 0, .int .u64 0]) 7 56 Try.underlying24 HS.out.1 HS.out.2.1 HS.out.2.2.1 HS.out.2.2.2 (by rfl) (by omega) (.slice sA M sc) M (spanv sp) (by rfl) (HPm.out.2.2.1.ext ((Ext.refl _).alloc _).drew) ⟨wp.heap.size, 0, none⟩ 1 (span1 ⟨at_, n2, c15, 3, 1, al, mk⟩) (by rfl) (fun j hj => span_cells_drew wp _ ⟨at_, n2, c15, 3, 1, al, mk⟩ hj) (span1_one _) (by unfold maxLen; omega) (by omega) (by simp; omega) _ rfl (spanv (sp ++ [⟨at_, n2, c15, 3, 1, al, mk⟩])) (fun j hj => spanv_old (by rw [HPm.out.2.2.2.2.2.2.1]; exact hj)) (fun j hj => by have := spanv_new (l := sp) (x := ⟨at_, n2, c15, 3, 1, al, mk⟩) hj; rwa [HPm.out.2.2.2.2.2.2.1] at this) ?_; intro g cap w' hO' hgrow hExt hor hg))
            all_goals (have hP2 := HPm.out.1.span (c := (c15 : Int)) (n := n2) (al := al) (mk := mk) (by omega) (by omega) (by omega) HA0.out)
            all_goals (obtain ⟨_, hFo, hSo, hHo, hEo, hl1, hl2, hl3⟩ := HPm.out)
            all_goals (have nhFo := (hFo.ext ((Ext.refl _).alloc _).drew).grown hgrow (own_types hFo hSo (by decide)))
            all_goals (have nhHo := (hHo.ext ((Ext.refl _).alloc _).drew).grown hgrow (own_types hHo hSo (by decide)))
            all_goals (have hE2 := hExt w (hEo.trans ((Ext.refl _).alloc _).drew) (Nat.le_refl _))
            all_goals (have HZ := Lib.hid (And.intro hP2 (And.intro nhFo (And.intro hO' (And.intro nhHo (And.intro hE2 (And.intro hl1 (And.intro hl2 hl3))))))))
            all_goals (clear hP2 hO' hE2 hl1 hl2 hl3 hor hExt hgrow hFo hSo hHo hEo HPm c0m nhFo nhHo)
            all_goals (go_wp2_with fail)
            all_goals (go_roundg (40 - (k + 1)); (case measure => go_light; omega); exact ⟨k + 1, at_ + n2, L, M + 1, N, fr, sp ++ [⟨at_, n2, c15, 3, 1, al, mk⟩], hd, fA, some ⟨g, 0, none⟩, hA, fc, cap, hc, ⟨HZ.out.2.2.2.2.2.1, by rw [List.length_append, HZ.out.2.2.2.2.2.2.1]; rfl, HZ.out.2.2.2.2.2.2.2⟩, by omega, rfl, by simp, by simp, by simp, by simp, by simp, HZ.out.1, HZ.out.2.1, HZ.out.2.2.1, HZ.out.2.2.2.1, HZ.out.2.2.2.2.1⟩)
          · have d14 : decide ((c15 : Int) < 14) = false := by simp; omega
            go_wp2_with fail
            go_region_law ((refine step_push (by rfl) _ _ 24 (by rfl) w.heap.size 66 iS (.agg #[.int .i64 0, .int .i64 0, .int .i64 0, .int .i64 0, .int .i64 0, .int .u64 0, .int .u64 0]) 7 56 Try.underlying24 HS.out.1 HS.out.2.1 HS.out.2.2.1 HS.out.2.2.2 (by rfl) (by omega) (.slice sA M sc) M (spanv sp) (by rfl) (HPn.out.2.2.1.ext ((Ext.refl _).alloc _).drew) ⟨wq.heap.size, 0, none⟩ 1 (span1 ⟨at_, n, c15, 3, 1, al, mk⟩) (by rfl) (fun j hj => span_cells_drew wq _ ⟨at_, n, c15, 3, 1, al, mk⟩ hj) (span1_one _) (by unfold maxLen; omega) (by omega) (by simp; omega) _ rfl (spanv (sp ++ [⟨at_, n, c15, 3, 1, al, mk⟩])) (fun j hj => spanv_old (by rw [HPn.out.2.2.2.2.2.2.1]; exact hj)) (fun j hj => by have := spanv_new (l := sp) (x := ⟨at_, n, c15, 3, 1, al, mk⟩) hj; rwa [HPn.out.2.2.2.2.2.2.1] at this) ?_; intro g cap w' hO' hgrow hExt hor hg))
            all_goals (have hP2 := HPn.out.1.span (c := (c15 : Int)) (n := n) (al := al) (mk := mk) (by omega) bn1 bn2 HA0.out)
            all_goals (obtain ⟨_, hFo, hSo, hHo, hEo, hl1, hl2, hl3⟩ := HPn.out)
            all_goals (have nhFo := (hFo.ext ((Ext.refl _).alloc _).drew).grown hgrow (own_types hFo hSo (by decide)))
            all_goals (have nhHo := (hHo.ext ((Ext.refl _).alloc _).drew).grown hgrow (own_types hHo hSo (by decide)))
            all_goals (have hE2 := hExt w (hEo.trans ((Ext.refl _).alloc _).drew) (Nat.le_refl _))
            all_goals (have HZ := Lib.hid (And.intro hP2 (And.intro nhFo (And.intro hO' (And.intro nhHo (And.intro hE2 (And.intro hl1 (And.intro hl2 hl3))))))))
            all_goals (clear hP2 hO' hE2 hl1 hl2 hl3 hor hExt hgrow hFo hSo hHo hEo HPn c0n nhFo nhHo)
            all_goals (go_wp2_with fail)
            all_goals (go_roundg (40 - (k + 1)); (case measure => go_light; omega); exact ⟨k + 1, at_ + n, L, M + 1, N, fr, sp ++ [⟨at_, n, c15, 3, 1, al, mk⟩], hd, fA, some ⟨g, 0, none⟩, hA, fc, cap, hc, ⟨HZ.out.2.2.2.2.2.1, by rw [List.length_append, HZ.out.2.2.2.2.2.2.1]; rfl, HZ.out.2.2.2.2.2.2.2⟩, by omega, rfl, by simp, by simp, by simp, by simp, by simp, HZ.out.1, HZ.out.2.1, HZ.out.2.2.1, HZ.out.2.2.2.1, HZ.out.2.2.2.2.1⟩)
    · have hK : decide ((k : Int) < (xs.length : Int)) = false ∨ decide ((k : Int) < 40) = false := by
        by_cases h : k < xs.length
        · exact .inr (by simp; omega)
        · exact .inl (by simp; omega)
      rcases hK with hK | hK
      · go_wp2_with fail
        all_goals exact parts_end HP.out hk rfl ⟨rfl, rfl, rfl, rfl⟩
      · go_wp2_with fail
        all_goals exact parts_end HP.out hk rfl ⟨rfl, rfl, rfl, rfl⟩
end Go.Proofs.Ytmpiodlkhjjbfaa
