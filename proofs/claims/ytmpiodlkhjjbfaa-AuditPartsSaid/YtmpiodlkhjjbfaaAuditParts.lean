/- AuditParts: the plain law and the walk. -/
import Derived.Test.YtmpiodlkhjjbfaaParts2
import Derived.Test.YtmpiodlkhjjbfaaAwake30
namespace Go.Proofs.Ytmpiodlkhjjbfaa
open Go.RowKit
set_option linter.unusedVariables false
set_option linter.unusedSimpArgs false

theorem pcs_cons (x : RunD) (fr : List RunD) (sp : List SpanD) (hd : List HandD) : pcs (x :: fr) sp hd = ⟨1, x.a, x.n⟩ :: pcs fr sp hd := rfl
theorem PI.sum {i at_ : Nat} {fr : List RunD} {sp : List SpanD} {hd : List HandD} (h : PI i at_ fr sp hd) (hi : i ≤ 40) (h0 : 1 ≤ at_) : sumP (pcs fr sp hd) = at_ := (h.whole hi h0).2.2.2
theorem PI.not {i at_ : Nat} {fr : List RunD} {sp : List SpanD} {hd : List HandD} (h : PI i at_ fr sp hd) (hi : i ≤ 40) (h0 : 1 ≤ at_) {q : Int} (hq : q ≠ at_) : ¬ WholeP q (pcs fr sp hd) := fun hw => by
  have h1 := hw.2.2.2
  have h2 := h.sum hi h0
  omega
theorem PI.who {i at_ p : Nat} {fr : List RunD} {sp : List SpanD} {hd : List HandD} (h : PI i at_ fr sp hd) (hp : p < at_) : whoN (pcs fr sp hd) p = 1 ∧ 1 ≤ whoK (pcs fr sp hd) p ∧ whoK (pcs fr sp hd) p ≤ 3 := by
  have h1 : whoN (pcs fr sp hd) p = 1 := by rw [who_cnt h.may, h.cnt p, if_pos ⟨by omega, by omega⟩]
  refine ⟨h1, ?_⟩
  unfold whoN at h1
  obtain ⟨x, hx⟩ := List.length_eq_one_iff.1 h1
  have hm : x ∈ (pcs fr sp hd).filter (fun x => hasB x p) := by rw [hx]; simp
  have hk : whoK (pcs fr sp hd) p = x.kind := by unfold whoK; rw [hx]; rfl
  rw [hk]
  rcases mem_pcs.1 (List.mem_filter.1 hm).1 with ⟨y, _, rfl⟩ | ⟨y, _, rfl⟩ | ⟨y, _, rfl⟩ <;> exact ⟨by dsimp only; omega, by dsimp only; omega⟩
theorem PI.twice {i at_ p : Nat} {fr : List RunD} {sp : List SpanD} {hd : List HandD} (h : PI i at_ fr sp hd) (hi : i ≤ 40) (hp : p < at_) : whoN (pcs (⟨p, 1⟩ :: fr) sp hd) p = 2 ∧ whoK (pcs (⟨p, 1⟩ :: fr) sp hd) p = 1 := by
  have hA := h.hat
  have h1 := (h.who hp).1
  have hb : hasB ⟨1, p, 1⟩ p = true := B_yes ⟨⟨by dsimp only; omega, by dsimp only; omega, by dsimp only; omega, by dsimp only; omega⟩, by dsimp only; omega, by dsimp only; omega⟩
  rw [pcs_cons]
  unfold whoN whoK at *
  rw [List.filter_cons, if_pos hb]
  exact ⟨by rw [List.length_cons, h1], rfl⟩
theorem PI.more {i at_ p n : Nat} {q : Int} {fr : List RunD} {sp : List SpanD} {hd : List HandD} (h : PI i at_ fr sp hd) (hp : p < at_) (hn : 1 ≤ n) : ¬ WholeP q (pcs (⟨p, n⟩ :: fr) sp hd) := fun hw => by
  have h1 := hw.2.2.1.2 p
  rw [pcs_cons, cntP_cons, if_pos (covB_iff.2 ⟨by dsimp only; omega, by dsimp only; omega⟩), h.cnt p, if_pos ⟨by omega, by omega⟩] at h1
  omega
theorem sumP_app (xs ys : List Pc) : sumP (xs ++ ys) = sumP xs + sumP ys := by simp [sumP]
theorem PI.less {i at_ : Nat} {x : SpanD} {fr : List RunD} {sp : List SpanD} {hd : List HandD} (h : PI i at_ fr (x :: sp) hd) (hi : i ≤ 40) (h0 : 1 ≤ at_) : ¬ WholeP at_ (pcs fr sp hd) := fun hw => by
  have h1 := h.sum hi h0
  have h2 := hw.2.2.2
  have h3 := h.may ⟨2, x.page, x.pages⟩ (mem_pcs.2 (.inr (.inl ⟨x, by simp, rfl⟩)))
  have h4 := h3.2.2.1
  dsimp only at h4
  unfold pcs at h1 h2
  rw [sumP_app, sumP_app] at h1 h2
  rw [List.map_cons, sumP_cons] at h1
  dsimp only at h1
  omega
theorem PI.quiet {i at_ : Nat} {fr : List RunD} {sp : List SpanD} {hd : List HandD} (h : PI i at_ fr sp hd) (hi : i ≤ 40) (h0 : 1 ≤ at_) : B (QuietP at_ 3 fr sp hd) = decide (hd.length = 0) := by
  rw [Bool.eq_iff_iff, B_iff, decide_eq_true_eq]
  exact ⟨fun hq => hq.2.1, fun hl => ⟨h.whole hi h0, hl, h.sq, h.gap⟩⟩

theorem runv_cons {x : RunD} {l : List RunD} {j : Nat} (h : j < 1 * 2) : runv (x :: l) j = runv [x] j := by
  unfold runv
  rw [show j / 2 = 0 by omega]
  rfl
theorem runv_tail {x : RunD} {l : List RunD} (j : Nat) : runv (x :: l) (1 * 2 + j) = runv l j := by
  unfold runv
  rw [show (1 * 2 + j) % 2 = j % 2 by omega, show (1 * 2 + j) / 2 = j / 2 + 1 by omega]
  rfl
theorem spanv_tail {x : SpanD} {l : List SpanD} (j : Nat) : spanv (x :: l) (1 * 7 + j) = spanv l j := by
  unfold spanv
  rw [show (1 * 7 + j) % 7 = j % 7 by omega, show (1 * 7 + j) / 7 = j / 7 + 1 by omega]
  rfl
theorem runv_one (l : List RunD) (j : Nat) : (runv l j).oneCell' = true := by unfold runv; split <;> rfl
theorem spanv_one (l : List SpanD) (j : Nat) : (spanv l j).oneCell' = true := by unfold spanv; split <;> rfl
theorem own_lit (w : World) (cs : Array Value) (t : TypeId) (n size : Nat) (F : Nat → Value) (hcs : cs.size = n * size) (hn : n ≤ maxLen) (h : ∀ j, j < n * size → cs[j]? = some (F j)) : OwnS (w.alloc (.cells cs t)) w.heap.size t size (.slice (some ⟨w.heap.size, 0, none⟩) n n) n F := by
  refine ⟨by simp, .inr ⟨w.heap.size, n, cs, rfl, Nat.le_refl _, Deep.blk_alloc_new w _, Nat.le_refl _, hn, hcs, ?_⟩⟩
  apply List.ext_getElem?
  intro k
  rw [List.getElem?_take, List.getElem?_map]
  by_cases hk : k < n * size
  · rw [if_pos hk, List.getElem?_range hk, Array.getElem?_toList, h k hk]; rfl
  · rw [if_neg hk, List.getElem?_eq_none (by simp; omega)]; rfl
theorem own_run (w : World) (a n : Int) : OwnS (w.alloc (.cells #[.int .i64 a, .int .i64 n] 33)) w.heap.size 33 2 (.slice (some ⟨w.heap.size, 0, none⟩) 1 1) 1 (runv [⟨a, n⟩]) :=
  own_lit w _ _ 1 2 _ rfl (by decide) (fun j hj => by
    rcases (by omega : j = 0 ∨ j = 1) with rfl | rfl <;> rfl)
theorem own_read {w : World} {base t sz n c : Nat} {A : Option Addr} {F : Nat → Value} (h : OwnS w base t sz (.slice A n c) n F) : SlR w A n sz F ∧ n ≤ c := by
  obtain ⟨A', c', hv, hc, hs⟩ := h.form
  cases hv
  exact ⟨hs, hc⟩

set_option maxHeartbeats 4000000 in
set_option maxRecDepth 100000 in
theorem auditParts_any (A : Option Addr) (xs : List Nat) (c wh mo : Nat) (w : World) (hwh : wh < 256) (hmo : mo < 256) (hn : xs.length ≤ maxLen) (hl : BytesR2 w A xs) :
    Calls Try.prog 3 #[.slice A xs.length c, .int .u8 wh, .int .u8 mo] w fun e w' => e = .returned (.bool true) ∧ Ext w w' := by
  have HL := Lib.hid (And.intro hn hl)
  clear hl hn
  obtain ⟨iR, hi, hz0, hz1, hz2⟩ := info_parts Try.infoRun
  have HR := Lib.hid (And.intro hi (And.intro hz0 (And.intro hz1 hz2)))
  clear hi hz0 hz1 hz2
  obtain ⟨iS, hi, hz0, hz1, hz2⟩ := info_parts Try.infoSpan
  have HS := Lib.hid (And.intro hi (And.intro hz0 (And.intro hz1 hz2)))
  clear hi hz0 hz1 hz2
  go_enter Try.func3, Try.ntmps3
  go_wp2_with fail
  refine (parts_any A xs c w HL.out.1 HL.out.2).mono ?_
  rintro e w1 ⟨i, n, fr, sp, hd, fA, sA, hA, fc, sc, hc, hi40, rfl, hP, hF, hS, hH, hE⟩
  by_cases h0 : n = 0
  · subst h0
    have hB : B (WholeP 0 (pcs [] [] [])) = false := B_no (fun h => by have := h.1; omega)
    have HB := Lib.hid hB
    clear hB
    go_wp2_with fail
    refine (whole_any [] [] [] none none none 0 0 0 0 w1 (by decide) (by decide) (by decide) SlR.nil SlR.nil SlR.nil).mono ?_
    rintro e w2 ⟨rfl, hE2⟩
    rw [HB.out]
    go_wp2_with fail
    refine (awake30_any _).mono ?_
    rintro e w3 ⟨rfl, hE3⟩
    go_wp2_with fail
    go_ret
    exact ⟨rfl, (hE.trans hE2).trans hE3⟩
  have hn1 : 1 ≤ n := by omega
  have e0 : ((n : Int) == 0) = false := by simp; omega
  have hn4 := hP.hat
  have lf := hP.lf
  have ls := hP.ls
  have lh := hP.lh
  have mf : fr.length ≤ maxLen := by unfold maxLen; omega
  have ms : sp.length ≤ maxLen := by unfold maxLen; omega
  have mh : hd.length ≤ maxLen := by unfold maxLen; omega
  have HP := Lib.hid (And.intro hP (And.intro hF (And.intro hS (And.intro hH hE))))
  have HRd := Lib.hid (And.intro (own_read hF).1 (And.intro (own_read hS).1 (own_read hH).1))
  have hB1 := B_yes (hP.whole hi40 hn1)
  have hB2 := B_no (hP.not hi40 hn1 (q := (n : Int) + 1) (by omega))
  have hB3 := B_no (hP.not hi40 hn1 (q := (n : Int) - 1) (by omega))
  have HB := Lib.hid (And.intro hB1 (And.intro hB2 hB3))
  clear hB1 hB2 hB3 hF hS hH hE h0
  go_wp2_with fail
  refine (whole_any fr sp hd fA sA hA fc sc hc n w1 mf ms mh HRd.out.1 HRd.out.2.1 HRd.out.2.2).mono ?_
  rintro e w2 ⟨rfl, hE2⟩
  rw [HB.out.1]
  go_wp2_with fail
  refine (whole_any fr sp hd fA sA hA fc sc hc ((n : Int) + 1) w2 mf ms mh (SlR.ext HRd.out.1 hE2) (SlR.ext HRd.out.2.1 hE2) (SlR.ext HRd.out.2.2 hE2)).mono ?_
  rintro e w3 ⟨rfl, hE3⟩
  rw [HB.out.2.1]
  have hE3' := hE2.trans hE3
  go_wp2_with fail
  refine (whole_any fr sp hd fA sA hA fc sc hc ((n : Int) - 1) w3 mf ms mh (SlR.ext HRd.out.1 hE3') (SlR.ext HRd.out.2.1 hE3') (SlR.ext HRd.out.2.2 hE3')).mono ?_
  rintro e w4 ⟨rfl, hE4⟩
  rw [HB.out.2.2]
  have hE4' := hE3'.trans hE4
  obtain ⟨p, hp⟩ : ∃ p, wh % n = p := ⟨_, rfl⟩
  have hpn : p < n := by rw [← hp]; exact Nat.mod_lt _ (by omega)
  have ep : (wh : Int) % (n : Int) = (p : Int) := by rw [← hp]; simp
  have n0 : ¬ n = 0 := by omega
  clear hp hE2 hE3 hE4 hE3'
  have HRd4 := Lib.hid (And.intro (SlR.ext HRd.out.1 hE4') (And.intro (SlR.ext HRd.out.2.1 hE4') (SlR.ext HRd.out.2.2 hE4')))
  go_wp2_with fail
  refine (who_any fr sp hd fA sA hA fc sc hc p w4 mf ms mh (by rw [pcs_len]; omega) HRd4.out.1 HRd4.out.2.1 HRd4.out.2.2).mono ?_
  rintro e w5 ⟨rfl, hE5⟩
  have hw := hP.who hpn
  rw [hw.1]
  obtain ⟨K, hK⟩ : ∃ K, whoK (pcs fr sp hd) p = K := ⟨_, rfl⟩
  rw [hK] at hw ⊢
  obtain ⟨_, k1, k3⟩ := hw
  clear hK
  have hE5' := hE4'.trans hE5
  clear hE5
  have HE5 := Lib.hid hE5'
  clear hE5'
  have HRd5 := Lib.hid (And.intro (SlR.ext HRd.out.1 HE5.out) (And.intro (SlR.ext HRd.out.2.1 HE5.out) (SlR.ext HRd.out.2.2 HE5.out)))
  go_wp2_with (at_builtin; go_loud (refine wpList_pushAll rfl _ _ 23 rfl w5.heap.size 33 iR (.agg #[.int .i64 0, .int .i64 0]) 2 16 Try.underlying23 HR.out.1 HR.out.2.1 HR.out.2.2.1 HR.out.2.2.2 rfl (by decide) _ 1 (runv [⟨p, 1⟩]) rfl (own_run w5 _ _) fA fr.length fc (runv fr) rfl ?r2 (fun j _ => runv_one _ _) ?b632 ?bby2 ?bba2 (runv (⟨p, 1⟩ :: fr)) (fun j hj => runv_cons hj) (fun j _ => runv_tail j) (fr.length + 1) ?bN2 ?_); (case r2 => exact SlR.ext HRd5.out.1 ((Ext.refl _).alloc _)); (case b632 => unfold maxLen; omega); (case bby2 => omega); (case bba2 => simp); (case bN2 => omega); intro A2 c2 w6 hO2 hg2 hX2 hor2)
  have hX2' := hX2 w5 ((Ext.refl _).alloc _) (Nat.le_refl _)
  have HO2 := Lib.hid (And.intro (own_read hO2).1 hX2')
  clear hO2 hg2 hX2 hor2 hX2'
  refine (who_any (⟨p, 1⟩ :: fr) sp hd A2 sA hA c2 sc hc p w6 (by unfold maxLen; simp; omega) ms mh (by rw [pcs_len]; simp; omega) HO2.out.1 (SlR.ext HRd5.out.2.1 HO2.out.2) (SlR.ext HRd5.out.2.2 HO2.out.2)).mono ?_
  rintro e w7 ⟨rfl, hE7⟩
  rw [(hP.twice hi40 hpn).1, (hP.twice hi40 hpn).2]
  have hE7' := HE5.out.trans (HO2.out.2.trans hE7)
  have HE7 := Lib.hid hE7'
  have HRd7 := Lib.hid (And.intro (SlR.ext HRd.out.1 hE7') (And.intro (SlR.ext HRd.out.2.1 hE7') (SlR.ext HRd.out.2.2 hE7')))
  clear hE7 hE7'
  obtain ⟨m3, hm3⟩ : ∃ m3, 1 + mo % 3 = m3 := ⟨_, rfl⟩
  have e3 : 1 + (mo : Int) % 3 = (m3 : Int) := by omega
  have bm3 : 1 ≤ m3 := by omega
  clear hm3
  have t1 : decide (K < 1) = false := by simp; omega
  have t3 : decide (3 < K) = false := by simp; omega
  go_wp2_with (at_builtin; go_loud (refine wpList_pushAll rfl _ _ 23 rfl w7.heap.size 33 iR (.agg #[.int .i64 0, .int .i64 0]) 2 16 Try.underlying23 HR.out.1 HR.out.2.1 HR.out.2.2.1 HR.out.2.2.2 rfl (by decide) _ 1 (runv [⟨p, m3⟩]) rfl (own_run w7 _ _) fA fr.length fc (runv fr) rfl ?r3 (fun j _ => runv_one _ _) ?b633 ?bby3 ?bba3 (runv (⟨p, m3⟩ :: fr)) (fun j hj => runv_cons hj) (fun j _ => runv_tail j) (fr.length + 1) ?bN3 ?_); (case r3 => exact SlR.ext HRd7.out.1 ((Ext.refl _).alloc _)); (case b633 => unfold maxLen; omega); (case bby3 => omega); (case bba3 => simp); (case bN3 => omega); intro A3 c3 w8 hO3 hg3 hX3 hor3)
  have hX3' := hX3 w7 ((Ext.refl _).alloc _) (Nat.le_refl _)
  have HO3 := Lib.hid (And.intro (own_read hO3).1 hX3')
  clear hO3 hg3 hX3 hor3 hX3'
  have hB4 := B_no (hP.more (q := (n : Int)) hpn bm3)
  have HB4 := Lib.hid hB4
  clear hB4
  refine (whole_any (⟨p, m3⟩ :: fr) sp hd A3 sA hA c3 sc hc n w8 (by unfold maxLen; simp; omega) ms mh HO3.out.1 (SlR.ext HRd7.out.2.1 HO3.out.2) (SlR.ext HRd7.out.2.2 HO3.out.2)).mono ?_
  rintro e w9 ⟨rfl, hE9⟩
  rw [HB4.out]
  have hE9' := HE7.out.trans (HO3.out.2.trans hE9)
  have HE9 := Lib.hid hE9'
  have HRd9 := Lib.hid (And.intro (SlR.ext HRd.out.1 hE9') (And.intro (SlR.ext HRd.out.2.1 hE9') (SlR.ext HRd.out.2.2 hE9')))
  clear hE9 hE9'
  have HQ := Lib.hid (hP.quiet hi40 hn1)
  by_cases hsp : sp.length = 0
  · obtain rfl : sp = [] := List.eq_nil_of_length_eq_zero hsp
    clear hsp
    go_wp2_with fail
    refine (quiet_any fr [] hd fA _ hA fc sc hc n 3 w9 mf ms mh (SlR.ext HRd.out.1 HE9.out) (SlR.ext HRd.out.2.1 HE9.out) (SlR.ext HRd.out.2.2 HE9.out)).mono ?_
    rintro e wq ⟨rfl, hEq⟩
    rw [HQ.out]
    by_cases hh : hd.length = 0
    · have q1 : decide (hd.length = 0) = true := by simpa using hh
      have q2 : ((hd.length : Int) == 0) = true := by simpa using hh
      have HHd := Lib.hid hh
      clear hh
      rw [q1]
      clear q1
      go_wp2_with fail
      refine (awake30_any _).mono ?_
      rintro e wr ⟨rfl, hEr⟩
      go_wp2_with fail
      go_ret
      exact ⟨rfl, HP.out.2.2.2.2.trans (HE9.out.trans (hEq.trans hEr))⟩
    · have q1 : decide (hd.length = 0) = false := by simpa using hh
      have q2 : ((hd.length : Int) == 0) = false := by simpa using hh
      rw [q1]
      clear q1
      go_wp2_with fail
      refine (awake30_any _).mono ?_
      rintro e wr ⟨rfl, hEr⟩
      go_wp2_with fail
      go_ret
      exact ⟨rfl, HP.out.2.2.2.2.trans (HE9.out.trans (hEq.trans hEr))⟩
  · obtain ⟨x, sp', rfl⟩ : ∃ x sp', sp = x :: sp' := by
      cases sp with
      | nil => simp at hsp
      | cons x sp' => exact ⟨x, sp', rfl⟩
    have ts : decide ((0 : Int) < ((x :: sp').length : Int)) = true := decide_eq_true (by rw [List.length_cons]; omega)
    have HB5 := Lib.hid (B_no (hP.less hi40 hn1))
    obtain ⟨gS, cS, hfa⟩ := HP.out.2.2.1.form' (by simp)
    obtain ⟨rfl, rfl⟩ : sA = some ⟨gS, 0, none⟩ ∧ sc = cS := by injection hfa with h1 h2 h3; exact ⟨h1, h3⟩
    have hcap := (own_read HP.out.2.2.1).2
    have l1 : (x :: sp').length = sp'.length + 1 := rfl
    rw [l1] at hcap
    have hsl : sp'.length ≤ 40 := by rw [l1] at ls; omega
    have hcell := HRd9.out.2.1
    clear hfa hsp l1
    by_cases hc1 : sc = 1
    · subst hc1
      have hs0 : sp'.length = 0 := by omega
      obtain rfl : sp' = [] := List.eq_nil_of_length_eq_zero hs0
      clear hs0 hcell
      go_wp2_with (at_builtin; go_loud (refine wpList_pushAll rfl _ _ 24 rfl w9.heap.size 66 iS (.agg #[.int .i64 0, .int .i64 0, .int .i64 0, .int .i64 0, .int .i64 0, .int .u64 0, .int .u64 0]) 7 56 Try.underlying24 HS.out.1 HS.out.2.1 HS.out.2.2.1 HS.out.2.2.2 rfl (by decide) _ 0 (spanv []) rfl (OwnS.lit0 _ _ _ _) _ 0 _ (spanv []) rfl ?r5 (fun j _ => spanv_one _ _) ?b635 ?bby5 ?bba5 (spanv []) ?ho5 ?hn5 0 ?bN5 ?_); (case r5 => exact SlR.nil); (case b635 => unfold maxLen; omega); (case bby5 => omega); (case bba5 => simp); (case ho5 => exact fun j hj => absurd hj (by omega)); (case hn5 => exact fun j _ => by simp); (case bN5 => omega); intro A5 c5 w10 hO5 hg5 hX5 hor5)
      have hX' := hX5 w9 ((Ext.refl _).alloc _) (Nat.le_refl _)
      refine (whole_any fr [] hd fA A5 hA fc c5 hc n w10 mf (by unfold maxLen; simp; try omega) mh (SlR.ext HRd9.out.1 hX') (own_read hO5).1 (SlR.ext HRd9.out.2.2 hX')).mono ?_
      rintro e w11 ⟨rfl, hE11⟩
      rw [HB5.out]
      have HE11 := Lib.hid (HE9.out.trans (hX'.trans hE11))
      clear hO5 hg5 hX5 hor5 hX' hE11
      go_wp2_with fail
      refine (quiet_any fr [x] hd fA (some ⟨gS, 0, none⟩) hA fc 1 hc n 3 w11 mf ms mh (SlR.ext HRd.out.1 HE11.out) (SlR.ext HRd.out.2.1 HE11.out) (SlR.ext HRd.out.2.2 HE11.out)).mono ?_
      rintro e wq ⟨rfl, hEq⟩
      rw [HQ.out]
      by_cases hh : hd.length = 0
      · have q1 : decide (hd.length = 0) = true := by simpa using hh
        have q2 : ((hd.length : Int) == 0) = true := by simpa using hh
        have HHd := Lib.hid hh
        clear hh
        rw [q1]
        clear q1
        go_wp2_with fail
        refine (awake30_any _).mono ?_
        rintro e wr ⟨rfl, hEr⟩
        go_wp2_with fail
        go_ret
        exact ⟨rfl, HP.out.2.2.2.2.trans (HE11.out.trans (hEq.trans hEr))⟩
      · have q1 : decide (hd.length = 0) = false := by simpa using hh
        have q2 : ((hd.length : Int) == 0) = false := by simpa using hh
        rw [q1]
        clear q1
        go_wp2_with fail
        refine (awake30_any _).mono ?_
        rintro e wr ⟨rfl, hEr⟩
        go_wp2_with fail
        go_ret
        exact ⟨rfl, HP.out.2.2.2.2.trans (HE11.out.trans (hEq.trans hEr))⟩
    · have HCut := Lib.hid (show SlR w9 (some ⟨gS, 7, none⟩) sp'.length 7 (spanv sp') from by have h := hcell.cut' (a := 1) (d := sp'.length) (c := sc) (by simp; omega) (by simp; omega) hc1 (spanv sp') (fun j => spanv_tail j); simpa [Addr.add] using h)
      clear hcell
      go_wp2_with (at_builtin; go_loud (refine wpList_pushAll rfl _ _ 24 rfl w9.heap.size 66 iS (.agg #[.int .i64 0, .int .i64 0, .int .i64 0, .int .i64 0, .int .i64 0, .int .u64 0, .int .u64 0]) 7 56 Try.underlying24 HS.out.1 HS.out.2.1 HS.out.2.2.1 HS.out.2.2.2 rfl (by decide) _ 0 (spanv sp') rfl (OwnS.lit0 _ _ _ _) _ sp'.length _ (spanv sp') rfl ?r6 (fun j _ => spanv_one _ _) ?b636 ?bby6 ?bba6 (spanv sp') ?ho6 ?hn6 sp'.length ?bN6 ?_); (case r6 => exact SlR.ext HCut.out ((Ext.refl _).alloc _)); (case b636 => unfold maxLen; omega); (case bby6 => omega); (case bba6 => simp); (case ho6 => exact fun j hj => absurd hj (by omega)); (case hn6 => exact fun j _ => by simp); (case bN6 => omega); intro A6 c6 w10 hO6 hg6 hX6 hor6)
      have hX' := hX6 w9 ((Ext.refl _).alloc _) (Nat.le_refl _)
      refine (whole_any fr sp' hd fA A6 hA fc c6 hc n w10 mf (by unfold maxLen; simp; try omega) mh (SlR.ext HRd9.out.1 hX') (own_read hO6).1 (SlR.ext HRd9.out.2.2 hX')).mono ?_
      rintro e w11 ⟨rfl, hE11⟩
      rw [HB5.out]
      have HE11 := Lib.hid (HE9.out.trans (hX'.trans hE11))
      clear hO6 hg6 hX6 hor6 hX' hE11
      go_wp2_with fail
      refine (quiet_any fr (x :: sp') hd fA (some ⟨gS, 0, none⟩) hA fc sc hc n 3 w11 mf ms mh (SlR.ext HRd.out.1 HE11.out) (SlR.ext HRd.out.2.1 HE11.out) (SlR.ext HRd.out.2.2 HE11.out)).mono ?_
      rintro e wq ⟨rfl, hEq⟩
      rw [HQ.out]
      by_cases hh : hd.length = 0
      · have q1 : decide (hd.length = 0) = true := by simpa using hh
        have q2 : ((hd.length : Int) == 0) = true := by simpa using hh
        have HHd := Lib.hid hh
        clear hh
        rw [q1]
        clear q1
        go_wp2_with fail
        refine (awake30_any _).mono ?_
        rintro e wr ⟨rfl, hEr⟩
        go_wp2_with fail
        go_ret
        exact ⟨rfl, HP.out.2.2.2.2.trans (HE11.out.trans (hEq.trans hEr))⟩
      · have q1 : decide (hd.length = 0) = false := by simpa using hh
        have q2 : ((hd.length : Int) == 0) = false := by simpa using hh
        rw [q1]
        clear q1
        go_wp2_with fail
        refine (awake30_any _).mono ?_
        rintro e wr ⟨rfl, hEr⟩
        go_wp2_with fail
        go_ret
        exact ⟨rfl, HP.out.2.2.2.2.trans (HE11.out.trans (hEq.trans hEr))⟩
end Go.Proofs.Ytmpiodlkhjjbfaa
