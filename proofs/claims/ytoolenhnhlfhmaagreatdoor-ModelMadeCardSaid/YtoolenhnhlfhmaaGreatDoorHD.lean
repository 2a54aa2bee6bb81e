/- Walks: the document's lay. Walks: the document's back. -/
import Derived.Test.YtoolenhnhlfhmaaGreatDoorHC
namespace Go.Proofs.YtoolenhnhlfhmaaGreatDoor
open Go.RowKit Go.Sort
set_option linter.unusedVariables false
set_option linter.unusedSimpArgs false
/-- Within the region: what those that are listed have left. -/
structure LayI (m : ModelD) (y : HoldD) (k d sc : Nat) (S1 qA : Option Addr) (wc : World) (L : Nat→Bool) (u98 u99 u100 u101 u102 u103 u104 u105 u106 u107 u108 u109 u110 u111 u112 u113 u114 u115 u116 u117 u118 : Value) (w' : World) : Prop where
 s0 : L 0=true→u98=.pointer (some ⟨d,0,none⟩)
 n1 : L 1=true→L 8=false→∃ A c,u99=.slice A 0 c∧OwnS w' wc.heap.size 51 8 (.slice A 0 c) 0 (holdsV (cutIn m.spans k k [y]))
 s2 : L 2=true→u100=.pointer (some ⟨d,0,none⟩)
 s3 : L 3=true→u101=.pointer (some ⟨d,0,none⟩)
 s4 : L 4=true→u102=.pointer (some ⟨d,3,none⟩)
 s5 : L 5=true→u103=.slice S1 m.spans.length sc
 s6 : L 6=true→u104=.int .i64 (k : Int)
 s7 : L 7=true→u105=.slice S1 k sc
 n8 : L 8=true→L 11=false→∃ A c,u106=.slice A k c∧OwnS w' wc.heap.size 51 8 (.slice A k c) k (holdsV (cutIn m.spans k k [y]))
 s9 : L 9=true→u107=.agg #[.int .i64 y.page,.int .i64 y.pages,.int .i64 y.cls,.int .i64 y.holder,.int .i64 y.claim,.bool y.swept,.int .u64 (y.alloc : Int),.int .u64 (y.marks : Int)]
 n10 : L 10=true→L 11=false→∃ g,u108=.slice (some ⟨g,0,none⟩) 1 1∧Blk w' g 51 #[.int .i64 y.page,.int .i64 y.pages,.int .i64 y.cls,.int .i64 y.holder,.int .i64 y.claim,.bool y.swept,.int .u64 (y.alloc : Int),.int .u64 (y.marks : Int)]
 n11 : L 11=true→L 18=false→∃ A c,u109=.slice A (k + 1) c∧OwnS w' wc.heap.size 51 8 (.slice A (k + 1) c) (k + 1) (holdsV (cutIn m.spans k k [y]))
 s12 : L 12=true→u110=.pointer (some ⟨d,0,none⟩)
 s13 : L 13=true→u111=.pointer (some ⟨d,0,none⟩)
 s14 : L 14=true→u112=.pointer (some ⟨d,3,none⟩)
 s15 : L 15=true→u113=.slice S1 m.spans.length sc
 s16 : L 16=true→u114=.int .i64 (k : Int)
 s17 : L 17=true→u115=.slice qA (m.spans.length - k) (sc - k)
 n18 : L 18=true→L 21=false→∃ A c,u116=.slice A (cutIn m.spans k k [y]).length c∧OwnS w' wc.heap.size 51 8 (.slice A (cutIn m.spans k k [y]).length c) (cutIn m.spans k k [y]).length (holdsV (cutIn m.spans k k [y]))
 s19 : L 19=true→u117=.pointer (some ⟨d,0,none⟩)
 s20 : L 20=true→u118=.pointer (some ⟨d,3,none⟩)
 ne0 : L 10=true→L 11=false→L 1=true→L 8=false→u99.ownBlock≠u108.ownBlock
 ne1 : L 10=true→L 11=false→L 8=true→u106.ownBlock≠u108.ownBlock
 z1 : L 8=true→L 1=true
 z2 : L 11=true→L 8=true∧L 10=true
 z3 : L 18=true→L 11=true
 z5 : L 20=true→L 19=true
 z4 : L 21=true→∀ j,j < 21→L j=true
 ext : L 21=false→Ext wc w'
 fin : L 21=true→∃ w1 A c,w'=w1.setCell ⟨d,3,none⟩ (.slice A (cutIn m.spans k k [y]).length c)∧Ext wc w1∧OwnS w1 wc.heap.size 51 8 (.slice A (cutIn m.spans k k [y]).length c) (cutIn m.spans k k [y]).length (holdsV (cutIn m.spans k k [y]))
theorem OwnS.lec {w : World} {base : Nat} {e : TypeId} {sz n c : Nat} {A : Option Addr} {F : Nat→Value} (h : OwnS w base e sz (.slice A n c) n F) : n≤c:=by
 obtain ⟨A',c',e1,h2⟩:=h.ofSlice
 injection e1 with a1 a2 a3
 rw [a3]; exact h2
theorem slr_blk8 {w : World} {g t : Nat} {y : HoldD} (h : Blk w g t #[.int .i64 y.page,.int .i64 y.pages,.int .i64 y.cls,.int .i64 y.holder,.int .i64 y.claim,.bool y.swept,.int .u64 (y.alloc : Int),.int .u64 (y.marks : Int)]) : SlR w (some ⟨g,0,none⟩) 1 8 (holdC y):=fun _=>⟨g,0,rfl,fun j hj=>by
 obtain rfl | rfl | rfl | rfl | rfl | rfl | rfl | rfl : j=0∨j=1∨j=2∨j=3∨j=4∨j=5∨j=6∨j=7:=(by omega)
 all_goals exact h.cell rfl⟩
set_option maxHeartbeats 8000000 in
set_option maxRecDepth 100000 in
theorem lay28_any (m : ModelD) (d base : Nat) (F H S G : Value) (x : MarkD) (w : World) (hmay : May2 m) (hx : MarkOk x) (hbase : base≤w.heap.size) (hD : RefM w d base m F H S G) :
  Calls Tryz.prog 33 #[.pointer (some ⟨d,0,none⟩),markV x] w fun e w'=>KeepD base d w w'∧w.heap.size≤w'.heap.size∧((e=.returned (.bool false)∧LayN m x)∨(e=.returned (.bool true)∧∃ m' H' S',LayR m x m'∧RefM w' d base m' F H' S' G)):=by
 obtain ⟨W0,hW0⟩ : ∃ W0,W0=w.alloc (.cells (markA x) 34):=⟨_,rfl⟩
 have hE0 : Ext w W0:=hW0▸(Ext.refl w).alloc _
 have hxb : Blk W0 w.heap.size 34 (markA x):=hW0▸Blk.new _ _ _ _ rfl
 obtain ⟨F1,H1,S1,G1,fc,hc,sc,gc,rfl,rfl,rfl,rfl⟩:=hD.own.slices
 have hlen:=may2_len hmay
 have hlm:=(may2_iff.2 hmay).len
 have hpg:=hmay.pages
 have HsC:=Lib.hid hD.own.spans.lec
 obtain ⟨i0,hi0,hz0,hs0,hb0⟩:=info_parts Tryz.infoMHold
 have HI:=Lib.hid (And.intro hi0 (And.intro hz0 (And.intro hs0 hb0)))
 clear hi0 hz0 hs0 hb0
 have hdw : d < w.heap.size:=hD.blk.lt
 have hD0:=hD.ext hE0
 obtain ⟨t0,t1,t2,t3,t4⟩:=Blk.c5 hD0.blk
 have y0:=fun d os=>cell_regrown t0 d os
 have y1:=fun d os=>cell_regrown t1 d os
 have y2:=fun d os=>cell_regrown t2 d os
 have y3:=fun d os=>cell_regrown t3 d os
 have y4:=fun d os=>cell_regrown t4 d os
 obtain ⟨s0,s1,s2,s3,s4,s5⟩:=Blk.c6 hxb
 have m1:=fun d os=>cell_regrown s1 d os
 have m3:=fun d os=>cell_regrown s3 d os
 have hCH : ∀ W,Ext W0 W→Calls Tryz.prog 67 #[.agg #[.int .i64 m.pages,.slice F1 m.free.length fc,.slice H1 m.hands.length hc,.slice S1 m.spans.length sc,.slice G1 m.gone.length gc],.int .i64 x.thread,.int .i64 x.page] W fun e w'=>e=.returned (.int .i64 (handI m x.thread x.page))∧Ext W w':=fun W hW=>hand28I m F1 H1 S1 G1 fc hc sc gc x.thread x.page W hlen.hands (hD0.reads.ext hW)
 have hCG : ∀ W,Ext W0 W→∀ p : Int,Calls Tryz.prog 66 #[.agg #[.int .i64 m.pages,.slice F1 m.free.length fc,.slice H1 m.hands.length hc,.slice S1 m.spans.length sc,.slice G1 m.gone.length gc],.int .i64 p] W fun e w'=>e=.returned (.bool (B (∃ i,i < m.gone.length∧ix 0 m.gone i=p)))∧Ext W w':=fun W hW p=>gone28_any m F1 H1 S1 G1 fc hc sc gc p W hlen.gone (hD0.reads.ext hW)
 have HC:=Lib.hid (And.intro hCH hCG)
 have HW:=Lib.hid (And.intro hW0 (And.intro hE0 (And.intro hxb (And.intro hD0 (And.intro hmay (And.intro hlen hx))))))
 have HRi:=Lib.hid ((pw_rises (d:=noHold) (K:=pageK)).1 hmay.span)
 have hxm:=hx.mask
 obtain ⟨l2,l3⟩ : m.hands.length≤4096∧m.spans.length≤4096:=by omega
 clear hW0 hE0 hxb hD hmay hlen hx hD0 hCH hCG hlm t0 t1 t3 t4 s0 s2 s4
 unfold markV
 unfold markA at HW
 go_enter Tryz.func33,Tryz.ntmps33
 go_upto_region 1 with fail
 rw [← HW.out.1]
 refine wp_region_quiet_below (by kernel_rfl) (by kernel_rfl) ?_
 repeat (go_big_quiet_step ((go_at_call 67; exact Calls.regrown_of (HC.out.1 _ (below_regrown _ _ _)))))
 refine wpQuiet_nil ?_
 intro _ hw'
 obtain ⟨⟨dq,osq⟩,hw''⟩:=hw'
 subst hw''
 obtain ⟨W1,hW1⟩ : ∃ W1,W1=grow (redrawn W0 dq) osq:=⟨_,rfl⟩
 have hE1 : Ext W0 W1:=hW1▸below_regrown _ _ _
 rw [← hW1]
 have hD1:=HW.out.2.2.2.1.ext hE1
 have hx1:=HW.out.2.2.1.ext hE1
 clear hW1 y0 y1 y2 y3 y4 m1 m3 t2 s1 s3 s5
 obtain ⟨y0,y1,y2,y3,y4⟩:=Blk.c5 hD1.blk
 obtain ⟨m0,m1,m2,m3,m4,m5⟩:=Blk.c6 hx1
 have HE1:=Lib.hid (And.intro hE1 (And.intro hD1 hx1))
 clear hE1 hD1 hx1
 have hq:=firstQ_ok m.hands.length (fun j=>(ix noHand m.hands j).t=x.thread∧(ix noHand m.hands j).at_=x.page)
 obtain ⟨r,hr⟩ : ∃ r,handI m x.thread x.page=r:=⟨_,rfl⟩
 have hr2 : firstI (fun j=>(ix noHand m.hands j).t=x.thread∧(ix noHand m.hands j).at_=x.page) m.hands.length 0=r:=hr
 rw [hr2] at hq
 rw [hr]
 clear hr hr2
 rcases hq with ⟨rfl,hno⟩ | ⟨j,rfl,hj,hP,hfirst⟩
 ·have HN:=Lib.hid (show LayN m x from fun j hj hP _=>absurd hP (hno j hj))
  clear hno
  go_wp2
  go_ret
  exact ⟨KeepD.ext (HW.out.2.1.trans HE1.out.1),(HW.out.2.1.trans HE1.out.1).size,.inl ⟨rfl,HN.out⟩⟩
 have hHP : HandP m x j:=hP
 have hu : ∀ i,i < m.hands.length→HandP m x i→(∀ q,q < i→¬ HandP m x q)→i=j:=fun i hi h1 h2=>HandP.uniq h1 h2 hHP hfirst
 have c0 : decide ((j : Int) < 0)=false:=decide_eq_false (by omega)
 have HP:=Lib.hid (And.intro hHP (And.intro hu hfirst))
 clear hP hHP hu hfirst
 by_cases hn : 0≤x.n∧x.n≤14
 rotate_left
 ·have HN:=Lib.hid (show LayN m x from fun i hi h1 h2 hl=>hn hl.1)
  have hcs : decide (x.n < 0)=true∨(decide (x.n < 0)=false∧decide (14 < x.n)=true):=by
   simp only [decide_eq_true_eq,decide_eq_false_iff_not]; omega
  clear hn
  rcases hcs with c1 | ⟨c1,c2⟩
  all_goals
   go_wp2
   go_ret
   exact ⟨KeepD.ext (HW.out.2.1.trans HE1.out.1),(HW.out.2.1.trans HE1.out.1).size,.inl ⟨rfl,HN.out⟩⟩
 obtain ⟨n0,n14⟩:=hn
 have c1 : decide (x.n < 0)=false:=decide_eq_false (by omega)
 have c2 : decide (14 < x.n)=false:=decide_eq_false (by omega)
 obtain ⟨⟨hT,hA,hN⟩,hh⟩ : ∃ h,ix noHand m.hands j=h:=⟨_,rfl⟩
 obtain ⟨b,off,rfl,hcl⟩:=HE1.out.2.1.own.hands.slr (by omega)
 have a0 : W1.cell? ⟨b,off + j * 3,none⟩=some (.int .i64 hT):=(hcl (j * 3) (by omega)).trans (congrArg some ((handV0 m.hands j).trans (by rw [hh])))
 have a1 : W1.cell? ⟨b,off + j * 3 + 1,none⟩=some (.int .i64 hA):=(hcl (j * 3 + 1) (by omega)).trans (congrArg some ((handV1 m.hands j).trans (by rw [hh])))
 have a2 : W1.cell? ⟨b,off + j * 3 + 2,none⟩=some (.int .i64 hN):=(hcl (j * 3 + 2) (by omega)).trans (congrArg some ((handV2 m.hands j).trans (by rw [hh])))
 have q0 : (0 : Int)≤(j : Int):=by omega
 have q1 : (j : Int) < (m.hands.length : Int):=by omega
 obtain ⟨W2,hW2⟩ : ∃ W2,W2=W1.alloc (.cells #[.int .i64 hT,.int .i64 hA,.int .i64 hN] 56):=⟨_,rfl⟩
 have hE2 : Ext W1 W2:=hW2▸(Ext.refl W1).alloc _
 have hhb : Blk W2 W1.heap.size 56 #[.int .i64 hT,.int .i64 hA,.int .i64 hN]:=hW2▸Blk.new _ _ _ _ rfl
 have hfit:=fit_hand HW.out.2.2.2.2.1 (ixMem (d:=noHand) hj)
 rw [hh] at hfit
 obtain ⟨g1,g2,g3,g4⟩:=hfit
 unfold fH at g1 g2 g3 g4
 dsimp only at g1 g2 g3 g4
 have HW2:=Lib.hid hW2
 have HE2:=Lib.hid (And.intro (HE1.out.1.trans hE2) (And.intro (HE1.out.2.1.ext hE2) (And.intro (HE1.out.2.2.ext hE2) (And.intro hhb hh))))
 clear hcl hW2 hE2 hhb hh
 go_upto_region 5 with fail
 rw [← HW2.out]
 clear y0 y1 y2 y3 y4 m0 m1 m2 m3 m4 m5 a0 a1 a2
 have hx2:=HE2.out.2.2.1
 have hb2:=HE2.out.2.2.2.1
 obtain ⟨m0,m1,m2,m3,m4,m5⟩:=Blk.c6 hx2
 have b1:=hb2.cell (i:=1) (v:=.int .i64 hA) rfl
 have b2:=hb2.cell (i:=2) (v:=.int .i64 hN) rfl
 clear hx2 hb2
 go_upto_if 40 with fail
 go_cut [7] (fun v wx=>v=.int .u64 (layA x : Int)∧Ext W2 wx∧(x.n≠14→hN=pagC x.n))
 case first =>
  by_cases h14 : x.n=14
  ·have e0 : (x.n == 14)=true:=by simpa using h14
   have HH:=Lib.hid h14
   clear h14
   go_wp2_with fail
   go_meet
   exact ⟨by unfold layA; rw [if_pos HH.out]; rfl,Ext.refl _,fun h=>absurd HH.out h⟩
  ·have e0 : (x.n == 14)=false:=by simpa using h14
   have hpc : pagC x.n=clsP x.n:=if_pos ⟨n0,by omega⟩
   have HH:=Lib.hid (And.intro h14 hpc)
   have f2:=fun d os=>cell_regrown b2 d os
   have f4:=fun d os=>cell_regrown m4 d os
   clear h14 hpc b1 b2 m0 m1 m2 m3 m5
   go_upto_region 8 with fail
   refine wp_region_quiet_below (by kernel_rfl) (by kernel_rfl) ?_
   repeat (go_big_quiet_step ((go_at_call 23; exact Calls.regrown_of (pages1_any x.n _))))
   refine wpQuiet_nil ?_
   intro _ hw'
   obtain ⟨⟨dq2,osq2⟩,hw''⟩:=hw'
   subst hw''
   obtain ⟨W3,hW3⟩ : ∃ W3,W3=grow (redrawn W2 dq2) osq2:=⟨_,rfl⟩
   have hE3 : Ext W2 W3:=hW3▸below_regrown _ _ _
   rw [← hW3]
   have HE3:=Lib.hid hE3
   clear hE3 hW3 f2 f4 m4
   by_cases hne : hN=clsP x.n
   ·have e1 : (hN != clsP x.n)=false:=by simpa using hne
    have e1' : (hN == clsP x.n)=true:=by simpa using hne
    have HZ:=Lib.hid hne
    clear hne
    go_wp2_with fail
    go_meet
    exact ⟨by unfold layA; rw [if_neg HH.out.1]; rfl,HE3.out,fun _=>HZ.out.trans HH.out.2.symm⟩
   ·have e1 : (hN != clsP x.n)=true:=by simpa using hne
    have e1' : (hN == clsP x.n)=false:=by simpa using hne
    have HZ:=Lib.hid hne
    clear hne
    go_wp2_with fail
    go_ret
    refine ⟨KeepD.ext ((HW.out.2.1.trans HE2.out.1).trans HE3.out),((HW.out.2.1.trans HE2.out.1).trans HE3.out).size,.inl ⟨rfl,fun i hi h1 h2 hl=>HZ.out ?_⟩⟩
    have:=HP.out.2.1 i hi h1 h2
    subst this
    have h5:=hl.2.1.1 HH.out.1
    rw [HE2.out.2.2.2.2] at h5
    exact h5.trans HH.out.2
 case rest =>
 obtain ⟨rfl,hEc,hpg14⟩:=hcut
 have HQ:=Lib.hid hpg14
 have HEc:=Lib.hid hEc
 obtain ⟨E,hEE⟩ : ∃ E,hA + hN=E:=⟨_,rfl⟩
 have w1 : IntKind.i64.wrap (hA + hN)=E:=by rw [IntKind.wrap_i64]; omega
 have hE4 : hA≤E∧E≤4096:=by omega
 have HEE:=Lib.hid hEE
 clear hpg14 b1 b2 m0 m1 m2 m3 m4 m5 hEE
 have hb3:=HE2.out.2.2.2.1.ext hEc
 have b1:=hb3.cell (i:=1) (v:=.int .i64 hA) rfl
 clear hb3 hEc
 go_upto_region 10 with fail
 go_wp2
 go_loopg [8] (E - hA).toNat (fun q i wr=>∃ p : Int,hA≤p∧p≤E∧q=(E - p).toNat∧i=.int .i64 p∧Ext wc wr∧∀ z,hA≤z→z < p→¬ ∃ i,i < m.gone.length∧ix 0 m.gone i=z)
 case atStart=>exact ⟨hA,Int.le_refl _,hE4.1,rfl,rfl,Ext.refl _,fun z h1 h2=>absurd h1 (by omega)⟩
 case round =>
  obtain ⟨p,hp1,hp2,rfl,rfl,hEr,hall⟩:=hrel
  have HR:=Lib.hid (And.intro (HE2.out.1.trans (HEc.out.trans hEr)) (And.intro (HE2.out.2.1.ext (HEc.out.trans hEr)) (And.intro (HE2.out.2.2.1.ext (HEc.out.trans hEr)) (And.intro (HE2.out.2.2.2.1.ext (HEc.out.trans hEr)) (And.intro hall hEr)))))
  clear b1 hEr hall
  have hDr:=HR.out.2.1
  have hbr:=HR.out.2.2.2.1
  obtain ⟨y0,y1,y2,y3,y4⟩:=Blk.c5 hDr.blk
  have b1:=hbr.cell (i:=1) (v:=.int .i64 hA) rfl
  have b2:=hbr.cell (i:=2) (v:=.int .i64 hN) rfl
  clear hDr hbr
  by_cases hlt : p < E
  ·have d1 : decide (p < E)=true:=decide_eq_true hlt
   have w2 : IntKind.i64.wrap (p + 1)=p + 1:=by rw [IntKind.wrap_i64]; omega
   have hib : (B (∃ i,i < m.gone.length∧ix 0 m.gone i=p)=true∧Hid (∃ i,i < m.gone.length∧ix 0 m.gone i=p))∨(B (∃ i,i < m.gone.length∧ix 0 m.gone i=p)=false∧Hid (¬ ∃ i,i < m.gone.length∧ix 0 m.gone i=p)):=by
    by_cases h : ∃ i,i < m.gone.length∧ix 0 m.gone i=p
    ·exact .inl ⟨B_yes h,Lib.hid h⟩
    ·exact .inr ⟨B_no h,Lib.hid h⟩
   go_upto_region 13 with fail
   rcases hib with ⟨ib,HIb⟩ | ⟨ib,HIb⟩
   ·go_wp2_with (go_at_call 66; (with_reducible refine (HC.out.2 _ HR.out.1 p).mono ?_); rintro e wg ⟨rfl,hEg⟩; have HEg:=Lib.hid hEg; clear hEg)
    go_ret
    refine ⟨KeepD.ext (HW.out.2.1.trans (HR.out.1.trans HEg.out)),(HW.out.2.1.trans (HR.out.1.trans HEg.out)).size,.inl ⟨rfl,fun i hi h1 h2 hl=>?_⟩⟩
    have:=HP.out.2.1 i hi h1 h2
    subst this
    obtain ⟨z,hz,hz2⟩:=HIb.out
    refine hl.2.2 z hz ?_
    rw [HE2.out.2.2.2.2,hz2]
    exact ⟨hp1,by have:=HEE.out; dsimp only; omega⟩
   ·go_wp2_with (go_at_call 66; (with_reducible refine (HC.out.2 _ HR.out.1 p).mono ?_); rintro e wg ⟨rfl,hEg⟩; have HEg:=Lib.hid hEg; clear hEg)
    go_roundg (E - (p + 1)).toNat
    case measure=>go_light; omega
    case rel =>
     refine ⟨p + 1,by omega,by omega,rfl,by go_num,HR.out.2.2.2.2.2.trans HEg.out,fun z h1 h2=>?_⟩
     by_cases e : z=p
     ·subst e; exact HIb.out
     ·exact HR.out.2.2.2.2.1 z h1 (by omega)
  ·have hpE : p=E:=by omega
   have d1 : decide (p < E)=false:=decide_eq_false hlt
   have HpE:=Lib.hid (And.intro hpE hp1)
   have HbR:=Lib.hid (Nat.le_trans hbase (HW.out.2.1.trans HR.out.1).size)
   clear hpE hlt hp1 hp2
   go_upto_region 16 with (go_at_call 68; (with_reducible refine (drop28_any m d base (.slice F1 m.free.length fc) (.slice (some ⟨b,off,none⟩) m.hands.length hc) (.slice S1 m.spans.length sc) (.slice G1 m.gone.length gc) j _ hj (by omega) HbR.out HR.out.2.1).mono ?_); rintro e wd ⟨rfl,hKd,hszd,H',hDd,w1d,hEd,hwd⟩; have hxd : Blk wd w.heap.size 34 _:=hwd▸((HR.out.2.2.1.ext hEd).far (Nat.ne_of_gt hdw) _); have hbd : Blk wd W1.heap.size 56 _:=hwd▸((HR.out.2.2.2.1.ext hEd).far (Nat.ne_of_gt (Nat.lt_of_lt_of_le hdw (HW.out.2.1.trans HE1.out.1).size)) _); have HD:=Lib.hid (And.intro hDd (And.intro hxd (And.intro hbd (And.intro hKd hszd)))); clear hKd hszd hDd hEd hwd hxd hbd)
   clear y0 y1 y2 y3 y4 b1 b2 d1 w1
   go_wp2
   go_loopg [9] m.spans.length (fun q i wr=>∃ k : Nat,k≤m.spans.length∧q=m.spans.length - k∧i=.int .i64 (k : Int)∧Ext wd wr∧∀ j,j < k→pageK (ix noHold m.spans j) < x.page)
   case atStart=>exact ⟨0,Nat.zero_le _,rfl,rfl,Ext.refl _,fun j hj=>absurd hj (by omega)⟩
   case round =>
    obtain ⟨k,hk,rfl,rfl,hE,hall⟩:=hrel
    have hD:=HD.out.1.ext hE
    have hxb:=HD.out.2.1.ext hE
    have hbb:=HD.out.2.2.1.ext hE
    have x2:=hD.blk.cell (i:=3) (v:=.slice S1 m.spans.length sc) rfl
    have b1:=hxb.cell (i:=3) (v:=.int .i64 x.page) rfl
    have HK:=Lib.hid (And.intro hE (And.intro hD (And.intro hxb (And.intro hbb hall))))
    have q0 : (0 : Int)≤(k : Int):=by omega
    by_cases hgo : k < m.spans.length∧pageK (ix noHold m.spans k) < x.page
    ·obtain ⟨hlt,h2⟩:=hgo
     obtain ⟨b5,off5,hS5,hcl⟩:=hD.own.spans.slr (by show 0 < m.spans.length; omega)
     subst hS5
     have a1 : wr.cell? ⟨b5,off5 + k * 8,none⟩=some (.int .i64 (pageK (ix noHold m.spans k))):=(hcl (k * 8 + 0) (by show k * 8 + 0 < m.spans.length * 8; omega)).trans (congrArg some (holdsV_at m.spans k 0 (by omega)))
     have q1 : (k : Int) < (m.spans.length : Int):=by omega
     have e1 : decide (pageK (ix noHold m.spans k) < x.page)=true:=decide_eq_true h2
     have H2:=Lib.hid h2
     clear hcl h2 hE hD hxb hbb hall
     go_upto_region 17 with fail
     go_quiet (fail)
     go_wp2
     go_roundg (m.spans.length - (k + 1))
     case measure=>go_light; omega
     case rel =>
      refine ⟨k + 1,by omega,rfl,by go_num,HK.out.1.drewN _,fun j hj=>?_⟩
      by_cases e : j=k
      ·subst e; exact H2.out
      ·exact HK.out.2.2.2.2 j (by omega)
    ·have hpl : PlaceS m.spans k x.page:=by
      refine ⟨hk,hall,fun j h1 h2=>?_⟩
      by_cases e : k < m.spans.length
      ·have h3 : x.page≤pageK (ix noHold m.spans k):=by omega
       by_cases e2 : j=k
       ·subst e2; exact h3
       ·have:=HRi.out k j (by omega) h2
        omega
      ·omega
     have HPl:=Lib.hid hpl
     have hcs : (k < m.spans.length∧decide (pageK (ix noHold m.spans k) < x.page)=false)∨k=m.spans.length:=by
      by_cases e : k < m.spans.length
      ·exact .inl ⟨e,decide_eq_false (fun h=>hgo ⟨e,h⟩)⟩
      ·exact .inr (by omega)
     clear hgo hall hpl
     go_upto_region 17 with fail
     go_cut [85] (fun v wx=>v=.bool false∧Ext wr wx)
     case first =>
      rcases hcs with ⟨hlt,e1⟩ | rfl
      ·obtain ⟨b5,off5,hS5,hcl⟩:=hD.own.spans.slr (by show 0 < m.spans.length; omega)
       subst hS5
       have a1 : wr.cell? ⟨b5,off5 + k * 8,none⟩=some (.int .i64 (pageK (ix noHold m.spans k))):=(hcl (k * 8 + 0) (by show k * 8 + 0 < m.spans.length * 8; omega)).trans (congrArg some (holdsV_at m.spans k 0 (by omega)))
       have q1 : (k : Int) < (m.spans.length : Int):=by omega
       clear hcl hE hD hxb hbb
       go_quiet (fail)
       go_wp2
       go_meet
       exact ⟨rfl,(Ext.refl _).drewN _⟩
      ·clear hE hD hxb hbb
       go_quiet (fail)
       go_wp2
       go_meet
       exact ⟨rfl,(Ext.refl _).drewN _⟩
     case rest =>
      obtain ⟨rfl,hEx⟩:=hcut
      have HEx:=Lib.hid hEx
      have hxc:=HK.out.2.2.1.ext hEx
      have hbc:=HK.out.2.2.2.1.ext hEx
      obtain ⟨m0,m1,m2,m3,m4,mk5⟩:=Blk.c6 hxc
      have b2:=hbc.cell (i:=2) (v:=.int .i64 hN) rfl
      clear hEx hxc hbc x2 b1 hE hD hxb hbb hcs m0 m2 mk5
      obtain ⟨y,hy⟩ : ∃ y,(⟨x.page,hN,x.n,x.thread,-1,true,layA x,0⟩ : HoldD)=y:=⟨_,rfl⟩
      have HY:=Lib.hid hy
      clear hy
      go_upto_region 19 with fail
      go_cut [10] from 11 to 97 (fun v wx=>∃ g,v=.pointer (some ⟨g,0,none⟩)∧Blk wx g 51 #[.int .i64 y.page,.int .i64 y.pages,.int .i64 y.cls,.int .i64 y.holder,.int .i64 y.claim,.bool y.swept,.int .u64 (y.alloc : Int),.int .u64 (y.marks : Int)]∧Ext wc wx)
      case first =>
       go_wp2_with fail
       go_meet
       refine ⟨_,rfl,?_,(Ext.refl _).alloc _⟩
       rw [← HY.out]
       exact Blk.new _ _ _ _ rfl
      case rest =>
       obtain ⟨g,rfl,hgb,hEg⟩:=hcut
       have HEg:=Lib.hid (HEx.out.trans hEg)
       clear hEg m1 m3 m4 b2
       have hDc:=HK.out.2.1.ext HEg.out
       have hsl : SlR wc S1 m.spans.length 8 (holdsV m.spans):=hDc.own.spans.slr
       have hsc : m.spans.length≤sc:=HsC.out
       obtain ⟨qA,hqA⟩ : ∃ qA,(if sc=k then S1 else S1.map (fun a=>a.add (k * 8)))=qA:=⟨_,rfl⟩
       have hsl2 : SlR wc qA (m.spans.length - k) 8 (fun j=>holdsV m.spans (k * 8 + j)):=by
        rw [← hqA]
        exact hsl.cut (a:=k) (b:=m.spans.length) (c:=sc) hk (Nat.le_refl _) hsc _ (fun j=>rfl)
       have HQ2:=Lib.hid (And.intro hsl hsl2)
       have HC2:=Lib.hid (And.intro hDc (And.intro (hDc.blk.cell (i:=3) (v:=.slice S1 m.spans.length sc) rfl) hgb))
       have q2 : (k : Int)≤(m.spans.length : Int):=by omega
       have q3 : (k : Int)≤(sc : Int):=by omega
       have hx0 : ∀ a : Addr,a.add 0=a:=fun a=>rfl
       have hm0 : S1.map (fun a=>a.add 0)=S1:=by cases S1 <;> rfl
       clear hDc hsl hsl2 hgb
       go_upto_region 20 with fail
       refine wp_region_inv (fun L a w'=>∃ u98 u99 u100 u101 u102 u103 u104 u105 u106 u107 u108 u109 u110 u111 u112 u113 u114 u115 u116 u117 u118,a=⟨#[.pointer (some ⟨d,0,none⟩),.agg #[.int .i64 x.kind,.int .i64 x.thread,.int .i64 x.entry,.int .i64 x.page,.int .i64 x.n,.int .u64 (x.mask : Int)],undef,.pointer (some ⟨w.heap.size,0,none⟩),u4,.int .i64 (j : Int),.pointer (some ⟨W1.heap.size,0,none⟩),.int .u64 (layA x : Int),.int .i64 p,.int .i64 (k : Int),.pointer (some ⟨g,0,none⟩),u11,u12,u13,u14,u15,u16,u17,u18,u19,u20,u21,u22,u23,u24,u25,u26,u27,u28,u29,u30,u31,u32,u33,u34,u35,u36,u37,u38,u39,u40,u41,u42,u43,u44,u45,u46,u47,u48,u49,u50,u51,u52,u53,u54,u55,u56,u57,u58,u59,u60,u61,u62,u63,u64,u65,u66,u67,u68,u69,u70,u71,u72,u73,u74,u75,u76,u77,u78,u79,u80,u81,u82,u83,u84,u85,u86,u87,u88,u89,u90,u91,u92,u93,u94,u95,u96,u97,u98,u99,u100,u101,u102,u103,u104,u105,u106,u107,u108,u109,u110,u111,u112,u113,u114,u115,u116,u117,u118,u119,u120,u121,u122],[]⟩∧LayI m y k d sc S1 qA wc L u98 u99 u100 u101 u102 u103 u104 u105 u106 u107 u108 u109 u110 u111 u112 u113 u114 u115 u116 u117 u118 w') rfl (by kernel_rfl) ?h0 ?hstep ?hend
       case h0 =>
        refine ⟨u98,u99,u100,u101,u102,u103,u104,u105,u106,u107,u108,u109,u110,u111,u112,u113,u114,u115,u116,u117,u118,rfl,?_⟩
        constructor
        case ext=>exact fun _=>(Ext.refl wc).drew
        all_goals exact fun h=>(by cases h)
       case hstep =>
        intro L a w' i o ho hL hdep hI
        obtain ⟨u98,u99,u100,u101,u102,u103,u104,u105,u106,u107,u108,u109,u110,u111,u112,u113,u114,u115,u116,u117,u118,rfl,I⟩:=hI
        rcases i with _ | _ | _ | _ | _ | _ | _ | _ | _ | _ | _ | _ | _ | _ | _ | _ | _ | _ | _ | _ | _ | _ | i
        ·cases ho
         have h21 : L 21=false:=Bool.eq_false_iff.2 fun h=>notL hL (I.z4 h 0 (by omega))
         have hX:=I.ext h21
         go_wp2
         refine ⟨fun _=>⟨_,u99,u100,u101,u102,u103,u104,u105,u106,u107,u108,u109,u110,u111,u112,u113,u114,u115,u116,u117,u118,rfl,?_⟩,fun h=>absurd rfl h⟩
         constructor
         case s0=>exact fun _=>rfl
         case n1=>exact kF I.n1
         case s2=>exact kL I.s2
         case s3=>exact kL I.s3
         case s4=>exact kL I.s4
         case s5=>exact kL I.s5
         case s6=>exact kL I.s6
         case s7=>exact kL I.s7
         case n8=>exact kF I.n8
         case s9=>exact kL I.s9
         case n10=>exact kF I.n10
         case n11=>exact kF I.n11
         case s12=>exact kL I.s12
         case s13=>exact kL I.s13
         case s14=>exact kL I.s14
         case s15=>exact kL I.s15
         case s16=>exact kL I.s16
         case s17=>exact kL I.s17
         case n18=>exact kF I.n18
         case s19=>exact kL I.s19
         case s20=>exact kL I.s20
         case ne0=>exact k4 I.ne0
         case ne1=>exact k3 I.ne1
         case z1=>exact kZ I.z1
         case z2=>exact kB I.z2
         case z3=>exact kZ I.z3
         case z5=>exact kZ I.z5
         case z4=>exact kA I.z4
         case ext=>exact fun _=>hX
         case fin=>exact fun h=>notL hL (I.z4 (keepL h (by decide)) 0 (by omega))
        ·cases ho
         have h21 : L 21=false:=Bool.eq_false_iff.2 fun h=>notL hL (I.z4 h 1 (by omega))
         have hX:=I.ext h21
         have hE2 : Ext w' (w'.alloc (.cells #[] 51)):=(Ext.refl w').alloc _
         have hn0 : L 10=true→L 11=false→(Value.slice (some ⟨w'.heap.size,0,none⟩) 0 0).ownBlock≠u108.ownBlock:=fun h h2=>by
          obtain ⟨g,e,hb⟩:=I.n10 h h2
          have:=hb.lt
          rw [e]
          intro h3
          have h4 : some w'.heap.size=some g:=h3
          injection h4 with h4
          omega
         go_wp2
         refine ⟨fun _=>⟨u98,_,u100,u101,u102,u103,u104,u105,u106,u107,u108,u109,u110,u111,u112,u113,u114,u115,u116,u117,u118,rfl,?_⟩,fun h=>absurd rfl h⟩
         constructor
         case s0=>exact kL I.s0
         case n1=>exact fun _ _=>⟨_,_,rfl,(OwnS.lit0 w' 51 8 (holdsV (cutIn m.spans k k [y]))).mono hX.size⟩
         case s2=>exact kL I.s2
         case s3=>exact kL I.s3
         case s4=>exact kL I.s4
         case s5=>exact kL I.s5
         case s6=>exact kL I.s6
         case s7=>exact kL I.s7
         case n8 =>
          intro h h2
          obtain ⟨A,c,e,hO⟩:=I.n8 (keepL h (by decide)) (keepF h2 (by decide))
          exact ⟨A,c,e,hO.ext hE2⟩
         case s9=>exact kL I.s9
         case n10 =>
          intro h h2
          obtain ⟨g,e,hb⟩:=I.n10 (keepL h (by decide)) (keepF h2 (by decide))
          exact ⟨g,e,hb.ext hE2⟩
         case n11 =>
          intro h h2
          obtain ⟨A,c,e,hO⟩:=I.n11 (keepL h (by decide)) (keepF h2 (by decide))
          exact ⟨A,c,e,hO.ext hE2⟩
         case s12=>exact kL I.s12
         case s13=>exact kL I.s13
         case s14=>exact kL I.s14
         case s15=>exact kL I.s15
         case s16=>exact kL I.s16
         case s17=>exact kL I.s17
         case n18 =>
          intro h h2
          obtain ⟨A,c,e,hO⟩:=I.n18 (keepL h (by decide)) (keepF h2 (by decide))
          exact ⟨A,c,e,hO.ext hE2⟩
         case s19=>exact kL I.s19
         case s20=>exact kL I.s20
         case ne0=>exact fun h h2 _ _=>hn0 (keepL h (by decide)) (keepF h2 (by decide))
         case ne1=>exact k3 I.ne1
         case z1=>exact kZ I.z1
         case z2=>exact kB I.z2
         case z3=>exact kZ I.z3
         case z5=>exact kZ I.z5
         case z4=>exact kA I.z4
         case ext=>exact fun _=>hX.trans hE2
         case fin=>exact fun h=>notL hL (I.z4 (keepL h (by decide)) 1 (by omega))
        ·cases ho
         have h21 : L 21=false:=Bool.eq_false_iff.2 fun h=>notL hL (I.z4 h 2 (by omega))
         have hX:=I.ext h21
         go_wp2
         refine ⟨fun _=>⟨u98,u99,_,u101,u102,u103,u104,u105,u106,u107,u108,u109,u110,u111,u112,u113,u114,u115,u116,u117,u118,rfl,?_⟩,fun h=>absurd rfl h⟩
         constructor
         case s0=>exact kL I.s0
         case n1=>exact kF I.n1
         case s2=>exact fun _=>rfl
         case s3=>exact kL I.s3
         case s4=>exact kL I.s4
         case s5=>exact kL I.s5
         case s6=>exact kL I.s6
         case s7=>exact kL I.s7
         case n8=>exact kF I.n8
         case s9=>exact kL I.s9
         case n10=>exact kF I.n10
         case n11=>exact kF I.n11
         case s12=>exact kL I.s12
         case s13=>exact kL I.s13
         case s14=>exact kL I.s14
         case s15=>exact kL I.s15
         case s16=>exact kL I.s16
         case s17=>exact kL I.s17
         case n18=>exact kF I.n18
         case s19=>exact kL I.s19
         case s20=>exact kL I.s20
         case ne0=>exact k4 I.ne0
         case ne1=>exact k3 I.ne1
         case z1=>exact kZ I.z1
         case z2=>exact kB I.z2
         case z3=>exact kZ I.z3
         case z5=>exact kZ I.z5
         case z4=>exact kA I.z4
         case ext=>exact fun _=>hX
         case fin=>exact fun h=>notL hL (I.z4 (keepL h (by decide)) 2 (by omega))
        ·cases ho
         have h21 : L 21=false:=Bool.eq_false_iff.2 fun h=>notL hL (I.z4 h 3 (by omega))
         have hX:=I.ext h21
         have e2:=I.s2 (hdep ⟨2,.data⟩ (by simp) rfl)
         subst e2
         go_wp2
         refine ⟨fun _=>⟨u98,u99,_,_,u102,u103,u104,u105,u106,u107,u108,u109,u110,u111,u112,u113,u114,u115,u116,u117,u118,rfl,?_⟩,fun h=>absurd rfl h⟩
         constructor
         case s0=>exact kL I.s0
         case n1=>exact kF I.n1
         case s2=>exact kL I.s2
         case s3=>exact fun _=>rfl
         case s4=>exact kL I.s4
         case s5=>exact kL I.s5
         case s6=>exact kL I.s6
         case s7=>exact kL I.s7
         case n8=>exact kF I.n8
         case s9=>exact kL I.s9
         case n10=>exact kF I.n10
         case n11=>exact kF I.n11
         case s12=>exact kL I.s12
         case s13=>exact kL I.s13
         case s14=>exact kL I.s14
         case s15=>exact kL I.s15
         case s16=>exact kL I.s16
         case s17=>exact kL I.s17
         case n18=>exact kF I.n18
         case s19=>exact kL I.s19
         case s20=>exact kL I.s20
         case ne0=>exact k4 I.ne0
         case ne1=>exact k3 I.ne1
         case z1=>exact kZ I.z1
         case z2=>exact kB I.z2
         case z3=>exact kZ I.z3
         case z5=>exact kZ I.z5
         case z4=>exact kA I.z4
         case ext=>exact fun _=>hX
         case fin=>exact fun h=>notL hL (I.z4 (keepL h (by decide)) 3 (by omega))
        ·cases ho
         have h21 : L 21=false:=Bool.eq_false_iff.2 fun h=>notL hL (I.z4 h 4 (by omega))
         have hX:=I.ext h21
         have e3:=I.s3 (hdep ⟨3,.data⟩ (by simp) rfl)
         subst e3
         go_wp2
         refine ⟨fun _=>⟨u98,u99,u100,_,_,u103,u104,u105,u106,u107,u108,u109,u110,u111,u112,u113,u114,u115,u116,u117,u118,rfl,?_⟩,fun h=>absurd rfl h⟩
         constructor
         case s0=>exact kL I.s0
         case n1=>exact kF I.n1
         case s2=>exact kL I.s2
         case s3=>exact kL I.s3
         case s4=>exact fun _=>rfl
         case s5=>exact kL I.s5
         case s6=>exact kL I.s6
         case s7=>exact kL I.s7
         case n8=>exact kF I.n8
         case s9=>exact kL I.s9
         case n10=>exact kF I.n10
         case n11=>exact kF I.n11
         case s12=>exact kL I.s12
         case s13=>exact kL I.s13
         case s14=>exact kL I.s14
         case s15=>exact kL I.s15
         case s16=>exact kL I.s16
         case s17=>exact kL I.s17
         case n18=>exact kF I.n18
         case s19=>exact kL I.s19
         case s20=>exact kL I.s20
         case ne0=>exact k4 I.ne0
         case ne1=>exact k3 I.ne1
         case z1=>exact kZ I.z1
         case z2=>exact kB I.z2
         case z3=>exact kZ I.z3
         case z5=>exact kZ I.z5
         case z4=>exact kA I.z4
         case ext=>exact fun _=>hX
         case fin=>exact fun h=>notL hL (I.z4 (keepL h (by decide)) 4 (by omega))
        ·cases ho
         have h21 : L 21=false:=Bool.eq_false_iff.2 fun h=>notL hL (I.z4 h 5 (by omega))
         have hX:=I.ext h21
         have e4:=I.s4 (hdep ⟨4,.data⟩ (by simp) rfl)
         subst e4
         have hc2:=hX.cell HC2.out.2.1
         go_wp2
         refine ⟨fun _=>⟨u98,u99,u100,u101,_,_,u104,u105,u106,u107,u108,u109,u110,u111,u112,u113,u114,u115,u116,u117,u118,rfl,?_⟩,fun h=>absurd rfl h⟩
         constructor
         case s0=>exact kL I.s0
         case n1=>exact kF I.n1
         case s2=>exact kL I.s2
         case s3=>exact kL I.s3
         case s4=>exact kL I.s4
         case s5=>exact fun _=>rfl
         case s6=>exact kL I.s6
         case s7=>exact kL I.s7
         case n8=>exact kF I.n8
         case s9=>exact kL I.s9
         case n10=>exact kF I.n10
         case n11=>exact kF I.n11
         case s12=>exact kL I.s12
         case s13=>exact kL I.s13
         case s14=>exact kL I.s14
         case s15=>exact kL I.s15
         case s16=>exact kL I.s16
         case s17=>exact kL I.s17
         case n18=>exact kF I.n18
         case s19=>exact kL I.s19
         case s20=>exact kL I.s20
         case ne0=>exact k4 I.ne0
         case ne1=>exact k3 I.ne1
         case z1=>exact kZ I.z1
         case z2=>exact kB I.z2
         case z3=>exact kZ I.z3
         case z5=>exact kZ I.z5
         case z4=>exact kA I.z4
         case ext=>exact fun _=>hX
         case fin=>exact fun h=>notL hL (I.z4 (keepL h (by decide)) 5 (by omega))
        ·cases ho
         have h21 : L 21=false:=Bool.eq_false_iff.2 fun h=>notL hL (I.z4 h 6 (by omega))
         have hX:=I.ext h21
         go_wp2
         refine ⟨fun _=>⟨u98,u99,u100,u101,u102,u103,_,u105,u106,u107,u108,u109,u110,u111,u112,u113,u114,u115,u116,u117,u118,rfl,?_⟩,fun h=>absurd rfl h⟩
         constructor
         case s0=>exact kL I.s0
         case n1=>exact kF I.n1
         case s2=>exact kL I.s2
         case s3=>exact kL I.s3
         case s4=>exact kL I.s4
         case s5=>exact kL I.s5
         case s6=>exact fun _=>rfl
         case s7=>exact kL I.s7
         case n8=>exact kF I.n8
         case s9=>exact kL I.s9
         case n10=>exact kF I.n10
         case n11=>exact kF I.n11
         case s12=>exact kL I.s12
         case s13=>exact kL I.s13
         case s14=>exact kL I.s14
         case s15=>exact kL I.s15
         case s16=>exact kL I.s16
         case s17=>exact kL I.s17
         case n18=>exact kF I.n18
         case s19=>exact kL I.s19
         case s20=>exact kL I.s20
         case ne0=>exact k4 I.ne0
         case ne1=>exact k3 I.ne1
         case z1=>exact kZ I.z1
         case z2=>exact kB I.z2
         case z3=>exact kZ I.z3
         case z5=>exact kZ I.z5
         case z4=>exact kA I.z4
         case ext=>exact fun _=>hX
         case fin=>exact fun h=>notL hL (I.z4 (keepL h (by decide)) 6 (by omega))
        ·cases ho
         have h21 : L 21=false:=Bool.eq_false_iff.2 fun h=>notL hL (I.z4 h 7 (by omega))
         have hX:=I.ext h21
         have e5:=I.s5 (hdep ⟨5,.data⟩ (by simp) rfl)
         have e6:=I.s6 (hdep ⟨6,.data⟩ (by simp) rfl)
         subst e5 e6
         go_wp2
         refine ⟨fun _=>⟨u98,u99,u100,u101,u102,_,_,_,u106,u107,u108,u109,u110,u111,u112,u113,u114,u115,u116,u117,u118,rfl,?_⟩,fun h=>absurd rfl h⟩
         constructor
         case s0=>exact kL I.s0
         case n1=>exact kF I.n1
         case s2=>exact kL I.s2
         case s3=>exact kL I.s3
         case s4=>exact kL I.s4
         case s5=>exact kL I.s5
         case s6=>exact kL I.s6
         case s7=>exact fun _=>rfl
         case n8=>exact kF I.n8
         case s9=>exact kL I.s9
         case n10=>exact kF I.n10
         case n11=>exact kF I.n11
         case s12=>exact kL I.s12
         case s13=>exact kL I.s13
         case s14=>exact kL I.s14
         case s15=>exact kL I.s15
         case s16=>exact kL I.s16
         case s17=>exact kL I.s17
         case n18=>exact kF I.n18
         case s19=>exact kL I.s19
         case s20=>exact kL I.s20
         case ne0=>exact k4 I.ne0
         case ne1=>exact k3 I.ne1
         case z1=>exact kZ I.z1
         case z2=>exact kB I.z2
         case z3=>exact kZ I.z3
         case z5=>exact kZ I.z5
         case z4=>exact kA I.z4
         case ext=>exact fun _=>hX
         case fin=>exact fun h=>notL hL (I.z4 (keepL h (by decide)) 7 (by omega))
        ·cases ho
         have h21 : L 21=false:=Bool.eq_false_iff.2 fun h=>notL hL (I.z4 h 8 (by omega))
         have hX:=I.ext h21
         have hd : L 1=true:=hdep ⟨1,.data⟩ (by simp) rfl
         obtain ⟨A0,c0,ee,hO0⟩:=I.n1 hd hL
         have ne0:=I.ne0
         have e7:=I.s7 (hdep ⟨7,.data⟩ (by simp) rfl)
         have hne0:=fun h1 h2=>I.ne0 h1 h2 hd hL
         subst ee e7
         refine wpList_pushAll rfl _ _ 27 rfl wc.heap.size 51 i0 (.agg #[.int .i64 0,.int .i64 0,.int .i64 0,.int .i64 0,.int .i64 0,.bool false,.int .u64 0,.int .u64 0]) 8 64 Tryz.underlying27 HI.out.1 HI.out.2.1 HI.out.2.2.1 HI.out.2.2.2 rfl (by decide) _ 0 (holdsV (cutIn m.spans k k [y])) rfl hO0 S1 k sc (holdsV m.spans) rfl ((HQ2.out.1.upto (by omega)).ext hX) (fun j _=>holdsV_one _ _) ?b63 ?bby ?bba (holdsV (cutIn m.spans k k [y])) (fun j _=>rfl) (fun j hj=>by rw [Nat.zero_mul,Nat.zero_add]; exact rowV_lo (C:=holdC) (d:=noHold) (sz:=8) (by omega) j hj) k (by omega) ?_
         case b63=>unfold maxLen; omega
         case bby=>omega
         case bba=>exact hX.size
         intro A' c' w2 hO2 hg2 hX2 hb2
         replace hX2:=hX2 _ hX (Nat.le_refl _)
         have hn1 : L 10=true→L 11=false→(Value.slice A' k c').ownBlock≠u108.ownBlock:=fun h h2=>by
          obtain ⟨g,e,hb⟩:=I.n10 h h2
          rcases hb2 with h3 | h3
          ·rw [h3]; exact hne0 h h2
          ·rw [h3,e]
           intro h5
           have h4 : some w'.heap.size=some g:=h5
           injection h4 with h4
           have:=hb.lt
           omega
         go_wp2
         refine ⟨fun _=>⟨u98,_,u100,u101,u102,u103,u104,_,_,u107,u108,u109,u110,u111,u112,u113,u114,u115,u116,u117,u118,rfl,?_⟩,fun h=>absurd rfl h⟩
         constructor
         case s0=>exact kL I.s0
         case n1=>exact fun _ h=>setL_no h
         case s2=>exact kL I.s2
         case s3=>exact kL I.s3
         case s4=>exact kL I.s4
         case s5=>exact kL I.s5
         case s6=>exact kL I.s6
         case s7=>exact kL I.s7
         case n8=>exact fun _ _=>⟨A',c',rfl,hO2⟩
         case s9=>exact kL I.s9
         case n10 =>
          intro h h2
          obtain ⟨g,e,hb⟩:=I.n10 (keepL h (by decide)) (keepF h2 (by decide))
          have hne:=I.ne0 (keepL h (by decide)) (keepF h2 (by decide)) hd hL
          rw [e] at hne
          exact ⟨g,e,hb.grown hg2 (fun h=>hne h.symm)⟩
         case n11=>exact fun h _=>notL hL ((I.z2 (keepL h (by decide))).1)
         case s12=>exact kL I.s12
         case s13=>exact kL I.s13
         case s14=>exact kL I.s14
         case s15=>exact kL I.s15
         case s16=>exact kL I.s16
         case s17=>exact kL I.s17
         case n18=>exact fun h _=>notL hL ((I.z2 (I.z3 (keepL h (by decide)))).1)
         case s19=>exact kL I.s19
         case s20=>exact kL I.s20
         case ne0=>exact fun _ _ _ h=>setL_no h
         case ne1=>exact fun h h2 _=>hn1 (keepL h (by decide)) (keepF h2 (by decide))
         case z1=>exact fun _=>setL_le hd
         case z2=>exact kB I.z2
         case z3=>exact kZ I.z3
         case z5=>exact kZ I.z5
         case z4=>exact kA I.z4
         case ext=>exact fun _=>hX2
         case fin=>exact fun h=>notL hL (I.z4 (keepL h (by decide)) 8 (by omega))
        ·cases ho
         have h21 : L 21=false:=Bool.eq_false_iff.2 fun h=>notL hL (I.z4 h 9 (by omega))
         have hX:=I.ext h21
         have y0:=hX.cell (HC2.out.2.2.cell (i:=0) (v:=.int .i64 y.page) rfl)
         have y1:=hX.cell (HC2.out.2.2.cell (i:=1) (v:=.int .i64 y.pages) rfl)
         have y2:=hX.cell (HC2.out.2.2.cell (i:=2) (v:=.int .i64 y.cls) rfl)
         have y3:=hX.cell (HC2.out.2.2.cell (i:=3) (v:=.int .i64 y.holder) rfl)
         have y4:=hX.cell (HC2.out.2.2.cell (i:=4) (v:=.int .i64 y.claim) rfl)
         have y5:=hX.cell (HC2.out.2.2.cell (i:=5) (v:=.bool y.swept) rfl)
         have y6:=hX.cell (HC2.out.2.2.cell (i:=6) (v:=.int .u64 (y.alloc : Int)) rfl)
         have y7:=hX.cell (HC2.out.2.2.cell (i:=7) (v:=.int .u64 (y.marks : Int)) rfl)
         go_wp2
         refine ⟨fun _=>⟨u98,u99,u100,u101,u102,u103,u104,u105,u106,_,u108,u109,u110,u111,u112,u113,u114,u115,u116,u117,u118,rfl,?_⟩,fun h=>absurd rfl h⟩
         constructor
         case s0=>exact kL I.s0
         case n1=>exact kF I.n1
         case s2=>exact kL I.s2
         case s3=>exact kL I.s3
         case s4=>exact kL I.s4
         case s5=>exact kL I.s5
         case s6=>exact kL I.s6
         case s7=>exact kL I.s7
         case n8=>exact kF I.n8
         case s9=>exact fun _=>rfl
         case n10=>exact kF I.n10
         case n11=>exact kF I.n11
         case s12=>exact kL I.s12
         case s13=>exact kL I.s13
         case s14=>exact kL I.s14
         case s15=>exact kL I.s15
         case s16=>exact kL I.s16
         case s17=>exact kL I.s17
         case n18=>exact kF I.n18
         case s19=>exact kL I.s19
         case s20=>exact kL I.s20
         case ne0=>exact k4 I.ne0
         case ne1=>exact k3 I.ne1
         case z1=>exact kZ I.z1
         case z2=>exact kB I.z2
         case z3=>exact kZ I.z3
         case z5=>exact kZ I.z5
         case z4=>exact kA I.z4
         case ext=>exact fun _=>hX
         case fin=>exact fun h=>notL hL (I.z4 (keepL h (by decide)) 9 (by omega))
        ·cases ho
         have h21 : L 21=false:=Bool.eq_false_iff.2 fun h=>notL hL (I.z4 h 10 (by omega))
         have hX:=I.ext h21
         have e9:=I.s9 (hdep ⟨9,.data⟩ (by simp) rfl)
         subst e9
         have hE2 : Ext w' (w'.alloc (.cells #[.int .i64 y.page,.int .i64 y.pages,.int .i64 y.cls,.int .i64 y.holder,.int .i64 y.claim,.bool y.swept,.int .u64 (y.alloc : Int),.int .u64 (y.marks : Int)] 51)):=(Ext.refl w').alloc _
         have hn0 : L 1=true→L 8=false→u99.ownBlock≠(Value.slice (some ⟨w'.heap.size,0,none⟩) 1 1).ownBlock:=fun h h2=>by
          obtain ⟨A,c,e,hO⟩:=I.n1 h h2
          rw [e]
          intro h3
          have:=(World.ownsRow.lt hO w'.heap.size (by rw [h3]; rfl)).2
          omega
         have hn1 : L 8=true→L 11=false→u106.ownBlock≠(Value.slice (some ⟨w'.heap.size,0,none⟩) 1 1).ownBlock:=fun h h2=>by
          obtain ⟨A,c,e,hO⟩:=I.n8 h h2
          rw [e]
          intro h3
          have:=(World.ownsRow.lt hO w'.heap.size (by rw [h3]; rfl)).2
          omega
         go_wp2
         refine ⟨fun _=>⟨u98,u99,u100,u101,u102,u103,u104,u105,u106,_,_,u109,u110,u111,u112,u113,u114,u115,u116,u117,u118,rfl,?_⟩,fun h=>absurd rfl h⟩
         constructor
         case s0=>exact kL I.s0
         case n1 =>
          intro h h2
          obtain ⟨A,c,e,hO⟩:=I.n1 (keepL h (by decide)) (keepF h2 (by decide))
          exact ⟨A,c,e,hO.ext hE2⟩
         case s2=>exact kL I.s2
         case s3=>exact kL I.s3
         case s4=>exact kL I.s4
         case s5=>exact kL I.s5
         case s6=>exact kL I.s6
         case s7=>exact kL I.s7
         case n8 =>
          intro h h2
          obtain ⟨A,c,e,hO⟩:=I.n8 (keepL h (by decide)) (keepF h2 (by decide))
          exact ⟨A,c,e,hO.ext hE2⟩
         case s9=>exact kL I.s9
         case n10=>exact fun _ _=>⟨_,rfl,Blk.new _ _ _ _ rfl⟩
         case n11 =>
          intro h h2
          obtain ⟨A,c,e,hO⟩:=I.n11 (keepL h (by decide)) (keepF h2 (by decide))
          exact ⟨A,c,e,hO.ext hE2⟩
         case s12=>exact kL I.s12
         case s13=>exact kL I.s13
         case s14=>exact kL I.s14
         case s15=>exact kL I.s15
         case s16=>exact kL I.s16
         case s17=>exact kL I.s17
         case n18 =>
          intro h h2
          obtain ⟨A,c,e,hO⟩:=I.n18 (keepL h (by decide)) (keepF h2 (by decide))
          exact ⟨A,c,e,hO.ext hE2⟩
         case s19=>exact kL I.s19
         case s20=>exact kL I.s20
         case ne0=>exact fun _ _ h h2=>hn0 (keepL h (by decide)) (keepF h2 (by decide))
         case ne1=>exact fun _ h h2=>hn1 (keepL h2 (by decide)) (keepF h (by decide))
         case z1=>exact kZ I.z1
         case z2=>exact kB I.z2
         case z3=>exact kZ I.z3
         case z5=>exact kZ I.z5
         case z4=>exact kA I.z4
         case ext=>exact fun _=>hX.trans hE2
         case fin=>exact fun h=>notL hL (I.z4 (keepL h (by decide)) 10 (by omega))
        ·cases ho
         have h21 : L 21=false:=Bool.eq_false_iff.2 fun h=>notL hL (I.z4 h 11 (by omega))
         have hX:=I.ext h21
         have hd : L 8=true:=hdep ⟨8,.data⟩ (by simp) rfl
         have hd2 : L 10=true:=hdep ⟨10,.data⟩ (by simp) rfl
         obtain ⟨A0,c0,ee,hO0⟩:=I.n8 hd hL
         obtain ⟨gB,eB,hB⟩:=I.n10 hd2 hL
         subst ee eB
         refine wpList_pushAll rfl _ _ 27 rfl wc.heap.size 51 i0 (.agg #[.int .i64 0,.int .i64 0,.int .i64 0,.int .i64 0,.int .i64 0,.bool false,.int .u64 0,.int .u64 0]) 8 64 Tryz.underlying27 HI.out.1 HI.out.2.1 HI.out.2.2.1 HI.out.2.2.2 rfl (by decide) _ k (holdsV (cutIn m.spans k k [y])) rfl hO0 (some ⟨gB,0,none⟩) 1 1 (holdC y) rfl (slr_blk8 hB) (fun j _=>by unfold holdC; repeat (first | rfl | split)) ?b63 ?bby ?bba (holdsV (cutIn m.spans k k [y])) (fun j _=>rfl) (fun j hj=>(rowV_mid (C:=holdC) (d:=noHold) (sz:=8) (vs:=[y]) (by decide) (by omega) j hj).trans (by unfold rowV; obtain rfl | rfl | rfl | rfl | rfl | rfl | rfl | rfl : j=0∨j=1∨j=2∨j=3∨j=4∨j=5∨j=6∨j=7:=(by have : j < 1 * 8:=hj; omega) <;> rfl)) (k + 1) (by omega) ?_
         case b63=>unfold maxLen; omega
         case bby=>omega
         case bba=>exact hX.size
         intro A' c' w2 hO2 hg2 hX2 hb2
         replace hX2:=hX2 _ hX (Nat.le_refl _)
         go_wp2
         refine ⟨fun _=>⟨u98,u99,u100,u101,u102,u103,u104,u105,_,u107,_,_,u110,u111,u112,u113,u114,u115,u116,u117,u118,rfl,?_⟩,fun h=>absurd rfl h⟩
         constructor
         case s0=>exact kL I.s0
         case n1=>exact fun _ h=>absurd (keepF h (by decide)) (by rw [hd]; decide)
         case s2=>exact kL I.s2
         case s3=>exact kL I.s3
         case s4=>exact kL I.s4
         case s5=>exact kL I.s5
         case s6=>exact kL I.s6
         case s7=>exact kL I.s7
         case n8=>exact fun _ h=>setL_no h
         case s9=>exact kL I.s9
         case n10=>exact fun _ h=>setL_no h
         case n11=>exact fun _ _=>⟨A',c',rfl,hO2⟩
         case s12=>exact kL I.s12
         case s13=>exact kL I.s13
         case s14=>exact kL I.s14
         case s15=>exact kL I.s15
         case s16=>exact kL I.s16
         case s17=>exact kL I.s17
         case n18=>exact fun h _=>notL hL (I.z3 (keepL h (by decide)))
         case s19=>exact kL I.s19
         case s20=>exact kL I.s20
         case ne0=>exact fun _ h=>setL_no h
         case ne1=>exact fun _ h=>setL_no h
         case z1=>exact kZ I.z1
         case z2=>exact fun _=>⟨setL_le hd,setL_le hd2⟩
         case z3=>exact kZ I.z3
         case z5=>exact kZ I.z5
         case z4=>exact kA I.z4
         case ext=>exact fun _=>hX2
         case fin=>exact fun h=>notL hL (I.z4 (keepL h (by decide)) 11 (by omega))
        ·cases ho
         have h21 : L 21=false:=Bool.eq_false_iff.2 fun h=>notL hL (I.z4 h 12 (by omega))
         have hX:=I.ext h21
         go_wp2
         refine ⟨fun _=>⟨u98,u99,u100,u101,u102,u103,u104,u105,u106,u107,u108,u109,_,u111,u112,u113,u114,u115,u116,u117,u118,rfl,?_⟩,fun h=>absurd rfl h⟩
         constructor
         case s0=>exact kL I.s0
         case n1=>exact kF I.n1
         case s2=>exact kL I.s2
         case s3=>exact kL I.s3
         case s4=>exact kL I.s4
         case s5=>exact kL I.s5
         case s6=>exact kL I.s6
         case s7=>exact kL I.s7
         case n8=>exact kF I.n8
         case s9=>exact kL I.s9
         case n10=>exact kF I.n10
         case n11=>exact kF I.n11
         case s12=>exact fun _=>rfl
         case s13=>exact kL I.s13
         case s14=>exact kL I.s14
         case s15=>exact kL I.s15
         case s16=>exact kL I.s16
         case s17=>exact kL I.s17
         case n18=>exact kF I.n18
         case s19=>exact kL I.s19
         case s20=>exact kL I.s20
         case ne0=>exact k4 I.ne0
         case ne1=>exact k3 I.ne1
         case z1=>exact kZ I.z1
         case z2=>exact kB I.z2
         case z3=>exact kZ I.z3
         case z5=>exact kZ I.z5
         case z4=>exact kA I.z4
         case ext=>exact fun _=>hX
         case fin=>exact fun h=>notL hL (I.z4 (keepL h (by decide)) 12 (by omega))
        ·cases ho
         have h21 : L 21=false:=Bool.eq_false_iff.2 fun h=>notL hL (I.z4 h 13 (by omega))
         have hX:=I.ext h21
         have e12:=I.s12 (hdep ⟨12,.data⟩ (by simp) rfl)
         subst e12
         go_wp2
         refine ⟨fun _=>⟨u98,u99,u100,u101,u102,u103,u104,u105,u106,u107,u108,u109,_,_,u112,u113,u114,u115,u116,u117,u118,rfl,?_⟩,fun h=>absurd rfl h⟩
         constructor
         case s0=>exact kL I.s0
         case n1=>exact kF I.n1
         case s2=>exact kL I.s2
         case s3=>exact kL I.s3
         case s4=>exact kL I.s4
         case s5=>exact kL I.s5
         case s6=>exact kL I.s6
         case s7=>exact kL I.s7
         case n8=>exact kF I.n8
         case s9=>exact kL I.s9
         case n10=>exact kF I.n10
         case n11=>exact kF I.n11
         case s12=>exact kL I.s12
         case s13=>exact fun _=>rfl
         case s14=>exact kL I.s14
         case s15=>exact kL I.s15
         case s16=>exact kL I.s16
         case s17=>exact kL I.s17
         case n18=>exact kF I.n18
         case s19=>exact kL I.s19
         case s20=>exact kL I.s20
         case ne0=>exact k4 I.ne0
         case ne1=>exact k3 I.ne1
         case z1=>exact kZ I.z1
         case z2=>exact kB I.z2
         case z3=>exact kZ I.z3
         case z5=>exact kZ I.z5
         case z4=>exact kA I.z4
         case ext=>exact fun _=>hX
         case fin=>exact fun h=>notL hL (I.z4 (keepL h (by decide)) 13 (by omega))
        ·cases ho
         have h21 : L 21=false:=Bool.eq_false_iff.2 fun h=>notL hL (I.z4 h 14 (by omega))
         have hX:=I.ext h21
         have e13:=I.s13 (hdep ⟨13,.data⟩ (by simp) rfl)
         subst e13
         go_wp2
         refine ⟨fun _=>⟨u98,u99,u100,u101,u102,u103,u104,u105,u106,u107,u108,u109,u110,_,_,u113,u114,u115,u116,u117,u118,rfl,?_⟩,fun h=>absurd rfl h⟩
         constructor
         case s0=>exact kL I.s0
         case n1=>exact kF I.n1
         case s2=>exact kL I.s2
         case s3=>exact kL I.s3
         case s4=>exact kL I.s4
         case s5=>exact kL I.s5
         case s6=>exact kL I.s6
         case s7=>exact kL I.s7
         case n8=>exact kF I.n8
         case s9=>exact kL I.s9
         case n10=>exact kF I.n10
         case n11=>exact kF I.n11
         case s12=>exact kL I.s12
         case s13=>exact kL I.s13
         case s14=>exact fun _=>rfl
         case s15=>exact kL I.s15
         case s16=>exact kL I.s16
         case s17=>exact kL I.s17
         case n18=>exact kF I.n18
         case s19=>exact kL I.s19
         case s20=>exact kL I.s20
         case ne0=>exact k4 I.ne0
         case ne1=>exact k3 I.ne1
         case z1=>exact kZ I.z1
         case z2=>exact kB I.z2
         case z3=>exact kZ I.z3
         case z5=>exact kZ I.z5
         case z4=>exact kA I.z4
         case ext=>exact fun _=>hX
         case fin=>exact fun h=>notL hL (I.z4 (keepL h (by decide)) 14 (by omega))
        ·cases ho
         have h21 : L 21=false:=Bool.eq_false_iff.2 fun h=>notL hL (I.z4 h 15 (by omega))
         have hX:=I.ext h21
         have e14:=I.s14 (hdep ⟨14,.data⟩ (by simp) rfl)
         subst e14
         have hc2:=hX.cell HC2.out.2.1
         go_wp2
         refine ⟨fun _=>⟨u98,u99,u100,u101,u102,u103,u104,u105,u106,u107,u108,u109,u110,u111,_,_,u114,u115,u116,u117,u118,rfl,?_⟩,fun h=>absurd rfl h⟩
         constructor
         case s0=>exact kL I.s0
         case n1=>exact kF I.n1
         case s2=>exact kL I.s2
         case s3=>exact kL I.s3
         case s4=>exact kL I.s4
         case s5=>exact kL I.s5
         case s6=>exact kL I.s6
         case s7=>exact kL I.s7
         case n8=>exact kF I.n8
         case s9=>exact kL I.s9
         case n10=>exact kF I.n10
         case n11=>exact kF I.n11
         case s12=>exact kL I.s12
         case s13=>exact kL I.s13
         case s14=>exact kL I.s14
         case s15=>exact fun _=>rfl
         case s16=>exact kL I.s16
         case s17=>exact kL I.s17
         case n18=>exact kF I.n18
         case s19=>exact kL I.s19
         case s20=>exact kL I.s20
         case ne0=>exact k4 I.ne0
         case ne1=>exact k3 I.ne1
         case z1=>exact kZ I.z1
         case z2=>exact kB I.z2
         case z3=>exact kZ I.z3
         case z5=>exact kZ I.z5
         case z4=>exact kA I.z4
         case ext=>exact fun _=>hX
         case fin=>exact fun h=>notL hL (I.z4 (keepL h (by decide)) 15 (by omega))
        ·cases ho
         have h21 : L 21=false:=Bool.eq_false_iff.2 fun h=>notL hL (I.z4 h 16 (by omega))
         have hX:=I.ext h21
         go_wp2
         refine ⟨fun _=>⟨u98,u99,u100,u101,u102,u103,u104,u105,u106,u107,u108,u109,u110,u111,u112,u113,_,u115,u116,u117,u118,rfl,?_⟩,fun h=>absurd rfl h⟩
         constructor
         case s0=>exact kL I.s0
         case n1=>exact kF I.n1
         case s2=>exact kL I.s2
         case s3=>exact kL I.s3
         case s4=>exact kL I.s4
         case s5=>exact kL I.s5
         case s6=>exact kL I.s6
         case s7=>exact kL I.s7
         case n8=>exact kF I.n8
         case s9=>exact kL I.s9
         case n10=>exact kF I.n10
         case n11=>exact kF I.n11
         case s12=>exact kL I.s12
         case s13=>exact kL I.s13
         case s14=>exact kL I.s14
         case s15=>exact kL I.s15
         case s16=>exact fun _=>rfl
         case s17=>exact kL I.s17
         case n18=>exact kF I.n18
         case s19=>exact kL I.s19
         case s20=>exact kL I.s20
         case ne0=>exact k4 I.ne0
         case ne1=>exact k3 I.ne1
         case z1=>exact kZ I.z1
         case z2=>exact kB I.z2
         case z3=>exact kZ I.z3
         case z5=>exact kZ I.z5
         case z4=>exact kA I.z4
         case ext=>exact fun _=>hX
         case fin=>exact fun h=>notL hL (I.z4 (keepL h (by decide)) 16 (by omega))
        ·cases ho
         have h21 : L 21=false:=Bool.eq_false_iff.2 fun h=>notL hL (I.z4 h 17 (by omega))
         have hX:=I.ext h21
         have e15:=I.s15 (hdep ⟨15,.data⟩ (by simp) rfl)
         have e16:=I.s16 (hdep ⟨16,.data⟩ (by simp) rfl)
         subst e15 e16
         go_wp2
         refine ⟨fun _=>⟨u98,u99,u100,u101,u102,u103,u104,u105,u106,u107,u108,u109,u110,u111,u112,_,_,_,u116,u117,u118,rfl,?_⟩,fun h=>absurd rfl h⟩
         constructor
         case s0=>exact kL I.s0
         case n1=>exact kF I.n1
         case s2=>exact kL I.s2
         case s3=>exact kL I.s3
         case s4=>exact kL I.s4
         case s5=>exact kL I.s5
         case s6=>exact kL I.s6
         case s7=>exact kL I.s7
         case n8=>exact kF I.n8
         case s9=>exact kL I.s9
         case n10=>exact kF I.n10
         case n11=>exact kF I.n11
         case s12=>exact kL I.s12
         case s13=>exact kL I.s13
         case s14=>exact kL I.s14
         case s15=>exact kL I.s15
         case s16=>exact kL I.s16
         case s17=>exact fun _=>rfl
         case n18=>exact kF I.n18
         case s19=>exact kL I.s19
         case s20=>exact kL I.s20
         case ne0=>exact k4 I.ne0
         case ne1=>exact k3 I.ne1
         case z1=>exact kZ I.z1
         case z2=>exact kB I.z2
         case z3=>exact kZ I.z3
         case z5=>exact kZ I.z5
         case z4=>exact kA I.z4
         case ext=>exact fun _=>hX
         case fin=>exact fun h=>notL hL (I.z4 (keepL h (by decide)) 17 (by omega))
        ·cases ho
         have h21 : L 21=false:=Bool.eq_false_iff.2 fun h=>notL hL (I.z4 h 18 (by omega))
         have hX:=I.ext h21
         have hd : L 11=true:=hdep ⟨11,.data⟩ (by simp) rfl
         obtain ⟨A0,c0,ee,hO0⟩:=I.n11 hd hL
         have e17:=I.s17 (hdep ⟨17,.data⟩ (by simp) rfl)
         subst ee e17
         refine wpList_pushAll rfl _ _ 27 rfl wc.heap.size 51 i0 (.agg #[.int .i64 0,.int .i64 0,.int .i64 0,.int .i64 0,.int .i64 0,.bool false,.int .u64 0,.int .u64 0]) 8 64 Tryz.underlying27 HI.out.1 HI.out.2.1 HI.out.2.2.1 HI.out.2.2.2 rfl (by decide) _ (k + 1) (holdsV (cutIn m.spans k k [y])) rfl hO0 qA (m.spans.length - k) (sc - k) (fun j=>holdsV m.spans (k * 8 + j)) rfl (HQ2.out.2.ext hX) (fun j _=>holdsV_one _ _) ?b63 ?bby ?bba (holdsV (cutIn m.spans k k [y])) (fun j _=>rfl) (fun j hj=>rowV_hi (C:=holdC) (d:=noHold) (sz:=8) (vs:=[y]) (by decide) (by omega) j) (cutIn m.spans k k [y]).length (by rw [cutIn_length (by omega)]; simp only [List.length_cons,List.length_nil]; try omega) ?_
         case b63=>unfold maxLen; omega
         case bby=>omega
         case bba=>exact hX.size
         intro A' c' w2 hO2 hg2 hX2 hb2
         replace hX2:=hX2 _ hX (Nat.le_refl _)
         go_wp2
         refine ⟨fun _=>⟨u98,u99,u100,u101,u102,u103,u104,u105,u106,u107,u108,_,u110,u111,u112,u113,u114,_,_,u117,u118,rfl,?_⟩,fun h=>absurd rfl h⟩
         constructor
         case s0=>exact kL I.s0
         case n1=>exact fun _ h=>absurd (keepF h (by decide)) (by rw [(I.z2 hd).1]; decide)
         case s2=>exact kL I.s2
         case s3=>exact kL I.s3
         case s4=>exact kL I.s4
         case s5=>exact kL I.s5
         case s6=>exact kL I.s6
         case s7=>exact kL I.s7
         case n8=>exact fun _ h=>absurd (keepF h (by decide)) (by rw [hd]; decide)
         case s9=>exact kL I.s9
         case n10=>exact fun _ h2=>absurd (keepF h2 (by decide)) (by rw [hd]; decide)
         case n11=>exact fun _ h=>setL_no h
         case s12=>exact kL I.s12
         case s13=>exact kL I.s13
         case s14=>exact kL I.s14
         case s15=>exact kL I.s15
         case s16=>exact kL I.s16
         case s17=>exact kL I.s17
         case n18=>exact fun _ _=>⟨A',c',rfl,hO2⟩
         case s19=>exact kL I.s19
         case s20=>exact kL I.s20
         case ne0=>exact k4 I.ne0
         case ne1=>exact k3 I.ne1
         case z1=>exact kZ I.z1
         case z2=>exact kB I.z2
         case z3=>exact fun _=>setL_le hd
         case z5=>exact kZ I.z5
         case z4=>exact kA I.z4
         case ext=>exact fun _=>hX2
         case fin=>exact fun h=>notL hL (I.z4 (keepL h (by decide)) 18 (by omega))
        ·cases ho
         have h21 : L 21=false:=Bool.eq_false_iff.2 fun h=>notL hL (I.z4 h 19 (by omega))
         have hX:=I.ext h21
         have e0:=I.s0 (hdep ⟨0,.data⟩ (by simp) rfl)
         subst e0
         go_wp2
         refine ⟨fun _=>⟨_,u99,u100,u101,u102,u103,u104,u105,u106,u107,u108,u109,u110,u111,u112,u113,u114,u115,u116,_,u118,rfl,?_⟩,fun h=>absurd rfl h⟩
         constructor
         case s0=>exact kL I.s0
         case n1=>exact kF I.n1
         case s2=>exact kL I.s2
         case s3=>exact kL I.s3
         case s4=>exact kL I.s4
         case s5=>exact kL I.s5
         case s6=>exact kL I.s6
         case s7=>exact kL I.s7
         case n8=>exact kF I.n8
         case s9=>exact kL I.s9
         case n10=>exact kF I.n10
         case n11=>exact kF I.n11
         case s12=>exact kL I.s12
         case s13=>exact kL I.s13
         case s14=>exact kL I.s14
         case s15=>exact kL I.s15
         case s16=>exact kL I.s16
         case s17=>exact kL I.s17
         case n18=>exact kF I.n18
         case s19=>exact fun _=>rfl
         case s20=>exact kL I.s20
         case ne0=>exact k4 I.ne0
         case ne1=>exact k3 I.ne1
         case z1=>exact kZ I.z1
         case z2=>exact kB I.z2
         case z3=>exact kZ I.z3
         case z5=>exact kZ I.z5
         case z4=>exact kA I.z4
         case ext=>exact fun _=>hX
         case fin=>exact fun h=>notL hL (I.z4 (keepL h (by decide)) 19 (by omega))
        ·cases ho
         have h21 : L 21=false:=Bool.eq_false_iff.2 fun h=>notL hL (I.z4 h 20 (by omega))
         have hX:=I.ext h21
         have e19:=I.s19 (hdep ⟨19,.data⟩ (by simp) rfl)
         have hd : L 19=true:=hdep ⟨19,.data⟩ (by simp) rfl
         subst e19
         go_wp2
         refine ⟨fun _=>⟨u98,u99,u100,u101,u102,u103,u104,u105,u106,u107,u108,u109,u110,u111,u112,u113,u114,u115,u116,_,_,rfl,?_⟩,fun h=>absurd rfl h⟩
         constructor
         case s0=>exact kL I.s0
         case n1=>exact kF I.n1
         case s2=>exact kL I.s2
         case s3=>exact kL I.s3
         case s4=>exact kL I.s4
         case s5=>exact kL I.s5
         case s6=>exact kL I.s6
         case s7=>exact kL I.s7
         case n8=>exact kF I.n8
         case s9=>exact kL I.s9
         case n10=>exact kF I.n10
         case n11=>exact kF I.n11
         case s12=>exact kL I.s12
         case s13=>exact kL I.s13
         case s14=>exact kL I.s14
         case s15=>exact kL I.s15
         case s16=>exact kL I.s16
         case s17=>exact kL I.s17
         case n18=>exact kF I.n18
         case s19=>exact kL I.s19
         case s20=>exact fun _=>rfl
         case ne0=>exact k4 I.ne0
         case ne1=>exact k3 I.ne1
         case z1=>exact kZ I.z1
         case z2=>exact kB I.z2
         case z3=>exact kZ I.z3
         case z5=>exact fun _=>setL_le hd
         case z4=>exact kA I.z4
         case ext=>exact fun _=>hX
         case fin=>exact fun h=>notL hL (I.z4 (keepL h (by decide)) 20 (by omega))
        ·cases ho
         have hall : ∀ j,j < 21→L j=true:=by
          intro j hj
          have hj2 : j=0∨j=1∨j=2∨j=3∨j=4∨j=5∨j=6∨j=7∨j=8∨j=9∨j=10∨j=11∨j=12∨j=13∨j=14∨j=15∨j=16∨j=17∨j=18∨j=19∨j=20:=by omega
          rcases hj2 with rfl | rfl | rfl | rfl | rfl | rfl | rfl | rfl | rfl | rfl | rfl | rfl | rfl | rfl | rfl | rfl | rfl | rfl | rfl | rfl | rfl
          ·exact hdep ⟨0,.phase⟩ (by simp) rfl
          ·exact hdep ⟨1,.phase⟩ (by simp) rfl
          ·exact hdep ⟨2,.phase⟩ (by simp) rfl
          ·exact hdep ⟨3,.phase⟩ (by simp) rfl
          ·exact hdep ⟨4,.phase⟩ (by simp) rfl
          ·exact hdep ⟨5,.phase⟩ (by simp) rfl
          ·exact hdep ⟨6,.phase⟩ (by simp) rfl
          ·exact hdep ⟨7,.phase⟩ (by simp) rfl
          ·exact hdep ⟨8,.phase⟩ (by simp) rfl
          ·exact hdep ⟨9,.phase⟩ (by simp) rfl
          ·exact hdep ⟨10,.phase⟩ (by simp) rfl
          ·exact hdep ⟨11,.phase⟩ (by simp) rfl
          ·exact hdep ⟨12,.phase⟩ (by simp) rfl
          ·exact hdep ⟨13,.phase⟩ (by simp) rfl
          ·exact hdep ⟨14,.phase⟩ (by simp) rfl
          ·exact hdep ⟨15,.phase⟩ (by simp) rfl
          ·exact hdep ⟨16,.phase⟩ (by simp) rfl
          ·exact hdep ⟨17,.phase⟩ (by simp) rfl
          ·exact hdep ⟨18,.phase⟩ (by simp) rfl
          ·exact I.z5 (hdep ⟨20,.data⟩ (by simp) rfl)
          ·exact hdep ⟨20,.data⟩ (by simp) rfl
         have hX:=I.ext hL
         have e20:=I.s20 (hall 20 (by decide))
         obtain ⟨A0,c0,ee,hO0⟩:=I.n18 (hall 18 (by decide)) hL
         subst ee e20
         have hD5:=HC2.out.1.ext hX
         have g2:=hD5.blk.cell (i:=3) (v:=.slice S1 m.spans.length sc) rfl
         have gf:=hD5.blk.frozen 3
         have HS:=Lib.hid (And.intro hX hO0)
         clear hX hO0
         go_wp2
         refine ⟨fun _=>⟨u98,u99,u100,u101,u102,u103,u104,u105,u106,u107,u108,u109,u110,u111,u112,u113,u114,u115,_,u117,_,rfl,?_⟩,fun h=>absurd rfl h⟩
         constructor
         case s0=>exact kL I.s0
         case n1=>exact fun _ h=>absurd (keepF h (by decide)) (by rw [hall 8 (by decide)]; decide)
         case s2=>exact kL I.s2
         case s3=>exact kL I.s3
         case s4=>exact kL I.s4
         case s5=>exact kL I.s5
         case s6=>exact kL I.s6
         case s7=>exact kL I.s7
         case n8=>exact fun _ h=>absurd (keepF h (by decide)) (by rw [hall 11 (by decide)]; decide)
         case s9=>exact kL I.s9
         case n10=>exact fun _ h=>absurd (keepF h (by decide)) (by rw [hall 11 (by decide)]; decide)
         case n11=>exact fun _ h=>absurd (keepF h (by decide)) (by rw [hall 18 (by decide)]; decide)
         case s12=>exact kL I.s12
         case s13=>exact kL I.s13
         case s14=>exact kL I.s14
         case s15=>exact kL I.s15
         case s16=>exact kL I.s16
         case s17=>exact kL I.s17
         case n18=>exact fun _ h=>setL_no h
         case s19=>exact kL I.s19
         case s20=>exact kL I.s20
         case ne0=>exact fun _ h=>absurd (keepF h (by decide)) (by rw [hall 11 (by decide)]; decide)
         case ne1=>exact fun _ h=>absurd (keepF h (by decide)) (by rw [hall 11 (by decide)]; decide)
         case z1=>exact fun _=>setL_le (hall 1 (by decide))
         case z2=>exact fun _=>⟨setL_le (hall 8 (by decide)),setL_le (hall 10 (by decide))⟩
         case z3=>exact fun _=>setL_le (hall 11 (by decide))
         case z5=>exact fun _=>setL_le (hall 19 (by decide))
         case z4=>exact fun _ j hj=>setL_le (hall j hj)
         case ext=>exact fun h=>setL_no h
         case fin=>exact fun _=>⟨_,A0,c0,rfl,HS.out⟩
        ·simp at ho
       case hend =>
        intro L a w' hall hI
        obtain ⟨u98,u99,u100,u101,u102,u103,u104,u105,u106,u107,u108,u109,u110,u111,u112,u113,u114,u115,u116,u117,u118,rfl,I⟩:=hI
        obtain ⟨w5,A5,c5,rfl,hX5,hO5⟩:=I.fin (hall 21 (by decide))
        clear I
        have hExt:=HEg.out.trans hX5
        have hx5:=HD.out.2.1.ext ((HK.out.1.trans HEg.out).trans hX5)
        have m5:=(hx5.far (p:=⟨d,3,none⟩) (Nat.ne_of_gt hdw) (Value.slice A5 (cutIn m.spans k k [y]).length c5)).cell (i:=5) (v:=.int .u64 (x.mask : Int)) rfl
        have hbwc : base≤wc.heap.size:=Nat.le_trans HbR.out (Nat.le_trans HD.out.2.2.2.2 (HK.out.1.trans HEg.out).size)
        have hfin:=(HC2.out.1.ext hX5).setSpans (cutIn m.spans k k [y]) (hO5.mono hbwc)
        have HF:=Lib.hid (And.intro ((HK.out.1.trans HEg.out).trans hX5) hfin)
        clear hX5 hO5 hExt hfin hx5 hbwc
        have hKeep : KeepD base d w (w5.setCell ⟨d,3,none⟩ (.slice A5 (cutIn m.spans k k [y]).length c5))∧w.heap.size≤(w5.setCell ⟨d,3,none⟩ (.slice A5 (cutIn m.spans k k [y]).length c5)).heap.size:=by
         refine ⟨((KeepD.ext (HW.out.2.1.trans HR.out.1)).trans HD.out.2.2.2.1).trans ((KeepD.ext HF.out.1).trans (KeepD.set 3 _)),?_⟩
         exact Nat.le_trans (Nat.le_trans (HW.out.2.1.trans HR.out.1).size (Nat.le_trans HD.out.2.2.2.2 HF.out.1.size)) (Nat.le_of_eq (by simp))
        have HKp:=Lib.hid hKeep
        clear hKeep
        by_cases hmk : x.mask=layA x
        ·have e0 : ((x.mask : Int) == (layA x : Int))=true:=by rw [hmk]; simp
         have e1 : (x.mask == layA x)=true:=by simpa using hmk
         have HM:=Lib.hid hmk
         clear hmk
         go_wp2
         go_ret
         have hLC : LayC m x (ix noHand m.hands j):=by
          rw [HE2.out.2.2.2.2]
          refine ⟨⟨n0,n14⟩,⟨HQ.out,HM.out⟩,fun z hz hin=>?_⟩
          have h7:=HEE.out
          have h8:=HpE.out.1
          obtain ⟨h9,h10⟩:=hin
          dsimp only at h9 h10
          exact HR.out.2.2.2.2.1 _ h9 (by omega) ⟨z,hz,rfl⟩
         have hpg : (ix noHand m.hands j).at_=x.page:=HP.out.1.2
         have hyy : layHold x (ix noHand m.hands j)=y:=by
          have:=HE2.out.2.2.2.2
          rw [this] at hpg
          dsimp only at hpg
          rw [this,← HY.out]
          unfold layHold
          dsimp only
          rw [hpg]
         refine ⟨HKp.out.1,HKp.out.2,.inr ⟨rfl,_,⟨j,k,hj,HP.out.1,hLC,by rw [hpg]; exact HPl.out,rfl⟩,H',.slice A5 (cutIn m.spans k k [y]).length c5,?_⟩⟩
         rw [hyy]
         exact HF.out.2
        ·have e0 : ((x.mask : Int) == (layA x : Int))=false:=by
          rw [beq_eq_false_iff_ne]
          intro h
          exact hmk (by omega)
         have e1 : (x.mask == layA x)=false:=by simpa using hmk
         have HM:=Lib.hid hmk
         clear hmk
         go_wp2
         go_ret
         exact ⟨HKp.out.1,HKp.out.2,.inl ⟨rfl,fun i hi h1 h2 hl=>HM.out hl.2.1.2⟩⟩
/-- Within back's first loop: the model, the mark's block, the run that grows, those that stay. -/
structure BackI (m : ModelD) (d base b bx : Nat) (F H S G : Value) (xc : Array Value) (w : World) (A : Option Addr) (c : Nat) (LL : List RunD) (r : RunD) (W : World) : Prop where
 desk : RefM W d base m F H S G
 mark : Blk W bx 34 xc
 blk : Blk W b 54 #[.int .i64 r.at_,.int .i64 r.n]
 rest : OwnS W (b + 1) 54 2 (.slice A LL.length c) LL.length (runV LL)
 keep : KeepD base d w W
 size : b + 1≤W.heap.size
 far : base≤b∧d < b∧bx < b∧w.heap.size≤b
 rows : ∀ g,(F.ownBlock=some g∨H.ownBlock=some g∨S.ownBlock=some g∨G.ownBlock=some g)→g < b
theorem RefM.setBlk {w : World} {d base b : Nat} {m : ModelD} {F H S G : Value} (h : RefM w d base m F H S G) (hd : d≠b) (n1 : F.ownBlock≠some b) (n2 : H.ownBlock≠some b) (n3 : S.ownBlock≠some b) (n4 : G.ownBlock≠some b) (i : Nat) (u : Value) : RefM (w.setCell ⟨b,i,none⟩ u) d base m F H S G :=
 ⟨h.blk.far hd u,h.own.free.setOther n1 u,h.own.hands.setOther n2 u,h.own.spans.setOther n3 u,h.own.gone.setOther n4 u⟩
theorem RefM.grownFar {w w' : World} {d base b : Nat} {m : ModelD} {F H S G : Value} {row : Option Nat} (h : RefM w d base m F H S G) (hg : w.grownBy w' row) (hd : d < b) (hr : ∀ g,row=some g→b < g) (rows : ∀ g,(F.ownBlock=some g∨H.ownBlock=some g∨S.ownBlock=some g∨G.ownBlock=some g)→g < b) : RefM w' d base m F H S G:=by
 have key : ∀ v : Value,(∀ g,v.ownBlock=some g→g < b)→v.ownBlock=none∨v.ownBlock≠row:=by
  intro v hv
  cases e : v.ownBlock with
  | none=>exact .inl rfl
  | some g =>
   refine .inr fun h2=>?_
   have:=hr g h2.symm
   have:=hv g e
   omega
 refine ⟨h.blk.grown hg (fun e=>by have:=hr d e.symm; omega),h.own.free.grown hg (key F fun g e=>rows g (.inl e)),h.own.hands.grown hg (key H fun g e=>rows g (.inr (.inl e))),h.own.spans.grown hg (key S fun g e=>rows g (.inr (.inr (.inl e)))),h.own.gone.grown hg (key G fun g e=>rows g (.inr (.inr (.inr e))))⟩
section
variable {m : ModelD} {d base b bx : Nat} {F H S G : Value} {xc : Array Value} {w : World} {A A' : Option Addr} {c c' : Nat} {LL LL' : List RunD} {r : RunD} {W W' : World}
theorem BackI.ext (h : BackI m d base b bx F H S G xc w A c LL r W) (hE : Ext W W') : BackI m d base b bx F H S G xc w A c LL r W' :=
 ⟨h.desk.ext hE,h.mark.ext hE,h.blk.ext hE,h.rest.ext hE,h.keep.trans (KeepD.ext hE),Nat.le_trans h.size hE.size,h.far,h.rows⟩
theorem BackI.nes (h : BackI m d base b bx F H S G xc w A c LL r W) : F.ownBlock≠some b∧H.ownBlock≠some b∧S.ownBlock≠some b∧G.ownBlock≠some b :=
 ⟨fun e=>absurd (h.rows b (.inl e)) (by omega),fun e=>absurd (h.rows b (.inr (.inl e))) (by omega),fun e=>absurd (h.rows b (.inr (.inr (.inl e)))) (by omega),fun e=>absurd (h.rows b (.inr (.inr (.inr e)))) (by omega)⟩
theorem BackI.set0 (h : BackI m d base b bx F H S G xc w A c LL r W) (a : Int) : BackI m d base b bx F H S G xc w A c LL ⟨a,r.n⟩ (W.setCell ⟨b,0,none⟩ (.int .i64 a)):=by
 obtain ⟨n1,n2,n3,n4⟩:=h.nes
 obtain ⟨f1,f2,f3,f4⟩:=h.far
 exact ⟨h.desk.setBlk (by omega) n1 n2 n3 n4 _ _,h.mark.far (p:=⟨b,0,none⟩) (Nat.ne_of_lt f3) _,h.blk.set 0 (.int .i64 a),h.rest.far (p:=⟨b,0,none⟩) (Nat.lt_succ_self b) _,h.keep.setFar f1 _ _,by simpa using h.size,h.far,h.rows⟩
theorem BackI.set1 (h : BackI m d base b bx F H S G xc w A c LL r W) (a : Int) : BackI m d base b bx F H S G xc w A c LL ⟨r.at_,a⟩ (W.setCell ⟨b,1,none⟩ (.int .i64 a)):=by
 obtain ⟨n1,n2,n3,n4⟩:=h.nes
 obtain ⟨f1,f2,f3,f4⟩:=h.far
 exact ⟨h.desk.setBlk (by omega) n1 n2 n3 n4 _ _,h.mark.far (p:=⟨b,1,none⟩) (Nat.ne_of_lt f3) _,h.blk.set 1 (.int .i64 a),h.rest.far (p:=⟨b,1,none⟩) (Nat.lt_succ_self b) _,h.keep.setFar f1 _ _,by simpa using h.size,h.far,h.rows⟩
theorem BackI.push (h : BackI m d base b bx F H S G xc w A c LL r W) (hg : W.grownBy W' (Value.slice A LL.length c).ownBlock) (hO : OwnS W' (b + 1) 54 2 (.slice A' LL'.length c') LL'.length (runV LL')) : BackI m d base b bx F H S G xc w A' c' LL' r W':=by
 obtain ⟨f1,f2,f3,f4⟩:=h.far
 have hr : ∀ g,(Value.slice A LL.length c).ownBlock=some g→b < g:=fun g e=>(World.ownsRow.lt h.rest g e).1
 exact ⟨h.desk.grownFar hg f2 hr h.rows,h.mark.grown hg (fun e=>by have:=hr bx e.symm; omega),h.blk.grown hg (fun e=>by have:=hr b e.symm; omega),hO,h.keep.trans (KeepD.grown (h.rest.mono (by omega)) hg),Nat.le_trans h.size hg.size,h.far,h.rows⟩
end
/-- Within the region: what those that are listed have left. -/
structure BackJ (LL : List RunD) (ra rn : Int) (k d rc : Nat) (RA qA : Option Addr) (wc : World) (L : Nat→Bool) (u107 u108 u109 u110 u111 u112 u113 u114 u115 u116 u117 u118 u119 u120 u121 : Value) (w' : World) : Prop where
 s0 : L 0=true→u107=.pointer (some ⟨d,0,none⟩)
 n1 : L 1=true→L 5=false→∃ A c,u108=.slice A 0 c∧OwnS w' wc.heap.size 54 2 (.slice A 0 c) 0 (runV (cutIn LL k k [(⟨ra,rn⟩ : RunD)]))
 s2 : L 2=true→u109=.slice RA LL.length rc
 s3 : L 3=true→u110=.int .i64 (k : Int)
 s4 : L 4=true→u111=.slice RA k rc
 n5 : L 5=true→L 8=false→∃ A c,u112=.slice A k c∧OwnS w' wc.heap.size 54 2 (.slice A k c) k (runV (cutIn LL k k [(⟨ra,rn⟩ : RunD)]))
 s6 : L 6=true→u113=.agg #[.int .i64 ra,.int .i64 rn]
 n7 : L 7=true→L 8=false→∃ g,u114=.slice (some ⟨g,0,none⟩) 1 1∧Blk w' g 54 #[.int .i64 ra,.int .i64 rn]
 n8 : L 8=true→L 12=false→∃ A c,u115=.slice A (k + 1) c∧OwnS w' wc.heap.size 54 2 (.slice A (k + 1) c) (k + 1) (runV (cutIn LL k k [(⟨ra,rn⟩ : RunD)]))
 s9 : L 9=true→u116=.slice RA LL.length rc
 s10 : L 10=true→u117=.int .i64 (k : Int)
 s11 : L 11=true→u118=.slice qA (LL.length - k) (rc - k)
 n12 : L 12=true→L 15=false→∃ A c,u119=.slice A (cutIn LL k k [(⟨ra,rn⟩ : RunD)]).length c∧OwnS w' wc.heap.size 54 2 (.slice A (cutIn LL k k [(⟨ra,rn⟩ : RunD)]).length c) (cutIn LL k k [(⟨ra,rn⟩ : RunD)]).length (runV (cutIn LL k k [(⟨ra,rn⟩ : RunD)]))
 s13 : L 13=true→u120=.pointer (some ⟨d,0,none⟩)
 s14 : L 14=true→u121=.pointer (some ⟨d,1,none⟩)
 ne0 : L 7=true→L 8=false→L 1=true→L 5=false→u108.ownBlock≠u114.ownBlock
 ne1 : L 7=true→L 8=false→L 5=true→u112.ownBlock≠u114.ownBlock
 z1 : L 5=true→L 1=true
 z2 : L 8=true→L 5=true∧L 7=true
 z3 : L 12=true→L 8=true
 z5 : L 14=true→L 13=true
 z4 : L 15=true→∀ j,j < 15→L j=true
 ext : L 15=false→Ext wc w'
 fin : L 15=true→∃ w1 A c,w'=w1.setCell ⟨d,1,none⟩ (.slice A (cutIn LL k k [(⟨ra,rn⟩ : RunD)]).length c)∧Ext wc w1∧OwnS w1 wc.heap.size 54 2 (.slice A (cutIn LL k k [(⟨ra,rn⟩ : RunD)]).length c) (cutIn LL k k [(⟨ra,rn⟩ : RunD)]).length (runV (cutIn LL k k [(⟨ra,rn⟩ : RunD)]))
theorem runV_one2 (l : List RunD) (j : Nat) : (runV l j).oneCell'=true:=by
 unfold runV
 repeat (first | rfl | split)
theorem slr_blk2 {w : World} {g t : Nat} {ra rn : Int} (h : Blk w g t #[.int .i64 ra,.int .i64 rn]) : SlR w (some ⟨g,0,none⟩) 1 2 (runX (⟨ra,rn⟩ : RunD)):=fun _=>⟨g,0,rfl,fun j hj=>by
 obtain rfl | rfl : j=0∨j=1:=(by omega)
 all_goals exact h.cell rfl⟩
set_option maxHeartbeats 8000000 in
set_option maxRecDepth 100000 in
theorem back28_any (m : ModelD) (d base : Nat) (F H S G : Value) (x : MarkD) (w : World) (hmay : May2 m) (hx : MarkOk x)
  (hfr : ∀ i,i < m.free.length→0≤(ix noRun m.free i).at_∧1≤(ix noRun m.free i).n∧(ix noRun m.free i).at_ + (ix noRun m.free i).n≤4096)
  (hap : ∀ j a,j < m.hands.length→a < m.free.length→(ix noRun m.free a).at_ + (ix noRun m.free a).n≤(ix noHand m.hands j).at_∨(ix noHand m.hands j).at_ + (ix noHand m.hands j).n≤(ix noRun m.free a).at_)
  (hpl : ∃ k,PlaceR m.free k x.page) (hbase : base≤w.heap.size) (hD : RefM w d base m F H S G) :
  Calls Tryz.prog 34 #[.pointer (some ⟨d,0,none⟩),markV x] w fun e w'=>KeepD base d w w'∧w.heap.size≤w'.heap.size∧((e=.returned (.bool false)∧BackN m x)∨(e=.returned (.bool true)∧∃ m' F' H',BackR m x m'∧RefM w' d base m' F' H' S G)):=by
 obtain ⟨W0,hW0⟩ : ∃ W0,W0=w.alloc (.cells (markA x) 34):=⟨_,rfl⟩
 have hE0 : Ext w W0:=hW0▸(Ext.refl w).alloc _
 have hxb : Blk W0 w.heap.size 34 (markA x):=hW0▸Blk.new _ _ _ _ rfl
 obtain ⟨F1,H1,S1,G1,fc,hc,sc,gc,rfl,rfl,rfl,rfl⟩:=hD.own.slices
 have hlen:=may2_len hmay
 have hlm:=(may2_iff.2 hmay).len
 have hpg:=hmay.pages
 have hdw : d < w.heap.size:=hD.blk.lt
 obtain ⟨i0,hi0,hz0,hs0,hb0⟩:=info_parts Tryz.infoMRun
 have HI:=Lib.hid (And.intro hi0 (And.intro hz0 (And.intro hs0 hb0)))
 clear hi0 hz0 hs0 hb0
 have hD0:=hD.ext hE0
 obtain ⟨t0,t1,t2,t3,t4⟩:=Blk.c5 hD0.blk
 have y0:=fun d os=>cell_regrown t0 d os
 have y1:=fun d os=>cell_regrown t1 d os
 have y2:=fun d os=>cell_regrown t2 d os
 have y3:=fun d os=>cell_regrown t3 d os
 have y4:=fun d os=>cell_regrown t4 d os
 obtain ⟨s0,s1,s2,s3,s4,s5⟩:=Blk.c6 hxb
 have m1:=fun d os=>cell_regrown s1 d os
 have m3:=fun d os=>cell_regrown s3 d os
 have hCH : ∀ W,Ext W0 W→Calls Tryz.prog 67 #[.agg #[.int .i64 m.pages,.slice F1 m.free.length fc,.slice H1 m.hands.length hc,.slice S1 m.spans.length sc,.slice G1 m.gone.length gc],.int .i64 x.thread,.int .i64 x.page] W fun e w'=>e=.returned (.int .i64 (handI m x.thread x.page))∧Ext W w':=fun W hW=>hand28I m F1 H1 S1 G1 fc hc sc gc x.thread x.page W hlen.hands (hD0.reads.ext hW)
 have HC:=Lib.hid hCH
 have HG:=Lib.hid (And.intro hfr (And.intro hap hpl))
 have HW:=Lib.hid (And.intro hW0 (And.intro hE0 (And.intro hxb (And.intro hD0 (And.intro hmay (And.intro hlen hx))))))
 obtain ⟨xp1,xp2⟩:=hx.page
 obtain ⟨l1,l2⟩ : m.hands.length≤4096∧m.free.length≤4096:=by omega
 clear hW0 hE0 hxb hD hmay hlen hx hD0 hCH hlm t0 t1 t3 t4 s0 s2 s4 hfr hap hpl
 unfold markV
 unfold markA at HW
 go_enter Tryz.func34,Tryz.ntmps34
 go_upto_region 1 with fail
 rw [← HW.out.1]
 refine wp_region_quiet_below (by kernel_rfl) (by kernel_rfl) ?_
 repeat (go_big_quiet_step ((go_at_call 67; exact Calls.regrown_of (HC.out _ (below_regrown _ _ _)))))
 refine wpQuiet_nil ?_
 intro _ hw'
 obtain ⟨⟨dq,osq⟩,hw''⟩:=hw'
 subst hw''
 obtain ⟨W1,hW1⟩ : ∃ W1,W1=grow (redrawn W0 dq) osq:=⟨_,rfl⟩
 have hE1 : Ext W0 W1:=hW1▸below_regrown _ _ _
 rw [← hW1]
 have hD1:=HW.out.2.2.2.1.ext hE1
 have hx1:=HW.out.2.2.1.ext hE1
 clear hW1 y0 y1 y2 y3 y4 m1 m3 t2 s1 s3 s5
 obtain ⟨y0,y1,y2,y3,y4⟩:=Blk.c5 hD1.blk
 obtain ⟨m0,m1,m2,m3,m4,m5⟩:=Blk.c6 hx1
 have HE1:=Lib.hid (And.intro hE1 (And.intro hD1 hx1))
 clear hE1 hD1 hx1
 have hq:=firstQ_ok m.hands.length (fun j=>(ix noHand m.hands j).t=x.thread∧(ix noHand m.hands j).at_=x.page)
 obtain ⟨r,hr⟩ : ∃ r,handI m x.thread x.page=r:=⟨_,rfl⟩
 have hr2 : firstI (fun j=>(ix noHand m.hands j).t=x.thread∧(ix noHand m.hands j).at_=x.page) m.hands.length 0=r:=hr
 rw [hr2] at hq
 rw [hr]
 clear hr hr2
 rcases hq with ⟨rfl,hno⟩ | ⟨j,rfl,hj,hP,hfirst⟩
 ·have HN:=Lib.hid (show BackN m x from fun j hj hP _=>absurd hP (hno j hj))
  clear hno
  go_upto_region 2 with fail
  go_cut [33] (fun v wx=>v=.bool true∧Ext W1 wx)
  case first =>
   go_quiet (fail)
   go_wp2
   go_meet
   exact ⟨rfl,(Ext.refl _).drewN _⟩
  case rest =>
   obtain ⟨rfl,hEx⟩:=hcut
   have HEx:=Lib.hid hEx
   clear hEx y0 y1 y2 y3 y4 m0 m1 m2 m3 m4 m5
   go_wp2
   go_ret
   exact ⟨KeepD.ext ((HW.out.2.1.trans HE1.out.1).trans HEx.out),((HW.out.2.1.trans HE1.out.1).trans HEx.out).size,.inl ⟨rfl,HN.out⟩⟩
 have hHP : HandP m x j:=hP
 have hu : ∀ i,i < m.hands.length→HandP m x i→(∀ q,q < i→¬ HandP m x q)→i=j:=fun i hi h1 h2=>HandP.uniq h1 h2 hHP hfirst
 have c0 : decide ((j : Int) < 0)=false:=decide_eq_false (by omega)
 have HP:=Lib.hid (And.intro hHP (And.intro hu hfirst))
 clear hP hHP hu hfirst
 obtain ⟨⟨hT,hA,hN⟩,hh⟩ : ∃ h,ix noHand m.hands j=h:=⟨_,rfl⟩
 obtain ⟨b0,off,rfl,hcl⟩:=HE1.out.2.1.own.hands.slr (by omega)
 have a2 : W1.cell? ⟨b0,off + j * 3 + 2,none⟩=some (.int .i64 hN):=(hcl (j * 3 + 2) (by omega)).trans (congrArg some ((handV2 m.hands j).trans (by rw [hh])))
 have q0 : (0 : Int)≤(j : Int):=by omega
 have q1 : (j : Int) < (m.hands.length : Int):=by omega
 have hfit:=fit_hand HW.out.2.2.2.2.1 (ixMem (d:=noHand) hj)
 rw [hh] at hfit
 obtain ⟨g1,g2,g3,g4⟩:=hfit
 unfold fH at g1 g2 g3 g4
 dsimp only at g1 g2 g3 g4
 obtain ⟨gp1,gp2⟩ : 0≤x.page∧x.page + hN≤4096:=by
  have:=HP.out.1.2
  rw [hh] at this
  dsimp only at this
  omega
 have HH:=Lib.hid hh
 clear hcl hh
 by_cases hn : hN=x.n
 rotate_left
 ·have e0 : (hN != x.n)=true:=by simpa using hn
  have e1 : (hN == x.n)=false:=by simpa using hn
  have HN:=Lib.hid hn
  clear hn
  go_upto_region 2 with fail
  go_cut [33] (fun v wx=>v=.bool true∧Ext W1 wx)
  case first =>
   go_quiet (fail)
   go_wp2
   go_meet
   exact ⟨rfl,(Ext.refl _).drewN _⟩
  case rest =>
   obtain ⟨rfl,hEx⟩:=hcut
   have HEx:=Lib.hid hEx
   clear hEx y0 y1 y2 y3 y4 m0 m1 m2 m3 m4 m5 a2
   go_wp2
   go_ret
   refine ⟨KeepD.ext ((HW.out.2.1.trans HE1.out.1).trans HEx.out),((HW.out.2.1.trans HE1.out.1).trans HEx.out).size,.inl ⟨rfl,fun i hi h1 h2=>?_⟩⟩
   have:=HP.out.2.1 i hi h1 h2
   subst this
   rw [HH.out]
   exact HN.out
 subst hn
 have e0 : (x.n != x.n)=false:=by simp
 have e1 : (x.n == x.n)=true:=by simp
 go_upto_region 2 with fail
 go_cut [33] (fun v wx=>v=.bool false∧Ext W1 wx)
 case first =>
  go_quiet (fail)
  go_wp2
  go_meet
  exact ⟨rfl,(Ext.refl _).drewN _⟩
 case rest =>
 obtain ⟨rfl,hEx⟩:=hcut
 have HEx:=Lib.hid hEx
 have HbR:=Lib.hid (Nat.le_trans hbase ((HW.out.2.1.trans HE1.out.1).trans hEx).size)
 clear y0 y1 y2 y3 y4 m0 m1 m2 m3 m4 m5 a2 e0 e1 hEx
 go_upto_region 5 with (go_at_call 68; (with_reducible refine (drop28_any m d base (.slice F1 m.free.length fc) (.slice (some ⟨b0,off,none⟩) m.hands.length hc) (.slice S1 m.spans.length sc) (.slice G1 m.gone.length gc) j _ hj (by omega) HbR.out (HE1.out.2.1.ext HEx.out)).mono ?_); rintro e wd ⟨rfl,hKd,hszd,H',hDd,w1d,hEd,hwd⟩; have hxd : Blk wd w.heap.size 34 _:=hwd▸(((HE1.out.2.2.ext HEx.out).ext hEd).far (Nat.ne_of_gt hdw) _); have HD:=Lib.hid (And.intro hDd (And.intro hxd (And.intro hKd hszd))); clear hKd hszd hDd hEd hwd hxd)
 have hxd:=HD.out.2.1
 have m3:=hxd.cell (i:=3) (v:=.int .i64 x.page) rfl
 have m4:=hxd.cell (i:=4) (v:=.int .i64 x.n) rfl
 obtain ⟨W5,hW5⟩ : ∃ W5,W5=wd.alloc (.cells #[.int .i64 x.page,.int .i64 x.n] 54):=⟨_,rfl⟩
 have hE5 : Ext wd W5:=hW5▸(Ext.refl wd).alloc _
 have hb5 : Blk W5 wd.heap.size 54 #[.int .i64 x.page,.int .i64 x.n]:=hW5▸Blk.new _ _ _ _ rfl
 have hsz5 : wd.heap.size + 1≤W5.heap.size:=hb5.lt
 have hww : w.heap.size≤wd.heap.size:=Nat.le_trans ((HW.out.2.1.trans HE1.out.1).trans HEx.out).size HD.out.2.2.2
 have hB5 : BackI { m with hands:=cutIn m.hands j (j + 1) [] } d base wd.heap.size w.heap.size (.slice F1 m.free.length fc) H' (.slice S1 m.spans.length sc) (.slice G1 m.gone.length gc) #[.int .i64 x.kind,.int .i64 x.thread,.int .i64 x.entry,.int .i64 x.page,.int .i64 x.n,.int .u64 (x.mask : Int)] w none 0 (restL m.free x 0) (joinL m.free x 0) W5:=by
  refine ⟨HD.out.1.ext hE5,hxd.ext hE5,hb5,OwnS.nil _ _ _ _ _,((KeepD.ext ((HW.out.2.1.trans HE1.out.1).trans HEx.out)).trans HD.out.2.2.1).trans (KeepD.ext hE5),hsz5,⟨Nat.le_trans hbase hww,Nat.lt_of_lt_of_le hdw hww,hxd.lt,hww⟩,?_⟩
  intro g hg
  rcases hg with e | e | e | e
  ·exact (World.ownsRow.lt HD.out.1.own.free g e).2
  ·exact (World.ownsRow.lt HD.out.1.own.hands g e).2
  ·exact (World.ownsRow.lt HD.out.1.own.spans g e).2
  ·exact (World.ownsRow.lt HD.out.1.own.gone g e).2
 have HB:=Lib.hid (And.intro hW5 hB5)
 clear hW5 hE5 hb5 hsz5 hww hB5 hxd
 go_upto_region 6 with fail
 rw [← HB.out.1]
 clear m3 m4
 go_wp2
 go_loopg [7,8] m.free.length (fun q ov i wr=>∃ (k : Nat) (A : Option Addr) (c : Nat),k≤m.free.length∧q=m.free.length - k∧ov=.slice A (restL m.free x k).length c∧i=.int .i64 (k : Int)∧BackI { m with hands:=cutIn m.hands j (j + 1) [] } d base wd.heap.size w.heap.size (.slice F1 m.free.length fc) H' (.slice S1 m.spans.length sc) (.slice G1 m.gone.length gc) #[.int .i64 x.kind,.int .i64 x.thread,.int .i64 x.entry,.int .i64 x.page,.int .i64 x.n,.int .u64 (x.mask : Int)] w A c (restL m.free x k) (joinL m.free x k) wr)
 case atStart=>exact ⟨0,none,0,Nat.zero_le _,rfl,rfl,rfl,HB.out.2⟩
 case round =>
  obtain ⟨k,RA,rc,hk,rfl,rfl,rfl,hI⟩:=hrel
  have x1:=hI.desk.blk.cell (i:=1) (v:=.slice F1 m.free.length fc) rfl
  have m3:=hI.mark.cell (i:=3) (v:=.int .i64 x.page) rfl
  have m4:=hI.mark.cell (i:=4) (v:=.int .i64 x.n) rfl
  have hll:=restL_len (l:=m.free) (x:=x) k hk
  have hjb:=joinL_bound HG.out.1 k hk (x:=x)
  obtain ⟨LL,hL⟩ : ∃ LL,restL m.free x k=LL:=⟨_,rfl⟩
  obtain ⟨⟨ra,rn⟩,hR⟩ : ∃ r,joinL m.free x k=r:=⟨_,rfl⟩
  rw [hR] at hjb
  rw [hL] at hll
  rw [hL,hR] at hI
  rw [hL]
  dsimp only at hjb
  obtain ⟨hj1,hj2⟩:=hjb
  by_cases hlt : k < m.free.length
  ·obtain ⟨bF,offF,rfl,hcl⟩:=hI.desk.own.free.slr (by show 0 < m.free.length; omega)
   obtain ⟨⟨fa,fn⟩,hf⟩ : ∃ f,ix noRun m.free k=f:=⟨_,rfl⟩
   have hfb:=HG.out.1 k hlt
   have a0 : wr.cell? ⟨bF,offF + k * 2,none⟩=some (.int .i64 fa):=(hcl (k * 2) (by show k * 2 < m.free.length * 2; omega)).trans (congrArg some ((runV0 m.free k).trans (by rw [hf])))
   have a1 : wr.cell? ⟨bF,offF + k * 2 + 1,none⟩=some (.int .i64 fn):=(hcl (k * 2 + 1) (by show k * 2 + 1 < m.free.length * 2; omega)).trans (congrArg some ((runV1 m.free k).trans (by rw [hf])))
   rw [hf] at hfb
   obtain ⟨f1,f2,f3⟩:=hfb
   dsimp only at f1 f2 f3
   have q0 : (0 : Int)≤(k : Int):=by omega
   have q1 : (k : Int) < (m.free.length : Int):=by omega
   obtain ⟨W6,hW6⟩ : ∃ W6,W6=wr.alloc (.cells #[.int .i64 fa,.int .i64 fn] 54):=⟨_,rfl⟩
   have hE6 : Ext wr W6:=hW6▸(Ext.refl wr).alloc _
   have hp : Blk W6 wr.heap.size 54 #[.int .i64 fa,.int .i64 fn]:=hW6▸Blk.new _ _ _ _ rfl
   have p0:=hp.cell (i:=0) (v:=.int .i64 fa) rfl
   have p1:=hp.cell (i:=1) (v:=.int .i64 fn) rfl
   have hI6:=hI.ext hE6
   have b0c:=hI6.blk.cell (i:=0) (v:=.int .i64 ra) rfl
   have b1c:=hI6.blk.cell (i:=1) (v:=.int .i64 rn) rfl
   have b0f:=hI6.blk.frozen 0
   have b1f:=hI6.blk.frozen 1
   have m3':=hE6.cell m3
   have m4':=hE6.cell m4
   have v1 : IntKind.i64.wrap (fa + fn)=fa + fn:=by rw [IntKind.wrap_i64]; omega
   have v2 : IntKind.i64.wrap (x.page + x.n)=x.page + x.n:=by rw [IntKind.wrap_i64]; omega
   have v3 : IntKind.i64.wrap (rn + fn)=rn + fn:=by rw [IntKind.wrap_i64]; omega
   have HW6:=Lib.hid hW6
   have hnf : wr.heap.size≠wd.heap.size:=by have:=hI.size; omega
   have hnf2 : wd.heap.size≠wr.heap.size:=by omega
   have HI6:=Lib.hid (And.intro hI6 (And.intro hp (And.intro hf (And.intro hL hR))))
   clear hcl hW6 hE6 hp hI6 hI hf hL hR
   go_upto_region 11 with fail
   rw [← HW6.out]
   by_cases t1 : fa + fn=x.page
   ·have e0 : (fa + fn == x.page)=true:=by simpa using t1
    have HT:=Lib.hid t1
    clear t1
    go_wp2
    go_roundg (m.free.length - (k + 1))
    case measure=>go_light; omega
    case rel =>
     have ht : TouchR x (ix noRun m.free k):=by rw [HI6.out.2.2.1]; exact .inl HT.out
     have hln : restL m.free x (k + 1)=LL:=by rw [restL_yes hlt ht,HI6.out.2.2.2.1]
     have hjn : joinL m.free x (k + 1)=⟨min ra fa,rn + fn⟩:=by rw [joinL_yes hlt ht,HI6.out.2.2.2.2,HI6.out.2.2.1]
     refine ⟨k + 1,RA,rc,by omega,rfl,by rw [hln],by go_num,?_⟩
     rw [hln,hjn]
     exact (HI6.out.1.set0 (min ra fa)).set1 (rn + fn)
   ·have e0 : (fa + fn == x.page)=false:=by simpa using t1
    by_cases t2 : fa=x.page + x.n
    ·have e1 : (fa == x.page + x.n)=true:=by simpa using t2
     have HT:=Lib.hid t2
     clear t1 t2
     go_wp2
     go_roundg (m.free.length - (k + 1))
     case measure=>go_light; omega
     case rel =>
      have ht : TouchR x (ix noRun m.free k):=by rw [HI6.out.2.2.1]; exact .inr HT.out
      have hln : restL m.free x (k + 1)=LL:=by rw [restL_yes hlt ht,HI6.out.2.2.2.1]
      have hjn : joinL m.free x (k + 1)=⟨min ra fa,rn + fn⟩:=by rw [joinL_yes hlt ht,HI6.out.2.2.2.2,HI6.out.2.2.1]
      refine ⟨k + 1,RA,rc,by omega,rfl,by rw [hln],by go_num,?_⟩
      rw [hln,hjn]
      exact (HI6.out.1.set0 (min ra fa)).set1 (rn + fn)
    ·have e1 : (fa == x.page + x.n)=false:=by simpa using t2
     have HT:=Lib.hid (show ¬ TouchR x (⟨fa,fn⟩ : RunD) from fun h=>h.elim t1 t2)
     clear t1 t2
     go_wp2_with (at_builtin; refine wpList_push rfl _ _ 25 rfl (wd.heap.size + 1) 54 i0 (.agg #[.int .i64 0,.int .i64 0]) 2 16 Tryz.underlying25 HI.out.1 HI.out.2.1 HI.out.2.2.1 HI.out.2.2.2 rfl (by decide) _ (LL).length (runV (LL)) rfl (HI6.out.1.rest.ext ((Ext.refl _).alloc _)) ⟨W6.heap.size,0,none⟩ 1 (runX (⟨fa,fn⟩ : RunD)) rfl ?pcq (fun j hj=>by unfold runX; split <;> rfl) ?b63q ?bbyq ?bbaq _ rfl (runV (LL ++ [(⟨fa,fn⟩ : RunD)])) (fun j hj=>runV_snoc_lo _ _ j hj) (fun j hj=>runV_snoc_hi _ _ j hj) ?_; (case pcq=>exact fun j hj=>by have h2 : j=0∨j=1:=(by omega); rcases h2 with rfl | rfl; exact cell_new _ _ _ 0 _ rfl; exact cell_new _ _ _ 1 _ rfl); (case b63q=>unfold maxLen; omega); (case bbyq=>omega); (case bbaq=>exact Nat.le_trans HI6.out.1.size ((Ext.refl W6).alloc _).size); intro gq capq wq j1 j2 j3 j4 j5; have HAq:=Lib.hid (And.intro j1 j2); clear j1 j2 j3 j4 j5)
     go_roundg (m.free.length - (k + 1))
     case measure=>go_light; omega
     case rel =>
      have hln : restL m.free x (k + 1)=LL ++ [(⟨fa,fn⟩ : RunD)]:=by rw [restL_no hlt (by rw [HI6.out.2.2.1]; exact HT.out),HI6.out.2.2.2.1,HI6.out.2.2.1]
      have hjn : joinL m.free x (k + 1)=⟨ra,rn⟩:=by rw [joinL_no hlt (by rw [HI6.out.2.2.1]; exact HT.out),HI6.out.2.2.2.2]
      refine ⟨k + 1,some ⟨gq,0,none⟩,capq,by omega,rfl,?_,by go_num,?_⟩
      ·rw [hln,List.length_append]; rfl
      ·rw [hln,hjn]
       refine (HI6.out.1.ext ((Ext.refl _).alloc _)).push HAq.out.2 ?_
       rw [List.length_append]
       exact HAq.out.1
  ·obtain rfl : k=m.free.length:=by omega
   have HJ:=Lib.hid (And.intro hI (And.intro hL hR))
   clear hI hL hR m3 m4
   go_upto_region 14 with fail
   clear x1
   go_wp2
   go_loopg [10] LL.length (fun q i wz=>∃ k : Nat,k≤LL.length∧q=LL.length - k∧i=.int .i64 (k : Int)∧Ext wr wz∧∀ j,j < k→(ix noRun LL j).at_ < ra)
   case atStart=>exact ⟨0,Nat.zero_le _,rfl,rfl,Ext.refl _,fun j hj=>absurd hj (by omega)⟩
   case round =>
    obtain ⟨k,hk,rfl,rfl,hE,hall⟩:=hrel
    have hI:=HJ.out.1.ext hE
    have b1:=hI.blk.cell (i:=0) (v:=.int .i64 ra) rfl
    have HK:=Lib.hid (And.intro hE (And.intro hI hall))
    have q0 : (0 : Int)≤(k : Int):=by omega
    by_cases hgo : k < LL.length∧(ix noRun LL k).at_ < ra
    ·obtain ⟨hlt,h2⟩:=hgo
     obtain ⟨b5,off5,hS5,hcl⟩:=hI.rest.slr (by omega)
     subst hS5
     obtain ⟨pa,hpa⟩ : ∃ pa,(ix noRun LL k).at_=pa:=⟨_,rfl⟩
     have a1 : wr.cell? ⟨b5,off5 + k * 2,none⟩=some (.int .i64 pa):=(hcl (k * 2) (by omega)).trans (congrArg some ((runV0 LL k).trans (by rw [hpa])))
     rw [hpa] at h2
     have q1 : (k : Int) < (LL.length : Int):=by omega
     have e1 : decide (pa < ra)=true:=decide_eq_true h2
     have H2:=Lib.hid (And.intro h2 hpa)
     clear hcl h2 hE hI hall hpa
     go_upto_region 15 with fail
     go_quiet (fail)
     go_wp2
     go_roundg (LL.length - (k + 1))
     case measure=>go_light; omega
     case rel =>
      refine ⟨k + 1,by omega,rfl,by go_num,HK.out.1.drewN _,fun j hj=>?_⟩
      by_cases e : j=k
      ·subst e; rw [H2.out.2]; exact H2.out.1
      ·exact HK.out.2.2 j (by omega)
    ·have hnx : k < LL.length→¬ (ix noRun LL k).at_ < ra:=fun h1 h2=>hgo ⟨h1,h2⟩
     have HPl:=Lib.hid hnx
     have hcs : (k < LL.length∧decide ((ix noRun LL k).at_ < ra)=false)∨k=LL.length:=by
      by_cases e : k < LL.length
      ·exact .inl ⟨e,decide_eq_false (fun h=>hgo ⟨e,h⟩)⟩
      ·exact .inr (by omega)
     clear hgo hall hnx
     go_upto_region 15 with fail
     go_cut [104] (fun v wx=>v=.bool false∧Ext wr wx)
     case first =>
      rcases hcs with ⟨hlt,e1⟩ | hkl
      ·obtain ⟨b5,off5,hS5,hcl⟩:=hI.rest.slr (by omega)
       subst hS5
       obtain ⟨pa,hpa⟩ : ∃ pa,(ix noRun LL k).at_=pa:=⟨_,rfl⟩
       have a1 : wr.cell? ⟨b5,off5 + k * 2,none⟩=some (.int .i64 pa):=(hcl (k * 2) (by omega)).trans (congrArg some ((runV0 LL k).trans (by rw [hpa])))
       rw [hpa] at e1
       have q1 : (k : Int) < (LL.length : Int):=by omega
       clear hcl hE hI hpa
       go_quiet (fail)
       go_wp2
       go_meet
       exact ⟨rfl,(Ext.refl _).drewN _⟩
      ·have q1 : ¬ ((k : Int) < (LL.length : Int)):=by omega
       have q2 : ¬ (k < LL.length):=by omega
       clear hE hI hkl
       go_quiet (fail)
       go_wp2
       go_meet
       exact ⟨rfl,(Ext.refl _).drewN _⟩
     case rest =>
      obtain ⟨rfl,hEx⟩:=hcut
      have HEk:=Lib.hid hEx
      clear hEx b1 hE hI hcs
      have hIc:=HK.out.2.1.ext HEk.out
      have hsl:=hIc.rest.slr
      have hsc : LL.length≤rc:=hIc.rest.lec
      obtain ⟨qA,hqA⟩ : ∃ qA,(if rc=k then RA else RA.map (fun a=>a.add (k * 2)))=qA:=⟨_,rfl⟩
      have hsl2 : SlR wc qA (LL.length - k) 2 (fun j=>runV LL (k * 2 + j)):=by
       rw [← hqA]
       exact hsl.cut (a:=k) (b:=LL.length) (c:=rc) hk (Nat.le_refl _) hsc _ (fun j=>rfl)
      have HQ2:=Lib.hid (And.intro hsl hsl2)
      have HC2:=Lib.hid (And.intro hIc.desk (And.intro hIc.blk hIc))
      have q2 : (k : Int)≤(LL.length : Int):=by omega
      have q3 : (k : Int)≤(rc : Int):=by omega
      have hx0 : ∀ a : Addr,a.add 0=a:=fun a=>rfl
      have hm0 : RA.map (fun a=>a.add 0)=RA:=by cases RA <;> rfl
      clear hIc hsl hsl2
      go_upto_region 17 with fail
      refine wp_region_inv (fun L a w'=>∃ u107 u108 u109 u110 u111 u112 u113 u114 u115 u116 u117 u118 u119 u120 u121,a=⟨#[.pointer (some ⟨d,0,none⟩),.agg #[.int .i64 x.kind,.int .i64 x.thread,.int .i64 x.entry,.int .i64 x.page,.int .i64 x.n,.int .u64 (x.mask : Int)],undef,.pointer (some ⟨w.heap.size,0,none⟩),.bool false,.int .i64 (j : Int),.pointer (some ⟨wd.heap.size,0,none⟩),.slice RA LL.length rc,.int .i64 (m.free.length : Int),u9,.int .i64 (k : Int),u11,u12,u13,u14,u15,u16,u17,u18,u19,u20,u21,u22,u23,u24,u25,u26,u27,u28,u29,u30,u31,u32,.bool false,.pointer (some ⟨d,0,none⟩),.int .i64 (j : Int),.tuple #[],.pointer (some ⟨w.heap.size,3,none⟩),.int .i64 x.page,.pointer (some ⟨w.heap.size,4,none⟩),.int .i64 x.n,.agg #[.int .i64 x.page,.int .i64 x.n],.int .i64 (m.free.length : Int),.pointer (some ⟨d,0,none⟩),.pointer (some ⟨d,0,none⟩),.pointer (some ⟨d,1,none⟩),.slice F1 m.free.length fc,.int .i64 (m.free.length : Int),.bool false,u49,u50,u51,u52,u53,u54,u55,u56,u57,u58,u59,u60,u61,u62,u63,u64,u65,u66,u67,u68,u69,u70,u71,u72,u73,u74,u75,u76,u77,u78,u79,u80,u81,u82,u83,u84,u85,u86,u87,u88,u89,u90,u91,u92,u93,u94,u95,u96,u97,u98,u99,u100,u101,u102,u103,.bool false,u105,u106,u107,u108,u109,u110,u111,u112,u113,u114,u115,u116,u117,u118,u119,u120,u121],[]⟩∧BackJ LL ra rn k d rc RA qA wc L u107 u108 u109 u110 u111 u112 u113 u114 u115 u116 u117 u118 u119 u120 u121 w') rfl (by kernel_rfl) ?h0 ?hstep ?hend
      case h0 =>
       refine ⟨u107,u108,u109,u110,u111,u112,u113,u114,u115,u116,u117,u118,u119,u120,u121,rfl,?_⟩
       constructor
       case ext=>exact fun _=>(Ext.refl wc).drew
       all_goals exact fun h=>(by cases h)
      case hstep =>
       intro L a w' i o ho hL hdep hI
       obtain ⟨u107,u108,u109,u110,u111,u112,u113,u114,u115,u116,u117,u118,u119,u120,u121,rfl,I⟩:=hI
       rcases i with _ | _ | _ | _ | _ | _ | _ | _ | _ | _ | _ | _ | _ | _ | _ | _ | i
       ·cases ho
        have h21 : L 15=false:=Bool.eq_false_iff.2 fun h=>notL hL (I.z4 h 0 (by omega))
        have hX:=I.ext h21
        go_wp2
        refine ⟨fun _=>⟨_,u108,u109,u110,u111,u112,u113,u114,u115,u116,u117,u118,u119,u120,u121,rfl,?_⟩,fun h=>absurd rfl h⟩
        constructor
        case s0=>exact fun _=>rfl
        case n1=>exact kF I.n1
        case s2=>exact kL I.s2
        case s3=>exact kL I.s3
        case s4=>exact kL I.s4
        case n5=>exact kF I.n5
        case s6=>exact kL I.s6
        case n7=>exact kF I.n7
        case n8=>exact kF I.n8
        case s9=>exact kL I.s9
        case s10=>exact kL I.s10
        case s11=>exact kL I.s11
        case n12=>exact kF I.n12
        case s13=>exact kL I.s13
        case s14=>exact kL I.s14
        case ne0=>exact k4 I.ne0
        case ne1=>exact k3 I.ne1
        case z1=>exact kZ I.z1
        case z2=>exact kB I.z2
        case z3=>exact kZ I.z3
        case z5=>exact kZ I.z5
        case z4=>exact kA I.z4
        case ext=>exact fun _=>hX
        case fin=>exact fun h=>notL hL (I.z4 (keepL h (by decide)) 0 (by omega))
       ·cases ho
        have h21 : L 15=false:=Bool.eq_false_iff.2 fun h=>notL hL (I.z4 h 1 (by omega))
        have hX:=I.ext h21
        have hE2 : Ext w' (w'.alloc (.cells #[] 54)):=(Ext.refl w').alloc _
        have hn0 : L 7=true→L 8=false→(Value.slice (some ⟨w'.heap.size,0,none⟩) 0 0).ownBlock≠u114.ownBlock:=fun h h2=>by
         obtain ⟨g,e,hb⟩:=I.n7 h h2
         have:=hb.lt
         rw [e]
         intro h3
         have h4 : some w'.heap.size=some g:=h3
         injection h4 with h4
         omega
        go_wp2
        refine ⟨fun _=>⟨u107,_,u109,u110,u111,u112,u113,u114,u115,u116,u117,u118,u119,u120,u121,rfl,?_⟩,fun h=>absurd rfl h⟩
        constructor
        case s0=>exact kL I.s0
        case n1=>exact fun _ _=>⟨_,_,rfl,(OwnS.lit0 w' 54 2 (runV (cutIn LL k k [(⟨ra,rn⟩ : RunD)]))).mono hX.size⟩
        case s2=>exact kL I.s2
        case s3=>exact kL I.s3
        case s4=>exact kL I.s4
        case n5 =>
         intro h h2
         obtain ⟨A,c,e,hO⟩:=I.n5 (keepL h (by decide)) (keepF h2 (by decide))
         exact ⟨A,c,e,hO.ext hE2⟩
        case s6=>exact kL I.s6
        case n7 =>
         intro h h2
         obtain ⟨g,e,hb⟩:=I.n7 (keepL h (by decide)) (keepF h2 (by decide))
         exact ⟨g,e,hb.ext hE2⟩
        case n8 =>
         intro h h2
         obtain ⟨A,c,e,hO⟩:=I.n8 (keepL h (by decide)) (keepF h2 (by decide))
         exact ⟨A,c,e,hO.ext hE2⟩
        case s9=>exact kL I.s9
        case s10=>exact kL I.s10
        case s11=>exact kL I.s11
        case n12 =>
         intro h h2
         obtain ⟨A,c,e,hO⟩:=I.n12 (keepL h (by decide)) (keepF h2 (by decide))
         exact ⟨A,c,e,hO.ext hE2⟩
        case s13=>exact kL I.s13
        case s14=>exact kL I.s14
        case ne0=>exact fun h h2 _ _=>hn0 (keepL h (by decide)) (keepF h2 (by decide))
        case ne1=>exact k3 I.ne1
        case z1=>exact kZ I.z1
        case z2=>exact kB I.z2
        case z3=>exact kZ I.z3
        case z5=>exact kZ I.z5
        case z4=>exact kA I.z4
        case ext=>exact fun _=>hX.trans hE2
        case fin=>exact fun h=>notL hL (I.z4 (keepL h (by decide)) 1 (by omega))
       ·cases ho
        have h21 : L 15=false:=Bool.eq_false_iff.2 fun h=>notL hL (I.z4 h 2 (by omega))
        have hX:=I.ext h21
        go_wp2
        refine ⟨fun _=>⟨u107,u108,_,u110,u111,u112,u113,u114,u115,u116,u117,u118,u119,u120,u121,rfl,?_⟩,fun h=>absurd rfl h⟩
        constructor
        case s0=>exact kL I.s0
        case n1=>exact kF I.n1
        case s2=>exact fun _=>rfl
        case s3=>exact kL I.s3
        case s4=>exact kL I.s4
        case n5=>exact kF I.n5
        case s6=>exact kL I.s6
        case n7=>exact kF I.n7
        case n8=>exact kF I.n8
        case s9=>exact kL I.s9
        case s10=>exact kL I.s10
        case s11=>exact kL I.s11
        case n12=>exact kF I.n12
        case s13=>exact kL I.s13
        case s14=>exact kL I.s14
        case ne0=>exact k4 I.ne0
        case ne1=>exact k3 I.ne1
        case z1=>exact kZ I.z1
        case z2=>exact kB I.z2
        case z3=>exact kZ I.z3
        case z5=>exact kZ I.z5
        case z4=>exact kA I.z4
        case ext=>exact fun _=>hX
        case fin=>exact fun h=>notL hL (I.z4 (keepL h (by decide)) 2 (by omega))
       ·cases ho
        have h21 : L 15=false:=Bool.eq_false_iff.2 fun h=>notL hL (I.z4 h 3 (by omega))
        have hX:=I.ext h21
        go_wp2
        refine ⟨fun _=>⟨u107,u108,u109,_,u111,u112,u113,u114,u115,u116,u117,u118,u119,u120,u121,rfl,?_⟩,fun h=>absurd rfl h⟩
        constructor
        case s0=>exact kL I.s0
        case n1=>exact kF I.n1
        case s2=>exact kL I.s2
        case s3=>exact fun _=>rfl
        case s4=>exact kL I.s4
        case n5=>exact kF I.n5
        case s6=>exact kL I.s6
        case n7=>exact kF I.n7
        case n8=>exact kF I.n8
        case s9=>exact kL I.s9
        case s10=>exact kL I.s10
        case s11=>exact kL I.s11
        case n12=>exact kF I.n12
        case s13=>exact kL I.s13
        case s14=>exact kL I.s14
        case ne0=>exact k4 I.ne0
        case ne1=>exact k3 I.ne1
        case z1=>exact kZ I.z1
        case z2=>exact kB I.z2
        case z3=>exact kZ I.z3
        case z5=>exact kZ I.z5
        case z4=>exact kA I.z4
        case ext=>exact fun _=>hX
        case fin=>exact fun h=>notL hL (I.z4 (keepL h (by decide)) 3 (by omega))
       ·cases ho
        have h21 : L 15=false:=Bool.eq_false_iff.2 fun h=>notL hL (I.z4 h 4 (by omega))
        have hX:=I.ext h21
        have e2:=I.s2 (hdep ⟨2,.data⟩ (by simp) rfl)
        have e3:=I.s3 (hdep ⟨3,.data⟩ (by simp) rfl)
        subst e2 e3
        go_wp2
        refine ⟨fun _=>⟨u107,u108,_,_,_,u112,u113,u114,u115,u116,u117,u118,u119,u120,u121,rfl,?_⟩,fun h=>absurd rfl h⟩
        constructor
        case s0=>exact kL I.s0
        case n1=>exact kF I.n1
        case s2=>exact kL I.s2
        case s3=>exact kL I.s3
        case s4=>exact fun _=>rfl
        case n5=>exact kF I.n5
        case s6=>exact kL I.s6
        case n7=>exact kF I.n7
        case n8=>exact kF I.n8
        case s9=>exact kL I.s9
        case s10=>exact kL I.s10
        case s11=>exact kL I.s11
        case n12=>exact kF I.n12
        case s13=>exact kL I.s13
        case s14=>exact kL I.s14
        case ne0=>exact k4 I.ne0
        case ne1=>exact k3 I.ne1
        case z1=>exact kZ I.z1
        case z2=>exact kB I.z2
        case z3=>exact kZ I.z3
        case z5=>exact kZ I.z5
        case z4=>exact kA I.z4
        case ext=>exact fun _=>hX
        case fin=>exact fun h=>notL hL (I.z4 (keepL h (by decide)) 4 (by omega))
       ·cases ho
        have h21 : L 15=false:=Bool.eq_false_iff.2 fun h=>notL hL (I.z4 h 5 (by omega))
        have hX:=I.ext h21
        have hd : L 1=true:=hdep ⟨1,.data⟩ (by simp) rfl
        obtain ⟨A0,c0,ee,hO0⟩:=I.n1 hd hL
        have ne0:=I.ne0
        have e4:=I.s4 (hdep ⟨4,.data⟩ (by simp) rfl)
        have hne0:=fun h1 h2=>I.ne0 h1 h2 hd hL
        subst ee e4
        refine wpList_pushAll rfl _ _ 25 rfl wc.heap.size 54 i0 (.agg #[.int .i64 0,.int .i64 0]) 2 16 Tryz.underlying25 HI.out.1 HI.out.2.1 HI.out.2.2.1 HI.out.2.2.2 rfl (by decide) _ 0 (runV (cutIn LL k k [(⟨ra,rn⟩ : RunD)])) rfl hO0 RA k rc (runV LL) rfl ((HQ2.out.1.upto (by omega)).ext hX) (fun j _=>runV_one2 _ _) ?b63 ?bby ?bba (runV (cutIn LL k k [(⟨ra,rn⟩ : RunD)])) (fun j _=>rfl) (fun j hj=>by rw [Nat.zero_mul,Nat.zero_add]; exact rowV_lo (C:=runX) (d:=noRun) (sz:=2) (by omega) j hj) k (by omega) ?_
        case b63=>unfold maxLen; omega
        case bby=>omega
        case bba=>exact hX.size
        intro A' c' w2 hO2 hg2 hX2 hb2
        replace hX2:=hX2 _ hX (Nat.le_refl _)
        have hn1 : L 7=true→L 8=false→(Value.slice A' k c').ownBlock≠u114.ownBlock:=fun h h2=>by
         obtain ⟨g,e,hb⟩:=I.n7 h h2
         rcases hb2 with h3 | h3
         ·rw [h3]; exact hne0 h h2
         ·rw [h3,e]
          intro h5
          have h4 : some w'.heap.size=some g:=h5
          injection h4 with h4
          have:=hb.lt
          omega
        go_wp2
        refine ⟨fun _=>⟨u107,_,u109,u110,_,_,u113,u114,u115,u116,u117,u118,u119,u120,u121,rfl,?_⟩,fun h=>absurd rfl h⟩
        constructor
        case s0=>exact kL I.s0
        case n1=>exact fun _ h=>setL_no h
        case s2=>exact kL I.s2
        case s3=>exact kL I.s3
        case s4=>exact kL I.s4
        case n5=>exact fun _ _=>⟨A',c',rfl,hO2⟩
        case s6=>exact kL I.s6
        case n7 =>
         intro h h2
         obtain ⟨g,e,hb⟩:=I.n7 (keepL h (by decide)) (keepF h2 (by decide))
         have hne:=I.ne0 (keepL h (by decide)) (keepF h2 (by decide)) hd hL
         rw [e] at hne
         exact ⟨g,e,hb.grown hg2 (fun h=>hne h.symm)⟩
        case n8=>exact fun h _=>notL hL ((I.z2 (keepL h (by decide))).1)
        case s9=>exact kL I.s9
        case s10=>exact kL I.s10
        case s11=>exact kL I.s11
        case n12=>exact fun h _=>notL hL ((I.z2 (I.z3 (keepL h (by decide)))).1)
        case s13=>exact kL I.s13
        case s14=>exact kL I.s14
        case ne0=>exact fun _ _ _ h=>setL_no h
        case ne1=>exact fun h h2 _=>hn1 (keepL h (by decide)) (keepF h2 (by decide))
        case z1=>exact fun _=>setL_le hd
        case z2=>exact kB I.z2
        case z3=>exact kZ I.z3
        case z5=>exact kZ I.z5
        case z4=>exact kA I.z4
        case ext=>exact fun _=>hX2
        case fin=>exact fun h=>notL hL (I.z4 (keepL h (by decide)) 5 (by omega))
       ·cases ho
        have h21 : L 15=false:=Bool.eq_false_iff.2 fun h=>notL hL (I.z4 h 6 (by omega))
        have hX:=I.ext h21
        have y0:=hX.cell (HC2.out.2.1.cell (i:=0) (v:=.int .i64 ra) rfl)
        have y1:=hX.cell (HC2.out.2.1.cell (i:=1) (v:=.int .i64 rn) rfl)
        go_wp2
        refine ⟨fun _=>⟨u107,u108,u109,u110,u111,u112,_,u114,u115,u116,u117,u118,u119,u120,u121,rfl,?_⟩,fun h=>absurd rfl h⟩
        constructor
        case s0=>exact kL I.s0
        case n1=>exact kF I.n1
        case s2=>exact kL I.s2
        case s3=>exact kL I.s3
        case s4=>exact kL I.s4
        case n5=>exact kF I.n5
        case s6=>exact fun _=>rfl
        case n7=>exact kF I.n7
        case n8=>exact kF I.n8
        case s9=>exact kL I.s9
        case s10=>exact kL I.s10
        case s11=>exact kL I.s11
        case n12=>exact kF I.n12
        case s13=>exact kL I.s13
        case s14=>exact kL I.s14
        case ne0=>exact k4 I.ne0
        case ne1=>exact k3 I.ne1
        case z1=>exact kZ I.z1
        case z2=>exact kB I.z2
        case z3=>exact kZ I.z3
        case z5=>exact kZ I.z5
        case z4=>exact kA I.z4
        case ext=>exact fun _=>hX
        case fin=>exact fun h=>notL hL (I.z4 (keepL h (by decide)) 6 (by omega))
       ·cases ho
        have h21 : L 15=false:=Bool.eq_false_iff.2 fun h=>notL hL (I.z4 h 7 (by omega))
        have hX:=I.ext h21
        have e6:=I.s6 (hdep ⟨6,.data⟩ (by simp) rfl)
        subst e6
        have hE2 : Ext w' (w'.alloc (.cells #[.int .i64 ra,.int .i64 rn] 54)):=(Ext.refl w').alloc _
        have hn0 : L 1=true→L 5=false→u108.ownBlock≠(Value.slice (some ⟨w'.heap.size,0,none⟩) 1 1).ownBlock:=fun h h2=>by
         obtain ⟨A,c,e,hO⟩:=I.n1 h h2
         rw [e]
         intro h3
         have:=(World.ownsRow.lt hO w'.heap.size (by rw [h3]; rfl)).2
         omega
        have hn1 : L 5=true→L 8=false→u112.ownBlock≠(Value.slice (some ⟨w'.heap.size,0,none⟩) 1 1).ownBlock:=fun h h2=>by
         obtain ⟨A,c,e,hO⟩:=I.n5 h h2
         rw [e]
         intro h3
         have:=(World.ownsRow.lt hO w'.heap.size (by rw [h3]; rfl)).2
         omega
        go_wp2
        refine ⟨fun _=>⟨u107,u108,u109,u110,u111,u112,_,_,u115,u116,u117,u118,u119,u120,u121,rfl,?_⟩,fun h=>absurd rfl h⟩
        constructor
        case s0=>exact kL I.s0
        case n1 =>
         intro h h2
         obtain ⟨A,c,e,hO⟩:=I.n1 (keepL h (by decide)) (keepF h2 (by decide))
         exact ⟨A,c,e,hO.ext hE2⟩
        case s2=>exact kL I.s2
        case s3=>exact kL I.s3
        case s4=>exact kL I.s4
        case n5 =>
         intro h h2
         obtain ⟨A,c,e,hO⟩:=I.n5 (keepL h (by decide)) (keepF h2 (by decide))
         exact ⟨A,c,e,hO.ext hE2⟩
        case s6=>exact kL I.s6
        case n7=>exact fun _ _=>⟨_,rfl,Blk.new _ _ _ _ rfl⟩
        case n8 =>
         intro h h2
         obtain ⟨A,c,e,hO⟩:=I.n8 (keepL h (by decide)) (keepF h2 (by decide))
         exact ⟨A,c,e,hO.ext hE2⟩
        case s9=>exact kL I.s9
        case s10=>exact kL I.s10
        case s11=>exact kL I.s11
        case n12 =>
         intro h h2
         obtain ⟨A,c,e,hO⟩:=I.n12 (keepL h (by decide)) (keepF h2 (by decide))
         exact ⟨A,c,e,hO.ext hE2⟩
        case s13=>exact kL I.s13
        case s14=>exact kL I.s14
        case ne0=>exact fun _ _ h h2=>hn0 (keepL h (by decide)) (keepF h2 (by decide))
        case ne1=>exact fun _ h h2=>hn1 (keepL h2 (by decide)) (keepF h (by decide))
        case z1=>exact kZ I.z1
        case z2=>exact kB I.z2
        case z3=>exact kZ I.z3
        case z5=>exact kZ I.z5
        case z4=>exact kA I.z4
        case ext=>exact fun _=>hX.trans hE2
        case fin=>exact fun h=>notL hL (I.z4 (keepL h (by decide)) 7 (by omega))
       ·cases ho
        have h21 : L 15=false:=Bool.eq_false_iff.2 fun h=>notL hL (I.z4 h 8 (by omega))
        have hX:=I.ext h21
        have hd : L 5=true:=hdep ⟨5,.data⟩ (by simp) rfl
        have hd2 : L 7=true:=hdep ⟨7,.data⟩ (by simp) rfl
        obtain ⟨A0,c0,ee,hO0⟩:=I.n5 hd hL
        obtain ⟨gB,eB,hB⟩:=I.n7 hd2 hL
        subst ee eB
        refine wpList_pushAll rfl _ _ 25 rfl wc.heap.size 54 i0 (.agg #[.int .i64 0,.int .i64 0]) 2 16 Tryz.underlying25 HI.out.1 HI.out.2.1 HI.out.2.2.1 HI.out.2.2.2 rfl (by decide) _ k (runV (cutIn LL k k [(⟨ra,rn⟩ : RunD)])) rfl hO0 (some ⟨gB,0,none⟩) 1 1 (runX (⟨ra,rn⟩ : RunD)) rfl (slr_blk2 hB) (fun j _=>by unfold runX; split <;> rfl) ?b63 ?bby ?bba (runV (cutIn LL k k [(⟨ra,rn⟩ : RunD)])) (fun j _=>rfl) (fun j hj=>(rowV_mid (C:=runX) (d:=noRun) (sz:=2) (vs:=[(⟨ra,rn⟩ : RunD)]) (by decide) (by omega) j hj).trans (by unfold rowV; obtain rfl | rfl : j=0∨j=1:=(by have : j < 1 * 2:=hj; omega) <;> rfl)) (k + 1) (by omega) ?_
        case b63=>unfold maxLen; omega
        case bby=>omega
        case bba=>exact hX.size
        intro A' c' w2 hO2 hg2 hX2 hb2
        replace hX2:=hX2 _ hX (Nat.le_refl _)
        go_wp2
        refine ⟨fun _=>⟨u107,u108,u109,u110,u111,_,u113,_,_,u116,u117,u118,u119,u120,u121,rfl,?_⟩,fun h=>absurd rfl h⟩
        constructor
        case s0=>exact kL I.s0
        case n1=>exact fun _ h=>absurd (keepF h (by decide)) (by rw [hd]; decide)
        case s2=>exact kL I.s2
        case s3=>exact kL I.s3
        case s4=>exact kL I.s4
        case n5=>exact fun _ h=>setL_no h
        case s6=>exact kL I.s6
        case n7=>exact fun _ h=>setL_no h
        case n8=>exact fun _ _=>⟨A',c',rfl,hO2⟩
        case s9=>exact kL I.s9
        case s10=>exact kL I.s10
        case s11=>exact kL I.s11
        case n12=>exact fun h _=>notL hL (I.z3 (keepL h (by decide)))
        case s13=>exact kL I.s13
        case s14=>exact kL I.s14
        case ne0=>exact fun _ h=>setL_no h
        case ne1=>exact fun _ h=>setL_no h
        case z1=>exact kZ I.z1
        case z2=>exact fun _=>⟨setL_le hd,setL_le hd2⟩
        case z3=>exact kZ I.z3
        case z5=>exact kZ I.z5
        case z4=>exact kA I.z4
        case ext=>exact fun _=>hX2
        case fin=>exact fun h=>notL hL (I.z4 (keepL h (by decide)) 8 (by omega))
       ·cases ho
        have h21 : L 15=false:=Bool.eq_false_iff.2 fun h=>notL hL (I.z4 h 9 (by omega))
        have hX:=I.ext h21
        go_wp2
        refine ⟨fun _=>⟨u107,u108,u109,u110,u111,u112,u113,u114,u115,_,u117,u118,u119,u120,u121,rfl,?_⟩,fun h=>absurd rfl h⟩
        constructor
        case s0=>exact kL I.s0
        case n1=>exact kF I.n1
        case s2=>exact kL I.s2
        case s3=>exact kL I.s3
        case s4=>exact kL I.s4
        case n5=>exact kF I.n5
        case s6=>exact kL I.s6
        case n7=>exact kF I.n7
        case n8=>exact kF I.n8
        case s9=>exact fun _=>rfl
        case s10=>exact kL I.s10
        case s11=>exact kL I.s11
        case n12=>exact kF I.n12
        case s13=>exact kL I.s13
        case s14=>exact kL I.s14
        case ne0=>exact k4 I.ne0
        case ne1=>exact k3 I.ne1
        case z1=>exact kZ I.z1
        case z2=>exact kB I.z2
        case z3=>exact kZ I.z3
        case z5=>exact kZ I.z5
        case z4=>exact kA I.z4
        case ext=>exact fun _=>hX
        case fin=>exact fun h=>notL hL (I.z4 (keepL h (by decide)) 9 (by omega))
       ·cases ho
        have h21 : L 15=false:=Bool.eq_false_iff.2 fun h=>notL hL (I.z4 h 10 (by omega))
        have hX:=I.ext h21
        go_wp2
        refine ⟨fun _=>⟨u107,u108,u109,u110,u111,u112,u113,u114,u115,u116,_,u118,u119,u120,u121,rfl,?_⟩,fun h=>absurd rfl h⟩
        constructor
        case s0=>exact kL I.s0
        case n1=>exact kF I.n1
        case s2=>exact kL I.s2
        case s3=>exact kL I.s3
        case s4=>exact kL I.s4
        case n5=>exact kF I.n5
        case s6=>exact kL I.s6
        case n7=>exact kF I.n7
        case n8=>exact kF I.n8
        case s9=>exact kL I.s9
        case s10=>exact fun _=>rfl
        case s11=>exact kL I.s11
        case n12=>exact kF I.n12
        case s13=>exact kL I.s13
        case s14=>exact kL I.s14
        case ne0=>exact k4 I.ne0
        case ne1=>exact k3 I.ne1
        case z1=>exact kZ I.z1
        case z2=>exact kB I.z2
        case z3=>exact kZ I.z3
        case z5=>exact kZ I.z5
        case z4=>exact kA I.z4
        case ext=>exact fun _=>hX
        case fin=>exact fun h=>notL hL (I.z4 (keepL h (by decide)) 10 (by omega))
       ·cases ho
        have h21 : L 15=false:=Bool.eq_false_iff.2 fun h=>notL hL (I.z4 h 11 (by omega))
        have hX:=I.ext h21
        have e9:=I.s9 (hdep ⟨9,.data⟩ (by simp) rfl)
        have e10:=I.s10 (hdep ⟨10,.data⟩ (by simp) rfl)
        subst e9 e10
        go_wp2
        refine ⟨fun _=>⟨u107,u108,u109,u110,u111,u112,u113,u114,u115,_,_,_,u119,u120,u121,rfl,?_⟩,fun h=>absurd rfl h⟩
        constructor
        case s0=>exact kL I.s0
        case n1=>exact kF I.n1
        case s2=>exact kL I.s2
        case s3=>exact kL I.s3
        case s4=>exact kL I.s4
        case n5=>exact kF I.n5
        case s6=>exact kL I.s6
        case n7=>exact kF I.n7
        case n8=>exact kF I.n8
        case s9=>exact kL I.s9
        case s10=>exact kL I.s10
        case s11=>exact fun _=>rfl
        case n12=>exact kF I.n12
        case s13=>exact kL I.s13
        case s14=>exact kL I.s14
        case ne0=>exact k4 I.ne0
        case ne1=>exact k3 I.ne1
        case z1=>exact kZ I.z1
        case z2=>exact kB I.z2
        case z3=>exact kZ I.z3
        case z5=>exact kZ I.z5
        case z4=>exact kA I.z4
        case ext=>exact fun _=>hX
        case fin=>exact fun h=>notL hL (I.z4 (keepL h (by decide)) 11 (by omega))
       ·cases ho
        have h21 : L 15=false:=Bool.eq_false_iff.2 fun h=>notL hL (I.z4 h 12 (by omega))
        have hX:=I.ext h21
        have hd : L 8=true:=hdep ⟨8,.data⟩ (by simp) rfl
        obtain ⟨A0,c0,ee,hO0⟩:=I.n8 hd hL
        have e11:=I.s11 (hdep ⟨11,.data⟩ (by simp) rfl)
        subst ee e11
        refine wpList_pushAll rfl _ _ 25 rfl wc.heap.size 54 i0 (.agg #[.int .i64 0,.int .i64 0]) 2 16 Tryz.underlying25 HI.out.1 HI.out.2.1 HI.out.2.2.1 HI.out.2.2.2 rfl (by decide) _ (k + 1) (runV (cutIn LL k k [(⟨ra,rn⟩ : RunD)])) rfl hO0 qA (LL.length - k) (rc - k) (fun j=>runV LL (k * 2 + j)) rfl (HQ2.out.2.ext hX) (fun j _=>runV_one2 _ _) ?b63 ?bby ?bba (runV (cutIn LL k k [(⟨ra,rn⟩ : RunD)])) (fun j _=>rfl) (fun j hj=>rowV_hi (C:=runX) (d:=noRun) (sz:=2) (vs:=[(⟨ra,rn⟩ : RunD)]) (by decide) (by omega) j) (cutIn LL k k [(⟨ra,rn⟩ : RunD)]).length (by rw [cutIn_length (by omega)]; simp only [List.length_cons,List.length_nil]; try omega) ?_
        case b63=>unfold maxLen; omega
        case bby=>omega
        case bba=>exact hX.size
        intro A' c' w2 hO2 hg2 hX2 hb2
        replace hX2:=hX2 _ hX (Nat.le_refl _)
        go_wp2
        refine ⟨fun _=>⟨u107,u108,u109,u110,u111,u112,u113,u114,_,u116,u117,_,_,u120,u121,rfl,?_⟩,fun h=>absurd rfl h⟩
        constructor
        case s0=>exact kL I.s0
        case n1=>exact fun _ h=>absurd (keepF h (by decide)) (by rw [(I.z2 hd).1]; decide)
        case s2=>exact kL I.s2
        case s3=>exact kL I.s3
        case s4=>exact kL I.s4
        case n5=>exact fun _ h=>absurd (keepF h (by decide)) (by rw [hd]; decide)
        case s6=>exact kL I.s6
        case n7=>exact fun _ h2=>absurd (keepF h2 (by decide)) (by rw [hd]; decide)
        case n8=>exact fun _ h=>setL_no h
        case s9=>exact kL I.s9
        case s10=>exact kL I.s10
        case s11=>exact kL I.s11
        case n12=>exact fun _ _=>⟨A',c',rfl,hO2⟩
        case s13=>exact kL I.s13
        case s14=>exact kL I.s14
        case ne0=>exact k4 I.ne0
        case ne1=>exact k3 I.ne1
        case z1=>exact kZ I.z1
        case z2=>exact kB I.z2
        case z3=>exact fun _=>setL_le hd
        case z5=>exact kZ I.z5
        case z4=>exact kA I.z4
        case ext=>exact fun _=>hX2
        case fin=>exact fun h=>notL hL (I.z4 (keepL h (by decide)) 12 (by omega))
       ·cases ho
        have h21 : L 15=false:=Bool.eq_false_iff.2 fun h=>notL hL (I.z4 h 13 (by omega))
        have hX:=I.ext h21
        have e0:=I.s0 (hdep ⟨0,.data⟩ (by simp) rfl)
        subst e0
        go_wp2
        refine ⟨fun _=>⟨_,u108,u109,u110,u111,u112,u113,u114,u115,u116,u117,u118,u119,_,u121,rfl,?_⟩,fun h=>absurd rfl h⟩
        constructor
        case s0=>exact kL I.s0
        case n1=>exact kF I.n1
        case s2=>exact kL I.s2
        case s3=>exact kL I.s3
        case s4=>exact kL I.s4
        case n5=>exact kF I.n5
        case s6=>exact kL I.s6
        case n7=>exact kF I.n7
        case n8=>exact kF I.n8
        case s9=>exact kL I.s9
        case s10=>exact kL I.s10
        case s11=>exact kL I.s11
        case n12=>exact kF I.n12
        case s13=>exact fun _=>rfl
        case s14=>exact kL I.s14
        case ne0=>exact k4 I.ne0
        case ne1=>exact k3 I.ne1
        case z1=>exact kZ I.z1
        case z2=>exact kB I.z2
        case z3=>exact kZ I.z3
        case z5=>exact kZ I.z5
        case z4=>exact kA I.z4
        case ext=>exact fun _=>hX
        case fin=>exact fun h=>notL hL (I.z4 (keepL h (by decide)) 13 (by omega))
       ·cases ho
        have h21 : L 15=false:=Bool.eq_false_iff.2 fun h=>notL hL (I.z4 h 14 (by omega))
        have hX:=I.ext h21
        have e13:=I.s13 (hdep ⟨13,.data⟩ (by simp) rfl)
        have hd : L 13=true:=hdep ⟨13,.data⟩ (by simp) rfl
        subst e13
        go_wp2
        refine ⟨fun _=>⟨u107,u108,u109,u110,u111,u112,u113,u114,u115,u116,u117,u118,u119,_,_,rfl,?_⟩,fun h=>absurd rfl h⟩
        constructor
        case s0=>exact kL I.s0
        case n1=>exact kF I.n1
        case s2=>exact kL I.s2
        case s3=>exact kL I.s3
        case s4=>exact kL I.s4
        case n5=>exact kF I.n5
        case s6=>exact kL I.s6
        case n7=>exact kF I.n7
        case n8=>exact kF I.n8
        case s9=>exact kL I.s9
        case s10=>exact kL I.s10
        case s11=>exact kL I.s11
        case n12=>exact kF I.n12
        case s13=>exact kL I.s13
        case s14=>exact fun _=>rfl
        case ne0=>exact k4 I.ne0
        case ne1=>exact k3 I.ne1
        case z1=>exact kZ I.z1
        case z2=>exact kB I.z2
        case z3=>exact kZ I.z3
        case z5=>exact fun _=>setL_le hd
        case z4=>exact kA I.z4
        case ext=>exact fun _=>hX
        case fin=>exact fun h=>notL hL (I.z4 (keepL h (by decide)) 14 (by omega))
       ·cases ho
        have hall : ∀ j,j < 15→L j=true:=by
         intro j hj
         have hj2 : j=0∨j=1∨j=2∨j=3∨j=4∨j=5∨j=6∨j=7∨j=8∨j=9∨j=10∨j=11∨j=12∨j=13∨j=14:=by omega
         rcases hj2 with rfl | rfl | rfl | rfl | rfl | rfl | rfl | rfl | rfl | rfl | rfl | rfl | rfl | rfl | rfl
         ·exact hdep ⟨0,.phase⟩ (by simp) rfl
         ·exact hdep ⟨1,.phase⟩ (by simp) rfl
         ·exact hdep ⟨2,.phase⟩ (by simp) rfl
         ·exact hdep ⟨3,.phase⟩ (by simp) rfl
         ·exact hdep ⟨4,.phase⟩ (by simp) rfl
         ·exact hdep ⟨5,.phase⟩ (by simp) rfl
         ·exact hdep ⟨6,.phase⟩ (by simp) rfl
         ·exact hdep ⟨7,.phase⟩ (by simp) rfl
         ·exact hdep ⟨8,.phase⟩ (by simp) rfl
         ·exact hdep ⟨9,.phase⟩ (by simp) rfl
         ·exact hdep ⟨10,.phase⟩ (by simp) rfl
         ·exact hdep ⟨11,.phase⟩ (by simp) rfl
         ·exact hdep ⟨12,.phase⟩ (by simp) rfl
         ·exact I.z5 (hdep ⟨14,.data⟩ (by simp) rfl)
         ·exact hdep ⟨14,.data⟩ (by simp) rfl
        have hX:=I.ext hL
        have e14:=I.s14 (hall 14 (by decide))
        obtain ⟨A0,c0,ee,hO0⟩:=I.n12 (hall 12 (by decide)) hL
        subst ee e14
        have hD5:=HC2.out.1.ext hX
        have g5:=hD5.blk.cell (i:=1) (v:=.slice F1 m.free.length fc) rfl
        have gf:=hD5.blk.frozen 1
        have HS:=Lib.hid (And.intro hX hO0)
        clear hX hO0
        go_wp2
        refine ⟨fun _=>⟨u107,u108,u109,u110,u111,u112,u113,u114,u115,u116,u117,u118,_,u120,_,rfl,?_⟩,fun h=>absurd rfl h⟩
        constructor
        case s0=>exact kL I.s0
        case n1=>exact fun _ h=>absurd (keepF h (by decide)) (by rw [hall 5 (by decide)]; decide)
        case s2=>exact kL I.s2
        case s3=>exact kL I.s3
        case s4=>exact kL I.s4
        case n5=>exact fun _ h=>absurd (keepF h (by decide)) (by rw [hall 8 (by decide)]; decide)
        case s6=>exact kL I.s6
        case n7=>exact fun _ h=>absurd (keepF h (by decide)) (by rw [hall 8 (by decide)]; decide)
        case n8=>exact fun _ h=>absurd (keepF h (by decide)) (by rw [hall 12 (by decide)]; decide)
        case s9=>exact kL I.s9
        case s10=>exact kL I.s10
        case s11=>exact kL I.s11
        case n12=>exact fun _ h=>setL_no h
        case s13=>exact kL I.s13
        case s14=>exact kL I.s14
        case ne0=>exact fun _ h=>absurd (keepF h (by decide)) (by rw [hall 8 (by decide)]; decide)
        case ne1=>exact fun _ h=>absurd (keepF h (by decide)) (by rw [hall 8 (by decide)]; decide)
        case z1=>exact fun _=>setL_le (hall 1 (by decide))
        case z2=>exact fun _=>⟨setL_le (hall 5 (by decide)),setL_le (hall 7 (by decide))⟩
        case z3=>exact fun _=>setL_le (hall 8 (by decide))
        case z5=>exact fun _=>setL_le (hall 13 (by decide))
        case z4=>exact fun _ j hj=>setL_le (hall j hj)
        case ext=>exact fun h=>setL_no h
        case fin=>exact fun _=>⟨_,A0,c0,rfl,HS.out⟩
       ·simp at ho
      case hend =>
       intro L a w' hall hI
       obtain ⟨u107,u108,u109,u110,u111,u112,u113,u114,u115,u116,u117,u118,u119,u120,u121,rfl,I⟩:=hI
       obtain ⟨w5,A5,c5,rfl,hX5,hO5⟩:=I.fin (hall 15 (by decide))
       clear I
       have hIe:=HC2.out.2.2.ext hX5
       have hbwc : base≤wc.heap.size:=by have h1:=HC2.out.2.2.far.1; have h2:=HC2.out.2.2.size; omega
       have hfin:=(HC2.out.1.ext hX5).setFree (cutIn LL k k [(⟨ra,rn⟩ : RunD)]) (hO5.mono hbwc)
       have HF:=Lib.hid (And.intro hIe hfin)
       clear hX5 hO5 hIe hfin hbwc
       go_wp2
       go_ret
       have hsz : w.heap.size≤w5.heap.size:=by have h1:=HF.out.1.far.2.2.2; have h2:=HF.out.1.size; omega
       refine ⟨HF.out.1.keep.trans (KeepD.set 1 _),Nat.le_trans hsz (Nat.le_of_eq (by simp)),.inr ⟨rfl,?_⟩⟩
       obtain ⟨kp,hkp⟩:=HG.out.2.2
       have hja:=HP.out.1.2
       rw [HH.out] at hja
       dsimp only at hja
       have hbk : BackOk m.free x kp:=by
        refine ⟨hkp,fun a b ha hb=>?_,fun a ha=>(HG.out.1 a ha).2.1,g2,fun a ha=>?_⟩
        ·have:=List.pairwise_iff_getElem.1 HW.out.2.2.2.2.1.free a b (by omega) hb ha
         rw [ix_lt (d:=noRun) (by omega),ix_lt (d:=noRun) hb]
         exact this
        ·have:=HG.out.2.1 j a hj ha
         rw [HH.out] at this
         dsimp only at this
         rw [hja] at this
         exact this
       have hput:=hbk.put (q:=k) (by rw [HJ.out.2.1]; exact hk) (by rw [HJ.out.2.1,HJ.out.2.2]; exact HK.out.2.2) (by rw [HJ.out.2.1,HJ.out.2.2]; intro h1 h2; have h3:=HPl.out h1; dsimp only at h2; omega)
       rw [HJ.out.2.1,HJ.out.2.2] at hput
       exact ⟨{ m with free:=cutIn LL k k [(⟨ra,rn⟩ : RunD)],hands:=cutIn m.hands j (j + 1) [] },⟨j,kp,hj,HP.out.1,by rw [HH.out],hkp,by rw [hput]⟩,_,H',HF.out.2⟩
end Go.Proofs.YtoolenhnhlfhmaaGreatDoor
