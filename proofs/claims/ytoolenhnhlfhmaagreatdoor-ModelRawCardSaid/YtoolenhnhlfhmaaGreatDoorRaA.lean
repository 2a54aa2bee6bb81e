/- The walk of the law of any model and any mark. -/
import Derived.Test.YtoolenhnhlfhmaaGreatDoorHF
import Derived.Test.YtoolenhnhlfhmaaGreatDoorHA
namespace Go.Proofs.YtoolenhnhlfhmaaGreatDoor
open Go.RowKit Go.Sort
set_option linter.unusedVariables false
set_option linter.unusedSimpArgs false
theorem slr_mark {w : World} {g : Nat} {x : MarkD} (h : Blk w g 34 #[.int .i64 x.kind,.int .i64 x.thread,.int .i64 x.entry,.int .i64 x.page,.int .i64 x.n,.int .u64 (x.mask : Int)]) : SlR w (some ⟨g,0,none⟩) 1 6 (marksV [x]):=fun _=>⟨g,0,rfl,fun j hj=>by
 obtain rfl | rfl | rfl | rfl | rfl | rfl : j=0∨j=1∨j=2∨j=3∨j=4∨j=5:=by omega
 ·exact h.cell rfl
 ·exact h.cell rfl
 ·exact h.cell rfl
 ·exact h.cell rfl
 ·exact h.cell rfl
 ·exact h.cell rfl⟩
set_option maxHeartbeats 32000000 in
set_option maxRecDepth 100000 in
theorem raw_any (m : ModelD) (x : MarkD) (F H S G : Option Addr) (fc hc sc gc : Nat) (t c n : Int) (w : World) (hm : ModelR w m F H S G) (hmk : MarksOk m) (hg63 : ∀ i,i < m.gone.length→ix 0 m.gone i≤9223372036854775807) (hx : MarkOk x) (hn : -9223372036854775808≤n∧n≤9223372036854775807)
  (hl : m.free.length≤1152921504606846976∧m.hands.length≤1152921504606846976∧m.spans.length≤1152921504606846976∧m.gone.length≤1152921504606846976) (hT : Tab w) (hB : TabB w) :
  Calls Tryz.prog 4 #[modelV m F H S G fc hc sc gc,markV x,.int .i64 t,.int .i64 c,.int .i64 n] w fun e w'=>e=.returned (.bool true)∧Ext w w':=by
 obtain ⟨Wa,hWa⟩ : ∃ Wa,Wa=w.alloc (.cells #[.int .i64 m.pages,.slice F m.free.length fc,.slice H m.hands.length hc,.slice S m.spans.length sc,.slice G m.gone.length gc] 30):=⟨_,rfl⟩
 obtain ⟨W0,hW0⟩ : ∃ W0,W0=Wa.alloc (.cells #[.int .i64 x.kind,.int .i64 x.thread,.int .i64 x.entry,.int .i64 x.page,.int .i64 x.n,.int .u64 (x.mask : Int)] 34):=⟨_,rfl⟩
 have ea : Ext w Wa:=hWa▸(Ext.refl w).alloc _
 have eb : Ext Wa W0:=hW0▸(Ext.refl Wa).alloc _
 have ba : Blk W0 w.heap.size 30 #[.int .i64 m.pages,.slice F m.free.length fc,.slice H m.hands.length hc,.slice S m.spans.length sc,.slice G m.gone.length gc]:=((hWa▸Blk.new _ _ _ _ rfl : Blk Wa w.heap.size _ _).ext eb)
 have sa : Wa.heap.size=w.heap.size + 1:=by rw [hWa]; exact World.size_alloc _ _
 have bb : Blk W0 (w.heap.size + 1) 34 #[.int .i64 x.kind,.int .i64 x.thread,.int .i64 x.entry,.int .i64 x.page,.int .i64 x.n,.int .u64 (x.mask : Int)]:=sa▸(hW0▸Blk.new _ _ _ _ rfl : Blk W0 Wa.heap.size _ _)
 have e0 : Ext w W0:=ea.trans eb
 have HE : Hid (W0=(w.alloc (.cells #[.int .i64 m.pages,.slice F m.free.length fc,.slice H m.hands.length hc,.slice S m.spans.length sc,.slice G m.gone.length gc] 30)).alloc (.cells #[.int .i64 x.kind,.int .i64 x.thread,.int .i64 x.entry,.int .i64 x.page,.int .i64 x.n,.int .u64 (x.mask : Int)] 34)):=Lib.hid (by rw [hW0,hWa])
 obtain ⟨x0,x1,x2,x3,x4⟩:=Blk.c5 ba
 obtain ⟨y0,y1,y2,y3,y4,y5⟩:=Blk.c6 bb
 obtain ⟨l1,l2,l3,l4⟩:=hl
 have s1 : IntKind.i64.wrap ((m.free.length : Int) + m.hands.length)=(m.free.length : Int) + m.hands.length:=by rw [IntKind.wrap_i64]; omega
 have s2 : IntKind.i64.wrap ((m.free.length : Int) + m.hands.length + m.spans.length)=(m.free.length : Int) + m.hands.length + m.spans.length:=by rw [IntKind.wrap_i64]; omega
 have s3 : IntKind.i64.wrap ((m.free.length : Int) + m.hands.length + m.spans.length + m.gone.length)=(m.free.length : Int) + m.hands.length + m.spans.length + m.gone.length:=by rw [IntKind.wrap_i64]; omega
 have HAw : Hid (∀ W,Ext W0 W→Calls Tryz.prog 10 #[] W fun e w'=>e=.returned (.bool true)∧Ext W w'):=Lib.hid fun W hE=>awake_any W (hT.ext (e0.trans hE)) (hB.ext (e0.trans hE))
 have HW:=Lib.hid (And.intro e0 (And.intro ba bb))
 by_cases hgo : (m.free.length : Int) + m.hands.length + m.spans.length + m.gone.length≤40
 rotate_left
 ·have d1 : decide (40 < (m.free.length : Int) + m.hands.length + m.spans.length + m.gone.length)=true:=decide_eq_true (by omega)
  have d2 : decide (40 < m.free.length + m.hands.length + m.spans.length + m.gone.length)=true:=decide_eq_true (by omega)
  clear hWa hW0 ea eb ba sa bb e0 hm hmk hg63 hx hn hT hB hgo
  unfold modelV markV
  go_enter Tryz.func4,Tryz.ntmps4
  go_upto_region 1 with fail
  rw [← HE.out]
  go_wp2_with (go_at_call 10; (with_reducible refine (HAw.out _ (Ext.refl _)).mono ?_); rintro e w9 ⟨rfl,hE9⟩; have HE9:=Lib.hid hE9; clear hE9)
  go_ret
  exact ⟨rfl,HW.out.1.trans HE9.out⟩
 have d1 : decide (40 < (m.free.length : Int) + m.hands.length + m.spans.length + m.gone.length)=false:=decide_eq_false (by omega)
 have d2 : decide (40 < m.free.length + m.hands.length + m.spans.length + m.gone.length)=false:=decide_eq_false (by omega)
 have hlen : LenM m:=⟨by omega,by omega,by omega,by omega⟩
 have hxl : ∀ j,j < [x].length→MarkOk (ix noMark [x] j):=fun j hj=>by
  obtain rfl : j=0:=by simpa using hj
  exact hx
 obtain ⟨bM,hbM⟩ : ∃ bM,bM=B (MayS HoldOk m):=⟨_,rfl⟩
 obtain ⟨bR,hbR⟩ : ∃ bR,bR=B (MayS HoldOk m∧HasP m t c n):=⟨_,rfl⟩
 have HAcc : Hid (∀ W,Ext W0 W→Calls Tryz.prog 7 #[modelV m F H S G fc hc sc gc,markV x] W (AccP m x W)):=Lib.hid fun W hE=>accepts_any m x F H S G fc hc sc gc W hlen (hm.ext (e0.trans hE)) hx (hT.ext (e0.trans hE)) (hB.ext (e0.trans hE))
 have HAcd : Hid (∀ W,Ext W0 W→Calls Tryz.prog 11 #[modelV m F H S G fc hc sc gc,markV x] W (AccP m x W)):=Lib.hid fun W hE=>accepts28_any m x F H S G fc hc sc gc W hlen hg63 hmk (hm.ext (e0.trans hE)) hx
 have HAll : Hid (∀ W g,Ext W0 W→Blk W g 34 #[.int .i64 x.kind,.int .i64 x.thread,.int .i64 x.entry,.int .i64 x.page,.int .i64 x.n,.int .u64 (x.mask : Int)]→Calls Tryz.prog 12 #[modelV m F H S G fc hc sc gc,.slice (some ⟨g,0,none⟩) 1 1] W (AllP m [x] W)):=Lib.hid fun W g hE hb=>all_any m [x] F H S G (some ⟨g,0,none⟩) fc hc sc gc 1 W hlen hmk (hm.ext (e0.trans hE)) (show (1 : Nat)≤1000000 by decide) (slr_mark hb) hxl (hT.ext (e0.trans hE)) (hB.ext (e0.trans hE))
 have HAld : Hid (∀ W g,Ext W0 W→Blk W g 34 #[.int .i64 x.kind,.int .i64 x.thread,.int .i64 x.entry,.int .i64 x.page,.int .i64 x.n,.int .u64 (x.mask : Int)]→Calls Tryz.prog 13 #[modelV m F H S G fc hc sc gc,.slice (some ⟨g,0,none⟩) 1 1] W (All28P m [x] W)):=Lib.hid fun W g hE hb=>all28_any m [x] F H S G (some ⟨g,0,none⟩) fc hc sc gc 1 W hlen hg63 hmk (hm.ext (e0.trans hE)) (show (1 : Nat)≤1000000 by decide) (slr_mark hb) hxl
 have HMm : Hid (∀ W,Ext W0 W→Calls Tryz.prog 14 #[modelV m F H S G fc hc sc gc] W fun e w'=>e=.returned (.bool bM)∧Ext W w'):=Lib.hid fun W hE=>by rw [hbM]; exact mayM_any m F H S G fc hc sc gc W ⟨hlen.free,hlen.hands,hlen.spans⟩ hlen.gone (hm.ext (e0.trans hE)) (hT.ext (e0.trans hE))
 have HMd : Hid (∀ W,Ext W0 W→Calls Tryz.prog 15 #[modelV m F H S G fc hc sc gc] W fun e w'=>e=.returned (.bool bM)∧Ext W w'):=Lib.hid fun W hE=>by rw [hbM]; exact mayR_any m F H S G fc hc sc gc W hlen hg63 (hm.ext (e0.trans hE))
 have HNm : Hid (∀ W,Calls Tryz.prog 16 #[.int .i64 n] W (NewP n W)):=Lib.hid fun W=>newM_any n W hn
 have HNd : Hid (∀ W,Calls Tryz.prog 17 #[.int .i64 n] W (NewP n W)):=Lib.hid fun W=>new28_any n W hn
 have HRm : Hid (∀ W,Ext W0 W→Calls Tryz.prog 18 #[modelV m F H S G fc hc sc gc,.int .i64 t,.int .i64 c,.int .i64 n] W fun e w'=>e=.returned (.bool bR)∧Ext W w'):=Lib.hid fun W hE=>by rw [hbR]; exact roomM_any m F H S G fc hc sc gc t c n W hlen (hm.ext (e0.trans hE)) (hT.ext (e0.trans hE))
 have HRd : Hid (∀ W,Ext W0 W→Calls Tryz.prog 19 #[modelV m F H S G fc hc sc gc,.int .i64 t,.int .i64 c,.int .i64 n] W fun e w'=>e=.returned (.bool bR)∧Ext W w'):=Lib.hid fun W hE=>by rw [hbR]; exact room28_any m F H S G fc hc sc gc t c n W hlen hg63 hmk (hm.ext (e0.trans hE))
 have HLm : Hid (∀ W,Ext W0 W→Calls Tryz.prog 21 #[modelV m F H S G fc hc sc gc] W (LiveP (liveL m) W)):=Lib.hid fun W hE=>liveM_any m F H S G fc hc sc gc W hlen hmk (hm.ext (e0.trans hE)) (hT.ext (e0.trans hE)) (hB.ext (e0.trans hE))
 have HLd : Hid (∀ W,Ext W0 W→Calls Tryz.prog 22 #[modelV m F H S G fc hc sc gc] W (LiveP (liveL m) W)):=Lib.hid fun W hE=>live28_any m F H S G fc hc sc gc W hlen hg63 hmk (hm.ext (e0.trans hE))
 have hll : (liveL m).length≤1000000:=by
  unfold liveL
  split
  ·exact Nat.le_trans (liveTo_len _ _) (by omega)
  ·exact Nat.zero_le _
 have HH:=Lib.hid (And.intro hmk (And.intro hx (And.intro hxl hll)))
 have HMV : Hid (markV x=.agg #[.int .i64 x.kind,.int .i64 x.thread,.int .i64 x.entry,.int .i64 x.page,.int .i64 x.n,.int .u64 (x.mask : Int)]):=Lib.hid rfl
 unfold markV at HAcc HAcd ⊢
 unfold modelV at HAcc HAcd HAll HAld HMm HMd HRm HRd HLm HLd ⊢
 clear hWa hW0 ea eb ba sa bb e0 hm hmk hg63 hx hn hT hB hgo hlen hxl hbM hbR hll HMV
 go_enter Tryz.func4,Tryz.ntmps4
 go_upto_region 1 with fail
 rw [← HE.out]
 go_upto_region 4 with (go_at_call 7; (with_reducible refine (HAcc.out _ (Ext.refl _)).mono ?_); rintro e w1 ⟨hE1,m1,b1,F1,H1,S1,G1,fc1,hc1,sc1,gc1,rfl,hO1,hr1⟩; have HS1:=Lib.hid (And.intro hE1 (And.intro hO1 hr1)); clear hE1 hO1 hr1; unfold modelV)
 clear x0 x1 x2 x3 x4 y0 y1 y2 y3 y4 y5 s1 s2 s3 d1 d2
 obtain ⟨W1,hW1⟩ : ∃ W1,W1=w1.alloc (.cells #[.int .i64 m1.pages,.slice F1 m1.free.length fc1,.slice H1 m1.hands.length hc1,.slice S1 m1.spans.length sc1,.slice G1 m1.gone.length gc1] 30):=⟨_,rfl⟩
 rw [← hW1]
 have hE1 : Ext W0 W1:=HS1.out.1.trans (hW1▸(Ext.refl w1).alloc _)
 have hb1 : Blk W1 w1.heap.size 30 #[.int .i64 m1.pages,.slice F1 m1.free.length fc1,.slice H1 m1.hands.length hc1,.slice S1 m1.spans.length sc1,.slice G1 m1.gone.length gc1]:=hW1▸Blk.new _ _ _ _ rfl
 have hR1 : ModelR W1 m1 F1 H1 S1 G1:=(HS1.out.2.1.ext (hW1▸(Ext.refl w1).alloc _)).reads
 have HK1:=Lib.hid (And.intro hE1 (And.intro hb1 hR1))
 obtain ⟨x0,x1,x2,x3,x4⟩:=Blk.c5 ((HW.out.2.1.ext hE1))
 obtain ⟨y0,y1,y2,y3,y4,y5⟩:=Blk.c6 ((HW.out.2.2.ext hE1))
 clear hW1 hE1 hb1 hR1
 go_upto_region 5 with (go_at_call 11; (with_reducible refine (HAcd.out _ HK1.out.1).mono ?_); rintro e w2 ⟨hE2,m2,b2,F2,H2,S2,G2,fc2,hc2,sc2,gc2,rfl,hO2,hr2⟩; have HS2:=Lib.hid (And.intro hE2 (And.intro hO2 hr2)); clear hE2 hO2 hr2; unfold modelV)
 clear x0 x1 x2 x3 x4 y0 y1 y2 y3 y4 y5
 obtain ⟨he,he2⟩:=acc_same HS1.out.2.2 HS2.out.2.2
 subst he he2
 obtain ⟨W2,hW2⟩ : ∃ W2,W2=w2.alloc (.cells #[.int .i64 m1.pages,.slice F2 m1.free.length fc2,.slice H2 m1.hands.length hc2,.slice S2 m1.spans.length sc2,.slice G2 m1.gone.length gc2] 30):=⟨_,rfl⟩
 rw [← hW2]
 have hE2 : Ext W1 W2:=HS2.out.1.trans (hW2▸(Ext.refl w2).alloc _)
 have hb2 : Blk W2 w2.heap.size 30 #[.int .i64 m1.pages,.slice F2 m1.free.length fc2,.slice H2 m1.hands.length hc2,.slice S2 m1.spans.length sc2,.slice G2 m1.gone.length gc2]:=hW2▸Blk.new _ _ _ _ rfl
 have hR2 : ModelR W2 m1 F2 H2 S2 G2:=(HS2.out.2.1.ext (hW2▸(Ext.refl w2).alloc _)).reads
 have h02 : Ext W0 W2:=HK1.out.1.trans hE2
 have HK2:=Lib.hid (And.intro h02 (And.intro (HK1.out.2.1.ext hE2) (And.intro (HK1.out.2.2.ext hE2) (And.intro hb2 hR2))))
 obtain ⟨x0,x1,x2,x3,x4⟩:=Blk.c5 ((HW.out.2.1.ext h02))
 obtain ⟨y0,y1,y2,y3,y4,y5⟩:=Blk.c6 ((HW.out.2.2.ext h02))
 have HBn : Hid (Ext W0 (W2.alloc (.cells #[.int .i64 x.kind,.int .i64 x.thread,.int .i64 x.entry,.int .i64 x.page,.int .i64 x.n,.int .u64 (x.mask : Int)] 34))∧Blk (W2.alloc (.cells #[.int .i64 x.kind,.int .i64 x.thread,.int .i64 x.entry,.int .i64 x.page,.int .i64 x.n,.int .u64 (x.mask : Int)] 34)) W2.heap.size 34 #[.int .i64 x.kind,.int .i64 x.thread,.int .i64 x.entry,.int .i64 x.page,.int .i64 x.n,.int .u64 (x.mask : Int)]):=Lib.hid ⟨h02.alloc _,Blk.new _ _ _ _ rfl⟩
 clear hW2 hE2 hb2 hR2 h02
 go_upto_region 6 with (go_at_call 12; (with_reducible refine (HAll.out _ _ HBn.out.1 HBn.out.2).mono ?_); rintro e w3 ⟨hE3,m3,n3,b3,F3,H3,S3,G3,fc3,hc3,sc3,gc3,rfl,hO3,hr3⟩; have HS3:=Lib.hid (And.intro (HBn.out.1.trans hE3) (And.intro hO3 (And.intro hr3 (((Ext.refl W2).alloc _).trans hE3)))); clear hE3 hO3 hr3; unfold modelV)
 clear x0 x1 x2 x3 x4 y0 y1 y2 y3 y4 y5
 obtain ⟨W3,hW3⟩ : ∃ W3,W3=w3.alloc (.cells #[.int .i64 m3.pages,.slice F3 m3.free.length fc3,.slice H3 m3.hands.length hc3,.slice S3 m3.spans.length sc3,.slice G3 m3.gone.length gc3] 30):=⟨_,rfl⟩
 rw [← hW3]
 have hE3 : Ext w3 W3:=hW3▸(Ext.refl w3).alloc _
 have hb3 : Blk W3 w3.heap.size 30 #[.int .i64 m3.pages,.slice F3 m3.free.length fc3,.slice H3 m3.hands.length hc3,.slice S3 m3.spans.length sc3,.slice G3 m3.gone.length gc3]:=hW3▸Blk.new _ _ _ _ rfl
 have hR3 : ModelR W3 m3 F3 H3 S3 G3:=(HS3.out.2.1.ext hE3).reads
 have h03 : Ext W0 W3:=HS3.out.1.trans hE3
 have h23 : Ext W2 W3:=HS3.out.2.2.2.trans hE3
 have HK3:=Lib.hid (And.intro h03 (And.intro (HK2.out.2.1.ext h23) (And.intro (HK2.out.2.2.1.ext h23) (And.intro (HK2.out.2.2.2.1.ext h23) (And.intro (HK2.out.2.2.2.2.ext h23) (And.intro hb3 hR3))))))
 obtain ⟨x0,x1,x2,x3,x4⟩:=Blk.c5 ((HW.out.2.1.ext h03))
 obtain ⟨y0,y1,y2,y3,y4,y5⟩:=Blk.c6 ((HW.out.2.2.ext h03))
 have HBn3 : Hid (Ext W0 (W3.alloc (.cells #[.int .i64 x.kind,.int .i64 x.thread,.int .i64 x.entry,.int .i64 x.page,.int .i64 x.n,.int .u64 (x.mask : Int)] 34))∧Blk (W3.alloc (.cells #[.int .i64 x.kind,.int .i64 x.thread,.int .i64 x.entry,.int .i64 x.page,.int .i64 x.n,.int .u64 (x.mask : Int)] 34)) W3.heap.size 34 #[.int .i64 x.kind,.int .i64 x.thread,.int .i64 x.entry,.int .i64 x.page,.int .i64 x.n,.int .u64 (x.mask : Int)]):=Lib.hid ⟨h03.alloc _,Blk.new _ _ _ _ rfl⟩
 clear hW3 hE3 hb3 hR3 h03 h23
 go_upto_region 7 with (go_at_call 13; (with_reducible refine (HAld.out _ _ HBn3.out.1 HBn3.out.2).mono ?_); rintro e w4 ⟨hE4,m4,n4,b4,F4,H4,S4,G4,fc4,hc4,sc4,gc4,rfl,hO4,hr4⟩; have HS4:=Lib.hid (And.intro (HBn3.out.1.trans hE4) (And.intro hO4 (And.intro hr4 (((Ext.refl W3).alloc _).trans hE4)))); clear hE4 hO4 hr4; unfold modelV)
 clear x0 x1 x2 x3 x4 y0 y1 y2 y3 y4 y5
 obtain ⟨he,he2,he3⟩:=all_same HH.out.1 HH.out.2.2.1 HS3.out.2.2.1 HS4.out.2.2.1
 subst he he2 he3
 obtain ⟨W4,hW4⟩ : ∃ W4,W4=w4.alloc (.cells #[.int .i64 m3.pages,.slice F4 m3.free.length fc4,.slice H4 m3.hands.length hc4,.slice S4 m3.spans.length sc4,.slice G4 m3.gone.length gc4] 30):=⟨_,rfl⟩
 rw [← hW4]
 have hE4 : Ext w4 W4:=hW4▸(Ext.refl w4).alloc _
 have hb4 : Blk W4 w4.heap.size 30 #[.int .i64 m3.pages,.slice F4 m3.free.length fc4,.slice H4 m3.hands.length hc4,.slice S4 m3.spans.length sc4,.slice G4 m3.gone.length gc4]:=hW4▸Blk.new _ _ _ _ rfl
 have hR4 : ModelR W4 m3 F4 H4 S4 G4:=HS4.out.2.1.ext hE4
 have h04 : Ext W0 W4:=HS4.out.1.trans hE4
 have h34 : Ext W3 W4:=HS4.out.2.2.2.trans hE4
 have HK4:=Lib.hid (And.intro h04 (And.intro (HK3.out.2.1.ext h34) (And.intro (HK3.out.2.2.1.ext h34) (And.intro (HK3.out.2.2.2.1.ext h34) (And.intro (HK3.out.2.2.2.2.1.ext h34) (And.intro (HK3.out.2.2.2.2.2.1.ext h34) (And.intro (HK3.out.2.2.2.2.2.2.ext h34) (And.intro hb4 hR4))))))))
 have HSa : Hid (∀ W,Ext W4 W→Calls Tryz.prog 8 #[modelV m1 F1 H1 S1 G1 fc1 hc1 sc1 gc1,modelV m1 F2 H2 S2 G2 fc2 hc2 sc2 gc2] W fun e w'=>e=.returned (.bool true)∧Ext W w'):=Lib.hid fun W hE=>same28_eq m1 F1 H1 S1 G1 F2 H2 S2 G2 fc1 hc1 sc1 gc1 fc2 hc2 sc2 gc2 W (acc_len HS1.out.2.2 HH.out.1 HH.out.2.1) (HK4.out.2.2.1.ext hE) (HK4.out.2.2.2.2.1.ext hE)
 have HSc : Hid (∀ W,Ext W4 W→Calls Tryz.prog 8 #[modelV m3 F3 H3 S3 G3 fc3 hc3 sc3 gc3,modelV m3 F4 H4 S4 G4 fc4 hc4 sc4 gc4] W fun e w'=>e=.returned (.bool true)∧Ext W w'):=Lib.hid fun W hE=>same28_eq m3 F3 H3 S3 G3 F4 H4 S4 G4 fc3 hc3 sc3 gc3 fc4 hc4 sc4 gc4 W (all_len HS3.out.2.2.1 HH.out.1 HH.out.2.2.1) (HK4.out.2.2.2.2.2.2.1.ext hE) (HK4.out.2.2.2.2.2.2.2.2.ext hE)
 unfold modelV at HSa HSc
 obtain ⟨q0,q1,q2,q3,q4⟩:=Blk.c5 hb4
 obtain ⟨p0,p1,p2,p3,p4⟩:=Blk.c5 (HK4.out.2.1)
 obtain ⟨r0,r1,r2,r3,r4⟩:=Blk.c5 (HK4.out.2.2.2.1)
 obtain ⟨z0,z1,z2,z3,z4⟩:=Blk.c5 (HK4.out.2.2.2.2.2.1)
 clear hW4 hE4 hb4 hR4 h04 h34
 go_upto_region 9 with (first
  |(go_at_call 8; (with_reducible refine (HSa.out _ (Ext.refl _)).mono ?_); rintro e w5 ⟨rfl,hE5⟩; (have r0:=hE5.cell q0; have r1:=hE5.cell q1; have r2:=hE5.cell q2; have r3:=hE5.cell q3; have r4:=hE5.cell q4; have s0:=hE5.cell z0; have s1:=hE5.cell z1; have s2:=hE5.cell z2; have s3:=hE5.cell z3; have s4:=hE5.cell z4); have HE5:=Lib.hid hE5; clear hE5)
  |(go_at_call 8; (with_reducible refine (HSc.out _ HE5.out).mono ?_); rintro e w6 ⟨rfl,hE6⟩; have HE6:=Lib.hid (HK4.out.1.trans (HE5.out.trans hE6)); clear hE6))
 clear q0 q1 q2 q3 q4 p0 p1 p2 p3 p4 r0 r1 r2 r3 r4 z0 z1 z2 z3 z4 s0 s1 s2 s3 s4
 obtain ⟨Wx,hWx⟩ : ∃ Wx,Wx=w6:=⟨_,rfl⟩
 subst hWx
 have hbm:=HW.out.2.1.ext HE6.out
 obtain ⟨v0,v1,v2,v3,v4⟩:=Blk.c5 hbm
 have HKS : Hid (∀ w',Ext Wx w'→(w'.cell? ⟨w.heap.size,0,none⟩=some (.int .i64 m.pages)∧w'.cell? ⟨w.heap.size,1,none⟩=some (.slice F m.free.length fc)∧w'.cell? ⟨w.heap.size,2,none⟩=some (.slice H m.hands.length hc)∧w'.cell? ⟨w.heap.size,3,none⟩=some (.slice S m.spans.length sc)∧w'.cell? ⟨w.heap.size,4,none⟩=some (.slice G m.gone.length gc))):=Lib.hid fun w' hE=>⟨hE.cell v0,hE.cell v1,hE.cell v2,hE.cell v3,hE.cell v4⟩
 have hcur : Ext Wx Wx.drew:=(Ext.refl Wx).drew
 clear hbm v0 v1 v2 v3 v4
 go_region_held3 (fun w'=>w'.cell? ⟨w.heap.size,0,none⟩=some (.int .i64 m.pages)∧w'.cell? ⟨w.heap.size,1,none⟩=some (.slice F m.free.length fc)∧w'.cell? ⟨w.heap.size,2,none⟩=some (.slice H m.hands.length hc)∧w'.cell? ⟨w.heap.size,3,none⟩=some (.slice S m.spans.length sc)∧w'.cell? ⟨w.heap.size,4,none⟩=some (.slice G m.gone.length gc)) (first | with_reducible exact HKS.out _ hcur | with_reducible exact HKS.out _ ((Ext.refl Wx).drew)) (first
  |(go_at_call 14; (with_reducible refine (HMm.out _ (HE6.out.trans hcur)).mono ?_); rintro e wa ⟨rfl,hE⟩; replace hcur:=hcur.trans hE; clear hE)
  |(go_at_call 15; (with_reducible refine (HMd.out _ (HE6.out.trans hcur)).mono ?_); rintro e wa ⟨rfl,hE⟩; replace hcur:=hcur.trans hE; clear hE)
  |(go_at_call 16; (with_reducible refine (HNm.out _).mono ?_); rintro e wa ⟨hE,FA,fA,rfl,hRA⟩; replace hcur:=hcur.trans hE; (try replace hsB:=hsB.trans hE); have HRA:=Lib.hid hRA; have hsA:=Ext.refl wa; clear hE hRA; unfold modelV)
  |(go_at_call 17; (with_reducible refine (HNd.out _).mono ?_); rintro e wb ⟨hE,FB,fB,rfl,hRB⟩; replace hcur:=hcur.trans hE; (try replace hsA:=hsA.trans hE); have HRB:=Lib.hid hRB; have hsB:=Ext.refl wb; clear hE hRB; unfold modelV)
  |(go_at_call 8; have hsm:=same28_eq (newM n) FA none none none FB none none none fA 0 0 0 fB 0 0 0 _ (new_len n) (HRA.out.ext hsA) (HRB.out.ext hsB); unfold modelV at hsm; (with_reducible refine hsm.mono ?_); rintro e wa ⟨rfl,hE⟩; replace hcur:=hcur.trans hE; clear hE hsm hsA hsB)
  |(go_at_call 18; (with_reducible refine (HRm.out _ (HE6.out.trans hcur)).mono ?_); rintro e wa ⟨rfl,hE⟩; replace hcur:=hcur.trans hE; clear hE)
  |(go_at_call 19; (with_reducible refine (HRd.out _ (HE6.out.trans hcur)).mono ?_); rintro e wa ⟨rfl,hE⟩; replace hcur:=hcur.trans hE; clear hE)
  |(go_at_call 21; (with_reducible refine (HLm.out _ (HE6.out.trans hcur)).mono ?_); rintro e wc ⟨⟨AC,cC,rfl,hRC⟩,hE⟩; replace hcur:=hcur.trans hE; (try replace hsD:=hsD.trans hE); have HRC:=Lib.hid hRC; have hsC:=Ext.refl wc; clear hE hRC)
  |(go_at_call 22; (with_reducible refine (HLd.out _ (HE6.out.trans hcur)).mono ?_); rintro e wd ⟨⟨AD,cD,rfl,hRD⟩,hE⟩; replace hcur:=hcur.trans hE; (try replace hsC:=hsC.trans hE); have HRD:=Lib.hid hRD; have hsD:=Ext.refl wd; clear hE hRD)
  |(go_at_call 20; (with_reducible refine (sameI_eq (liveL m) AC AD cC cD _ HH.out.2.2.2 (HRC.out.ext hsC) (HRD.out.ext hsD)).mono ?_); rintro e wa ⟨rfl,hE⟩; replace hcur:=hcur.trans hE; clear hE hsC hsD)
  |(go_at_call 10; (with_reducible refine (HAw.out _ (HE6.out.trans hcur)).mono ?_); rintro e wa ⟨rfl,hE⟩; replace hcur:=hcur.trans hE; clear hE))
 all_goals go_wp2_with fail
 all_goals go_ret
 all_goals exact ⟨rfl,HW.out.1.trans (HE6.out.trans hcur)⟩
end Go.Proofs.YtoolenhnhlfhmaaGreatDoor
