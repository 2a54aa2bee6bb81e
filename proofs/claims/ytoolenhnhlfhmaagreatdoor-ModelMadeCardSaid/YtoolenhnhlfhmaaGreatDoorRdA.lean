/- The walk of the law of models that may be. -/
import Derived.Test.YtoolenhnhlfhmaaGreatDoorHF
import Derived.Test.YtoolenhnhlfhmaaGreatDoorHA
import Derived.Test.YtoolenhnhlfhmaaGreatDoorDkY
namespace Go.Proofs.YtoolenhnhlfhmaaGreatDoor
open Go.RowKit Go.Sort
set_option linter.unusedVariables false
set_option linter.unusedSimpArgs false
set_option maxHeartbeats 32000000 in
set_option maxRecDepth 100000 in
theorem madeL_any (ns ms : List Nat) (A C : Option Addr) (ac cc kd th n pg mask : Nat) (w : World) (hA : SlR w A ns.length 1 (u8V ns)) (hC : SlR w C ms.length 1 (u64V ms)) (hn : ∀ j,j < ns.length→ix (0 : Nat) ns j < 256) (hms : ∀ j,j < ms.length→ix (0 : Nat) ms j < 18446744073709551616) (hl : ns.length≤4611686018427387904∧ms.length≤4611686018427387904)
  (k1 : kd < 256) (k2 : th < 256) (k3 : n < 256) (k4 : pg < 65536) (k5 : mask < 18446744073709551616) (hT : Tab w) (hB : TabB w) :
  Calls Tryz.prog 5 #[.slice A ns.length ac,.slice C ms.length cc,.int .u8 (kd : Int),.int .u8 (th : Int),.int .u8 (n : Int),.int .u16 (pg : Int),.int .u64 (mask : Int)] w fun e w'=>e=.returned (.bool true)∧Ext w w':=by
 have hMade:=made_any ns ms A C ac cc w hA hC hn hms hl
 have HMade:=Lib.hid hMade
 have HH:=Lib.hid (And.intro hT hB)
 clear hMade hA hC hn hms hT hB
 obtain ⟨l1,l2⟩:=hl
 go_enter Tryz.func5,Tryz.ntmps5
 go_upto_region 2 with (go_at_call 6; (with_reducible refine HMade.out.mono ?_); rintro e w1 ⟨hE1,m,F,H,S,G,fc,hc,sc,gc,rfl,hm1,hm2,hm3⟩; have HM1:=Lib.hid (And.intro hE1 (And.intro hm1 (And.intro hm2 hm3))); clear hE1 hm1 hm2 hm3; unfold modelV)
 obtain ⟨W1,hW1⟩ : ∃ W1,W1=w1.alloc (.cells #[.int .i64 m.pages,.slice F m.free.length fc,.slice H m.hands.length hc,.slice S m.spans.length sc,.slice G m.gone.length gc] 30):=⟨_,rfl⟩
 rw [← hW1]
 have hE : Ext w1 W1:=hW1▸(Ext.refl w1).alloc _
 have hblk : Blk W1 w1.heap.size 30 #[.int .i64 m.pages,.slice F m.free.length fc,.slice H m.hands.length hc,.slice S m.spans.length sc,.slice G m.gone.length gc]:=hW1▸Blk.new _ _ _ _ rfl
 have hpg:=HM1.out.2.1.pages
 obtain ⟨P,hP⟩ : ∃ P : Nat,m.pages=(P : Int):=⟨m.pages.toNat,by omega⟩
 have HW1:=Lib.hid (And.intro (HM1.out.1.trans hE) (And.intro hblk (HM1.out.2.2.2.ext hE)))
 have x0:=hblk.cell (i:=0) (v:=.int .i64 m.pages) rfl
 have x3:=hblk.cell (i:=3) (v:=.slice S m.spans.length sc) rfl
 clear hE hblk hW1
 rw [hP] at hpg x0
 have wp : IntKind.i64.wrap ((P : Int) + 3)=(P : Int) + 3:=by rw [IntKind.wrap_i64]; omega
 have wp0 : (P : Int) + 3≠0:=by omega
 go_upto_region 3 with fail
 obtain ⟨y,hy⟩ : ∃ y : MarkD,y=⟨(kd : Int) % 18,(th : Int) % 8 - 1,0,wrap64 ((pg : Int) % ((P : Int) + 3) - 1),(n : Int) % 20 - 1,mask⟩:=⟨_,rfl⟩
 have hyk : MarkOk y:=by rw [hy]; exact ⟨by dsimp only; unfold wrap64; omega,by dsimp only; omega,k5⟩
 obtain ⟨W2,hW2⟩ : ∃ W2,W2=W1.alloc (.cells #[.int .i64 ((kd : Int) % 18),.int .i64 ((th : Int) % 8 - 1),.int .i64 0,.int .i64 (wrap64 ((pg : Int) % ((P : Int) + 3) - 1)),.int .i64 ((n : Int) % 20 - 1),.int .u64 (mask : Int)] 34):=⟨_,rfl⟩
 rw [← hW2]
 have hE2 : Ext W1 W2:=hW2▸(Ext.refl W1).alloc _
 have hb2 : Blk W2 W1.heap.size 34 #[.int .i64 y.kind,.int .i64 y.thread,.int .i64 y.entry,.int .i64 y.page,.int .i64 y.n,.int .u64 (y.mask : Int)]:=by rw [hy,hW2]; exact Blk.new _ _ _ _ rfl
 have HY:=Lib.hid (And.intro hyk (And.intro hE2 hb2))
 have z3:=hE2.cell x3
 clear hy hyk hW2 hE2 hb2 x0 x3 wp wp0 hP hpg
 go_cut [53] (fun v wx=>∃ b,v=.bool b∧(b=true→0 < m.spans.length)∧wx=W2)
 case first =>
  have hcs : ((mask : Int) % 3 == 0)=false∧(mask % 3 == 0)=false∨((mask : Int) % 3 == 0)=true∧(mask % 3 == 0)=true∧m.spans.length=0∨((mask : Int) % 3 == 0)=true∧(mask % 3 == 0)=true∧decide (0 < (m.spans.length : Int))=true∧decide (0 < m.spans.length)=true:=by
   simp only [beq_iff_eq,beq_eq_false_iff_ne,ne_eq,decide_eq_true_eq]; omega
  rcases hcs with ⟨e1,e2⟩ | ⟨e1,e2,e3⟩ | ⟨e1,e2,e3,e4⟩
  ·go_wp2
   go_meet
   exact ⟨false,rfl,(fun h=>nomatch h),rfl⟩
  ·have e4 : decide (0 < (m.spans.length : Int))=false:=decide_eq_false (by omega)
   have e5 : decide (0 < m.spans.length)=false:=decide_eq_false (by omega)
   clear e3
   go_wp2
   go_meet
   exact ⟨false,rfl,(fun h=>nomatch h),rfl⟩
  ·have HL:=Lib.hid (of_decide_eq_true e4)
   go_wp2
   go_meet
   exact ⟨true,rfl,fun _=>HL.out,rfl⟩
 case rest =>
  obtain ⟨bb,rfl,hbb,hwc⟩:=hcut
  replace hwc:=hwc.symm
  subst hwc
  have HBb:=Lib.hid hbb
  clear hbb z3
  go_upto_if 53 with fail
  go_cut [17] (fun v wx=>∃ y,Blk wx W1.heap.size 34 #[.int .i64 y.kind,.int .i64 y.thread,.int .i64 y.entry,.int .i64 y.page,.int .i64 y.n,.int .u64 (y.mask : Int)]∧MarkOk y∧Ext W1 wx)
  case first =>
   cases bb
   ·go_wp2
    go_meet
    exact ⟨y,HY.out.2.2,HY.out.1,HY.out.2.1⟩
   ·have hlen:=HBb.out rfl
    obtain ⟨j,hj⟩ : ∃ j : Nat,(pg : Int) % (m.spans.length : Int)=(j : Int):=⟨((pg : Int) % (m.spans.length : Int)).toNat,(Int.toNat_of_nonneg (Int.emod_nonneg _ (by omega))).symm⟩
    have hjl : (j : Int) < (m.spans.length : Int):=by rw [← hj]; exact Int.emod_lt_of_pos _ (by omega)
    have hbm:=HW1.out.2.1.ext HY.out.2.1
    have z3:=hbm.cell (i:=3) (v:=.slice S m.spans.length sc) rfl
    obtain ⟨b,off,rfl,hcl⟩:=(HW1.out.2.2.ext HY.out.2.1).spans hlen
    obtain ⟨h,hh⟩ : ∃ h,ix noHold m.spans j=h:=⟨_,rfl⟩
    have hr : ∀ q,q < 8→W2.cell? ⟨b,off + (j * 8 + q),none⟩=some (holdC h q):=fun q hq=>by
     have:=hcl (j * 8 + q) (by omega)
     rw [holdsV_at _ _ _ hq,hh] at this
     exact this
    have hfit:=fit_span HM1.out.2.1 (ixMem (d:=noHold) (show j < m.spans.length by omega))
    have hmx:=HM1.out.2.2.1 _ (ixMem (d:=noHold) (show j < m.spans.length by omega))
    have hal:=alloc_lt (HM1.out.2.1.spanO _ (ixMem (d:=noHold) (show j < m.spans.length by omega)))
    rw [hh] at hfit hmx hal
    unfold fS at hfit
    have HF:=Lib.hid (And.intro hfit (And.intro hmx hal))
    clear hfit hmx hal hcl hbm
    obtain ⟨pg',np,c,ho,cl,sw,al,mk⟩:=h
    have a0 : W2.cell? ⟨b,off + j * 8,none⟩=some (.int .i64 pg'):=hr 0 (by omega)
    have a1 : W2.cell? ⟨b,off + j * 8 + 1,none⟩=some (.int .i64 np):=hr 1 (by omega)
    have a2 : W2.cell? ⟨b,off + j * 8 + 2,none⟩=some (.int .i64 c):=hr 2 (by omega)
    have a3 : W2.cell? ⟨b,off + j * 8 + 3,none⟩=some (.int .i64 ho):=hr 3 (by omega)
    have a4 : W2.cell? ⟨b,off + j * 8 + 4,none⟩=some (.int .i64 cl):=hr 4 (by omega)
    have a5 : W2.cell? ⟨b,off + j * 8 + 5,none⟩=some (.bool sw):=hr 5 (by omega)
    have a6 : W2.cell? ⟨b,off + j * 8 + 6,none⟩=some (.int .u64 (al : Int)):=hr 6 (by omega)
    have a7 : W2.cell? ⟨b,off + j * 8 + 7,none⟩=some (.int .u64 (mk : Int)):=hr 7 (by omega)
    have q0 : (0 : Int)≤(j : Int):=by omega
    have q1 : (m.spans.length : Int)≠0:=by omega
    have q2 : ¬ m.spans.length=0:=by omega
    have q3 : ¬ m.spans=[]:=fun e=>by rw [e] at q2; exact q2 rfl
    have q4 : ((m.spans.length : Int) == 0)=false:=by simp only [beq_eq_false_iff_ne,ne_eq]; omega
    have q5 : (m.spans.length == 0)=false:=by simp only [beq_eq_false_iff_ne,ne_eq]; omega
    obtain ⟨V,hV⟩ : ∃ V : Nat,bits .andNot .u64 (al : Int) (mk : Int)=(V : Int):=⟨_,(bits_nat .andNot _ _).symm⟩
    have HV:=Lib.hid (show V < 18446744073709551616 from by
     have e:=u64_andNot_nat al mk HF.out.2.2 HF.out.2.1
     rw [hV] at e
     have:=Nat.and_le_left (n:=al) (m:=18446744073709551615 - mk)
     have:=HF.out.2.2
     dsimp only at this
     omega)
    clear hr hh hlen
    go_upto_region 4 with fail
    go_cut [17] (fun v wx=>∃ g,v=.pointer (some ⟨g,0,none⟩)∧W1.heap.size < g∧Ext W2 wx∧Blk wx g 51 #[.int .i64 pg',.int .i64 np,.int .i64 c,.int .i64 ho,.int .i64 cl,.bool sw,.int .u64 (al : Int),.int .u64 (mk : Int)])
    case first =>
     have HKS : Hid (∀ w',Ext W2 w'→(w'.cell? ⟨w1.heap.size,3,none⟩=some (.slice (some ⟨b,off,none⟩) m.spans.length sc)∧w'.cell? ⟨b,off + j * 8,none⟩=some (.int .i64 pg')∧w'.cell? ⟨b,off + j * 8 + 1,none⟩=some (.int .i64 np)∧w'.cell? ⟨b,off + j * 8 + 2,none⟩=some (.int .i64 c)∧w'.cell? ⟨b,off + j * 8 + 3,none⟩=some (.int .i64 ho)∧w'.cell? ⟨b,off + j * 8 + 4,none⟩=some (.int .i64 cl)∧w'.cell? ⟨b,off + j * 8 + 5,none⟩=some (.bool sw)∧w'.cell? ⟨b,off + j * 8 + 6,none⟩=some (.int .u64 (al : Int))∧w'.cell? ⟨b,off + j * 8 + 7,none⟩=some (.int .u64 (mk : Int)))):=Lib.hid fun w' hE=>⟨hE.cell z3,hE.cell a0,hE.cell a1,hE.cell a2,hE.cell a3,hE.cell a4,hE.cell a5,hE.cell a6,hE.cell a7⟩
     have hw : IntKind.i64.wrap (pg : Int)=(pg : Int):=by rw [IntKind.wrap_i64]; omega
     have ht : (pg : Int).tmod (m.spans.length : Int)=(j : Int):=by rw [Int.tmod_eq_emod_of_nonneg (by omega)]; exact hj
     have hcb:=blk8 (Blk.new W2 51 #[.int .i64 0,.int .i64 0,.int .i64 0,.int .i64 0,.int .i64 0,.bool false,.int .u64 0,.int .u64 0] W2.heap.size rfl).drew
     clear z3 a0 a1 a2 a3 a4 a5 a6 a7
     go_region_held3 (fun w'=>w'.cell? ⟨w1.heap.size,3,none⟩=some (.slice (some ⟨b,off,none⟩) m.spans.length sc)∧w'.cell? ⟨b,off + j * 8,none⟩=some (.int .i64 pg')∧w'.cell? ⟨b,off + j * 8 + 1,none⟩=some (.int .i64 np)∧w'.cell? ⟨b,off + j * 8 + 2,none⟩=some (.int .i64 c)∧w'.cell? ⟨b,off + j * 8 + 3,none⟩=some (.int .i64 ho)∧w'.cell? ⟨b,off + j * 8 + 4,none⟩=some (.int .i64 cl)∧w'.cell? ⟨b,off + j * 8 + 5,none⟩=some (.bool sw)∧w'.cell? ⟨b,off + j * 8 + 6,none⟩=some (.int .u64 (al : Int))∧w'.cell? ⟨b,off + j * 8 + 7,none⟩=some (.int .u64 (mk : Int))) (first | with_reducible exact HKS.out _ (Ext.refl _).drew | with_reducible exact HKS.out _ ((Ext.refl _).drew.alloc _) | with_reducible exact HKS.out _ ((Ext.refl _).alloc _).drew | with_reducible exact HKS.out _ (ext8 ((Ext.refl _).drew.alloc _) (Nat.le_refl _)) | with_reducible exact HKS.out _ (ext8 (((Ext.refl _).alloc _).drew) (Nat.le_refl _))) (fail)
     all_goals
      go_wp2_with fail
      go_meet
      exact ⟨W2.heap.size,rfl,HY.out.2.2.lt,((Ext.refl _).alloc _).drew,(Blk.new _ _ _ _ rfl).drew⟩
    case rest =>
     obtain ⟨gh,rfl,hgh,hE3,hb3⟩:=hcut
     have hx3:=HY.out.2.2.ext hE3
     have y0:=hx3.cell (i:=0) (v:=.int .i64 y.kind) rfl
     have y3:=hx3.cell (i:=3) (v:=.int .i64 y.page) rfl
     have y4:=hx3.cell (i:=4) (v:=.int .i64 y.n) rfl
     have y5:=hx3.cell (i:=5) (v:=.int .u64 (y.mask : Int)) rfl
     have f3:=hx3.frozen 3
     have f4:=hx3.frozen 4
     have f5:=hx3.frozen 5
     have b0:=hb3.cell (i:=0) (v:=.int .i64 pg') rfl
     have b1:=hb3.cell (i:=1) (v:=.int .i64 np) rfl
     have b6:=hb3.cell (i:=6) (v:=.int .u64 (al : Int)) rfl
     have b7:=hb3.cell (i:=7) (v:=.int .u64 (mk : Int)) rfl
     have hne1 : ¬ W1.heap.size=gh:=by omega
     have hne2 : ¬ gh=W1.heap.size:=by omega
     have HE3:=Lib.hid (And.intro (HY.out.2.1.trans hE3) hx3)
     clear hE3 hb3 hx3 z3 a0 a1 a2 a3 a4 a5 a6 a7
     go_upto_region 5 with fail
     go_wp2
     go_region
     have hcs : ((n : Int) % 2 == 0)=true∧(n % 2 == 0)=true∨((n : Int) % 2 == 0)=false∧(n % 2 == 0)=false:=by
      simp only [beq_iff_eq,beq_eq_false_iff_ne,ne_eq]; omega
     have hle : W1.heap.size≤W1.heap.size:=Nat.le_refl _
     have hpgb:=HM1.out.2.1.pages
     obtain ⟨p1,p2,p3,p4⟩:=HF.out.1
     dsimp only at p1 p2 p3 p4
     rcases hcs with ⟨e1,e2⟩ | ⟨e1,e2⟩
     ·go_wp2
      go_meet
      refine ⟨⟨y.kind,y.thread,y.entry,pg',np,V⟩,?_,⟨by dsimp only; omega,by dsimp only; omega,HV.out⟩,(((HE3.out.1.setCell (p:=⟨W1.heap.size,3,none⟩) hle _).setCell (p:=⟨W1.heap.size,5,none⟩) hle _).setCell (p:=⟨W1.heap.size,4,none⟩) hle _).drew⟩
      have:=(((HE3.out.2.set 3 (.int .i64 pg')).set 5 (.int .u64 (V : Int))).set 4 (.int .i64 np)).drew
      simp only [List.setIfInBounds_toArray,List.set_cons_succ,List.set_cons_zero] at this
      exact this
     ·go_wp2
      go_meet
      refine ⟨⟨y.kind,y.thread,y.entry,pg',y.n,V⟩,?_,⟨by dsimp only; omega,HY.out.1.n,HV.out⟩,((HE3.out.1.setCell (p:=⟨W1.heap.size,3,none⟩) hle _).setCell (p:=⟨W1.heap.size,5,none⟩) hle _).drew⟩
      have:=((HE3.out.2.set 3 (.int .i64 pg')).set 5 (.int .u64 (V : Int))).drew
      simp only [List.setIfInBounds_toArray,List.set_cons_succ,List.set_cons_zero] at this
      exact this
  case rest =>
   clear HY HBb y
   obtain ⟨y,hb,hyk,hE⟩:=hcut
   obtain ⟨Wc,hWc⟩ : ∃ Wc,Wc=wc:=⟨_,rfl⟩
   subst hWc
   have HY:=Lib.hid (And.intro hyk (And.intro hE hb))
   have y3:=hb.cell (i:=3) (v:=.int .i64 y.page) rfl
   have f3:=hb.frozen 3
   clear hb hyk hE
   go_upto_region 8 with fail
   go_cut [86] (fun v wx=>∃ b,v=.bool b∧wx=Wc)
   case first =>
    have hcs : (((kd : Int) % 18 == 15)=true∧(kd % 18 == 15)=true)∨(((kd : Int) % 18 == 15)=false∧(kd % 18 == 15)=false∧((kd : Int) % 18 == 14)=true∧(kd % 18 == 14)=true)∨(((kd : Int) % 18 == 15)=false∧(kd % 18 == 15)=false∧((kd : Int) % 18 == 14)=false∧(kd % 18 == 14)=false):=by
     simp only [beq_iff_eq,beq_eq_false_iff_ne,ne_eq]; omega
    rcases hcs with ⟨e1,e2⟩ | ⟨e1,e2,e3,e4⟩ | ⟨e1,e2,e3,e4⟩
    all_goals
     go_wp2
     go_meet
     exact ⟨_,rfl,rfl⟩
   case rest =>
    obtain ⟨bb,rfl,hwc⟩:=hcut
    replace hwc:=hwc.symm
    subst hwc
    go_upto_if 86 with fail
    go_cut [] (fun wx=>∃ y,Blk wx W1.heap.size 34 #[.int .i64 y.kind,.int .i64 y.thread,.int .i64 y.entry,.int .i64 y.page,.int .i64 y.n,.int .u64 (y.mask : Int)]∧MarkOk y∧Ext W1 wx)
    case first =>
     cases bb
     ·go_wp2
      go_meet
      exact ⟨y,HY.out.2.2,HY.out.1,HY.out.2.1⟩
     ·have hle : W1.heap.size≤W1.heap.size:=Nat.le_refl _
      have hpb:=HY.out.1.page
      obtain ⟨v,hv,hv1,hv2⟩ : ∃ v,IntKind.i64.wrap (y.page.tdiv 64)=v∧-9223372036854775808≤v∧v≤9223372036854775807:=⟨_,rfl,by rw [IntKind.wrap_i64]; omega,by rw [IntKind.wrap_i64]; omega⟩
      go_wp2
      go_meet
      exact ⟨⟨y.kind,y.thread,y.entry,v,y.n,y.mask⟩,by
       have:=HY.out.2.2.set 3 (.int .i64 v)
       simp only [List.setIfInBounds_toArray,List.set_cons_succ,List.set_cons_zero] at this
       exact this,⟨⟨hv1,hv2⟩,HY.out.1.n,HY.out.1.mask⟩,HY.out.2.1.setCell (p:=⟨W1.heap.size,3,none⟩) hle _⟩
    case rest =>
     clear HY y3 f3 y
     obtain ⟨y,hb,hyk,hE⟩:=hcut
     obtain ⟨W2,hW2⟩ : ∃ W2,W2=wc:=⟨_,rfl⟩
     subst hW2
     have HY:=Lib.hid (And.intro hyk (And.intro hE hb))
     have hlen:=may2_len HM1.out.2.1
     have hg63:=gone63 HM1.out.2.1
     have hmay:=may2_iff.2 HM1.out.2.1
     have hmk:=HM1.out.2.2.1
     have hm:=HW1.out.2.2
     have e0:=HW1.out.1
     have hT:=HH.out.1
     have hB:=HH.out.2
     obtain ⟨bR,hbR⟩ : ∃ bR : Int→Int→Int→Bool,bR=fun t c q=>B (MayS HoldOk m∧HasP m t c q):=⟨_,rfl⟩
     have HAcc : Hid (∀ W,Ext W1 W→Calls Tryz.prog 7 #[modelV m F H S G fc hc sc gc,markV y] W (AccP m y W)):=Lib.hid fun W hE=>accepts_any m y F H S G fc hc sc gc W hlen (hm.ext hE) hyk (hT.ext (e0.trans hE)) (hB.ext (e0.trans hE))
     have HAcd : Hid (∀ W,Ext W1 W→Calls Tryz.prog 11 #[modelV m F H S G fc hc sc gc,markV y] W (AccP m y W)):=Lib.hid fun W hE=>accepts28_any m y F H S G fc hc sc gc W hlen hg63 hmk (hm.ext hE) hyk
     have HMm : Hid (∀ W,Ext W1 W→Calls Tryz.prog 14 #[modelV m F H S G fc hc sc gc] W fun e w'=>e=.returned (.bool true)∧Ext W w'):=Lib.hid fun W hE=>by rw [← B_yes hmay]; exact mayM_any m F H S G fc hc sc gc W ⟨hlen.free,hlen.hands,hlen.spans⟩ hlen.gone (hm.ext hE) (hT.ext (e0.trans hE))
     have HRm : Hid (∀ t c q W,Ext W1 W→Calls Tryz.prog 18 #[modelV m F H S G fc hc sc gc,.int .i64 t,.int .i64 c,.int .i64 q] W fun e w'=>e=.returned (.bool (bR t c q))∧Ext W w'):=Lib.hid fun t c q W hE=>by rw [hbR]; exact roomM_any m F H S G fc hc sc gc t c q W hlen (hm.ext hE) (hT.ext (e0.trans hE))
     have HRd : Hid (∀ t c q W,Ext W1 W→Calls Tryz.prog 19 #[modelV m F H S G fc hc sc gc,.int .i64 t,.int .i64 c,.int .i64 q] W fun e w'=>e=.returned (.bool (bR t c q))∧Ext W w'):=Lib.hid fun t c q W hE=>by rw [hbR]; exact room28_any m F H S G fc hc sc gc t c q W hlen hg63 hmk (hm.ext hE)
     have HLm : Hid (∀ W,Ext W1 W→Calls Tryz.prog 21 #[modelV m F H S G fc hc sc gc] W (LiveP (liveL m) W)):=Lib.hid fun W hE=>liveM_any m F H S G fc hc sc gc W hlen hmk (hm.ext hE) (hT.ext (e0.trans hE)) (hB.ext (e0.trans hE))
     have HLd : Hid (∀ W,Ext W1 W→Calls Tryz.prog 22 #[modelV m F H S G fc hc sc gc] W (LiveP (liveL m) W)):=Lib.hid fun W hE=>live28_any m F H S G fc hc sc gc W hlen hg63 hmk (hm.ext hE)
     have HAw : Hid (∀ W,Ext W1 W→Calls Tryz.prog 10 #[] W fun e w'=>e=.returned (.bool true)∧Ext W w'):=Lib.hid fun W hE=>awake_any W (hT.ext (e0.trans hE)) (hB.ext (e0.trans hE))
     have hll : (liveL m).length≤1000000:=by
      unfold liveL
      split
      ·have:=(deskOk_may hmay)
       obtain ⟨u1,u2⟩:=hmay.len
       have:=hmay.pages
       exact Nat.le_trans (liveTo_len _ _) (by omega)
      ·exact Nat.zero_le _
     have HLl:=Lib.hid hll
     obtain ⟨x0,x1,x2,x3,x4⟩:=Blk.c5 ((HW1.out.2.1.ext hE))
     obtain ⟨y0,y1,y2,y3,y4,y5⟩:=Blk.c6 (hb)
     unfold markV at HAcc HAcd
     unfold modelV at HAcc HAcd HMm HRm HRd HLm HLd
     clear hlen hg63 hmay hmk hm e0 hT hB hbR hll hb hyk hE
     go_upto_region 11 with (go_at_call 7; (with_reducible refine (HAcc.out _ HY.out.2.1).mono ?_); rintro e w3 ⟨hE3,m1,b1,F1,H1,S1,G1,fc1,hc1,sc1,gc1,rfl,hO1,hr1⟩; have HS1:=Lib.hid (And.intro (HY.out.2.1.trans hE3) (And.intro hO1 (And.intro hr1 hE3))); clear hE3 hO1 hr1; unfold modelV)
     clear x0 x1 x2 x3 x4 y0 y1 y2 y3 y4 y5
     obtain ⟨W3,hW3⟩ : ∃ W3,W3=w3.alloc (.cells #[.int .i64 m1.pages,.slice F1 m1.free.length fc1,.slice H1 m1.hands.length hc1,.slice S1 m1.spans.length sc1,.slice G1 m1.gone.length gc1] 30):=⟨_,rfl⟩
     rw [← hW3]
     have hE3 : Ext w3 W3:=hW3▸(Ext.refl w3).alloc _
     have hb1 : Blk W3 w3.heap.size 30 #[.int .i64 m1.pages,.slice F1 m1.free.length fc1,.slice H1 m1.hands.length hc1,.slice S1 m1.spans.length sc1,.slice G1 m1.gone.length gc1]:=hW3▸Blk.new _ _ _ _ rfl
     have hR1 : ModelR W3 m1 F1 H1 S1 G1:=(HS1.out.2.1.ext hE3).reads
     have h13 : Ext W1 W3:=HS1.out.1.trans hE3
     have hy3:=HY.out.2.2.ext (HS1.out.2.2.2.trans hE3)
     have HK1:=Lib.hid (And.intro h13 (And.intro hb1 (And.intro hR1 hy3)))
     obtain ⟨x0,x1,x2,x3,x4⟩:=Blk.c5 ((HW1.out.2.1.ext h13))
     obtain ⟨y0,y1,y2,y3,y4,y5⟩:=Blk.c6 (hy3)
     clear hW3 hE3 hb1 hR1 h13 hy3
     go_upto_region 12 with (go_at_call 11; (with_reducible refine (HAcd.out _ HK1.out.1).mono ?_); rintro e w4 ⟨hE4,m2,b2,F2,H2,S2,G2,fc2,hc2,sc2,gc2,rfl,hO2,hr2⟩; have HS2:=Lib.hid (And.intro hE4 (And.intro hO2 hr2)); clear hE4 hO2 hr2; unfold modelV)
     clear x0 x1 x2 x3 x4 y0 y1 y2 y3 y4 y5
     obtain ⟨he,he2⟩:=acc_same HS1.out.2.2.1 HS2.out.2.2
     subst he he2
     obtain ⟨W4,hW4⟩ : ∃ W4,W4=w4.alloc (.cells #[.int .i64 m1.pages,.slice F2 m1.free.length fc2,.slice H2 m1.hands.length hc2,.slice S2 m1.spans.length sc2,.slice G2 m1.gone.length gc2] 30):=⟨_,rfl⟩
     rw [← hW4]
     have hE4 : Ext w4 W4:=hW4▸(Ext.refl w4).alloc _
     have hb2 : Blk W4 w4.heap.size 30 #[.int .i64 m1.pages,.slice F2 m1.free.length fc2,.slice H2 m1.hands.length hc2,.slice S2 m1.spans.length sc2,.slice G2 m1.gone.length gc2]:=hW4▸Blk.new _ _ _ _ rfl
     have hR2 : ModelR W4 m1 F2 H2 S2 G2:=(HS2.out.2.1.ext hE4).reads
     have h34 : Ext W3 W4:=HS2.out.1.trans hE4
     have h14 : Ext W1 W4:=HK1.out.1.trans h34
     have hl1:=acc_len HS1.out.2.2.1 HM1.out.2.2.1 HY.out.1
     have hm1 : b1=true→MayS HoldOk m1:=fun hb=>by
      rcases HS1.out.2.2.1 with ⟨e,_,_⟩ | ⟨_,_,hd⟩
      ·rw [hb] at e; cases e
      ·exact may2_iff.2 (does_may HM1.out.2.1 HM1.out.2.2.1 HY.out.1 hd).1
     have HK2:=Lib.hid (And.intro h14 (And.intro (HK1.out.2.1.ext h34) (And.intro (HK1.out.2.2.1.ext h34) (And.intro hb2 (And.intro hR2 (HK1.out.2.2.2.ext h34))))))
     have HSa : Hid (∀ W,Ext W4 W→Calls Tryz.prog 8 #[modelV m1 F1 H1 S1 G1 fc1 hc1 sc1 gc1,modelV m1 F2 H2 S2 G2 fc2 hc2 sc2 gc2] W fun e w'=>e=.returned (.bool true)∧Ext W w'):=Lib.hid fun W hE=>same28_eq m1 F1 H1 S1 G1 F2 H2 S2 G2 fc1 hc1 sc1 gc1 fc2 hc2 sc2 gc2 W hl1 (HK2.out.2.2.1.ext hE) (HK2.out.2.2.2.2.1.ext hE)
     have HMa : Hid (b1=true→∀ W,Ext W4 W→Calls Tryz.prog 14 #[modelV m1 F1 H1 S1 G1 fc1 hc1 sc1 gc1] W fun e w'=>e=.returned (.bool true)∧Ext W w'):=Lib.hid fun hb W hE=>by rw [← B_yes (hm1 hb)]; exact mayM_any m1 F1 H1 S1 G1 fc1 hc1 sc1 gc1 W ⟨hl1.free,hl1.hands,hl1.spans⟩ hl1.gone (HK2.out.2.2.1.ext hE) (HH.out.1.ext (HW1.out.1.trans (HK2.out.1.trans hE)))
     unfold modelV at HSa HMa
     obtain ⟨x0,x1,x2,x3,x4⟩:=Blk.c5 ((HW1.out.2.1.ext h14))
     obtain ⟨y0,y1,y2,y3,y4,y5⟩:=Blk.c6 (HK2.out.2.2.2.2.2)
     obtain ⟨p0,p1,p2,p3,p4⟩:=Blk.c5 (HK2.out.2.1)
     obtain ⟨r0,r1,r2,r3,r4⟩:=Blk.c5 (hb2)
     clear hW4 hE4 hb2 hR2 h34 h14 hl1 hm1
     have hcont : ∀ w6,Ext W4 w6→True:=fun _ _=>trivial
     clear hcont
     go_upto_region 12 with fail
     go_cut [124] (fun v wx=>v=.bool false∧Ext W4 wx)
     case first =>
      cases b1
      all_goals
       try have HMb:=Lib.hid (HMa.out rfl)
       clear HMa
       go_wp2_with (first
        |(go_at_call 14; (with_reducible refine (HMm.out _ HK2.out.1).mono ?_); rintro e w5 ⟨rfl,hE5⟩; (have p0:=hE5.cell p0; have p1:=hE5.cell p1; have p2:=hE5.cell p2; have p3:=hE5.cell p3; have p4:=hE5.cell p4; have r0:=hE5.cell r0; have r1:=hE5.cell r1; have r2:=hE5.cell r2; have r3:=hE5.cell r3; have r4:=hE5.cell r4); have HE5:=Lib.hid hE5; clear hE5)
        |(go_at_call 8; (with_reducible refine (HSa.out _ HE5.out).mono ?_); rintro e w6 ⟨rfl,hE6⟩; (have p0:=hE6.cell p0; have p1:=hE6.cell p1; have p2:=hE6.cell p2; have p3:=hE6.cell p3; have p4:=hE6.cell p4); have HE6:=Lib.hid (HE5.out.trans hE6); clear hE6)
        |(go_at_call 14; (with_reducible refine (HMb.out _ HE6.out).mono ?_); rintro e w7 ⟨rfl,hE7⟩; have HE7:=Lib.hid (HE6.out.trans hE7); clear hE7))
       go_meet
       first | exact ⟨rfl,HE7.out⟩ | exact ⟨rfl,HE6.out⟩
     case rest =>
      obtain ⟨rfl,hEc⟩:=hcut
      obtain ⟨Wx,hWx⟩ : ∃ Wx,Wx=wc:=⟨_,rfl⟩
      subst hWx
      clear x0 x1 x2 x3 x4 y0 y1 y2 y3 y4 y5 p0 p1 p2 p3 p4 r0 r1 r2 r3 r4
      have HE6:=Lib.hid (HK2.out.1.trans hEc)
      obtain ⟨x0,x1,x2,x3,x4⟩:=Blk.c5 ((HW1.out.2.1.ext HE6.out))
      obtain ⟨y0,y1,y2,y3,y4,y5⟩:=Blk.c6 ((HK2.out.2.2.2.2.2.ext hEc))
      have HKS : Hid (∀ w',Ext Wx w'→(w'.cell? ⟨w1.heap.size,0,none⟩=some (.int .i64 m.pages)∧w'.cell? ⟨w1.heap.size,1,none⟩=some (.slice F m.free.length fc)∧w'.cell? ⟨w1.heap.size,2,none⟩=some (.slice H m.hands.length hc)∧w'.cell? ⟨w1.heap.size,3,none⟩=some (.slice S m.spans.length sc)∧w'.cell? ⟨w1.heap.size,4,none⟩=some (.slice G m.gone.length gc)∧w'.cell? ⟨W1.heap.size,1,none⟩=some (.int .i64 y.thread))):=Lib.hid fun w' hE=>⟨hE.cell x0,hE.cell x1,hE.cell x2,hE.cell x3,hE.cell x4,hE.cell y1⟩
      have hcur : Ext Wx Wx.drew:=(Ext.refl Wx).drew
      clear hEc x0 x1 x2 x3 x4 y0 y1 y2 y3 y4 y5
      go_upto_region 14 with fail
      go_region_held3 (fun w'=>w'.cell? ⟨w1.heap.size,0,none⟩=some (.int .i64 m.pages)∧w'.cell? ⟨w1.heap.size,1,none⟩=some (.slice F m.free.length fc)∧w'.cell? ⟨w1.heap.size,2,none⟩=some (.slice H m.hands.length hc)∧w'.cell? ⟨w1.heap.size,3,none⟩=some (.slice S m.spans.length sc)∧w'.cell? ⟨w1.heap.size,4,none⟩=some (.slice G m.gone.length gc)∧w'.cell? ⟨W1.heap.size,1,none⟩=some (.int .i64 y.thread)) (first | with_reducible exact HKS.out _ hcur | with_reducible exact HKS.out _ ((Ext.refl Wx).drew)) (first
       |(go_at_call 18; (with_reducible refine (HRm.out _ _ _ _ (HE6.out.trans hcur)).mono ?_); rintro e wa ⟨rfl,hE⟩; replace hcur:=hcur.trans hE; clear hE)
       |(go_at_call 19; (with_reducible refine (HRd.out _ _ _ _ (HE6.out.trans hcur)).mono ?_); rintro e wa ⟨rfl,hE⟩; replace hcur:=hcur.trans hE; clear hE)
       |(go_at_call 21; (with_reducible refine (HLm.out _ (HE6.out.trans hcur)).mono ?_); rintro e wq ⟨⟨AC,cC,rfl,hRC⟩,hE⟩; replace hcur:=hcur.trans hE; (try replace hsD:=hsD.trans hE); have HRC:=Lib.hid hRC; have hsC:=Ext.refl wq; clear hE hRC)
       |(go_at_call 22; (with_reducible refine (HLd.out _ (HE6.out.trans hcur)).mono ?_); rintro e wd ⟨⟨AD,cD,rfl,hRD⟩,hE⟩; replace hcur:=hcur.trans hE; (try replace hsC:=hsC.trans hE); have HRD:=Lib.hid hRD; have hsD:=Ext.refl wd; clear hE hRD)
       |(go_at_call 20; (with_reducible refine (sameI_eq (liveL m) AC AD cC cD _ HLl.out (HRC.out.ext hsC) (HRD.out.ext hsD)).mono ?_); rintro e wa ⟨rfl,hE⟩; replace hcur:=hcur.trans hE; clear hE hsC hsD)
       |(go_at_call 10; (with_reducible refine (HAw.out _ (HE6.out.trans hcur)).mono ?_); rintro e wa ⟨rfl,hE⟩; replace hcur:=hcur.trans hE; clear hE))
      all_goals go_wp2_with fail
      all_goals go_ret
      all_goals exact ⟨rfl,HW1.out.1.trans (HE6.out.trans hcur)⟩
end Go.Proofs.YtoolenhnhlfhmaaGreatDoor
