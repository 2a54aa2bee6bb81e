/- Walks: All. Walks: Live. Walks: SameInts, SameRuns, Same, of what is alike. -/
import Derived.Test.YtoolenhnhlfhmaaGreatDoorGP
namespace Go.Proofs.YtoolenhnhlfhmaaGreatDoor
open Go.RowKit Go.Sort
set_option linter.unusedVariables false
set_option linter.unusedSimpArgs false
theorem results_cell_row3 {P : Program} {fn : Func} {p u v : Tmp} {ty : TypeId} (h : fn.results=#[.cell p ty,.tmp u,.tmp v]) (tmps : Array Value) (w : World) (g : Nat) (t : TypeId) (cs : Array Value) (fr : Nat × Nat) (d : TypeDesc)
  (hp : tmps.getD p undef=.pointer (some ⟨g,0,none⟩)) (hg : w.heap[g]?=some (.cells cs t fr))
  (hu : P.underlying ty=some d) (hd : (match d with | .struct _ | .array _ _=>true | _=>false)=true) (hi : (P.info? ty).map (·.size)=some cs.size) :
  (results fn tmps).run P w=.ok (.tuple #[.agg cs,tmps.getD u undef,tmps.getD v undef]) w:=by
 have hp' : tmps[p]?.getD undef=.pointer (some ⟨g,0,none⟩):=by simpa using hp
 simp only [results,h]
 simp [Sem.run_bind,Result.andThen,asAddr,hp',run_loadVar_row w g t ty cs fr d hg hu hd hi]
theorem all_res : Tryz.f12.results=#[.cell 4 30,.tmp 5,.tmp 6]:=by kernel_rfl
def noMark : MarkD:=⟨0,0,0,0,0,0⟩
/-- The model behind the first k marks, each accepted. -/
def Chain (m : ModelD) (l : List MarkD) : Nat→ModelD→Prop
 | 0,m'=>m'=m
 | k + 1,m'=>∃ m1,Chain m l k m1∧DoesR m1 (ix noMark l k) m'
theorem chain_may {m : ModelD} {l : List MarkD} (h : May2 m) (hmk : MarksOk m) : ∀ k m',(∀ j,j < k→MarkOk (ix noMark l j))→Chain m l k m'→(May2 m'∧MarksOk m')∧m'.pages=m.pages
 | 0,m',_,e=>by subst e; exact ⟨⟨h,hmk⟩,rfl⟩
 | k + 1,m',hx,⟨m1,hc,hd⟩=>by
  obtain ⟨⟨h1,h2⟩,h3⟩:=chain_may h hmk k m1 (fun j hj=>hx j (by omega)) hc
  obtain ⟨k1,k2⟩:=does_may h1 h2 (hx k (by omega)) hd
  exact ⟨⟨k1,does_marks h2 (hx k (by omega)) hd⟩,k2.trans h3⟩
def marksV (l : List MarkD) (j : Nat) : Value:=rowV (fun x k=>if k=0 then .int .i64 x.kind else if k=1 then .int .i64 x.thread else if k=2 then .int .i64 x.entry else if k=3 then .int .i64 x.page else if k=4 then .int .i64 x.n else .int .u64 (x.mask : Int)) noMark 6 l j
/-- What All tells. -/
def AllP (m : ModelD) (l : List MarkD) (w : World) (e : Ending) (w' : World) : Prop:=Ext w w'∧∃ m' n b F' H' S' G' fc' hc' sc' gc',e=.returned (.tuple #[modelV m' F' H' S' G' fc' hc' sc' gc',.int .i64 n,.bool b]) ∧
 OwnM w' w.heap.size m' (.slice F' m'.free.length fc') (.slice H' m'.hands.length hc') (.slice S' m'.spans.length sc') (.slice G' m'.gone.length gc') ∧
 ((b=false∧n=0∧m'=noModel∧¬ MayS HoldOk m)∨(MayS HoldOk m∧∃ k : Nat,n=(k : Int)∧Chain m l k m'∧((b=true∧k=l.length)∨(b=false∧k < l.length∧DoesN m' (ix noMark l k)))))
set_option maxHeartbeats 8000000 in
set_option maxRecDepth 100000 in
theorem all_any (m : ModelD) (l : List MarkD) (F H S G L : Option Addr) (fc hc sc gc lc : Nat) (w : World) (hlen : LenM m) (hmk : MarksOk m) (hm : ModelR w m F H S G) (hl : l.length≤1000000) (hL : SlR w L l.length 6 (marksV l)) (hx : ∀ j,j < l.length→MarkOk (ix noMark l j)) (hT : Tab w) (hB : TabB w) :
  Calls Tryz.prog 12 #[modelV m F H S G fc hc sc gc,.slice L l.length lc] w (AllP m l w):=by
 obtain ⟨Wa,hWa⟩ : ∃ Wa,Wa=w.alloc (.cells #[.int .i64 m.pages,.slice F m.free.length fc,.slice H m.hands.length hc,.slice S m.spans.length sc,.slice G m.gone.length gc] 30):=⟨_,rfl⟩
 obtain ⟨W0,hW0⟩ : ∃ W0,W0=Wa.alloc (.cells #[.int .i64 0,.slice none 0 0,.slice none 0 0,.slice none 0 0,.slice none 0 0] 30):=⟨_,rfl⟩
 have ea : Ext w Wa:=hWa▸(Ext.refl w).alloc _
 have ec : Ext Wa W0:=hW0▸(Ext.refl Wa).alloc _
 have ba : Blk W0 w.heap.size 30 #[.int .i64 m.pages,.slice F m.free.length fc,.slice H m.hands.length hc,.slice S m.spans.length sc,.slice G m.gone.length gc]:=((hWa▸Blk.new _ _ _ _ rfl : Blk Wa w.heap.size _ _).ext ec)
 have sa : Wa.heap.size=w.heap.size + 1:=by rw [hWa]; exact World.size_alloc _ _
 have s0 : W0.heap.size=w.heap.size + 2:=by rw [hW0,World.size_alloc,sa]
 have bc : Blk W0 (w.heap.size + 1) 30 #[.int .i64 0,.slice none 0 0,.slice none 0 0,.slice none 0 0,.slice none 0 0]:=sa▸(hW0▸Blk.new _ _ _ _ rfl : Blk W0 Wa.heap.size _ _)
 have e0 : Ext w W0:=ea.trans ec
 have HMay : Hid (Calls Tryz.prog 14 #[modelV m F H S G fc hc sc gc] W0 fun e w'=>e=.returned (.bool (B (MayS HoldOk m)))∧Ext W0 w'):=Lib.hid (mayM_any m F H S G fc hc sc gc W0 ⟨hlen.free,hlen.hands,hlen.spans⟩ hlen.gone (hm.ext e0) (hT.ext e0))
 have HE : Hid (W0=(w.alloc (.cells #[.int .i64 m.pages,.slice F m.free.length fc,.slice H m.hands.length hc,.slice S m.spans.length sc,.slice G m.gone.length gc] 30)).alloc (.cells #[.int .i64 0,.slice none 0 0,.slice none 0 0,.slice none 0 0,.slice none 0 0] 30)):=Lib.hid (by rw [hW0,hWa])
 have HW : Hid (Ext w W0∧Blk W0 (w.heap.size + 1) 30 #[.int .i64 0,.slice none 0 0,.slice none 0 0,.slice none 0 0,.slice none 0 0]∧W0.heap.size=w.heap.size + 2∧Blk W0 w.heap.size 30 #[.int .i64 m.pages,.slice F m.free.length fc,.slice H m.hands.length hc,.slice S m.spans.length sc,.slice G m.gone.length gc]∧SlR W0 L l.length 6 (marksV l)):=Lib.hid ⟨e0,bc,s0,ba,hL.ext e0⟩
 have HH : Hid (LenM m∧ModelR w m F H S G∧MarksOk m∧Tab w∧TabB w∧∀ j,j < l.length→MarkOk (ix noMark l j)):=Lib.hid ⟨hlen,hm,hmk,hT,hB,hx⟩
 obtain ⟨x0,x1,x2,x3,x4⟩:=Blk.c5 ba
 clear hWa hW0 ea ec ba sa s0 bc e0 hlen hm hmk hT hB hx hL
 by_cases hmay : MayS HoldOk m
 rotate_left
 ·rw [B_no hmay] at HMay
  have HN:=Lib.hid hmay
  clear hmay
  unfold modelV at HMay
  unfold modelV
  go_enter Tryz.func12,Tryz.ntmps12
  go_upto_region 1 with fail
  rw [← HE.out]
  go_upto_region 2 with (go_at_call 14; (with_reducible refine HMay.out.mono ?_); rintro e w1 ⟨rfl,hE1⟩; have hb1:=HW.out.2.1.ext hE1; obtain ⟨⟨g0,g1,g2,g3,g4⟩,fz0,fz1,fz2,fz3,fz4⟩:=Blk.f5 hb1; have HE1:=Lib.hid (And.intro hE1 hb1); clear hE1 hb1)
  go_wp2
  have hB:=((((HE1.out.2.set 0 (.int .i64 0)).set 1 (.slice none 0 0)).set 2 (.slice none 0 0)).set 3 (.slice none 0 0)).set 4 (.slice none 0 0)
  simp only [List.setIfInBounds_toArray,List.set_cons_succ,List.set_cons_zero] at hB
  have hle : w.heap.size≤w.heap.size + 1:=by omega
  refine bodyPost_ret (results_cell_row3 all_res _ _ (w.heap.size + 1) 30 _ (0,0) _ rfl hB Tryz.underlying30 rfl own_info) rfl ⟨(((((HW.out.1.trans HE1.out.1).setCell hle _).setCell hle _).setCell hle _).setCell hle _).setCell hle _,noModel,0,false,none,none,none,none,0,0,0,0,rfl,ownNo _ _,.inl ⟨rfl,rfl,rfl,HN.out⟩⟩
 ·rw [B_yes hmay] at HMay
  have HN:=Lib.hid hmay
  clear hmay
  unfold modelV at HMay
  unfold modelV
  have HO : Hid (∀ W,Ext W0 W→Calls Tryz.prog 26 #[.agg #[.int .i64 m.pages,.slice F m.free.length fc,.slice H m.hands.length hc,.slice S m.spans.length sc,.slice G m.gone.length gc]] W fun e w'=>∃ F' H' S' G' fc' hc' sc' gc',e=.returned (.agg #[.int .i64 m.pages,.slice F' m.free.length fc',.slice H' m.hands.length hc',.slice S' m.spans.length sc',.slice G' m.gone.length gc'])∧Ext W w'∧OwnM w' W.heap.size m (.slice F' m.free.length fc') (.slice H' m.hands.length hc') (.slice S' m.spans.length sc') (.slice G' m.gone.length gc')):=Lib.hid fun W hE=>own_any m F H S G fc hc sc gc W HH.out.1 (HH.out.2.1.ext (HW.out.1.trans hE))
  go_enter Tryz.func12,Tryz.ntmps12
  go_upto_region 1 with fail
  rw [← HE.out]
  go_upto_region 4 with (first
   |(go_at_call 14; (with_reducible refine HMay.out.mono ?_); rintro e w1 ⟨rfl,hE1⟩; have hb1:=HW.out.2.2.2.1.ext hE1; obtain ⟨y0,y1,y2,y3,y4⟩:=Blk.c5 hb1; have HE1:=Lib.hid hE1; clear hE1 hb1)
   |(go_at_call 26; (with_reducible refine (HO.out _ HE1.out).mono ?_); rintro e w2 ⟨F1,H1,S1,G1,fc1,hc1,sc1,gc1,rfl,hE2,hO2⟩; have HE2:=Lib.hid (And.intro hE2 hO2); clear hE2 hO2))
  obtain ⟨W3,hW3⟩ : ∃ W3,W3=w2.alloc (.cells #[.int .i64 m.pages,.slice F1 m.free.length fc1,.slice H1 m.hands.length hc1,.slice S1 m.spans.length sc1,.slice G1 m.gone.length gc1] 62):=⟨_,rfl⟩
  rw [← hW3]
  have hE3 : Ext w2 W3:=hW3▸(Ext.refl w2).alloc _
  have hblk : Blk W3 w2.heap.size 62 #[.int .i64 m.pages,.slice F1 m.free.length fc1,.slice H1 m.hands.length hc1,.slice S1 m.spans.length sc1,.slice G1 m.gone.length gc1]:=hW3▸Blk.new _ _ _ _ rfl
  have hD3 : DeskR W3 w2.heap.size w1.heap.size m (.slice F1 m.free.length fc1) (.slice H1 m.hands.length hc1) (.slice S1 m.spans.length sc1) (.slice G1 m.gone.length gc1):=⟨hblk,HE2.out.2.ext hE3⟩
  have h13 : Ext w1 W3:=HE2.out.1.trans hE3
  have h03 : Ext W0 W3:=HE1.out.trans h13
  have hw3 : Ext w W3:=HW.out.1.trans h03
  have h12:=HE2.out.1.size
  have hs0:=HW.out.2.2.1
  have h01:=HE1.out.size
  have hle : w.heap.size≤w.heap.size + 1:=by omega
  have hlt : w.heap.size + 1 < w1.heap.size:=by omega
  have HX:=Lib.hid (And.intro h03 (And.intro h13 (And.intro hw3 (And.intro hD3 (And.intro h12 h01)))))
  clear hW3 hE3 hblk hD3 h13 h03 hw3 h12 h01 hs0 x0 x1 x2 x3 x4 y0 y1 y2 y3 y4
  have hml:=may2_iff.1 HN.out
  go_wp2
  go_loopg [20] l.length (fun q i wr=>∃ (k : Nat) (mk : ModelD) (F' H' S' G' : Value),k≤l.length∧q=l.length - k∧i=.int .i64 (k : Int)∧Ext W0 wr∧w1.heap.size≤wr.heap.size∧Chain m l k mk∧DeskR wr w2.heap.size w1.heap.size mk F' H' S' G')
  case atStart=>exact ⟨0,m,_,_,_,_,Nat.zero_le _,rfl,rfl,HX.out.1,HX.out.2.1.size,rfl,HX.out.2.2.2.1⟩
  case round =>
   obtain ⟨k,mk,F',H',S',G',hk,rfl,rfl,hE,hsz,hch,hD⟩:=hrel
   by_cases hlt2 : k < l.length
   ·obtain ⟨b,off,rfl,hcl⟩:=HW.out.2.2.2.2 (by omega)
    obtain ⟨x,hx⟩ : ∃ x,ix noMark l k=x:=⟨_,rfl⟩
    have hr : ∀ j,j < 6→wr.cell? ⟨b,off + (k * 6 + j),none⟩=some (rowV (fun x k=>if k=0 then .int .i64 x.kind else if k=1 then .int .i64 x.thread else if k=2 then .int .i64 x.entry else if k=3 then .int .i64 x.page else if k=4 then .int .i64 x.n else .int .u64 (x.mask : Int)) noMark 6 l (k * 6 + j)):=fun j hj=>hE.cell (hcl (k * 6 + j) (by omega))
    have hv : ∀ j,j < 6→rowV (fun (x : MarkD) k=>if k=0 then Value.int .i64 x.kind else if k=1 then .int .i64 x.thread else if k=2 then .int .i64 x.entry else if k=3 then .int .i64 x.page else if k=4 then .int .i64 x.n else .int .u64 (x.mask : Int)) noMark 6 l (k * 6 + j)=(if j=0 then Value.int .i64 x.kind else if j=1 then .int .i64 x.thread else if j=2 then .int .i64 x.entry else if j=3 then .int .i64 x.page else if j=4 then .int .i64 x.n else .int .u64 (x.mask : Int)):=fun j hj=>by
     unfold rowV
     rw [show (k * 6 + j) / 6=k by omega,show (k * 6 + j) % 6=j by omega,hx]
    have a0 : wr.cell? ⟨b,off + k * 6,none⟩=some (.int .i64 x.kind):=by have:=hr 0 (by omega); rw [hv 0 (by omega)] at this; exact this
    have a1 : wr.cell? ⟨b,off + k * 6 + 1,none⟩=some (.int .i64 x.thread):=by have:=hr 1 (by omega); rw [hv 1 (by omega)] at this; exact this
    have a2 : wr.cell? ⟨b,off + k * 6 + 2,none⟩=some (.int .i64 x.entry):=by have:=hr 2 (by omega); rw [hv 2 (by omega)] at this; exact this
    have a3 : wr.cell? ⟨b,off + k * 6 + 3,none⟩=some (.int .i64 x.page):=by have:=hr 3 (by omega); rw [hv 3 (by omega)] at this; exact this
    have a4 : wr.cell? ⟨b,off + k * 6 + 4,none⟩=some (.int .i64 x.n):=by have:=hr 4 (by omega); rw [hv 4 (by omega)] at this; exact this
    have a5 : wr.cell? ⟨b,off + k * 6 + 5,none⟩=some (.int .u64 (x.mask : Int)):=by have:=hr 5 (by omega); rw [hv 5 (by omega)] at this; exact this
    have q0 : (0 : Int)≤(k : Int):=by omega
    have q1 : (k : Int) < (l.length : Int):=by omega
    obtain ⟨W2,hW2⟩ : ∃ W2,W2=wr.alloc (.cells #[.int .i64 x.kind,.int .i64 x.thread,.int .i64 x.entry,.int .i64 x.page,.int .i64 x.n,.int .u64 (x.mask : Int)] 34):=⟨_,rfl⟩
    have hE2 : Ext wr W2:=hW2▸(Ext.refl wr).alloc _
    have hpb : Blk W2 wr.heap.size 34 #[.int .i64 x.kind,.int .i64 x.thread,.int .i64 x.entry,.int .i64 x.page,.int .i64 x.n,.int .u64 (x.mask : Int)]:=hW2▸Blk.new _ _ _ _ rfl
    obtain ⟨b0,b1,b2,b3,b4,b5⟩:=Blk.c6 hpb
    obtain ⟨⟨hm1,hm2⟩,hm3⟩:=chain_may hml HH.out.2.2.1 k mk (fun j hj=>HH.out.2.2.2.2.2 j (by omega)) hch
    have hwW : Ext w W2:=HW.out.1.trans (hE.trans hE2)
    have hdo:=does_any mk w2.heap.size w1.heap.size F' H' S' G' x W2 (deskOk_may (may2_iff.2 hm1)) (hx▸HH.out.2.2.2.2.2 k hlt2) (HH.out.2.2.2.1.ext hwW) (HH.out.2.2.2.2.1.ext hwW) (Nat.le_trans hsz hE2.size) (hD.ext hE2)
    unfold markV at hdo
    have HD:=Lib.hid hdo
    have HW2:=Lib.hid hW2
    have HR:=Lib.hid (And.intro (hE.trans hE2) (And.intro (Nat.le_trans hsz hE2.size) (And.intro hch hx)))
    clear hdo hW2 hE hsz hch hx hE2 hpb hwW hm1 hm2 hm3 hr hv hcl hD
    go_upto_region 7 with fail
    rw [← HW2.out]
    go_upto_if 28 with (go_at_call 27; (with_reducible refine HD.out.mono ?_); rintro e w4 hs; have HS:=Lib.hid hs; clear hs; obtain ⟨bb,rfl⟩:=DoesP.bool HS.out)
    obtain ⟨hK,hz,hr⟩:=HS.out
    have h04 : Ext W0 w4:=hK W0 HR.out.1 HX.out.2.2.2.2.2 (Nat.le_trans HX.out.2.2.2.2.2 HX.out.2.2.2.2.1)
    have h14 : w1.heap.size≤w4.heap.size:=Nat.le_trans HR.out.2.1 hz
    rcases hr with ⟨e,hn,F5,H5,S5,G5,hD5⟩ | ⟨e,m',F5,H5,S5,G5,hR,hD5⟩
    ·obtain rfl : bb=false:=by injection e with e; injection e
     obtain ⟨F2,H2,S2,G2,fc2,hc2,sc2,gc2,rfl,rfl,rfl,rfl⟩:=hD5.own.slices
     obtain ⟨d0,d1,d2,d3,d4⟩:=Blk.c5 hD5.blk
     have hb1:=HW.out.2.1.ext h04
     obtain ⟨⟨g0,g1,g2,g3,g4⟩,fz0,fz1,fz2,fz3,fz4⟩:=Blk.f5 hb1
     have HQ:=Lib.hid (And.intro (HW.out.1.trans h04) (And.intro hb1 (And.intro hD5.own (And.intro HR.out.2.2.1 (And.intro HR.out.2.2.2 hn)))))
     clear h04 h14 hn hD5 e hK hz hb1 a0 a1 a2 a3 a4 a5 b0 b1 b2 b3 b4 b5
     go_wp2
     have hB:=((((HQ.out.2.1.set 0 (.int .i64 mk.pages)).set 1 (.slice F2 mk.free.length fc2)).set 2 (.slice H2 mk.hands.length hc2)).set 3 (.slice S2 mk.spans.length sc2)).set 4 (.slice G2 mk.gone.length gc2)
     simp only [List.setIfInBounds_toArray,List.set_cons_succ,List.set_cons_zero] at hB
     refine bodyPost_ret (results_cell_row3 all_res _ _ (w.heap.size + 1) 30 _ (0,0) _ rfl hB Tryz.underlying30 rfl own_info) rfl ⟨(((((HQ.out.1).setCell hle _).setCell hle _).setCell hle _).setCell hle _).setCell hle _,mk,(k : Int),false,F2,H2,S2,G2,fc2,hc2,sc2,gc2,rfl,(((((HQ.out.2.2.1.far hlt _).far hlt _).far hlt _).far hlt _).far hlt _).mono (by omega),.inr ⟨HN.out,⟨k,rfl,HQ.out.2.2.2.1,.inr ⟨rfl,hlt2,by rw [HQ.out.2.2.2.2.1]; exact HQ.out.2.2.2.2.2⟩⟩⟩⟩
    ·obtain rfl : bb=true:=by injection e with e; injection e
     have HQ:=Lib.hid (And.intro h04 (And.intro h14 (And.intro hR hD5)))
     clear h04 h14 hR hD5 e hK hz a0 a1 a2 a3 a4 a5 b0 b1 b2 b3 b4 b5
     go_wp2
     go_roundg (l.length - (k + 1))
     case measure=>go_light; omega
     case rel =>
      exact ⟨k + 1,m',F5,H5,S5,G5,by omega,rfl,by go_num,HQ.out.1,HQ.out.2.1,⟨mk,HR.out.2.2.1,by rw [HR.out.2.2.2]; exact HQ.out.2.2.1⟩,HQ.out.2.2.2⟩
   ·obtain rfl : k=l.length:=by omega
    obtain ⟨F2,H2,S2,G2,fc2,hc2,sc2,gc2,rfl,rfl,rfl,rfl⟩:=hD.own.slices
    obtain ⟨d0,d1,d2,d3,d4⟩:=Blk.c5 hD.blk
    have hb1:=HW.out.2.1.ext hE
    obtain ⟨⟨g0,g1,g2,g3,g4⟩,fz0,fz1,fz2,fz3,fz4⟩:=Blk.f5 hb1
    have HQ:=Lib.hid (And.intro (HW.out.1.trans hE) (And.intro hb1 (And.intro hD.own hch)))
    clear hE hch hD hsz hb1
    go_wp2
    have hB:=((((HQ.out.2.1.set 0 (.int .i64 mk.pages)).set 1 (.slice F2 mk.free.length fc2)).set 2 (.slice H2 mk.hands.length hc2)).set 3 (.slice S2 mk.spans.length sc2)).set 4 (.slice G2 mk.gone.length gc2)
    simp only [List.setIfInBounds_toArray,List.set_cons_succ,List.set_cons_zero] at hB
    refine bodyPost_ret (results_cell_row3 all_res _ _ (w.heap.size + 1) 30 _ (0,0) _ rfl hB Tryz.underlying30 rfl own_info) rfl ⟨(((((HQ.out.1).setCell hle _).setCell hle _).setCell hle _).setCell hle _).setCell hle _,mk,(l.length : Int),true,F2,H2,S2,G2,fc2,hc2,sc2,gc2,rfl,(((((HQ.out.2.2.1.far hlt _).far hlt _).far hlt _).far hlt _).far hlt _).mono (by omega),.inr ⟨HN.out,⟨l.length,rfl,HQ.out.2.2.2,.inl ⟨rfl,rfl⟩⟩⟩⟩
/-- The slots of a span that live. -/
def livesW (h : HoldD) : Nat:=if h.swept then h.alloc else h.marks
noncomputable def livS (h : HoldD) : List Int:=(places (livesW h)).map fun (i : Nat)=>begC h.page h.cls i
noncomputable def liveTo (l : List HoldD) : Nat→List Int
 | 0=>[]
 | k + 1=>liveTo l k ++ livS (ix noHold l k)
theorem livS_len (h : HoldD) : (livS h).length≤64:=by unfold livS; rw [List.length_map]; exact places_len _
theorem liveTo_len (l : List HoldD) : ∀ k,(liveTo l k).length≤64 * k
 | 0=>Nat.le_refl _
 | k + 1=>by
  have:=liveTo_len l k
  have:=livS_len (ix noHold l k)
  unfold liveTo
  rw [List.length_append]
  omega
theorem livS_take {h : HoldD} {j p : Nat} (hj : j < (places (livesW h)).length) (e : ix 0 (places (livesW h)) j=p) : (livS h).take (j + 1)=(livS h).take j ++ [begC h.page h.cls p]:=by
 unfold livS
 rw [List.take_succ_eq_append_getElem (by rw [List.length_map]; exact hj),List.getElem_map,← e,ix_lt hj]
theorem own_pastS {w : World} {b1 b2 n1 n2 s1 s2 : Nat} {e1 e2 : TypeId} {v1 v2 : Value} {F1 F2 : Nat→Value} {W : World} (h1 : OwnS w b1 e1 s1 v1 n1 F1) (h2 : OwnS W b2 e2 s2 v2 n2 F2) (hb : w.heap.size≤b2) : v2.ownBlock=none∨v2.ownBlock≠v1.ownBlock:=by
 cases e : v2.ownBlock with
 | none=>exact .inl rfl
 | some k =>
  refine .inr fun e'=>?_
  have l2:=World.ownsRow.lt h2 k e
  have l1:=World.ownsRow.lt h1 k e'.symm
  omega
def LiveP (l : List Int) (w : World) (e : Ending) (w' : World) : Prop:=(∃ A c,e=.returned (.slice A l.length c)∧SlR w' A l.length 1 (intsV l))∧Ext w w'
noncomputable def liveL (m : ModelD) : List Int:=if B (MayS HoldOk m) then liveTo m.spans m.spans.length else []
set_option maxRecDepth 100000 in
set_option maxHeartbeats 4000000 in
theorem liveM_any (m : ModelD) (F H S G : Option Addr) (fc hc sc gc : Nat) (w : World) (hlen : LenM m) (hmk : MarksOk m) (hm : ModelR w m F H S G) (hT : Tab w) (hB : TabB w) :
  Calls Tryz.prog 21 #[modelV m F H S G fc hc sc gc] w (LiveP (liveL m) w):=by
 obtain ⟨W0,hW0⟩ : ∃ W0,W0=w.alloc (.cells #[.int .i64 m.pages,.slice F m.free.length fc,.slice H m.hands.length hc,.slice S m.spans.length sc,.slice G m.gone.length gc] 30):=⟨_,rfl⟩
 have e0 : Ext w W0:=hW0▸(Ext.refl w).alloc _
 have ba : Blk W0 w.heap.size 30 #[.int .i64 m.pages,.slice F m.free.length fc,.slice H m.hands.length hc,.slice S m.spans.length sc,.slice G m.gone.length gc]:=hW0▸Blk.new _ _ _ _ rfl
 have HMay : Hid (Calls Tryz.prog 14 #[modelV m F H S G fc hc sc gc] W0 fun e w'=>e=.returned (.bool (B (MayS HoldOk m)))∧Ext W0 w'):=Lib.hid (mayM_any m F H S G fc hc sc gc W0 ⟨hlen.free,hlen.hands,hlen.spans⟩ hlen.gone (hm.ext e0) (hT.ext e0))
 have HE:=Lib.hid hW0
 have HW : Hid (Ext w W0∧Blk W0 w.heap.size 30 #[.int .i64 m.pages,.slice F m.free.length fc,.slice H m.hands.length hc,.slice S m.spans.length sc,.slice G m.gone.length gc]∧SlR W0 S m.spans.length 8 (holdsV m.spans)):=Lib.hid ⟨e0,ba,SlR.ext hm.spans e0⟩
 have HT : Hid (Tab w∧TabB w∧MarksOk m):=Lib.hid ⟨hT,hB,hmk⟩
 obtain ⟨x0,x1,x2,x3,x4⟩:=Blk.c5 ba
 obtain ⟨i0,hi,hz0,hz1,hz2⟩:=info_parts Tryz.infoMInt
 have HI:=Lib.hid (And.intro hi (And.intro hz0 (And.intro hz1 hz2)))
 clear hi hz0 hz1 hz2
 clear hW0 e0 ba hlen hm hmk hT hB
 unfold modelV at HMay ⊢
 by_cases hmay : MayS HoldOk m
 rotate_left
 ·have hL : liveL m=[]:=by unfold liveL; rw [B_no hmay]; rfl
  rw [B_no hmay] at HMay
  have HL:=Lib.hid hL
  clear hmay hL
  go_enter Tryz.func21,Tryz.ntmps21
  go_upto_region 1 with fail
  rw [← HE.out]
  go_wp2_with (go_at_call 14; (with_reducible refine HMay.out.mono ?_); rintro e w1 ⟨rfl,hE1⟩; have HE1:=Lib.hid hE1; clear hE1)
  go_ret
  rw [HL.out]
  exact ⟨⟨none,0,rfl,SlR.nil⟩,HW.out.1.trans HE1.out⟩
 ·have hL : liveL m=liveTo m.spans m.spans.length:=by unfold liveL; rw [B_yes hmay]; rfl
  rw [B_yes hmay,] at HMay
  have hsl : m.spans.length≤4096:=by have:=hmay.len.1; have:=hmay.pages.2; omega
  have HL:=Lib.hid hL
  have HN:=Lib.hid hmay
  clear hmay hL
  go_enter Tryz.func21,Tryz.ntmps21
  go_upto_region 1 with fail
  rw [← HE.out]
  go_upto_region 3 with (go_at_call 14; (with_reducible refine HMay.out.mono ?_); rintro e w1 ⟨rfl,hE1⟩; have y3:=hE1.cell x3; have HE1:=Lib.hid hE1; clear hE1)
  clear x0 x1 x2 x3 x4
  go_wp2
  go_loopg [2,16] m.spans.length (fun q v i wr=>∃ k : Nat,k≤m.spans.length∧q=m.spans.length - k∧i=.int .i64 (k : Int)∧Ext W0 wr∧OwnS wr W0.heap.size 3 1 v (liveTo m.spans k).length (intsV (liveTo m.spans k)))
  case atStart=>exact ⟨0,Nat.zero_le _,rfl,rfl,HE1.out,OwnS.nil _ _ _ _ _⟩
  case round =>
   obtain ⟨k,hk,rfl,rfl,hE,hO⟩:=hrel
   by_cases hlt : k < m.spans.length
   ·obtain ⟨b,off,rfl,hc⟩:=HW.out.2.2 (by omega)
    obtain ⟨x,hx⟩ : ∃ x,ix noHold m.spans k=x:=⟨_,rfl⟩
    have hr : ∀ j,j < 8→wr.cell? ⟨b,off + (k * 8 + j),none⟩=some (holdC x j):=fun j hj=>by
     have:=hE.cell (hc (k * 8 + j) (by omega))
     rw [holdsV_at _ _ _ hj,hx] at this
     exact this
    have a0 : wr.cell? ⟨b,off + k * 8,none⟩=some (.int .i64 x.page):=hr 0 (by omega)
    have a1 : wr.cell? ⟨b,off + k * 8 + 1,none⟩=some (.int .i64 x.pages):=hr 1 (by omega)
    have a2 : wr.cell? ⟨b,off + k * 8 + 2,none⟩=some (.int .i64 x.cls):=hr 2 (by omega)
    have a3 : wr.cell? ⟨b,off + k * 8 + 3,none⟩=some (.int .i64 x.holder):=hr 3 (by omega)
    have a4 : wr.cell? ⟨b,off + k * 8 + 4,none⟩=some (.int .i64 x.claim):=hr 4 (by omega)
    have a5 : wr.cell? ⟨b,off + k * 8 + 5,none⟩=some (.bool x.swept):=hr 5 (by omega)
    have a6 : wr.cell? ⟨b,off + k * 8 + 6,none⟩=some (.int .u64 (x.alloc : Int)):=hr 6 (by omega)
    have a7 : wr.cell? ⟨b,off + k * 8 + 7,none⟩=some (.int .u64 (x.marks : Int)):=hr 7 (by omega)
    have hbd : livesW x < 18446744073709551616:=by
     unfold livesW
     split
     ·exact hx▸alloc_lt (HN.out.span k hlt).1
     ·exact hx▸HT.out.2.2 _ (ixMem hlt)
    have HB:=Lib.hid hbd
    have HLk:=Lib.hid (show liveTo m.spans (k + 1)=liveTo m.spans k ++ livS x by rw [← hx]; rfl)
    have HC:=Lib.hid (liveTo_len m.spans k)
    generalize liveTo m.spans k=acc at HLk HC hO
    have HO:=Lib.hid hO
    have HKE:=Lib.hid hE
    have q0 : (0 : Int)≤(k : Int):=by omega
    have q1 : (k : Int) < (m.spans.length : Int):=by omega
    have hplc : ∀ W,Ext wr W→Calls Tryz.prog 45 #[.int .u64 (livesW x : Int)] W (PlacesOut (livesW x) W):=fun W hW=>places_any (livesW x) W HB.out (HT.out.2.1.ext ((HW.out.1.trans HKE.out).trans hW))
    have hsw : (x.swept=true∧livesW x=x.alloc)∨(x.swept=false∧livesW x=x.marks):=by
     unfold livesW
     cases x.swept <;> simp
    clear hO hE hbd hx hr hc
    have hEb : Ext wr (wr.alloc (.cells #[.int .i64 x.page,.int .i64 x.pages,.int .i64 x.cls,.int .i64 x.holder,.int .i64 x.claim,.bool x.swept,.int .u64 (x.alloc : Int),.int .u64 (x.marks : Int)] 51)):=(Ext.refl wr).alloc _
    have hbb : Blk (wr.alloc (.cells #[.int .i64 x.page,.int .i64 x.pages,.int .i64 x.cls,.int .i64 x.holder,.int .i64 x.claim,.bool x.swept,.int .u64 (x.alloc : Int),.int .u64 (x.marks : Int)] 51)) wr.heap.size 51 #[.int .i64 x.page,.int .i64 x.pages,.int .i64 x.cls,.int .i64 x.holder,.int .i64 x.claim,.bool x.swept,.int .u64 (x.alloc : Int),.int .u64 (x.marks : Int)]:=Blk.new _ _ _ _ rfl
    have HEb:=Lib.hid (And.intro hEb hbb)
    clear hEb hbb
    rcases hsw with ⟨e5,hv⟩ | ⟨e5,hv⟩
    ·have HPc : Hid (∀ W,Ext wr W→Calls Tryz.prog 45 #[.int .u64 (x.alloc : Int)] W (PlacesOut (livesW x) W)):=Lib.hid (by rw [← hv]; exact hplc)
     rw [e5] at a5 HEb
     clear hplc hv
     go_wp2_with fail
     go_at_call 45
     refine (HPc.out _ HEb.out.1).mono ?_
     rintro e w1 ⟨⟨PA,pc,rfl,hP⟩,hE1⟩
     rw [World.size_alloc] at hP
     have hEw1:=(HKE.out.trans HEb.out.1).trans hE1
     have hBx:=HEb.out.2.ext hE1
     have hO1:=(HO.out.ext HEb.out.1).ext hE1
     have hne:=own_pastS HO.out hP (by omega)
     clear a0 a1 a2 a3 a4 a5 a6 a7
     have hPl:=places_len (livesW x)
     have HPL:=Lib.hid (And.intro hP (And.intro hE1 (And.intro hEw1 (And.intro hBx (And.intro hO1 hne)))))
     clear hE1 hP hEw1 hBx hO1 hne
     obtain ⟨N,hN⟩ : ∃ N,(places (livesW x)).length=N:=⟨_,rfl⟩
     have HNN:=Lib.hid hN
     have HLN:=Lib.hid (show (livS x).length=N by unfold livS; rw [List.length_map]; exact hN)
     rw [hN] at HPL hPl ⊢
     clear hN
     go_wp2_with fail
     go_loopg [2,30] N (fun q v i wy=>∃ j : Nat,j≤N∧q=N - j∧i=.int .i64 (j : Int)∧Ext W0 wy∧wr.heap.size < wy.heap.size∧Blk wy wr.heap.size 51 #[.int .i64 x.page,.int .i64 x.pages,.int .i64 x.cls,.int .i64 x.holder,.int .i64 x.claim,.bool true,.int .u64 (x.alloc : Int),.int .u64 (x.marks : Int)]∧OwnS wy (wr.heap.size + 1) 3 1 (.slice PA N pc) N (natv (places (livesW x)))∧OwnS wy W0.heap.size 3 1 v (acc ++ (livS x).take j).length (intsV (acc ++ (livS x).take j))∧((Value.slice PA N pc).ownBlock=none∨(Value.slice PA N pc).ownBlock≠v.ownBlock))
     case atStart=>exact ⟨0,Nat.zero_le _,rfl,rfl,HPL.out.2.2.1,HPL.out.2.2.2.1.lt,HPL.out.2.2.2.1,HPL.out.1,by rw [List.take_zero,List.append_nil]; exact HPL.out.2.2.2.2.1,HPL.out.2.2.2.2.2⟩
     case round =>
      obtain ⟨j,hj,rfl,rfl,hE,hsz,hBx,hP,hO,hne⟩:=hrel
      have HZ:=Lib.hid (And.intro hBx (And.intro hP (And.intro hO hne)))
      by_cases hlt2 : j < N
      ·have c0:=hBx.cell (i:=0) (v:=.int .i64 x.page) rfl
       have c2:=hBx.cell (i:=2) (v:=.int .i64 x.cls) rfl
       clear hO hP hne hBx
       obtain ⟨gp,cp,hgp⟩:=HZ.out.2.1.form' (by omega)
       obtain rfl : PA=some ⟨gp,0,none⟩:=by injection hgp
       clear hgp
       have cp0:=HZ.out.2.1.cellAt (j:=j) (by omega)
       unfold natv at cp0
       generalize hpp : ix 0 (places (livesW x)) j=p at cp0
       have HPP:=Lib.hid (livS_take (by rw [HNN.out]; exact hlt2) hpp)
       have hlenT : ((livS x).take j).length≤64:=Nat.le_trans (by rw [List.length_take]; exact Nat.min_le_right _ _) (livS_len x)
       clear hpp
       have q2 : (0 : Int)≤(j : Int):=by omega
       have q3 : (j : Int) < (N : Int):=by omega
       have HTT:=Lib.hid (HT.out.1.ext (HW.out.1.trans hE))
       have HEy:=Lib.hid hE
       clear hE
       have hHC:=HC.out
       go_wp2_with fail
       go_at_call 46
       refine (begin_s_any _ _ _ _ HTT.out).mono ?_
       rintro e w2 ⟨rfl,hE2⟩
       have HE2:=Lib.hid hE2
       generalize hL : acc ++ (livS x).take j=L at HZ
       have HLL:=Lib.hid hL
       have hLl : L.length≤64 * k + 64:=by rw [← hL,List.length_append]; omega
       have hsz2:=(HW.out.1.trans (HEy.out.trans hE2)).size
       have hsz3:=(HEy.out.trans hE2).size
       clear hE2 hL
       go_wp2_with (at_builtin; go_loud (refine wpList_push rfl _ _ 28 rfl W0.heap.size 3 i0 (.int .i64 0) 1 8 Tryz.underlying28 HI.out.1 HI.out.2.1 HI.out.2.2.1 HI.out.2.2.2 rfl (by decide) _ L.length (intsV L) rfl ((HZ.out.2.2.1.ext HE2.out).ext ((Ext.refl _).alloc _)) ⟨w2.heap.size,0,none⟩ 1 (fun _=>.int .i64 (begC x.page x.cls p)) rfl (fun j hj=>by obtain rfl : j=0:=(by omega); exact cell_new _ _ _ 0 _ rfl) (fun _ _=>rfl) ?b63 ?bby ?bba _ rfl (intsV (L ++ [begC x.page x.cls p])) (fun j hj=>intsV_old hj) (fun j hj=>intsV_new hj) ?_); (case b63=>unfold maxLen; omega); (case bby=>omega); (case bba=>simp; omega); intro gq capq w4 hO4 hgrow hExt hor hg4)
       go_roundg (N - (j + 1))
       case measure=>go_light; omega
       have hB3:=(HZ.out.1.ext HE2.out).alloc (.cells #[.int .i64 (begC x.page x.cls p)] 3)
       have hP3:=(HZ.out.2.1.ext HE2.out).ext ((Ext.refl w2).alloc (.cells #[.int .i64 (begC x.page x.cls p)] 3))
       have hV3:=(HZ.out.2.2.1.ext HE2.out).ext ((Ext.refl w2).alloc (.cells #[.int .i64 (begC x.page x.cls p)] 3))
       have hlt4:=World.ownsRow.lt (HZ.out.2.1.ext HE2.out) gp rfl
       have hb4:=hB3.grown hgrow (Ne.symm (own_ne_blk hV3 hB3 (by decide)))
       refine ⟨j + 1,by omega,rfl,by simp,hExt W0 ((HEy.out.trans HE2.out).alloc _) (Nat.le_refl _),hb4.lt,hb4,hP3.grown hgrow HZ.out.2.2.2,?_,.inr ?_⟩
       ·rw [HPP.out,← List.append_assoc,HLL.out,List.length_append]
        exact hO4
       ·intro e'
        simp only [Value.ownBlock,Option.some.injEq] at e'
        rcases hor with h | h
        ·rcases HZ.out.2.2.2 with h' | h'
         ·cases h'
         ·exact h' ((congrArg some e').trans h.symm)
        ·simp only [World.size_alloc] at h
         omega
      ·obtain rfl : j=N:=by omega
       have HX:=Lib.hid (And.intro hE hO)
       clear hE hO hP hne hBx
       go_wp2_with fail
       go_roundg (m.spans.length - (k + 1))
       case measure=>go_light; omega
       refine ⟨k + 1,by omega,rfl,by simp,HX.out.1,?_⟩
       have:=HX.out.2
       rw [← HLN.out,List.take_length] at this
       rw [HLk.out]
       exact this
    ·have HPc : Hid (∀ W,Ext wr W→Calls Tryz.prog 45 #[.int .u64 (x.marks : Int)] W (PlacesOut (livesW x) W)):=Lib.hid (by rw [← hv]; exact hplc)
     rw [e5] at a5 HEb
     clear hplc hv
     go_wp2_with fail
     go_at_call 45
     refine (HPc.out _ HEb.out.1).mono ?_
     rintro e w1 ⟨⟨PA,pc,rfl,hP⟩,hE1⟩
     rw [World.size_alloc] at hP
     have hEw1:=(HKE.out.trans HEb.out.1).trans hE1
     have hBx:=HEb.out.2.ext hE1
     have hO1:=(HO.out.ext HEb.out.1).ext hE1
     have hne:=own_pastS HO.out hP (by omega)
     clear a0 a1 a2 a3 a4 a5 a6 a7
     have hPl:=places_len (livesW x)
     have HPL:=Lib.hid (And.intro hP (And.intro hE1 (And.intro hEw1 (And.intro hBx (And.intro hO1 hne)))))
     clear hE1 hP hEw1 hBx hO1 hne
     obtain ⟨N,hN⟩ : ∃ N,(places (livesW x)).length=N:=⟨_,rfl⟩
     have HNN:=Lib.hid hN
     have HLN:=Lib.hid (show (livS x).length=N by unfold livS; rw [List.length_map]; exact hN)
     rw [hN] at HPL hPl ⊢
     clear hN
     go_wp2_with fail
     go_loopg [2,30] N (fun q v i wy=>∃ j : Nat,j≤N∧q=N - j∧i=.int .i64 (j : Int)∧Ext W0 wy∧wr.heap.size < wy.heap.size∧Blk wy wr.heap.size 51 #[.int .i64 x.page,.int .i64 x.pages,.int .i64 x.cls,.int .i64 x.holder,.int .i64 x.claim,.bool false,.int .u64 (x.alloc : Int),.int .u64 (x.marks : Int)]∧OwnS wy (wr.heap.size + 1) 3 1 (.slice PA N pc) N (natv (places (livesW x)))∧OwnS wy W0.heap.size 3 1 v (acc ++ (livS x).take j).length (intsV (acc ++ (livS x).take j))∧((Value.slice PA N pc).ownBlock=none∨(Value.slice PA N pc).ownBlock≠v.ownBlock))
     case atStart=>exact ⟨0,Nat.zero_le _,rfl,rfl,HPL.out.2.2.1,HPL.out.2.2.2.1.lt,HPL.out.2.2.2.1,HPL.out.1,by rw [List.take_zero,List.append_nil]; exact HPL.out.2.2.2.2.1,HPL.out.2.2.2.2.2⟩
     case round =>
      obtain ⟨j,hj,rfl,rfl,hE,hsz,hBx,hP,hO,hne⟩:=hrel
      have HZ:=Lib.hid (And.intro hBx (And.intro hP (And.intro hO hne)))
      by_cases hlt2 : j < N
      ·have c0:=hBx.cell (i:=0) (v:=.int .i64 x.page) rfl
       have c2:=hBx.cell (i:=2) (v:=.int .i64 x.cls) rfl
       clear hO hP hne hBx
       obtain ⟨gp,cp,hgp⟩:=HZ.out.2.1.form' (by omega)
       obtain rfl : PA=some ⟨gp,0,none⟩:=by injection hgp
       clear hgp
       have cp0:=HZ.out.2.1.cellAt (j:=j) (by omega)
       unfold natv at cp0
       generalize hpp : ix 0 (places (livesW x)) j=p at cp0
       have HPP:=Lib.hid (livS_take (by rw [HNN.out]; exact hlt2) hpp)
       have hlenT : ((livS x).take j).length≤64:=Nat.le_trans (by rw [List.length_take]; exact Nat.min_le_right _ _) (livS_len x)
       clear hpp
       have q2 : (0 : Int)≤(j : Int):=by omega
       have q3 : (j : Int) < (N : Int):=by omega
       have HTT:=Lib.hid (HT.out.1.ext (HW.out.1.trans hE))
       have HEy:=Lib.hid hE
       clear hE
       have hHC:=HC.out
       go_wp2_with fail
       go_at_call 46
       refine (begin_s_any _ _ _ _ HTT.out).mono ?_
       rintro e w2 ⟨rfl,hE2⟩
       have HE2:=Lib.hid hE2
       generalize hL : acc ++ (livS x).take j=L at HZ
       have HLL:=Lib.hid hL
       have hLl : L.length≤64 * k + 64:=by rw [← hL,List.length_append]; omega
       have hsz2:=(HW.out.1.trans (HEy.out.trans hE2)).size
       have hsz3:=(HEy.out.trans hE2).size
       clear hE2 hL
       go_wp2_with (at_builtin; go_loud (refine wpList_push rfl _ _ 28 rfl W0.heap.size 3 i0 (.int .i64 0) 1 8 Tryz.underlying28 HI.out.1 HI.out.2.1 HI.out.2.2.1 HI.out.2.2.2 rfl (by decide) _ L.length (intsV L) rfl ((HZ.out.2.2.1.ext HE2.out).ext ((Ext.refl _).alloc _)) ⟨w2.heap.size,0,none⟩ 1 (fun _=>.int .i64 (begC x.page x.cls p)) rfl (fun j hj=>by obtain rfl : j=0:=(by omega); exact cell_new _ _ _ 0 _ rfl) (fun _ _=>rfl) ?b63 ?bby ?bba _ rfl (intsV (L ++ [begC x.page x.cls p])) (fun j hj=>intsV_old hj) (fun j hj=>intsV_new hj) ?_); (case b63=>unfold maxLen; omega); (case bby=>omega); (case bba=>simp; omega); intro gq capq w4 hO4 hgrow hExt hor hg4)
       go_roundg (N - (j + 1))
       case measure=>go_light; omega
       have hB3:=(HZ.out.1.ext HE2.out).alloc (.cells #[.int .i64 (begC x.page x.cls p)] 3)
       have hP3:=(HZ.out.2.1.ext HE2.out).ext ((Ext.refl w2).alloc (.cells #[.int .i64 (begC x.page x.cls p)] 3))
       have hV3:=(HZ.out.2.2.1.ext HE2.out).ext ((Ext.refl w2).alloc (.cells #[.int .i64 (begC x.page x.cls p)] 3))
       have hlt4:=World.ownsRow.lt (HZ.out.2.1.ext HE2.out) gp rfl
       have hb4:=hB3.grown hgrow (Ne.symm (own_ne_blk hV3 hB3 (by decide)))
       refine ⟨j + 1,by omega,rfl,by simp,hExt W0 ((HEy.out.trans HE2.out).alloc _) (Nat.le_refl _),hb4.lt,hb4,hP3.grown hgrow HZ.out.2.2.2,?_,.inr ?_⟩
       ·rw [HPP.out,← List.append_assoc,HLL.out,List.length_append]
        exact hO4
       ·intro e'
        simp only [Value.ownBlock,Option.some.injEq] at e'
        rcases hor with h | h
        ·rcases HZ.out.2.2.2 with h' | h'
         ·cases h'
         ·exact h' ((congrArg some e').trans h.symm)
        ·simp only [World.size_alloc] at h
         omega
      ·obtain rfl : j=N:=by omega
       have HX:=Lib.hid (And.intro hE hO)
       clear hE hO hP hne hBx
       go_wp2_with fail
       go_roundg (m.spans.length - (k + 1))
       case measure=>go_light; omega
       refine ⟨k + 1,by omega,rfl,by simp,HX.out.1,?_⟩
       have:=HX.out.2
       rw [← HLN.out,List.take_length] at this
       rw [HLk.out]
       exact this
   ·obtain rfl : k=m.spans.length:=by omega
    have HX:=Lib.hid (And.intro hE hO)
    obtain ⟨A,c,rfl,_⟩:=hO.ofSlice
    clear hE hO
    go_wp2_with fail
    go_ret
    rw [HL.out]
    exact ⟨⟨A,c,rfl,own_sl' HX.out.2⟩,HW.out.1.trans HX.out.1⟩
set_option maxHeartbeats 1000000 in
set_option maxRecDepth 100000 in
theorem sameI_eq (l : List Int) (A C : Option Addr) (a c : Nat) (w : World) (hl : l.length≤1000000) (hA : SlR w A l.length 1 (intsV l)) (hC : SlR w C l.length 1 (intsV l)) :
  Calls Tryz.prog 20 #[.slice A l.length a,.slice C l.length c] w fun e w'=>e=.returned (.bool true)∧Ext w w':=by
 have HH:=Lib.hid (And.intro hA hC)
 clear hA hC
 go_enter Tryz.func20,Tryz.ntmps20
 go_wp2_with fail
 go_loopg [5] l.length (fun q i wr=>∃ k : Nat,k≤l.length∧q=l.length - k∧i=.int .i64 (k : Int)∧Ext w wr)
 case atStart=>exact ⟨0,Nat.zero_le _,rfl,rfl,Ext.refl _⟩
 case round =>
  obtain ⟨k,hk,rfl,rfl,hE⟩:=hrel
  by_cases hlt : k < l.length
  ·obtain ⟨b,off,rfl,hc⟩:=HH.out.1 (by omega)
   obtain ⟨b',off',rfl,hc'⟩:=HH.out.2 (by omega)
   have c0:=hE.cell (hc k (by omega))
   have c1:=hE.cell (hc' k (by omega))
   clear hc hc'
   unfold intsV at c0 c1
   generalize ix 0 l k=x at c0 c1
   have q0 : (0 : Int)≤(k : Int):=by omega
   have q1 : (k : Int) < (l.length : Int):=by omega
   have HE:=Lib.hid hE
   clear hE
   go_wp2_with fail
   go_quiet (fail)
   go_wp2_with fail
   go_roundg (l.length - (k + 1))
   case measure=>go_light; omega
   case rel=>exact ⟨k + 1,by omega,rfl,by go_num,HE.out.drewN _⟩
  ·obtain rfl : k=l.length:=by omega
   have HE:=Lib.hid hE
   clear hE
   go_wp2_with fail
   go_ret
   exact ⟨rfl,HE.out⟩
set_option maxHeartbeats 1000000 in
set_option maxRecDepth 100000 in
theorem sameR_eq (l : List RunD) (A C : Option Addr) (a c : Nat) (w : World) (hl : l.length≤1000000) (hA : SlR w A l.length 2 (runV l)) (hC : SlR w C l.length 2 (runV l)) :
  Calls Tryz.prog 28 #[.slice A l.length a,.slice C l.length c] w fun e w'=>e=.returned (.bool true)∧Ext w w':=by
 have HH:=Lib.hid (And.intro hA hC)
 clear hA hC
 go_enter Tryz.func28,Tryz.ntmps28
 go_wp2_with fail
 go_loopg [5] l.length (fun q i wr=>∃ k : Nat,k≤l.length∧q=l.length - k∧i=.int .i64 (k : Int)∧Ext w wr)
 case atStart=>exact ⟨0,Nat.zero_le _,rfl,rfl,Ext.refl _⟩
 case round =>
  obtain ⟨k,hk,rfl,rfl,hE⟩:=hrel
  by_cases hlt : k < l.length
  ·obtain ⟨b,off,rfl,hc⟩:=HH.out.1 (by omega)
   obtain ⟨b',off',rfl,hc'⟩:=HH.out.2 (by omega)
   have c0:=hE.cell (hc (k * 2) (by omega))
   have c1:=hE.cell (hc (k * 2 + 1) (by omega))
   have d0:=hE.cell (hc' (k * 2) (by omega))
   have d1:=hE.cell (hc' (k * 2 + 1) (by omega))
   rw [runV0] at c0 d0
   rw [runV1,← Nat.add_assoc] at c1 d1
   clear hc hc'
   generalize ix noRun l k=r at c0 c1 d0 d1
   have q0 : (0 : Int)≤(k : Int):=by omega
   have q1 : (k : Int) < (l.length : Int):=by omega
   have HE:=Lib.hid hE
   clear hE
   go_wp2_with fail
   go_quiet (fail)
   go_wp2_with fail
   go_roundg (l.length - (k + 1))
   case measure=>go_light; omega
   case rel=>exact ⟨k + 1,by omega,rfl,by go_num,HE.out.drewN _⟩
  ·obtain rfl : k=l.length:=by omega
   have HE:=Lib.hid hE
   clear hE
   go_wp2_with fail
   go_ret
   exact ⟨rfl,HE.out⟩
set_option maxHeartbeats 4000000 in
set_option maxRecDepth 100000 in
theorem same28_eq (m : ModelD) (F H S G F2 H2 S2 G2 : Option Addr) (fc hc sc gc fc2 hc2 sc2 gc2 : Nat) (w : World) (hlen : LenM m) (hm : ModelR w m F H S G) (hm2 : ModelR w m F2 H2 S2 G2) :
  Calls Tryz.prog 8 #[modelV m F H S G fc hc sc gc,modelV m F2 H2 S2 G2 fc2 hc2 sc2 gc2] w fun e w'=>e=.returned (.bool true)∧Ext w w':=by
 obtain ⟨Wa,hWa⟩ : ∃ Wa,Wa=w.alloc (.cells #[.int .i64 m.pages,.slice F m.free.length fc,.slice H m.hands.length hc,.slice S m.spans.length sc,.slice G m.gone.length gc] 30):=⟨_,rfl⟩
 obtain ⟨W0,hW0⟩ : ∃ W0,W0=Wa.alloc (.cells #[.int .i64 m.pages,.slice F2 m.free.length fc2,.slice H2 m.hands.length hc2,.slice S2 m.spans.length sc2,.slice G2 m.gone.length gc2] 30):=⟨_,rfl⟩
 have ea : Ext w Wa:=hWa▸(Ext.refl w).alloc _
 have ec : Ext Wa W0:=hW0▸(Ext.refl Wa).alloc _
 have sa : Wa.heap.size=w.heap.size + 1:=by rw [hWa]; exact World.size_alloc _ _
 have ba : Blk W0 w.heap.size 30 #[.int .i64 m.pages,.slice F m.free.length fc,.slice H m.hands.length hc,.slice S m.spans.length sc,.slice G m.gone.length gc]:=((hWa▸Blk.new _ _ _ _ rfl : Blk Wa w.heap.size _ _).ext ec)
 have bb : Blk W0 (w.heap.size + 1) 30 #[.int .i64 m.pages,.slice F2 m.free.length fc2,.slice H2 m.hands.length hc2,.slice S2 m.spans.length sc2,.slice G2 m.gone.length gc2]:=sa▸(hW0▸Blk.new _ _ _ _ rfl : Blk W0 Wa.heap.size _ _)
 have e0 : Ext w W0:=ea.trans ec
 have HE : Hid (W0=(w.alloc (.cells #[.int .i64 m.pages,.slice F m.free.length fc,.slice H m.hands.length hc,.slice S m.spans.length sc,.slice G m.gone.length gc] 30)).alloc (.cells #[.int .i64 m.pages,.slice F2 m.free.length fc2,.slice H2 m.hands.length hc2,.slice S2 m.spans.length sc2,.slice G2 m.gone.length gc2] 30)):=Lib.hid (by rw [hW0,hWa])
 have HW : Hid (Ext w W0∧Blk W0 w.heap.size 30 #[.int .i64 m.pages,.slice F m.free.length fc,.slice H m.hands.length hc,.slice S m.spans.length sc,.slice G m.gone.length gc]∧Blk W0 (w.heap.size + 1) 30 #[.int .i64 m.pages,.slice F2 m.free.length fc2,.slice H2 m.hands.length hc2,.slice S2 m.spans.length sc2,.slice G2 m.gone.length gc2]):=Lib.hid ⟨e0,ba,bb⟩
 have HM:=Lib.hid (And.intro (hm.ext e0) (And.intro (hm2.ext e0) hlen))
 have l2:=hlen.hands
 have l3:=hlen.spans
 obtain ⟨x0,x1,x2,x3,x4⟩:=Blk.c5 ba
 obtain ⟨x0',x1',x2',x3',x4'⟩:=Blk.c5 bb
 clear hWa hW0 ea ec sa ba bb e0 hm hm2 hlen
 unfold modelV
 go_enter Tryz.func8,Tryz.ntmps8
 go_upto_region 1 with fail
 rw [← HE.out]
 go_upto_region 3 with (first
  |(go_at_call 28; (refine (sameR_eq m.free F F2 fc fc2 _ HM.out.2.2.free HM.out.1.free HM.out.2.1.free).mono ?_); rintro e w1 ⟨rfl,hE1⟩; have ba1:=HW.out.2.1.ext hE1; have bb1:=HW.out.2.2.ext hE1; obtain ⟨u0,u1,u2,u3,u4⟩:=Blk.c5 ba1; obtain ⟨u0',u1',u2',u3',u4'⟩:=Blk.c5 bb1; have HE1:=Lib.hid (And.intro hE1 (And.intro ba1 bb1)); clear hE1 ba1 bb1)
  |(go_at_call 20; (refine (sameI_eq m.gone G G2 gc gc2 _ HM.out.2.2.gone (SlR.ext HM.out.1.gone HE1.out.1) (SlR.ext HM.out.2.1.gone HE1.out.1)).mono ?_); rintro e w2 ⟨rfl,hE2⟩; have ba2:=HE1.out.2.1.ext hE2; have bb2:=HE1.out.2.2.ext hE2; obtain ⟨v0,v1,v2,v3,v4⟩:=Blk.c5 ba2; obtain ⟨v0',v1',v2',v3',v4'⟩:=Blk.c5 bb2; have HE2:=Lib.hid (And.intro (HE1.out.1.trans hE2) (And.intro ba2 bb2)); clear hE2 ba2 bb2))
 go_wp2_with fail
 go_loopg [5] m.hands.length (fun q i wr=>∃ k : Nat,k≤m.hands.length∧q=m.hands.length - k∧i=.int .i64 (k : Int)∧Ext w2 wr)
 case atStart=>exact ⟨0,Nat.zero_le _,rfl,rfl,Ext.refl _⟩
 case round =>
  obtain ⟨k,hk,rfl,rfl,hE⟩:=hrel
  have y2:=(HE2.out.2.1.ext hE).cell (i:=2) (v:=.slice H m.hands.length hc) rfl
  have y2':=(HE2.out.2.2.ext hE).cell (i:=2) (v:=.slice H2 m.hands.length hc2) rfl
  by_cases hlt : k < m.hands.length
  ·obtain ⟨b,off,rfl,h1⟩:=HM.out.1.hands (by omega)
   obtain ⟨b',off',rfl,h2⟩:=HM.out.2.1.hands (by omega)
   have hr : ∀ j,j < 3→wr.cell? ⟨b,off + (k * 3 + j),none⟩=some (handX (ix noHand m.hands k) j):=fun j hj=>by
    have:=(HE2.out.1.trans hE).cell (h1 (k * 3 + j) (by omega))
    rw [handV_row] at this
    unfold rowV at this
    rwa [show (k * 3 + j) / 3=k by omega,show (k * 3 + j) % 3=j by omega] at this
   have hr' : ∀ j,j < 3→wr.cell? ⟨b',off' + (k * 3 + j),none⟩=some (handX (ix noHand m.hands k) j):=fun j hj=>by
    have:=(HE2.out.1.trans hE).cell (h2 (k * 3 + j) (by omega))
    rw [handV_row] at this
    unfold rowV at this
    rwa [show (k * 3 + j) / 3=k by omega,show (k * 3 + j) % 3=j by omega] at this
   generalize ix noHand m.hands k=r at hr hr'
   have c0 : wr.cell? ⟨b,off + k * 3,none⟩=some (.int .i64 r.t):=hr 0 (by omega)
   have c1 : wr.cell? ⟨b,off + k * 3 + 1,none⟩=some (.int .i64 r.at_):=hr 1 (by omega)
   have c2 : wr.cell? ⟨b,off + k * 3 + 2,none⟩=some (.int .i64 r.n):=hr 2 (by omega)
   have d0 : wr.cell? ⟨b',off' + k * 3,none⟩=some (.int .i64 r.t):=hr' 0 (by omega)
   have d1 : wr.cell? ⟨b',off' + k * 3 + 1,none⟩=some (.int .i64 r.at_):=hr' 1 (by omega)
   have d2 : wr.cell? ⟨b',off' + k * 3 + 2,none⟩=some (.int .i64 r.n):=hr' 2 (by omega)
   have q0 : (0 : Int)≤(k : Int):=by omega
   have q1 : (k : Int) < (m.hands.length : Int):=by omega
   have HEr:=Lib.hid hE
   clear hE hr hr' h1 h2
   go_wp2_with fail
   go_quiet (fail)
   go_wp2_with fail
   go_roundg (m.hands.length - (k + 1))
   case measure=>go_light; omega
   case rel=>exact ⟨k + 1,by omega,rfl,by go_num,HEr.out.drewN _⟩
  ·obtain rfl : k=m.hands.length:=by omega
   have HEr:=Lib.hid (HE2.out.1.trans hE)
   have HB:=Lib.hid (And.intro (HE2.out.2.1.ext hE) (HE2.out.2.2.ext hE))
   clear hE
   go_wp2_with fail
   go_loopg [6] m.spans.length (fun q i ws=>∃ k : Nat,k≤m.spans.length∧q=m.spans.length - k∧i=.int .i64 (k : Int)∧Ext wr ws)
   case atStart=>exact ⟨0,Nat.zero_le _,rfl,rfl,Ext.refl _⟩
   case round =>
    clear y2 y2'
    obtain ⟨k,hk,rfl,rfl,hE⟩:=hrel
    have y3:=(HB.out.1.ext hE).cell (i:=3) (v:=.slice S m.spans.length sc) rfl
    have y3':=(HB.out.2.ext hE).cell (i:=3) (v:=.slice S2 m.spans.length sc2) rfl
    by_cases hlt : k < m.spans.length
    ·obtain ⟨b,off,rfl,h1⟩:=HM.out.1.spans (by omega)
     obtain ⟨b',off',rfl,h2⟩:=HM.out.2.1.spans (by omega)
     have hr : ∀ j,j < 8→wr.cell? ⟨b,off + (k * 8 + j),none⟩=some (holdC (ix noHold m.spans k) j):=fun j hj=>by
      have:=(HEr.out.trans hE).cell (h1 (k * 8 + j) (by omega))
      rwa [holdsV_at _ _ _ hj] at this
     have hr' : ∀ j,j < 8→wr.cell? ⟨b',off' + (k * 8 + j),none⟩=some (holdC (ix noHold m.spans k) j):=fun j hj=>by
      have:=(HEr.out.trans hE).cell (h2 (k * 8 + j) (by omega))
      rwa [holdsV_at _ _ _ hj] at this
     generalize ix noHold m.spans k=r at hr hr'
     have c0 : wr.cell? ⟨b,off + k * 8,none⟩=some (.int .i64 r.page):=hr 0 (by omega)
     have c1 : wr.cell? ⟨b,off + k * 8 + 1,none⟩=some (.int .i64 r.pages):=hr 1 (by omega)
     have c2 : wr.cell? ⟨b,off + k * 8 + 2,none⟩=some (.int .i64 r.cls):=hr 2 (by omega)
     have c3 : wr.cell? ⟨b,off + k * 8 + 3,none⟩=some (.int .i64 r.holder):=hr 3 (by omega)
     have c4 : wr.cell? ⟨b,off + k * 8 + 4,none⟩=some (.int .i64 r.claim):=hr 4 (by omega)
     have c5 : wr.cell? ⟨b,off + k * 8 + 5,none⟩=some (.bool r.swept):=hr 5 (by omega)
     have c6 : wr.cell? ⟨b,off + k * 8 + 6,none⟩=some (.int .u64 (r.alloc : Int)):=hr 6 (by omega)
     have c7 : wr.cell? ⟨b,off + k * 8 + 7,none⟩=some (.int .u64 (r.marks : Int)):=hr 7 (by omega)
     have d0 : wr.cell? ⟨b',off' + k * 8,none⟩=some (.int .i64 r.page):=hr' 0 (by omega)
     have d1 : wr.cell? ⟨b',off' + k * 8 + 1,none⟩=some (.int .i64 r.pages):=hr' 1 (by omega)
     have d2 : wr.cell? ⟨b',off' + k * 8 + 2,none⟩=some (.int .i64 r.cls):=hr' 2 (by omega)
     have d3 : wr.cell? ⟨b',off' + k * 8 + 3,none⟩=some (.int .i64 r.holder):=hr' 3 (by omega)
     have d4 : wr.cell? ⟨b',off' + k * 8 + 4,none⟩=some (.int .i64 r.claim):=hr' 4 (by omega)
     have d5 : wr.cell? ⟨b',off' + k * 8 + 5,none⟩=some (.bool r.swept):=hr' 5 (by omega)
     have d6 : wr.cell? ⟨b',off' + k * 8 + 6,none⟩=some (.int .u64 (r.alloc : Int)):=hr' 6 (by omega)
     have d7 : wr.cell? ⟨b',off' + k * 8 + 7,none⟩=some (.int .u64 (r.marks : Int)):=hr' 7 (by omega)
     have q0 : (0 : Int)≤(k : Int):=by omega
     have q1 : (k : Int) < (m.spans.length : Int):=by omega
     have HEs:=Lib.hid hE
     clear hE hr hr' h1 h2
     go_wp2_with fail
     go_quiet (fail)
     go_wp2_with fail
     go_roundg (m.spans.length - (k + 1))
     case measure=>go_light; omega
     case rel=>exact ⟨k + 1,by omega,rfl,by go_num,HEs.out.drewN _⟩
    ·obtain rfl : k=m.spans.length:=by omega
     have HEs:=Lib.hid hE
     clear hE
     go_wp2_with fail
     go_ret
     exact ⟨rfl,(HW.out.1.trans HEr.out).trans HEs.out⟩
end Go.Proofs.YtoolenhnhlfhmaaGreatDoor
