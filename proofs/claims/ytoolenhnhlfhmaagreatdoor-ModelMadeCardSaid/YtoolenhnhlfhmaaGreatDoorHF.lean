/- Walks: the document's room: a slot that is free in a span; a run that is long enough. Walks: the document's Accepts. Walks: the document's All. Walks: what lives, as the document gathers it. The program's answer and the document's are one; the program's Room. -/
import Derived.Test.YtoolenhnhlfhmaaGreatDoorHC
import Derived.Test.YtoolenhnhlfhmaaGreatDoorRmS
import Derived.Test.YtoolenhnhlfhmaaGreatDoorHD
import Derived.Laws.ResultCell
import Derived.Deep.CutBlock
import Derived.Test.YtoolenhnhlfhmaaGreatDoorGT
namespace Go.Proofs.YtoolenhnhlfhmaaGreatDoor
open Go.RowKit Go.Sort
set_option linter.unusedVariables false
set_option linter.unusedSimpArgs false
set_option maxHeartbeats 400000 in
theorem hold28_any (n : Nat) (w : World) (hn : n≤64) : Calls Tryz.prog 50 #[.int .i64 (n : Int),.int .i64 64] w fun e w'=>e=.returned (.int .i64 (n : Int))∧w=w':=by
 have k0 : decide ((n : Int) < 0)=false:=decide_eq_false (by omega)
 have k1 : decide ((64 : Int) < (n : Int))=false:=decide_eq_false (by omega)
 go_enter Tryz.func50,Tryz.ntmps50
 go_wp2
 all_goals (go_ret; exact ⟨congrArg (fun z=>Ending.returned (Value.int .i64 z)) (show max 0 (min (n : Int) 64)=(n : Int) by omega),rfl⟩)
def LowP (x n : Nat) : Prop:=∃ i,i < n∧x.testBit i=false
set_option maxHeartbeats 2000000 in
theorem low28_any (x n : Nat) (w : World) (hx : x < 18446744073709551616) (hn : n≤64) : Calls Tryz.prog 44 #[.int .u64 (x : Int),.int .i64 (n : Int)] w fun e w'=>(∃ r,e=.returned (.tuple #[.int .i64 r,.bool (B (LowP x n))]))∧Ext w w':=by
 have HX:=Lib.hid hx
 have HHd : Hid (∀ W,Calls Tryz.prog 50 #[.int .i64 (n : Int),.int .i64 64] W fun e w'=>e=.returned (.int .i64 (n : Int))∧W=w'):=Lib.hid fun W=>hold28_any n W hn
 clear hx
 go_enter Tryz.func44,Tryz.ntmps44
 go_wp2
 go_loopg [6] n (fun q i wr=>∃ j : Nat,j≤n∧q=n - j∧i=.int .i64 (j : Int)∧Ext w wr∧∀ a,a < j→x.testBit a=true)
 case atStart=>exact ⟨0,Nat.zero_le _,rfl,rfl,Ext.refl _,fun a ha=>absurd ha (by omega)⟩
 case round =>
  obtain ⟨j,hj,rfl,rfl,hE,hall⟩:=hrel
  by_cases hlt : j < n
  ·have r1 : (j : Int) < (n : Int):=by omega
   have hB:=bit28_any x j wr HX.out (by omega)
   cases ht : x.testBit j
   ·rw [ht] at hB
    have HB:=Lib.hid hB
    have HY:=Lib.hid (B_yes (show LowP x n from ⟨j,hlt,ht⟩))
    have HE:=Lib.hid hE
    clear hB hE hall ht
    go_wp2_with (first | (go_at_call 50; (with_reducible refine (HHd.out _).mono ?_); rintro e w1 ⟨rfl,rfl⟩) | (go_at_call 47; (with_reducible refine HB.out.mono ?_); rintro e w1 ⟨rfl,hE1⟩; have HE1:=Lib.hid hE1; clear hE1))
    go_ret2
    exact ⟨⟨(j : Int),by rw [HY.out]; rfl⟩,HE.out.trans HE1.out⟩
   ·rw [ht] at hB
    have HB:=Lib.hid hB
    have HT:=Lib.hid ht
    have HA:=Lib.hid hall
    have HE:=Lib.hid hE
    clear hB hE hall ht
    go_wp2_with (first | (go_at_call 50; (with_reducible refine (HHd.out _).mono ?_); rintro e w1 ⟨rfl,rfl⟩) | (go_at_call 47; (with_reducible refine HB.out.mono ?_); rintro e w1 ⟨rfl,hE1⟩; have HE1:=Lib.hid hE1; clear hE1))
    go_roundg (n - (j + 1))
    case measure=>go_light; omega
    case rel=>exact ⟨j + 1,by omega,rfl,by go_num,HE.out.trans HE1.out,fun a ha=>by
     by_cases e : a=j
     ·rw [e]; exact HT.out
     ·exact HA.out a (by omega)⟩
  ·obtain rfl : j=n:=by omega
   have HN:=Lib.hid (B_no (show ¬ LowP x j from fun ⟨a,ha,e⟩=>by rw [hall a ha] at e; cases e))
   have HE:=Lib.hid hE
   clear hE hall
   go_wp2_with (go_at_call 50; (with_reducible refine (HHd.out _).mono ?_); rintro e w1 ⟨rfl,rfl⟩)
   all_goals (go_ret2; exact ⟨⟨0,by rw [HN.out]; rfl⟩,HE.out⟩)
/-- A span is asked for room: taken, by what it is. -/
theorem hasS_iff {h : HoldD} {c t n : Int} (hh : HoldOk h) (hm : h.marks < 18446744073709551616) : HasS c t n h↔h.cls=c∧MineP h t∧LowP (takenW h) (slN c)∧(c≠14∨n≤h.pages):=by
 unfold HasS LowP
 rw [room_iff hh hm]
 constructor
 ·rintro ⟨rfl,h2,h3,h4⟩; exact ⟨rfl,h2,h3,h4⟩
 ·rintro ⟨rfl,h2,h3,h4⟩; exact ⟨rfl,h2,h3,h4⟩
set_option maxHeartbeats 16000000 in
set_option maxRecDepth 100000 in
theorem room28_any (m : ModelD) (F H S G : Option Addr) (fc hc sc gc : Nat) (t c n : Int) (w : World) (hlen : LenM m) (hg63 : ∀ i,i < m.gone.length→ix 0 m.gone i≤9223372036854775807) (hmk : MarksOk m) (hm : ModelR w m F H S G) :
  Calls Tryz.prog 19 #[modelV m F H S G fc hc sc gc,.int .i64 t,.int .i64 c,.int .i64 n] w fun e w'=>e=.returned (.bool (B (MayS HoldOk m∧HasP m t c n)))∧Ext w w':=by
 obtain ⟨W0,hW0⟩ : ∃ W0,W0=w.alloc (.cells #[.int .i64 m.pages,.slice F m.free.length fc,.slice H m.hands.length hc,.slice S m.spans.length sc,.slice G m.gone.length gc] 30):=⟨_,rfl⟩
 have e0 : Ext w W0:=hW0▸(Ext.refl w).alloc _
 have ba : Blk W0 w.heap.size 30 #[.int .i64 m.pages,.slice F m.free.length fc,.slice H m.hands.length hc,.slice S m.spans.length sc,.slice G m.gone.length gc]:=hW0▸Blk.new _ _ _ _ rfl
 have HMay : Hid (Calls Tryz.prog 15 #[modelV m F H S G fc hc sc gc] W0 fun e w'=>e=.returned (.bool (B (MayS HoldOk m)))∧Ext W0 w'):=Lib.hid (mayR_any m F H S G fc hc sc gc W0 hlen hg63 (hm.ext e0))
 have HE:=Lib.hid hW0
 have HW : Hid (Ext w W0∧Blk W0 w.heap.size 30 #[.int .i64 m.pages,.slice F m.free.length fc,.slice H m.hands.length hc,.slice S m.spans.length sc,.slice G m.gone.length gc]∧SlR W0 F m.free.length 2 (runV m.free)∧SlR W0 S m.spans.length 8 (holdsV m.spans)):=Lib.hid ⟨e0,ba,SlR.ext hm.free e0,SlR.ext hm.spans e0⟩
 obtain ⟨x0,x1,x2,x3,x4⟩:=Blk.c5 ba
 have l1:=hlen.free
 have l3:=hlen.spans
 have HK:=Lib.hid hmk
 clear hW0 e0 ba hlen hm hg63 hmk
 unfold modelV at HMay ⊢
 by_cases hmay : MayS HoldOk m
 rotate_left
 ·rw [B_no hmay] at HMay
  have HN:=Lib.hid (B_no (show ¬ (MayS HoldOk m∧HasP m t c n) from fun hh=>hmay hh.1))
  clear hmay
  go_enter Tryz.func19,Tryz.ntmps19
  go_upto_region 1 with fail
  rw [← HE.out]
  go_wp2_with (go_at_call 15; (with_reducible refine HMay.out.mono ?_); rintro e w1 ⟨rfl,hE1⟩; have HE1:=Lib.hid hE1; clear hE1)
  go_ret
  rw [HN.out]
  exact ⟨rfl,HW.out.1.trans HE1.out⟩
 rw [B_yes hmay] at HMay
 have HM:=Lib.hid hmay
 have HB : Hid (B (MayS HoldOk m∧HasP m t c n)=B (HasP m t c n)):=Lib.hid (B_congr ⟨fun hh=>hh.2,fun hh=>⟨hmay,hh⟩⟩)
 clear hmay
 have hsl : m.spans.length≤1000000:=by omega
 go_enter Tryz.func19,Tryz.ntmps19
 go_upto_region 1 with fail
 rw [← HE.out]
 go_upto_region 3 with (go_at_call 15; (with_reducible refine HMay.out.mono ?_); rintro e w1 ⟨rfl,hE1⟩; have HE1:=Lib.hid (And.intro hE1 (And.intro (HW.out.1.trans hE1) (And.intro (HW.out.2.1.ext hE1) (And.intro (HW.out.2.2.1.ext hE1) (HW.out.2.2.2.ext hE1))))); clear hE1)
 clear x0 x1 x2 x3 x4
 go_wp2
 go_loopg [9] m.free.length (fun q i wr=>∃ k : Nat,k≤m.free.length∧q=m.free.length - k∧i=.int .i64 (k : Int)∧Ext w1 wr∧∀ j,j < k→¬ (1≤n∧n≤(ix noRun m.free j).n))
 case atStart=>exact ⟨0,Nat.zero_le _,rfl,rfl,Ext.refl _,fun j hj=>absurd hj (by omega)⟩
 case round =>
  obtain ⟨k,hk,rfl,rfl,hE,hall⟩:=hrel
  have hb:=HE1.out.2.2.1.ext hE
  have y1:=hb.cell (i:=1) (v:=.slice F m.free.length fc) rfl
  have y3:=hb.cell (i:=3) (v:=.slice S m.spans.length sc) rfl
  by_cases hlt : k < m.free.length
  ·obtain ⟨b,off,rfl,hcl⟩:=HE1.out.2.2.2.1 (by omega)
   obtain ⟨r,hr⟩ : ∃ r,ix noRun m.free k=r:=⟨_,rfl⟩
   have a1 : wr.cell? ⟨b,off + k * 2 + 1,none⟩=some (.int .i64 r.n):=by
    have:=hE.cell (hcl (k * 2 + 1) (by omega))
    rw [show runV m.free (k * 2 + 1)=.int .i64 r.n by rw [← hr]; unfold runV; rw [show (k * 2 + 1) / 2=k by omega,show (k * 2 + 1) % 2=1 by omega]; rfl] at this
    rw [Nat.add_assoc]; exact this
   have q0 : (0 : Int)≤(k : Int):=by omega
   have q1 : (k : Int) < (m.free.length : Int):=by omega
   have hcs : (decide (1≤n)=false∧¬ (1≤n∧n≤r.n))∨(decide (1≤n)=true∧decide (n≤r.n)=false∧¬ (1≤n∧n≤r.n))∨(decide (1≤n)=true∧decide (n≤r.n)=true∧(1≤n∧n≤r.n)):=by
    simp only [decide_eq_true_eq,decide_eq_false_iff_not]; omega
   have HR:=Lib.hid (And.intro hE (And.intro hall (And.intro hlt hr)))
   clear hE hall hr hcl hb
   rcases hcs with ⟨d1,hx⟩ | ⟨d1,d2,hx⟩ | ⟨d1,d2,hx⟩
   rotate_right 1
   ·have HX:=Lib.hid hx
    clear hx
    go_wp2
    go_ret
    rw [HB.out,B_yes (show HasP m t c n from .inl ⟨k,HR.out.2.2.1,by rw [HR.out.2.2.2]; exact HX.out⟩)]
    exact ⟨rfl,HE1.out.2.1.trans HR.out.1⟩
   all_goals
    have HX:=Lib.hid hx
    clear hx
    go_wp2
    go_roundg (m.free.length - (k + 1))
    case measure=>go_light; omega
    case rel=>exact ⟨k + 1,by omega,rfl,by go_num,HR.out.1,fun j hj=>by
     by_cases e : j=k
     ·rw [e,HR.out.2.2.2]; exact HX.out
     ·exact HR.out.2.1 j (by omega)⟩
  ·obtain rfl : k=m.free.length:=by omega
   have HA:=Lib.hid (And.intro hE hall)
   have HB2:=Lib.hid (HE1.out.2.2.1.ext hE)
   obtain ⟨wa,hwa⟩ : ∃ wa,wa=wr:=⟨_,rfl⟩
   subst hwa
   clear hE hall hb hlt
   go_wp2
   go_loopg [10] m.spans.length (fun q i wr=>∃ k : Nat,k≤m.spans.length∧q=m.spans.length - k∧i=.int .i64 (k : Int)∧Ext w1 wr∧∀ j,j < k→¬ HasS c t n (ix noHold m.spans j))
   case atStart=>exact ⟨0,Nat.zero_le _,rfl,rfl,HA.out.1,fun j hj=>absurd hj (by omega)⟩
   case round =>
    obtain ⟨k,hk,rfl,rfl,hE,hall⟩:=hrel
    have hb:=HE1.out.2.2.1.ext hE
    have y3:=hb.cell (i:=3) (v:=.slice S m.spans.length sc) rfl
    by_cases hlt : k < m.spans.length
    rotate_left
    ·obtain rfl : k=m.spans.length:=by omega
     have HN:=Lib.hid (B_no (show ¬ HasP m t c n from fun hh=>hh.elim (fun ⟨i,hi,h2⟩=>HA.out.2 i hi h2) (fun ⟨j,hj,h2⟩=>hall j hj h2)))
     have HE2:=Lib.hid hE
     clear hE hall hb hlt
     go_wp2
     go_ret
     rw [HB.out,HN.out]
     exact ⟨rfl,HE1.out.2.1.trans HE2.out⟩
    obtain ⟨b,off,rfl,hcl⟩:=HE1.out.2.2.2.2 (by omega)
    obtain ⟨x,hx⟩ : ∃ x,ix noHold m.spans k=x:=⟨_,rfl⟩
    have hr : ∀ j,j < 8→wr.cell? ⟨b,off + (k * 8 + j),none⟩=some (holdC x j):=fun j hj=>by
     have:=hE.cell (hcl (k * 8 + j) (by omega))
     rw [holdsV_at _ _ _ hj,hx] at this
     exact this
    have hok:=(HM.out.span k hlt).1
    rw [hx] at hok
    have hmx : x.marks < 18446744073709551616:=hx▸HK.out _ (ixMem hlt)
    have hiff:=hasS_iff (c:=c) (t:=t) (n:=n) hok hmx
    have htk:=taken_lt hok hmx
    have htw : (x.swept=true∧takenW x=x.alloc)∨(x.swept=false∧takenW x=x.marks):=by
     unfold takenW
     cases x.swept <;> simp
    have HX:=Lib.hid (And.intro hx (And.intro hiff htk))
    clear hok hmx hiff htk hx
    obtain ⟨pg,np,cc,ho,cl,sw,al,mk⟩:=x
    have a0 : wr.cell? ⟨b,off + k * 8,none⟩=some (.int .i64 pg):=hr 0 (by omega)
    have a1 : wr.cell? ⟨b,off + k * 8 + 1,none⟩=some (.int .i64 np):=hr 1 (by omega)
    have a2 : wr.cell? ⟨b,off + k * 8 + 2,none⟩=some (.int .i64 cc):=hr 2 (by omega)
    have a3 : wr.cell? ⟨b,off + k * 8 + 3,none⟩=some (.int .i64 ho):=hr 3 (by omega)
    have a4 : wr.cell? ⟨b,off + k * 8 + 4,none⟩=some (.int .i64 cl):=hr 4 (by omega)
    have a5 : wr.cell? ⟨b,off + k * 8 + 5,none⟩=some (.bool sw):=hr 5 (by omega)
    have a6 : wr.cell? ⟨b,off + k * 8 + 6,none⟩=some (.int .u64 (al : Int)):=hr 6 (by omega)
    have a7 : wr.cell? ⟨b,off + k * 8 + 7,none⟩=some (.int .u64 (mk : Int)):=hr 7 (by omega)
    obtain ⟨W2,hW2⟩ : ∃ W2,W2=wr.alloc (.cells #[.int .i64 pg,.int .i64 np,.int .i64 cc,.int .i64 ho,.int .i64 cl,.bool sw,.int .u64 (al : Int),.int .u64 (mk : Int)] 51):=⟨_,rfl⟩
    have hE2 : Ext wr W2:=hW2▸(Ext.refl wr).alloc _
    have hbh : Blk W2 wr.heap.size 51 #[.int .i64 pg,.int .i64 np,.int .i64 cc,.int .i64 ho,.int .i64 cl,.bool sw,.int .u64 (al : Int),.int .u64 (mk : Int)]:=hW2▸Blk.new _ _ _ _ rfl
    have b1:=hbh.cell (i:=1) (v:=.int .i64 np) rfl
    have b2:=hbh.cell (i:=2) (v:=.int .i64 cc) rfl
    have b3:=hbh.cell (i:=3) (v:=.int .i64 ho) rfl
    have b4:=hbh.cell (i:=4) (v:=.int .i64 cl) rfl
    have b5:=hbh.cell (i:=5) (v:=.bool sw) rfl
    have b6:=hbh.cell (i:=6) (v:=.int .u64 (al : Int)) rfl
    have b7:=hbh.cell (i:=7) (v:=.int .u64 (mk : Int)) rfl
    have q0 : (0 : Int)≤(k : Int):=by omega
    have q1 : (k : Int) < (m.spans.length : Int):=by omega
    have HW2:=Lib.hid hW2
    have HR:=Lib.hid (And.intro hE (And.intro hall (And.intro hlt hE2)))
    have hne : ∀ (a b : Int) (v : Bool),(a == b)=v→(a != b)=!v:=fun a b v e=>by simp [bne,e]
    clear hE hall hr hcl hb hW2 hE2 hbh
    go_upto_region 12 with fail
    rw [← HW2.out]
    clear a0 a1 a2 a3 a4 a5 a6 a7 y3
    go_cut [12] (fun s wx=>s=.bool (B (MineP ⟨pg,np,cc,ho,cl,sw,al,mk⟩ t))∧wx=W2)
    case first =>
     clear htw
     cases eA : (ho == -1) <;> cases eC : (ho == t) <;> cases eB : (cl == -1) <;> cases eD : (cl == t)
     all_goals
      have HF:=Lib.hid (And.intro eA (And.intro eC (And.intro eB eD)))
      go_wp2
      go_meet
      refine ⟨?_,rfl⟩
      have hq:=HF.out
      simp only [beq_iff_eq,beq_eq_false_iff_ne,ne_eq] at hq
      first
       |(rw [B_yes (show MineP ⟨pg,np,cc,ho,cl,sw,al,mk⟩ t from ⟨by first | exact .inl hq.1 | exact .inr hq.2.1,by first | exact .inl hq.2.2.1 | exact .inr hq.2.2.2⟩)])
       |(rw [B_no (show ¬ MineP ⟨pg,np,cc,ho,cl,sw,al,mk⟩ t from fun hh=>hh.1.elim hq.1 hq.2.1)])
       |(rw [B_no (show ¬ MineP ⟨pg,np,cc,ho,cl,sw,al,mk⟩ t from fun hh=>hh.2.elim hq.2.2.1 hq.2.2.2)])
    case rest =>
     obtain ⟨rfl,rfl⟩:=hcut
     have hstep : ¬ HasS c t n ⟨pg,np,cc,ho,cl,sw,al,mk⟩→∀ j,j < k + 1→¬ HasS c t n (ix noHold m.spans j):=fun hn j hj=>by
      by_cases e : j=k
      ·rw [e,HX.out.1]; exact hn
      ·exact HR.out.2.1 j (by omega)
     have HST:=Lib.hid hstep
     clear hstep
     have hcs : ((cc == c)=false∧¬ HasS c t n ⟨pg,np,cc,ho,cl,sw,al,mk⟩)∨((cc == c)=true∧B (MineP ⟨pg,np,cc,ho,cl,sw,al,mk⟩ t)=false∧¬ HasS c t n ⟨pg,np,cc,ho,cl,sw,al,mk⟩) ∨
       ((cc == c)=true∧B (MineP ⟨pg,np,cc,ho,cl,sw,al,mk⟩ t)=true∧(c == 14)=true∧decide (np < n)=true∧¬ HasS c t n ⟨pg,np,cc,ho,cl,sw,al,mk⟩) ∨
       ((cc == c)=true∧B (MineP ⟨pg,np,cc,ho,cl,sw,al,mk⟩ t)=true∧(c == 14)=true∧decide (np < n)=false∧(HasS c t n ⟨pg,np,cc,ho,cl,sw,al,mk⟩↔LowP (takenW ⟨pg,np,cc,ho,cl,sw,al,mk⟩) (slN c))) ∨
       ((cc == c)=true∧B (MineP ⟨pg,np,cc,ho,cl,sw,al,mk⟩ t)=true∧(c == 14)=false∧(HasS c t n ⟨pg,np,cc,ho,cl,sw,al,mk⟩↔LowP (takenW ⟨pg,np,cc,ho,cl,sw,al,mk⟩) (slN c))):=by
      have hiff:=HX.out.2.1
      simp only [beq_iff_eq,beq_eq_false_iff_ne,ne_eq,decide_eq_true_eq,decide_eq_false_iff_not]
      by_cases p1 : cc=c
      rotate_left
      ·exact .inl ⟨p1,fun hh=>p1 hh.1⟩
      by_cases p2 : MineP ⟨pg,np,cc,ho,cl,sw,al,mk⟩ t
      rotate_left
      ·exact .inr (.inl ⟨p1,B_no p2,fun hh=>p2 hh.2.1⟩)
      by_cases p3 : c=14
      ·by_cases p4 : np < n
       ·exact .inr (.inr (.inl ⟨p1,B_yes p2,p3,p4,fun hh=>hh.2.2.2.elim (fun k=>k p3) (fun k=>by dsimp only at k; omega)⟩))
       ·exact .inr (.inr (.inr (.inl ⟨p1,B_yes p2,p3,p4,hiff.trans ⟨fun hh=>hh.2.2.1,fun hh=>⟨p1,p2,hh,.inr (by dsimp only; omega)⟩⟩⟩)))
      ·exact .inr (.inr (.inr (.inr ⟨p1,B_yes p2,p3,hiff.trans ⟨fun hh=>hh.2.2.1,fun hh=>⟨p1,p2,hh,.inl p3⟩⟩⟩)))
     clear hne
     rcases hcs with ⟨e1,hx⟩ | ⟨e1,e2,hx⟩ | ⟨e1,e2,e3,e4,hx⟩ | ⟨e1,e2,e3,e4,hx⟩ | ⟨e1,e2,e3,hx⟩
     iterate 3
      ·clear htw
       have hne1 : (cc != c)=!(cc == c):=rfl
       rw [e1] at hne1
       have HN:=Lib.hid (HST.out hx)
       clear hx
       go_wp2
       go_roundg (m.spans.length - (k + 1))
       case measure=>go_light; omega
       case rel=>exact ⟨k + 1,by omega,rfl,by go_num,HR.out.1.trans HR.out.2.2.2,HN.out⟩
     all_goals
      have hne1 : (cc != c)=!(cc == c):=rfl
      rw [e1] at hne1
      have HLow : Hid (∀ W,Calls Tryz.prog 44 #[.int .u64 ((takenW ⟨pg,np,cc,ho,cl,sw,al,mk⟩ : Nat) : Int),.int .i64 ((slN c : Nat) : Int)] W fun e w'=>(∃ r,e=.returned (.tuple #[.int .i64 r,.bool (B (HasS c t n ⟨pg,np,cc,ho,cl,sw,al,mk⟩))]))∧Ext W w'):=Lib.hid fun W=>by
       have:=low28_any (takenW ⟨pg,np,cc,ho,cl,sw,al,mk⟩) (slN c) W HX.out.2.2 (slN_le c)
       rw [B_congr hx]
       exact this
      clear hx
      obtain ⟨tk,htk⟩ : ∃ tk,tk=takenW ⟨pg,np,cc,ho,cl,sw,al,mk⟩:=⟨_,rfl⟩
      rw [← htk] at HLow htw
      by_cases hS : HasS c t n ⟨pg,np,cc,ho,cl,sw,al,mk⟩
      ·have HY:=Lib.hid hS
       rw [B_yes hS] at HLow
       clear hS htk
       rcases htw with ⟨rfl,rfl⟩ | ⟨rfl,rfl⟩
       all_goals
        go_wp2_with (first
         |(go_at_call 25; (with_reducible refine (slots1N_any c _).mono ?_); rintro e w3 ⟨rfl,hE3⟩; have HE3:=Lib.hid hE3; clear hE3)
         |(go_at_call 44; (with_reducible refine (HLow.out _).mono ?_); rintro e w4 ⟨⟨r4,rfl⟩,hE4⟩; have HE4:=Lib.hid hE4; clear hE4))
        go_ret
        rw [HB.out,B_yes (show HasP m t c n from .inr ⟨k,HR.out.2.2.1,by rw [HX.out.1]; exact HY.out⟩)]
        exact ⟨rfl,(((HE1.out.2.1.trans HR.out.1).trans HR.out.2.2.2).trans HE3.out).trans HE4.out⟩
      ·have HN:=Lib.hid (HST.out hS)
       rw [B_no hS] at HLow
       clear hS htk
       rcases htw with ⟨rfl,rfl⟩ | ⟨rfl,rfl⟩
       all_goals
        go_wp2_with (first
         |(go_at_call 25; (with_reducible refine (slots1N_any c _).mono ?_); rintro e w3 ⟨rfl,hE3⟩; have HE3:=Lib.hid hE3; clear hE3)
         |(go_at_call 44; (with_reducible refine (HLow.out _).mono ?_); rintro e w4 ⟨⟨r4,rfl⟩,hE4⟩; have HE4:=Lib.hid hE4; clear hE4))
        go_roundg (m.spans.length - (k + 1))
        case measure=>go_light; omega
        case rel=>exact ⟨k + 1,by omega,rfl,by go_num,((HR.out.1.trans HR.out.2.2.2).trans HE3.out).trans HE4.out,HN.out⟩
/-- What the document does with a mark, on a model of its own. -/
def Does28 (m : ModelD) (d base : Nat) (x : MarkD) (w : World) (e : Ending) (w' : World) : Prop :=
 KeepD base d w w'∧w.heap.size≤w'.heap.size∧((e=.returned (.bool false)∧DoesN m x)∨(e=.returned (.bool true)∧∃ m' F' H' S' G',DoesR m x m'∧RefM w' d base m' F' H' S' G'))
theorem Does28.from {m : ModelD} {d base : Nat} {x : MarkD} {w w1 : World} {e : Ending} {w' : World} (h : Does28 m d base x w1 e w') (hE : Ext w w1) : Does28 m d base x w e w':=⟨(KeepD.ext hE).trans h.1,Nat.le_trans hE.size h.2.1,h.2.2⟩
theorem Does28.bool {m : ModelD} {d base : Nat} {x : MarkD} {w : World} {e : Ending} {w' : World} (h : Does28 m d base x w e w') : ∃ b,e=.returned (.bool b):=h.2.2.elim (fun h=>⟨_,h.1⟩) (fun h=>⟨_,h.1⟩)
section
variable {m : ModelD} {d base : Nat} {F H S G : Value} {x : MarkD} {w : World}
theorem fit_bound (h : May2 m) : ∀ i,i < m.free.length→0≤(ix noRun m.free i).at_∧1≤(ix noRun m.free i).n∧(ix noRun m.free i).at_ + (ix noRun m.free i).n≤4096:=fun i hi=>by
 obtain ⟨a,b,c,d⟩:=fit_free h (ixMem (d:=noRun) hi)
 have:=h.pages
 unfold fR at a b c d
 dsimp only at a b c d
 omega
theorem free_uniq (h : May2 m) : ∀ i j,i < m.free.length→j < m.free.length→FitG (ix noRun m.free i) x→FitG (ix noRun m.free j) x→j=i:=fun i j hi hj a b=>by
 have hw:=(List.pairwise_iff_getElem.1 h.free)
 obtain ⟨a1,a2,a3,a4⟩:=a
 obtain ⟨b1,b2,b3,b4⟩:=b
 rcases Nat.lt_trichotomy i j with hlt | he | hgt
 ·have:=hw i j hi hj hlt
  rw [← ix_lt (d:=noRun) hi,← ix_lt (d:=noRun) hj] at this
  omega
 ·exact he.symm
 ·have:=hw j i hj hi hgt
  rw [← ix_lt (d:=noRun) hi,← ix_lt (d:=noRun) hj] at this
  omega
theorem riseR (h : May2 m) : Rises noRun m.free runK:=(deskOk_may (may2_iff.2 h)).r1
theorem d28_get (hmay : May2 m) (hx : MarkOk x) (ht : ThreadP x.thread) (hk : x.kind=1) (hbase : base≤w.heap.size) (hD : RefM w d base m F H S G) :
  Calls Tryz.prog 31 #[.pointer (some ⟨d,0,none⟩),markV x] w (Does28 m d base x w) :=
 (get28_any m d base F H S G x w ⟨by obtain ⟨k1,k2⟩:=(may2_iff.2 hmay).len; have:=hmay.pages; omega,(deskOk_may (may2_iff.2 hmay)).l2⟩ hx (fit_bound hmay) (free_uniq hmay) hmay.riseH hbase hD).mono fun e w' ⟨h1,h2,h3⟩=>⟨h1,h2,h3.imp (fun ⟨a,b⟩=>⟨a,.inr (.inl ⟨hk,b⟩)⟩) (fun ⟨a,m',F',H',b,c⟩=>⟨a,m',F',H',S,G,⟨ht,.inl ⟨hk,b⟩⟩,c⟩)⟩
theorem d28_lay (hmay : May2 m) (hx : MarkOk x) (ht : ThreadP x.thread) (hk : x.kind=2) (hbase : base≤w.heap.size) (hD : RefM w d base m F H S G) :
  Calls Tryz.prog 33 #[.pointer (some ⟨d,0,none⟩),markV x] w (Does28 m d base x w) :=
 (lay28_any m d base F H S G x w hmay hx hbase hD).mono fun e w' ⟨h1,h2,h3⟩=>⟨h1,h2,h3.imp (fun ⟨a,b⟩=>⟨a,.inr (.inr (.inr (.inl ⟨hk,b⟩)))⟩) (fun ⟨a,m',H',S',b,c⟩=>⟨a,m',F,H',S',G,⟨ht,.inr (.inr (.inl ⟨hk,b⟩))⟩,c⟩)⟩
theorem d28_back (hmay : May2 m) (hx : MarkOk x) (ht : ThreadP x.thread) (hk : x.kind=10) (hbase : base≤w.heap.size) (hD : RefM w d base m F H S G) :
  Calls Tryz.prog 34 #[.pointer (some ⟨d,0,none⟩),markV x] w (Does28 m d base x w) :=
 (back28_any m d base F H S G x w hmay hx (fit_bound hmay) (fun j a hj ha=>hmay.apartFH hj ha) (place_ex noRun m.free runK x.page (riseR hmay)) hbase hD).mono fun e w' ⟨h1,h2,h3⟩=>⟨h1,h2,h3.imp (fun ⟨a,b⟩=>⟨a,.inr (.inr (.inr (.inr (.inr (.inl ⟨hk,b⟩)))))⟩) (fun ⟨a,m',F',H',b,c⟩=>⟨a,m',F',H',S,G,⟨ht,.inr (.inr (.inr (.inr (.inl ⟨hk,b⟩))))⟩,c⟩)⟩
theorem d28_cycle (hmay : May2 m) (ht : ThreadP x.thread) (hk : x.kind=12) (hD : RefM w d base m F H S G) :
  Calls Tryz.prog 35 #[.pointer (some ⟨d,0,none⟩)] w (Does28 m d base x w) :=
 (cycle28_any m d base F H S G w ⟨(deskOk_may (may2_iff.2 hmay)).l2,(deskOk_may (may2_iff.2 hmay)).l3⟩ hD).mono fun e w' ⟨h1,h2,h3⟩=>⟨h1,h2,h3.imp (fun ⟨a,b⟩=>⟨a,.inr (.inr (.inr (.inr (.inr (.inr (.inl ⟨hk,b⟩))))))⟩) (fun ⟨a,b,c⟩=>⟨a,_,F,H,S,G,⟨ht,.inr (.inr (.inr (.inr (.inr (.inl ⟨hk,b,rfl⟩)))))⟩,c⟩)⟩
theorem d28_bits (hmay : May2 m) (hx : MarkOk x) (ht : ThreadP x.thread) (hk : x.kind=15∨x.kind=14) (hbase : base≤w.heap.size) (hD : RefM w d base m F H S G) :
  Calls Tryz.prog 32 #[.pointer (some ⟨d,0,none⟩),markV x] w (Does28 m d base x w):=by
 refine (bits28_any m d base F H S G x w hmay hx hbase hD).mono fun e w' ⟨h1,h2,h3⟩=>⟨h1,h2,?_⟩
 rcases hk with hk | hk
 ·have hi:=commit_iff (m:=m) hx hk ht
  rcases h3 with ⟨a,b⟩ | ⟨a,b1,b2,b3,G',c⟩
  ·refine .inl ⟨a,.inr (.inr (.inl ⟨hk,fun hc=>?_⟩))⟩
   obtain ⟨k1,k2,k3⟩:=hi.1 hc
   rcases b with b | b | b | b
   ·exact k1 b
   ·omega
   ·omega
   ·exact b k3
  ·rw [commit_out hmay hk b2] at c
   exact .inr ⟨a,_,F,H,S,G',⟨ht,.inr (.inl ⟨hk,hi.2 ⟨b1,b2,b3⟩,rfl⟩)⟩,c⟩
 ·have hi:=rel_iff (m:=m) hx (show x.kind≠15 by omega)
  rcases h3 with ⟨a,b⟩ | ⟨a,b1,b2,b3,G',c⟩
  ·refine .inl ⟨a,.inr (.inr (.inr (.inr (.inr (.inr (.inr (.inr (.inl ⟨hk,fun hc=>?_⟩))))))))⟩
   obtain ⟨k1,k2,k3⟩:=hi.1 hc
   rcases b with b | b | b | b
   ·exact k1 b
   ·omega
   ·omega
   ·exact b k3
  ·have hc:=hi.2 ⟨b1,b2,b3⟩
   rw [rel_out hmay (show x.kind≠15 by omega) hc b2] at c
   exact .inr ⟨a,_,F,H,S,G',⟨ht,.inr (.inr (.inr (.inr (.inr (.inr (.inr (.inl ⟨hk,hc,rfl⟩)))))))⟩,c⟩
theorem d28_span {i : Nat} (hmay : May2 m) (hmk : MarksOk m) (hx : MarkOk x) (ht : ThreadP x.thread) (hk : x.kind≠1∧x.kind≠15∧x.kind≠2∧x.kind≠10∧x.kind≠12∧x.kind≠13∧x.kind≠14) (hi : i < m.spans.length) (hp : (ix noHold m.spans i).page=x.page) (hbase : base≤w.heap.size) (hD : RefM w d base m F H S G) :
  Calls Tryz.prog 37 #[.pointer (some ⟨d,0,none⟩),.int .i64 (i : Int),markV x] w (Does28 m d base x w):=by
 refine (span28_any m d base F H S G i x w hi hmay hmk hx ht hbase hD).mono fun e w' ⟨h1,h2,h3⟩=>⟨h1,h2,?_⟩
 have hO : x.kind≠9→OtherK x:=fun h=>⟨hk.1,hk.2.1,hk.2.2.1,h,hk.2.2.2.1,hk.2.2.2.2.1,hk.2.2.2.2.2.1,hk.2.2.2.2.2.2⟩
 rcases h3 with ⟨a,⟨b,c⟩ | ⟨b,c⟩⟩ | ⟨a,m',F',H',S',G',hr,hD'⟩
 ·exact .inl ⟨a,.inr (.inr (.inr (.inr (.inr (.inr (.inr (.inr (.inr ⟨hO b,.inr ⟨i,hi,hp,c⟩⟩))))))))⟩
 ·exact .inl ⟨a,.inr (.inr (.inr (.inr (.inl ⟨b,fun j hj hpj=>by rw [span_uniq hmay hj hi hpj hp]; exact c⟩))))⟩
 ·rcases hr with ⟨b,h',c,rfl⟩ | ⟨b,c,k,hP,rfl⟩
  ·exact .inr ⟨a,_,F',H',S',G',⟨ht,.inr (.inr (.inr (.inr (.inr (.inr (.inr (.inr ⟨hO b,i,h',hi,hp,c,rfl⟩)))))))⟩,hD'⟩
  ·exact .inr ⟨a,_,F',H',S',G',⟨ht,.inr (.inr (.inr (.inl ⟨b,i,k,hi,hp,c,hP,by rw [stay_cut hmay hi hp]⟩)))⟩,hD'⟩
end
theorem acc28_res : Tryz.f11.results=#[.cell 4 30,.tmp 5]:=by kernel_rfl
set_option maxHeartbeats 16000000 in
set_option maxRecDepth 100000 in
theorem accepts28_any (m : ModelD) (x : MarkD) (F H S G : Option Addr) (fc hc sc gc : Nat) (w : World) (hlen : LenM m) (hg63 : ∀ i,i < m.gone.length→ix 0 m.gone i≤9223372036854775807) (hmk : MarksOk m) (hm : ModelR w m F H S G) (hx : MarkOk x) :
  Calls Tryz.prog 11 #[modelV m F H S G fc hc sc gc,markV x] w (AccP m x w):=by
 obtain ⟨Wa,hWa⟩ : ∃ Wa,Wa=w.alloc (.cells #[.int .i64 m.pages,.slice F m.free.length fc,.slice H m.hands.length hc,.slice S m.spans.length sc,.slice G m.gone.length gc] 30):=⟨_,rfl⟩
 obtain ⟨Wb,hWb⟩ : ∃ Wb,Wb=Wa.alloc (.cells #[.int .i64 x.kind,.int .i64 x.thread,.int .i64 x.entry,.int .i64 x.page,.int .i64 x.n,.int .u64 (x.mask : Int)] 34):=⟨_,rfl⟩
 obtain ⟨W0,hW0⟩ : ∃ W0,W0=Wb.alloc (.cells #[.int .i64 0,.slice none 0 0,.slice none 0 0,.slice none 0 0,.slice none 0 0] 30):=⟨_,rfl⟩
 have ea : Ext w Wa:=hWa▸(Ext.refl w).alloc _
 have eb : Ext Wa Wb:=hWb▸(Ext.refl Wa).alloc _
 have ec : Ext Wb W0:=hW0▸(Ext.refl Wb).alloc _
 have ba : Blk W0 w.heap.size 30 #[.int .i64 m.pages,.slice F m.free.length fc,.slice H m.hands.length hc,.slice S m.spans.length sc,.slice G m.gone.length gc]:=((hWa▸Blk.new _ _ _ _ rfl : Blk Wa w.heap.size _ _).ext eb |>.ext ec)
 have sa : Wa.heap.size=w.heap.size + 1:=by rw [hWa]; exact World.size_alloc _ _
 have sb : Wb.heap.size=w.heap.size + 2:=by rw [hWb,World.size_alloc,sa]
 have s0 : W0.heap.size=w.heap.size + 3:=by rw [hW0,World.size_alloc,sb]
 have bb : Blk W0 (w.heap.size + 1) 34 #[.int .i64 x.kind,.int .i64 x.thread,.int .i64 x.entry,.int .i64 x.page,.int .i64 x.n,.int .u64 (x.mask : Int)]:=sa▸((hWb▸Blk.new _ _ _ _ rfl : Blk Wb Wa.heap.size _ _).ext ec)
 have bc : Blk W0 (w.heap.size + 2) 30 #[.int .i64 0,.slice none 0 0,.slice none 0 0,.slice none 0 0,.slice none 0 0]:=sb▸(hW0▸Blk.new _ _ _ _ rfl : Blk W0 Wb.heap.size _ _)
 have e0 : Ext w W0:=(ea.trans eb).trans ec
 have HMay : Hid (∀ W,Ext W0 W→Calls Tryz.prog 15 #[modelV m F H S G fc hc sc gc] W fun e w'=>e=.returned (.bool (B (MayS HoldOk m)))∧Ext W w'):=Lib.hid fun W hE=>mayR_any m F H S G fc hc sc gc W hlen hg63 (hm.ext (e0.trans hE))
 have HTh : Hid (∀ W,Calls Tryz.prog 29 #[.int .i64 x.thread] W fun e w'=>e=.returned (.bool (B (ThreadP x.thread)))∧Ext W w'):=Lib.hid fun W=>thread28_any x.thread W
 have HE : Hid (W0=((w.alloc (.cells #[.int .i64 m.pages,.slice F m.free.length fc,.slice H m.hands.length hc,.slice S m.spans.length sc,.slice G m.gone.length gc] 30)).alloc (.cells #[.int .i64 x.kind,.int .i64 x.thread,.int .i64 x.entry,.int .i64 x.page,.int .i64 x.n,.int .u64 (x.mask : Int)] 34)).alloc (.cells #[.int .i64 0,.slice none 0 0,.slice none 0 0,.slice none 0 0,.slice none 0 0] 30)):=Lib.hid (by rw [hW0,hWb,hWa])
 have HW : Hid (Ext w W0∧Blk W0 (w.heap.size + 1) 34 #[.int .i64 x.kind,.int .i64 x.thread,.int .i64 x.entry,.int .i64 x.page,.int .i64 x.n,.int .u64 (x.mask : Int)]∧Blk W0 (w.heap.size + 2) 30 #[.int .i64 0,.slice none 0 0,.slice none 0 0,.slice none 0 0,.slice none 0 0]∧W0.heap.size=w.heap.size + 3∧Blk W0 w.heap.size 30 #[.int .i64 m.pages,.slice F m.free.length fc,.slice H m.hands.length hc,.slice S m.spans.length sc,.slice G m.gone.length gc]):=Lib.hid ⟨e0,bb,bc,s0,ba⟩
 have HH : Hid (LenM m∧ModelR w m F H S G∧MarkOk x∧MarksOk m∧∀ i,i < m.gone.length→ix 0 m.gone i≤9223372036854775807):=Lib.hid ⟨hlen,hm,hx,hmk,hg63⟩
 obtain ⟨x0,x1,x2,x3,x4⟩:=Blk.c5 ba
 have hle : w.heap.size≤w.heap.size + 2:=by omega
 by_cases hgo : MayS HoldOk m∧ThreadP x.thread
 rotate_left
 ·have hcs : B (MayS HoldOk m)=false∨(B (MayS HoldOk m)=true∧B (ThreadP x.thread)=false):=by
   by_cases h1 : MayS HoldOk m
   ·exact .inr ⟨B_yes h1,B_no fun h2=>hgo ⟨h1,h2⟩⟩
   ·exact .inl (B_no h1)
  have hN : ¬ MayS HoldOk m∨DoesN m x:=by
   by_cases h1 : MayS HoldOk m
   ·exact .inr (.inl fun h2=>hgo ⟨h1,h2⟩)
   ·exact .inl h1
  have HN:=Lib.hid hN
  have n1:=bb.cell (i:=1) (v:=.int .i64 x.thread) rfl
  clear hWa hWb hW0 ea eb ec ba sa sb s0 bb bc e0 hlen hm hx hmk hg63 hgo hN
  unfold modelV at HMay
  unfold modelV markV
  rcases hcs with e1 | ⟨e1,e2⟩
  ·rw [e1] at HMay
   clear e1
   go_enter Tryz.func11,Tryz.ntmps11
   go_upto_region 1 with fail
   rw [← HE.out]
   go_upto_region 2 with (go_at_call 15; (with_reducible refine (HMay.out _ (Ext.refl _)).mono ?_); rintro e w1 ⟨rfl,hE1⟩; have hb1:=HW.out.2.2.1.ext hE1; obtain ⟨⟨g0,g1,g2,g3,g4⟩,fz0,fz1,fz2,fz3,fz4⟩:=Blk.f5 hb1; have HE1:=Lib.hid (And.intro hE1 hb1); clear hE1 hb1)
   go_wp2
   have hB:=((((HE1.out.2.set 0 (.int .i64 0)).set 1 (.slice none 0 0)).set 2 (.slice none 0 0)).set 3 (.slice none 0 0)).set 4 (.slice none 0 0)
   simp only [List.setIfInBounds_toArray,List.set_cons_succ,List.set_cons_zero] at hB
   refine bodyPost_ret (results_cell_row2 acc28_res _ _ (w.heap.size + 2) 30 _ (0,0) _ rfl hB Tryz.underlying30 rfl own_info) rfl ⟨(((((HW.out.1.trans HE1.out.1).setCell hle _).setCell hle _).setCell hle _).setCell hle _).setCell hle _,noModel,false,none,none,none,none,0,0,0,0,rfl,ownNo _ _,.inl ⟨rfl,rfl,HN.out⟩⟩
  ·rw [e1] at HMay
   rw [e2] at HTh
   clear e1 e2
   go_enter Tryz.func11,Tryz.ntmps11
   go_upto_region 1 with fail
   rw [← HE.out]
   go_upto_region 2 with (first
    |(go_at_call 15; (with_reducible refine (HMay.out _ (Ext.refl _)).mono ?_); rintro e w1 ⟨rfl,hE1⟩; have n1':=hE1.cell n1; have HE1:=Lib.hid hE1; clear hE1)
    |(go_at_call 29; (with_reducible refine (HTh.out _).mono ?_); rintro e w2 ⟨rfl,hE2⟩; have hb1:=(HW.out.2.2.1.ext HE1.out).ext hE2; obtain ⟨⟨g0,g1,g2,g3,g4⟩,fz0,fz1,fz2,fz3,fz4⟩:=Blk.f5 hb1; have HE2:=Lib.hid (And.intro hE2 hb1); clear hE2 hb1))
   go_wp2
   have hB:=((((HE2.out.2.set 0 (.int .i64 0)).set 1 (.slice none 0 0)).set 2 (.slice none 0 0)).set 3 (.slice none 0 0)).set 4 (.slice none 0 0)
   simp only [List.setIfInBounds_toArray,List.set_cons_succ,List.set_cons_zero] at hB
   refine bodyPost_ret (results_cell_row2 acc28_res _ _ (w.heap.size + 2) 30 _ (0,0) _ rfl hB Tryz.underlying30 rfl own_info) rfl ⟨((((((HW.out.1.trans HE1.out).trans HE2.out.1).setCell hle _).setCell hle _).setCell hle _).setCell hle _).setCell hle _,noModel,false,none,none,none,none,0,0,0,0,rfl,ownNo _ _,.inl ⟨rfl,rfl,HN.out⟩⟩
 obtain ⟨hmay,hth⟩:=hgo
 rw [B_yes hmay] at HMay
 rw [B_yes hth] at HTh
 have hm2:=may2_iff.1 hmay
 have HN:=Lib.hid (And.intro hmay (And.intro hm2 hth))
 have n1:=bb.cell (i:=1) (v:=.int .i64 x.thread) rfl
 have HO : Hid (∀ W,Ext W0 W→Calls Tryz.prog 30 #[.agg #[.int .i64 m.pages,.slice F m.free.length fc,.slice H m.hands.length hc,.slice S m.spans.length sc,.slice G m.gone.length gc]] W fun e w'=>∃ F' H' S' G' fc' hc' sc' gc',e=.returned (.agg #[.int .i64 m.pages,.slice F' m.free.length fc',.slice H' m.hands.length hc',.slice S' m.spans.length sc',.slice G' m.gone.length gc'])∧Ext W w'∧OwnM w' W.heap.size m (.slice F' m.free.length fc') (.slice H' m.hands.length hc') (.slice S' m.spans.length sc') (.slice G' m.gone.length gc')):=Lib.hid fun W hE=>copied_any m F H S G fc hc sc gc W HH.out.1 (HH.out.2.1.ext (HW.out.1.trans hE))
 clear hWa hWb hW0 ea eb ec ba sa sb s0 bb bc e0 hlen hm hx hmk hg63 hmay hth hm2
 unfold modelV at HMay
 unfold modelV markV
 go_enter Tryz.func11,Tryz.ntmps11
 go_upto_region 1 with fail
 rw [← HE.out]
 go_upto_region 3 with (first
  |(go_at_call 15; (with_reducible refine (HMay.out _ (Ext.refl _)).mono ?_); rintro e w1 ⟨rfl,hE1⟩; have n1':=hE1.cell n1; have HE1:=Lib.hid hE1; clear hE1)
  |(go_at_call 29; (with_reducible refine (HTh.out _).mono ?_); rintro e w2 ⟨rfl,hE2⟩; have HE2:=Lib.hid (HE1.out.trans hE2); clear hE2))
 clear x0 x1 x2 x3 x4 n1 n1'
 have hb2:=HW.out.2.2.2.2.ext HE2.out
 obtain ⟨y0,y1,y2,y3,y4⟩:=Blk.c5 hb2
 clear hb2
 go_upto_region 4 with (go_at_call 30; (with_reducible refine (HO.out _ HE2.out).mono ?_); rintro e w3 ⟨F1,H1,S1,G1,fc1,hc1,sc1,gc1,rfl,hE3,hO3⟩; have HE3:=Lib.hid (And.intro hE3 hO3); clear hE3 hO3)
 obtain ⟨W3,hW3⟩ : ∃ W3,W3=w3.alloc (.cells #[.int .i64 m.pages,.slice F1 m.free.length fc1,.slice H1 m.hands.length hc1,.slice S1 m.spans.length sc1,.slice G1 m.gone.length gc1] 30):=⟨_,rfl⟩
 rw [← hW3]
 have hE3 : Ext w3 W3:=hW3▸(Ext.refl w3).alloc _
 have hblk : Blk W3 w3.heap.size 30 #[.int .i64 m.pages,.slice F1 m.free.length fc1,.slice H1 m.hands.length hc1,.slice S1 m.spans.length sc1,.slice G1 m.gone.length gc1]:=hW3▸Blk.new _ _ _ _ rfl
 have hD3 : RefM W3 w3.heap.size w2.heap.size m (.slice F1 m.free.length fc1) (.slice H1 m.hands.length hc1) (.slice S1 m.spans.length sc1) (.slice G1 m.gone.length gc1):=⟨hblk,HE3.out.2.ext hE3⟩
 have h23 : Ext w2 W3:=HE3.out.1.trans hE3
 have h03 : Ext W0 W3:=HE2.out.trans h23
 have hw3 : Ext w W3:=HW.out.1.trans h03
 have hb3:=HW.out.2.1.ext h03
 have hb4:=HW.out.2.2.2.2.ext h03
 obtain ⟨c0,c1,c2,c3,c4,c5⟩:=Blk.c6 hb3
 obtain ⟨d0,d1,d2,d3,d4⟩:=Blk.c5 hb4
 have HX:=Lib.hid (And.intro h03 (And.intro h23 (And.intro hw3 (And.intro hD3 (HH.out.2.1.ext hw3)))))
 have HMV : Hid (markV x=.agg #[.int .i64 x.kind,.int .i64 x.thread,.int .i64 x.entry,.int .i64 x.page,.int .i64 x.n,.int .u64 (x.mask : Int)]):=Lib.hid rfl
 clear hW3 hE3 hblk hD3 h03 h23 hw3 hb3 hb4 y0 y1 y2 y3 y4
 go_upto_block 0 with fail
 go_cut [7] (fun v wx=>∃ b,v=.bool b∧Hid (Does28 m w3.heap.size w2.heap.size x W3 (.returned (.bool b)) wx))
 case first =>
  have hsz : w2.heap.size≤W3.heap.size:=HX.out.2.1.size
  have HSz:=Lib.hid hsz
  have hcs : (x.kind=1∨x.kind=15∨x.kind=14∨x.kind=2∨x.kind=10∨x.kind=12∨x.kind=13)∨(x.kind≠1∧x.kind≠15∧x.kind≠2∧x.kind≠10∧x.kind≠12∧x.kind≠13∧x.kind≠14):=by omega
  clear hsz
  rcases hcs with (hk | hk | hk | hk | hk | hk | hk) | hk
  ·have HP : Hid (Calls Tryz.prog 31 #[.pointer (some ⟨w3.heap.size,0,none⟩),.agg #[.int .i64 x.kind,.int .i64 x.thread,.int .i64 x.entry,.int .i64 x.page,.int .i64 x.n,.int .u64 (x.mask : Int)]] W3 fun e w'=>∃ b,e=.returned (.bool b)∧Hid (Does28 m w3.heap.size w2.heap.size x W3 (.returned (.bool b)) w')):=Lib.hid ((d28_get HN.out.2.1 HH.out.2.2.1 HN.out.2.2 hk HSz.out HX.out.2.2.2.1).mono fun e w' h=>by obtain ⟨b,rfl⟩:=h.bool; exact ⟨b,rfl,Lib.hid h⟩)
   have k1 : (x.kind == 1)=true:=by rw [hk]; rfl
   have k15 : (x.kind == 15)=false:=by rw [hk]; rfl
   have k14 : (x.kind == 14)=false:=by rw [hk]; rfl
   have k2 : (x.kind == 2)=false:=by rw [hk]; rfl
   have k10 : (x.kind == 10)=false:=by rw [hk]; rfl
   have k12 : (x.kind == 12)=false:=by rw [hk]; rfl
   have k13 : (x.kind == 13)=false:=by rw [hk]; rfl
   clear hk
   go_wp2_with (go_at_call 31; (with_reducible refine HP.out.mono ?_); rintro e w4 ⟨b,rfl,hs⟩; have HS:=Lib.hid hs; clear hs)
   go_meet
   exact ⟨b,rfl,HS.out⟩
  ·have HP : Hid (Calls Tryz.prog 32 #[.pointer (some ⟨w3.heap.size,0,none⟩),.agg #[.int .i64 x.kind,.int .i64 x.thread,.int .i64 x.entry,.int .i64 x.page,.int .i64 x.n,.int .u64 (x.mask : Int)]] W3 fun e w'=>∃ b,e=.returned (.bool b)∧Hid (Does28 m w3.heap.size w2.heap.size x W3 (.returned (.bool b)) w')):=Lib.hid ((d28_bits HN.out.2.1 HH.out.2.2.1 HN.out.2.2 (.inl hk) HSz.out HX.out.2.2.2.1).mono fun e w' h=>by obtain ⟨b,rfl⟩:=h.bool; exact ⟨b,rfl,Lib.hid h⟩)
   have k1 : (x.kind == 1)=false:=by rw [hk]; rfl
   have k15 : (x.kind == 15)=true:=by rw [hk]; rfl
   have k14 : (x.kind == 14)=false:=by rw [hk]; rfl
   have k2 : (x.kind == 2)=false:=by rw [hk]; rfl
   have k10 : (x.kind == 10)=false:=by rw [hk]; rfl
   have k12 : (x.kind == 12)=false:=by rw [hk]; rfl
   have k13 : (x.kind == 13)=false:=by rw [hk]; rfl
   clear hk
   go_wp2_with (go_at_call 32; (with_reducible refine HP.out.mono ?_); rintro e w4 ⟨b,rfl,hs⟩; have HS:=Lib.hid hs; clear hs)
   go_meet
   exact ⟨b,rfl,HS.out⟩
  ·have HP : Hid (Calls Tryz.prog 32 #[.pointer (some ⟨w3.heap.size,0,none⟩),.agg #[.int .i64 x.kind,.int .i64 x.thread,.int .i64 x.entry,.int .i64 x.page,.int .i64 x.n,.int .u64 (x.mask : Int)]] W3 fun e w'=>∃ b,e=.returned (.bool b)∧Hid (Does28 m w3.heap.size w2.heap.size x W3 (.returned (.bool b)) w')):=Lib.hid ((d28_bits HN.out.2.1 HH.out.2.2.1 HN.out.2.2 (.inr hk) HSz.out HX.out.2.2.2.1).mono fun e w' h=>by obtain ⟨b,rfl⟩:=h.bool; exact ⟨b,rfl,Lib.hid h⟩)
   have k1 : (x.kind == 1)=false:=by rw [hk]; rfl
   have k15 : (x.kind == 15)=false:=by rw [hk]; rfl
   have k14 : (x.kind == 14)=true:=by rw [hk]; rfl
   have k2 : (x.kind == 2)=false:=by rw [hk]; rfl
   have k10 : (x.kind == 10)=false:=by rw [hk]; rfl
   have k12 : (x.kind == 12)=false:=by rw [hk]; rfl
   have k13 : (x.kind == 13)=false:=by rw [hk]; rfl
   clear hk
   go_wp2_with (go_at_call 32; (with_reducible refine HP.out.mono ?_); rintro e w4 ⟨b,rfl,hs⟩; have HS:=Lib.hid hs; clear hs)
   go_meet
   exact ⟨b,rfl,HS.out⟩
  ·have HP : Hid (Calls Tryz.prog 33 #[.pointer (some ⟨w3.heap.size,0,none⟩),.agg #[.int .i64 x.kind,.int .i64 x.thread,.int .i64 x.entry,.int .i64 x.page,.int .i64 x.n,.int .u64 (x.mask : Int)]] W3 fun e w'=>∃ b,e=.returned (.bool b)∧Hid (Does28 m w3.heap.size w2.heap.size x W3 (.returned (.bool b)) w')):=Lib.hid ((d28_lay HN.out.2.1 HH.out.2.2.1 HN.out.2.2 hk HSz.out HX.out.2.2.2.1).mono fun e w' h=>by obtain ⟨b,rfl⟩:=h.bool; exact ⟨b,rfl,Lib.hid h⟩)
   have k1 : (x.kind == 1)=false:=by rw [hk]; rfl
   have k15 : (x.kind == 15)=false:=by rw [hk]; rfl
   have k14 : (x.kind == 14)=false:=by rw [hk]; rfl
   have k2 : (x.kind == 2)=true:=by rw [hk]; rfl
   have k10 : (x.kind == 10)=false:=by rw [hk]; rfl
   have k12 : (x.kind == 12)=false:=by rw [hk]; rfl
   have k13 : (x.kind == 13)=false:=by rw [hk]; rfl
   clear hk
   go_wp2_with (go_at_call 33; (with_reducible refine HP.out.mono ?_); rintro e w4 ⟨b,rfl,hs⟩; have HS:=Lib.hid hs; clear hs)
   go_meet
   exact ⟨b,rfl,HS.out⟩
  ·have HP : Hid (Calls Tryz.prog 34 #[.pointer (some ⟨w3.heap.size,0,none⟩),.agg #[.int .i64 x.kind,.int .i64 x.thread,.int .i64 x.entry,.int .i64 x.page,.int .i64 x.n,.int .u64 (x.mask : Int)]] W3 fun e w'=>∃ b,e=.returned (.bool b)∧Hid (Does28 m w3.heap.size w2.heap.size x W3 (.returned (.bool b)) w')):=Lib.hid ((d28_back HN.out.2.1 HH.out.2.2.1 HN.out.2.2 hk HSz.out HX.out.2.2.2.1).mono fun e w' h=>by obtain ⟨b,rfl⟩:=h.bool; exact ⟨b,rfl,Lib.hid h⟩)
   have k1 : (x.kind == 1)=false:=by rw [hk]; rfl
   have k15 : (x.kind == 15)=false:=by rw [hk]; rfl
   have k14 : (x.kind == 14)=false:=by rw [hk]; rfl
   have k2 : (x.kind == 2)=false:=by rw [hk]; rfl
   have k10 : (x.kind == 10)=true:=by rw [hk]; rfl
   have k12 : (x.kind == 12)=false:=by rw [hk]; rfl
   have k13 : (x.kind == 13)=false:=by rw [hk]; rfl
   clear hk
   go_wp2_with (go_at_call 34; (with_reducible refine HP.out.mono ?_); rintro e w4 ⟨b,rfl,hs⟩; have HS:=Lib.hid hs; clear hs)
   go_meet
   exact ⟨b,rfl,HS.out⟩
  ·have HP : Hid (Calls Tryz.prog 35 #[.pointer (some ⟨w3.heap.size,0,none⟩)] W3 fun e w'=>∃ b,e=.returned (.bool b)∧Hid (Does28 m w3.heap.size w2.heap.size x W3 (.returned (.bool b)) w')):=Lib.hid ((d28_cycle HN.out.2.1 HN.out.2.2 hk HX.out.2.2.2.1).mono fun e w' h=>by obtain ⟨b,rfl⟩:=h.bool; exact ⟨b,rfl,Lib.hid h⟩)
   have k1 : (x.kind == 1)=false:=by rw [hk]; rfl
   have k15 : (x.kind == 15)=false:=by rw [hk]; rfl
   have k14 : (x.kind == 14)=false:=by rw [hk]; rfl
   have k2 : (x.kind == 2)=false:=by rw [hk]; rfl
   have k10 : (x.kind == 10)=false:=by rw [hk]; rfl
   have k12 : (x.kind == 12)=true:=by rw [hk]; rfl
   have k13 : (x.kind == 13)=false:=by rw [hk]; rfl
   clear hk
   go_wp2_with (go_at_call 35; (with_reducible refine HP.out.mono ?_); rintro e w4 ⟨b,rfl,hs⟩; have HS:=Lib.hid hs; clear hs)
   go_meet
   exact ⟨b,rfl,HS.out⟩
  ·have HP : Hid (Calls Tryz.prog 19 #[.agg #[.int .i64 m.pages,.slice F m.free.length fc,.slice H m.hands.length hc,.slice S m.spans.length sc,.slice G m.gone.length gc],.int .i64 x.thread,.int .i64 x.page,.int .i64 x.n] W3 fun e w'=>∃ b,e=.returned (.bool b)∧Hid (Does28 m w3.heap.size w2.heap.size x W3 (.returned (.bool (!b))) w')):=Lib.hid ((room28_any m F H S G fc hc sc gc x.thread x.page x.n W3 HH.out.1 HH.out.2.2.2.2 HH.out.2.2.2.1 HX.out.2.2.2.2).mono fun e w' ⟨h1,h2⟩=>⟨_,h1,Lib.hid ⟨KeepD.ext h2,h2.size,by
     by_cases hR : HasP m x.thread x.page x.n
     ·rw [B_yes (show MayS HoldOk m∧HasP m x.thread x.page x.n from ⟨HN.out.1,hR⟩)]
      exact .inl ⟨rfl,.inr (.inr (.inr (.inr (.inr (.inr (.inr (.inl ⟨hk,hR⟩)))))))⟩
     ·rw [B_no (show ¬ (MayS HoldOk m∧HasP m x.thread x.page x.n) from fun hh=>hR hh.2)]
      exact .inr ⟨rfl,m,_,_,_,_,⟨HN.out.2.2,.inr (.inr (.inr (.inr (.inr (.inr (.inl ⟨hk,hR,rfl⟩))))))⟩,HX.out.2.2.2.1.ext h2⟩⟩⟩)
   have k1 : (x.kind == 1)=false:=by rw [hk]; rfl
   have k15 : (x.kind == 15)=false:=by rw [hk]; rfl
   have k14 : (x.kind == 14)=false:=by rw [hk]; rfl
   have k2 : (x.kind == 2)=false:=by rw [hk]; rfl
   have k10 : (x.kind == 10)=false:=by rw [hk]; rfl
   have k12 : (x.kind == 12)=false:=by rw [hk]; rfl
   have k13 : (x.kind == 13)=true:=by rw [hk]; rfl
   clear hk
   go_wp2_with (go_at_call 19; (with_reducible refine HP.out.mono ?_); rintro e w4 ⟨b,rfl,hs⟩; have HS:=Lib.hid hs; clear hs)
   go_meet
   exact ⟨_,rfl,HS.out⟩
  ·have k1 : (x.kind == 1)=false:=by simp only [beq_eq_false_iff_ne,ne_eq]; omega
   have k2 : (x.kind == 2)=false:=by simp only [beq_eq_false_iff_ne,ne_eq]; omega
   have k3 : (x.kind == 10)=false:=by simp only [beq_eq_false_iff_ne,ne_eq]; omega
   have k4 : (x.kind == 12)=false:=by simp only [beq_eq_false_iff_ne,ne_eq]; omega
   have k5 : (x.kind == 13)=false:=by simp only [beq_eq_false_iff_ne,ne_eq]; omega
   have k6 : (x.kind == 14)=false:=by simp only [beq_eq_false_iff_ne,ne_eq]; omega
   have k7 : (x.kind == 15)=false:=by simp only [beq_eq_false_iff_ne,ne_eq]; omega
   have HPl : Hid (Calls Tryz.prog 36 #[.agg #[.int .i64 m.pages,.slice F m.free.length fc,.slice H m.hands.length hc,.slice S m.spans.length sc,.slice G m.gone.length gc],.int .i64 x.page] W3 fun e w'=>(∃ r,e=.returned (.int .i64 r)∧FirstQ m.spans.length (fun j=>(ix noHold m.spans j).page=x.page) r)∧Ext W3 w'):=Lib.hid (place28_any m F H S G fc hc sc gc x.page W3 (by have:=HH.out.1.spans; omega) HX.out.2.2.2.2)
   have HK:=Lib.hid hk
   clear hk
   go_upto_region 7 with (go_at_call 36; (with_reducible refine HPl.out.mono ?_); rintro e w4 ⟨⟨r,rfl,hr⟩,hE4⟩; have HE4:=Lib.hid (And.intro hE4 hr); clear hE4 hr)
   rcases HE4.out.2 with ⟨hr,hn⟩ | ⟨i,hr,hi,hp,_⟩
   ·have hlt : decide (0≤r)=false:=decide_eq_false (by omega)
    have HNo:=Lib.hid hn
    subst hr
    clear hn
    go_wp2
    go_meet
    exact ⟨false,rfl,Lib.hid ⟨KeepD.ext HE4.out.1,HE4.out.1.size,.inl ⟨rfl,by
     have hk:=HK.out
     by_cases h9 : x.kind=9
     ·exact .inr (.inr (.inr (.inr (.inl ⟨h9,fun j hj hpj=>absurd hpj (HNo.out j hj)⟩))))
     ·exact .inr (.inr (.inr (.inr (.inr (.inr (.inr (.inr (.inr ⟨⟨hk.1,hk.2.1,hk.2.2.1,h9,hk.2.2.2.1,hk.2.2.2.2.1,hk.2.2.2.2.2.1,hk.2.2.2.2.2.2⟩,.inl HNo.out⟩))))))))⟩⟩⟩
   ·subst hr
    have HP : Hid (Calls Tryz.prog 37 #[.pointer (some ⟨w3.heap.size,0,none⟩),.int .i64 (i : Int),.agg #[.int .i64 x.kind,.int .i64 x.thread,.int .i64 x.entry,.int .i64 x.page,.int .i64 x.n,.int .u64 (x.mask : Int)]] w4 fun e w'=>∃ b,e=.returned (.bool b)∧Hid (Does28 m w3.heap.size w2.heap.size x W3 (.returned (.bool b)) w')):=Lib.hid ((d28_span HN.out.2.1 HH.out.2.2.2.1 HH.out.2.2.1 HN.out.2.2 HK.out hi hp (Nat.le_trans HSz.out HE4.out.1.size) (HX.out.2.2.2.1.ext HE4.out.1)).mono fun e w' h=>by obtain ⟨b,rfl⟩:=h.bool; exact ⟨b,rfl,Lib.hid (h.from HE4.out.1)⟩)
    have hge : decide (0≤(i : Int))=true:=decide_eq_true (by omega)
    have e0:=HE4.out.1.cell c0
    have e1:=HE4.out.1.cell c1
    have e2:=HE4.out.1.cell c2
    have e3:=HE4.out.1.cell c3
    have e4:=HE4.out.1.cell c4
    have e5:=HE4.out.1.cell c5
    clear hi hp c0 c1 c2 c3 c4 c5 d0 d1 d2 d3 d4
    go_wp2_with (go_at_call 37; (with_reducible refine HP.out.mono ?_); rintro e w5 ⟨b,rfl,hs⟩; have HS:=Lib.hid hs; clear hs)
    go_meet
    exact ⟨b,rfl,HS.out⟩
 case rest =>
  obtain ⟨bb,rfl,hs⟩:=hcut
  have HS:=Lib.hid hs.out
  obtain ⟨hK,hz,hr⟩:=HS.out
  have h04 : Ext W0 wc:=hK W0 HX.out.1 HE2.out.size (Nat.le_trans HE2.out.size HE3.out.1.size)
  have hw4 : Ext w wc:=HW.out.1.trans h04
  have hb1:=HW.out.2.2.1.ext h04
  have h14 : w2.heap.size≤wc.heap.size:=Nat.le_trans HX.out.2.1.size hz
  have hs0:=HW.out.2.2.2.1
  have h01:=HE2.out.size
  have hlt : w.heap.size + 2 < w2.heap.size:=by omega
  obtain ⟨⟨g0,g1,g2,g3,g4⟩,fz0,fz1,fz2,fz3,fz4⟩:=Blk.f5 hb1
  clear hs c0 c1 c2 c3 c4 c5 d0 d1 d2 d3 d4
  rcases hr with ⟨e,hn⟩ | ⟨e,m',F',H',S',G',hR,hD4⟩
  ·obtain rfl : bb=false:=by injection e with e; injection e
   have HQ:=Lib.hid (And.intro hw4 (And.intro hb1 hn))
   clear hK hz h04 hw4 hb1 h14 hs0 h01 hn e
   go_wp2
   have hB:=((((HQ.out.2.1.set 0 (.int .i64 0)).set 1 (.slice none 0 0)).set 2 (.slice none 0 0)).set 3 (.slice none 0 0)).set 4 (.slice none 0 0)
   simp only [List.setIfInBounds_toArray,List.set_cons_succ,List.set_cons_zero] at hB
   refine bodyPost_ret (results_cell_row2 acc28_res _ _ (w.heap.size + 2) 30 _ (0,0) _ rfl hB Tryz.underlying30 rfl own_info) rfl ⟨(((((HQ.out.1).setCell hle _).setCell hle _).setCell hle _).setCell hle _).setCell hle _,noModel,false,none,none,none,none,0,0,0,0,rfl,ownNo _ _,.inl ⟨rfl,rfl,.inr HQ.out.2.2⟩⟩
  ·obtain rfl : bb=true:=by injection e with e; injection e
   obtain ⟨F2,H2,S2,G2,fc2,hc2,sc2,gc2,rfl,rfl,rfl,rfl⟩:=hD4.own.slices
   obtain ⟨d0,d1,d2,d3,d4⟩:=Blk.c5 hD4.blk
   have HQ:=Lib.hid (And.intro hw4 (And.intro hb1 (And.intro hR hD4.own)))
   clear hK hz h04 hw4 hb1 h14 hs0 h01 hR hD4 e
   go_wp2
   have hB:=((((HQ.out.2.1.set 0 (.int .i64 m'.pages)).set 1 (.slice F2 m'.free.length fc2)).set 2 (.slice H2 m'.hands.length hc2)).set 3 (.slice S2 m'.spans.length sc2)).set 4 (.slice G2 m'.gone.length gc2)
   simp only [List.setIfInBounds_toArray,List.set_cons_succ,List.set_cons_zero] at hB
   refine bodyPost_ret (results_cell_row2 acc28_res _ _ (w.heap.size + 2) 30 _ (0,0) _ rfl hB Tryz.underlying30 rfl own_info) rfl ⟨(((((HQ.out.1).setCell hle _).setCell hle _).setCell hle _).setCell hle _).setCell hle _,m',true,F2,H2,S2,G2,fc2,hc2,sc2,gc2,rfl,(((((HQ.out.2.2.2.far hlt _).far hlt _).far hlt _).far hlt _).far hlt _).mono (by omega),.inr ⟨rfl,HN.out.1,HQ.out.2.2.1⟩⟩
/-- What the document's All tells. -/
def All28P (m : ModelD) (l : List MarkD) (w : World) (e : Ending) (w' : World) : Prop:=Ext w w'∧∃ m' n b F' H' S' G' fc' hc' sc' gc',e=.returned (.tuple #[modelV m' F' H' S' G' fc' hc' sc' gc',.int .i64 n,.bool b])∧ModelR w' m' F' H' S' G' ∧
 ((b=false∧n=0∧m'=noModel∧¬ MayS HoldOk m)∨(MayS HoldOk m∧∃ k : Nat,n=(k : Int)∧Chain m l k m'∧((b=true∧k=l.length)∨(b=false∧k < l.length∧DoesN m' (ix noMark l k)))))
theorem SlR.offGe {w : World} {A : Option Addr} {n sz : Nat} {f : Nat→Value} (h : SlR w A n sz f) (hs : 0 < sz) {b : Nat} (hb : w.heap.size≤b) : OffS b n A:=fun hn a e=>by
 obtain ⟨b,off,rfl,hc⟩:=h hn
 obtain rfl : a=⟨b,off,none⟩:=(Option.some.inj e).symm
 have:=World.block_lt_of_cell? _ _ (hc 0 (Nat.mul_pos hn hs))
 dsimp only at this ⊢
 omega
theorem ModelR.offGe {w : World} {m : ModelD} {F H S G : Option Addr} (h : ModelR w m F H S G) {b : Nat} (hb : w.heap.size≤b) : OffM b m F H S G:=⟨h.free.offGe (by decide) hb,h.hands.offGe (by decide) hb,h.spans.offGe (by decide) hb,h.gone.offGe (by decide) hb⟩
theorem blk5 {w : World} {g t : Nat} {v0 v1 v2 v3 v4 : Value} (h : Blk w g t #[v0,v1,v2,v3,v4]) : (w.cell? ⟨g,0,none⟩=some v0∧w.cell? ⟨g,1,none⟩=some v1∧w.cell? ⟨g,2,none⟩=some v2∧w.cell? ⟨g,3,none⟩=some v3∧w.cell? ⟨g,4,none⟩=some v4) ∧
  (w.frozen? ⟨g,0,none⟩=false∧w.frozen? ⟨g,1,none⟩=false∧w.frozen? ⟨g,2,none⟩=false∧w.frozen? ⟨g,3,none⟩=false∧w.frozen? ⟨g,4,none⟩=false) :=
 ⟨⟨h.cell rfl,h.cell rfl,h.cell rfl,h.cell rfl,h.cell rfl⟩,h.frozen 0,h.frozen 1,h.frozen 2,h.frozen 3,h.frozen 4⟩
theorem ext5 {w0 w : World} {g : Nat} {a0 a1 a2 a3 a4 : Value} (h : Ext w0 w) (hg : w0.heap.size≤g) : Ext w0 (((((w.setCell ⟨g,0,none⟩ a0).setCell ⟨g,1,none⟩ a1).setCell ⟨g,2,none⟩ a2).setCell ⟨g,3,none⟩ a3).setCell ⟨g,4,none⟩ a4) :=
 ((((h.setCell (p:=⟨g,0,none⟩) hg a0).setCell (p:=⟨g,1,none⟩) hg a1).setCell (p:=⟨g,2,none⟩) hg a2).setCell (p:=⟨g,3,none⟩) hg a3).setCell (p:=⟨g,4,none⟩) hg a4
theorem set5 {w : World} {g t : Nat} {z0 z1 z2 z3 z4 a0 a1 a2 a3 a4 : Value} (h : Blk w g t #[z0,z1,z2,z3,z4]) : Blk (((((w.setCell ⟨g,0,none⟩ a0).setCell ⟨g,1,none⟩ a1).setCell ⟨g,2,none⟩ a2).setCell ⟨g,3,none⟩ a3).setCell ⟨g,4,none⟩ a4) g t #[a0,a1,a2,a3,a4]:=by
 have:=((((h.set 0 a0).set 1 a1).set 2 a2).set 3 a3).set 4 a4
 simp only [List.setIfInBounds_toArray,List.set_cons_succ,List.set_cons_zero] at this
 exact this
theorem gone63 {m : ModelD} (h : May2 m) : ∀ i,i < m.gone.length→ix 0 m.gone i≤9223372036854775807:=fun i hi=>by
 have:=h.goneP _ (ixMem (d:=(0 : Int)) hi)
 have:=h.pages
 omega
theorem all28_res : Tryz.f13.results=#[.cell 4 30,.tmp 5,.tmp 6]:=by kernel_rfl
/-- Five cells of a model are put anew. -/
theorem ModelR.five {w : World} {m : ModelD} {F H S G : Option Addr} (h : ModelR w m F H S G) {b : Nat} (ho : OffM b m F H S G) (v0 v1 v2 v3 v4 : Value) :
  ModelR (((((w.setCell ⟨b,0,none⟩ v0).setCell ⟨b,1,none⟩ v1).setCell ⟨b,2,none⟩ v2).setCell ⟨b,3,none⟩ v3).setCell ⟨b,4,none⟩ v4) m F H S G :=
 ((((h.off (p:=⟨b,0,none⟩) ho v0).off (p:=⟨b,1,none⟩) ho v1).off (p:=⟨b,2,none⟩) ho v2).off (p:=⟨b,3,none⟩) ho v3).off (p:=⟨b,4,none⟩) ho v4
set_option maxHeartbeats 16000000 in
set_option maxRecDepth 100000 in
theorem all28_any (m : ModelD) (l : List MarkD) (F H S G L : Option Addr) (fc hc sc gc lc : Nat) (w : World) (hlen : LenM m) (hg63 : ∀ i,i < m.gone.length→ix 0 m.gone i≤9223372036854775807) (hmk : MarksOk m) (hm : ModelR w m F H S G) (hl : l.length≤1000000) (hL : SlR w L l.length 6 (marksV l)) (hx : ∀ j,j < l.length→MarkOk (ix noMark l j)) :
  Calls Tryz.prog 13 #[modelV m F H S G fc hc sc gc,.slice L l.length lc] w (All28P m l w):=by
 obtain ⟨Wa,hWa⟩ : ∃ Wa,Wa=w.alloc (.cells #[.int .i64 m.pages,.slice F m.free.length fc,.slice H m.hands.length hc,.slice S m.spans.length sc,.slice G m.gone.length gc] 30):=⟨_,rfl⟩
 obtain ⟨W0,hW0⟩ : ∃ W0,W0=Wa.alloc (.cells #[.int .i64 0,.slice none 0 0,.slice none 0 0,.slice none 0 0,.slice none 0 0] 30):=⟨_,rfl⟩
 have ea : Ext w Wa:=hWa▸(Ext.refl w).alloc _
 have ec : Ext Wa W0:=hW0▸(Ext.refl Wa).alloc _
 have ba : Blk W0 w.heap.size 30 #[.int .i64 m.pages,.slice F m.free.length fc,.slice H m.hands.length hc,.slice S m.spans.length sc,.slice G m.gone.length gc]:=((hWa▸Blk.new _ _ _ _ rfl : Blk Wa w.heap.size _ _).ext ec)
 have sa : Wa.heap.size=w.heap.size + 1:=by rw [hWa]; exact World.size_alloc _ _
 have s0 : W0.heap.size=w.heap.size + 2:=by rw [hW0,World.size_alloc,sa]
 have bc : Blk W0 (w.heap.size + 1) 30 #[.int .i64 0,.slice none 0 0,.slice none 0 0,.slice none 0 0,.slice none 0 0]:=sa▸(hW0▸Blk.new _ _ _ _ rfl : Blk W0 Wa.heap.size _ _)
 have e0 : Ext w W0:=ea.trans ec
 have HMay : Hid (Calls Tryz.prog 15 #[modelV m F H S G fc hc sc gc] W0 fun e w'=>e=.returned (.bool (B (MayS HoldOk m)))∧Ext W0 w'):=Lib.hid (mayR_any m F H S G fc hc sc gc W0 hlen hg63 (hm.ext e0))
 have HE : Hid (W0=(w.alloc (.cells #[.int .i64 m.pages,.slice F m.free.length fc,.slice H m.hands.length hc,.slice S m.spans.length sc,.slice G m.gone.length gc] 30)).alloc (.cells #[.int .i64 0,.slice none 0 0,.slice none 0 0,.slice none 0 0,.slice none 0 0] 30)):=Lib.hid (by rw [hW0,hWa])
 have HW : Hid (Ext w W0∧Blk W0 (w.heap.size + 1) 30 #[.int .i64 0,.slice none 0 0,.slice none 0 0,.slice none 0 0,.slice none 0 0]∧W0.heap.size=w.heap.size + 2∧Blk W0 w.heap.size 30 #[.int .i64 m.pages,.slice F m.free.length fc,.slice H m.hands.length hc,.slice S m.spans.length sc,.slice G m.gone.length gc]∧SlR W0 L l.length 6 (marksV l)):=Lib.hid ⟨e0,bc,s0,ba,hL.ext e0⟩
 have HH : Hid (LenM m∧ModelR w m F H S G∧MarksOk m∧(∀ j,j < l.length→MarkOk (ix noMark l j))∧(∀ b,w.heap.size≤b→OffM b m F H S G)∧OffS w.heap.size l.length L):=Lib.hid ⟨hlen,hm,hmk,hx,fun b hb=>hm.offGe hb,hL.offGe (by decide) (Nat.le_refl _)⟩
 obtain ⟨x0,x1,x2,x3,x4⟩:=Blk.c5 ba
 have hle : w.heap.size≤w.heap.size + 1:=by omega
 have hle0 : w.heap.size≤w.heap.size:=Nat.le_refl _
 clear hWa hW0 ea ec ba sa s0 bc e0 hlen hm hmk hx hL hg63
 by_cases hmay : MayS HoldOk m
 rotate_left
 ·rw [B_no hmay] at HMay
  have HN:=Lib.hid hmay
  clear hmay
  unfold modelV at HMay
  unfold modelV
  go_enter Tryz.func13,Tryz.ntmps13
  go_upto_region 1 with fail
  rw [← HE.out]
  go_upto_region 2 with (go_at_call 15; (with_reducible refine HMay.out.mono ?_); rintro e w1 ⟨rfl,hE1⟩; have hb1:=HW.out.2.1.ext hE1; obtain ⟨⟨g0,g1,g2,g3,g4⟩,fz0,fz1,fz2,fz3,fz4⟩:=Blk.f5 hb1; have HE1:=Lib.hid (And.intro hE1 hb1); clear hE1 hb1)
  go_wp2
  have hB:=((((HE1.out.2.set 0 (.int .i64 0)).set 1 (.slice none 0 0)).set 2 (.slice none 0 0)).set 3 (.slice none 0 0)).set 4 (.slice none 0 0)
  simp only [List.setIfInBounds_toArray,List.set_cons_succ,List.set_cons_zero] at hB
  refine bodyPost_ret (results_cell_row3 all28_res _ _ (w.heap.size + 1) 30 _ (0,0) _ rfl hB Tryz.underlying30 rfl own_info) rfl ⟨(((((HW.out.1.trans HE1.out.1).setCell hle _).setCell hle _).setCell hle _).setCell hle _).setCell hle _,noModel,0,false,none,none,none,none,0,0,0,0,rfl,⟨SlR.nil,SlR.nil,SlR.nil,SlR.nil⟩,.inl ⟨rfl,rfl,rfl,HN.out⟩⟩
 rw [B_yes hmay] at HMay
 have HN:=Lib.hid hmay
 clear hmay
 have hml:=may2_iff.1 HN.out
 have HML:=Lib.hid hml
 clear hml
 unfold modelV at HMay
 unfold modelV
 go_enter Tryz.func13,Tryz.ntmps13
 go_upto_region 1 with fail
 rw [← HE.out]
 go_upto_region 3 with (go_at_call 15; (with_reducible refine HMay.out.mono ?_); rintro e w1 ⟨rfl,hE1⟩; have HE1:=Lib.hid hE1; clear hE1)
 clear x0 x1 x2 x3 x4
 go_wp2
 go_loopg [7] l.length (fun q i wr=>∃ (k : Nat) (mk : ModelD) (F' H' S' G' : Option Addr) (fc' hc' sc' gc' : Nat),k≤l.length∧q=l.length - k∧i=.int .i64 (k : Int)∧Ext w wr∧w.heap.size + 2≤wr.heap.size∧Chain m l k mk∧ModelR wr mk F' H' S' G'∧(∀ b,w.heap.size≤b→b≤w.heap.size + 1→OffM b mk F' H' S' G') ∧
  Blk wr w.heap.size 30 #[.int .i64 mk.pages,.slice F' mk.free.length fc',.slice H' mk.hands.length hc',.slice S' mk.spans.length sc',.slice G' mk.gone.length gc']∧Blk wr (w.heap.size + 1) 30 #[.int .i64 0,.slice none 0 0,.slice none 0 0,.slice none 0 0,.slice none 0 0]∧SlR wr L l.length 6 (marksV l))
 case atStart=>exact ⟨0,m,F,H,S,G,fc,hc,sc,gc,Nat.zero_le _,rfl,rfl,HW.out.1.trans HE1.out,by have:=HE1.out.size; have:=HW.out.2.2.1; omega,rfl,HH.out.2.1.ext (HW.out.1.trans HE1.out),fun b hb _=>HH.out.2.2.2.2.1 b hb,HW.out.2.2.2.1.ext HE1.out,HW.out.2.1.ext HE1.out,HW.out.2.2.2.2.ext HE1.out⟩
 case round =>
  obtain ⟨k,mk,F',H',S',G',fc',hc',sc',gc',hk,rfl,rfl,hE,hsz,hch,hR,hoff,hb,hbr,hL⟩:=hrel
  obtain ⟨c0,c1,c2,c3,c4⟩:=Blk.c5 hb
  by_cases hlt : k < l.length
  rotate_left
  ·obtain rfl : k=l.length:=by omega
   obtain ⟨⟨g0,g1,g2,g3,g4⟩,fz0,fz1,fz2,fz3,fz4⟩:=Blk.f5 hbr
   have HQ:=Lib.hid (And.intro hE (And.intro hbr (And.intro (hR.five (hoff (w.heap.size + 1) hle (Nat.le_refl _)) (.int .i64 mk.pages) (.slice F' mk.free.length fc') (.slice H' mk.hands.length hc') (.slice S' mk.spans.length sc') (.slice G' mk.gone.length gc')) hch)))
   clear hE hsz hch hR hoff hb hbr hL hlt
   go_wp2
   have hB:=((((HQ.out.2.1.set 0 (.int .i64 mk.pages)).set 1 (.slice F' mk.free.length fc')).set 2 (.slice H' mk.hands.length hc')).set 3 (.slice S' mk.spans.length sc')).set 4 (.slice G' mk.gone.length gc')
   simp only [List.setIfInBounds_toArray,List.set_cons_succ,List.set_cons_zero] at hB
   refine bodyPost_ret (results_cell_row3 all28_res _ _ (w.heap.size + 1) 30 _ (0,0) _ rfl hB Tryz.underlying30 rfl own_info) rfl ⟨(((((HQ.out.1).setCell hle _).setCell hle _).setCell hle _).setCell hle _).setCell hle _,mk,(l.length : Int),true,F',H',S',G',fc',hc',sc',gc',rfl,HQ.out.2.2.1,.inr ⟨HN.out,⟨l.length,rfl,HQ.out.2.2.2,.inl ⟨rfl,rfl⟩⟩⟩⟩
  obtain ⟨b,off,rfl,hcl⟩:=hL (by omega)
  obtain ⟨x,hx⟩ : ∃ x,ix noMark l k=x:=⟨_,rfl⟩
  have hv : ∀ j,j < 6→wr.cell? ⟨b,off + (k * 6 + j),none⟩=some (if j=0 then Value.int .i64 x.kind else if j=1 then .int .i64 x.thread else if j=2 then .int .i64 x.entry else if j=3 then .int .i64 x.page else if j=4 then .int .i64 x.n else .int .u64 (x.mask : Int)):=fun j hj=>by
   have:=hcl (k * 6 + j) (by omega)
   unfold marksV rowV at this
   rw [show (k * 6 + j) / 6=k by omega,show (k * 6 + j) % 6=j by omega,hx] at this
   exact this
  have a0 : wr.cell? ⟨b,off + k * 6,none⟩=some (.int .i64 x.kind):=hv 0 (by omega)
  have a1 : wr.cell? ⟨b,off + k * 6 + 1,none⟩=some (.int .i64 x.thread):=hv 1 (by omega)
  have a2 : wr.cell? ⟨b,off + k * 6 + 2,none⟩=some (.int .i64 x.entry):=hv 2 (by omega)
  have a3 : wr.cell? ⟨b,off + k * 6 + 3,none⟩=some (.int .i64 x.page):=hv 3 (by omega)
  have a4 : wr.cell? ⟨b,off + k * 6 + 4,none⟩=some (.int .i64 x.n):=hv 4 (by omega)
  have a5 : wr.cell? ⟨b,off + k * 6 + 5,none⟩=some (.int .u64 (x.mask : Int)):=hv 5 (by omega)
  have q0 : (0 : Int)≤(k : Int):=by omega
  have q1 : (k : Int) < (l.length : Int):=by omega
  have wi : IntKind.i64.wrap ((k : Int) + 1)=(k : Int) + 1:=by rw [IntKind.wrap_i64]; omega
  obtain ⟨⟨hm1,hm2⟩,hm3⟩:=chain_may HML.out HH.out.2.2.1 k mk (fun j hj=>HH.out.2.2.2.1 j (by omega)) hch
  have hacc : ∀ W,Ext wr W→Calls Tryz.prog 11 #[modelV mk F' H' S' G' fc' hc' sc' gc',markV x] W (AccP mk x W):=fun W hW=>accepts28_any mk x F' H' S' G' fc' hc' sc' gc' W (may2_len hm1) (gone63 hm1) hm2 (hR.ext hW) (hx▸HH.out.2.2.2.1 k hlt)
  unfold modelV markV at hacc
  have HA:=Lib.hid hacc
  have HR:=Lib.hid (And.intro hE (And.intro hsz (And.intro hch (And.intro hR (And.intro hoff (And.intro hb (And.intro hbr (And.intro hL (And.intro hx (And.intro hm1 (And.intro hm2 hlt)))))))))))
  have hoL:=HH.out.2.2.2.2.2 (by omega) _ rfl
  have HOL:=Lib.hid hoL
  clear hacc hE hsz hch hR hoff hb hbr hx hm1 hm2 hm3 hv hcl hL hoL
  go_upto_region 6 with fail
  go_cut [8,9] (fun v8 v9 wx=>∃ (g : Nat) (bb : Bool) (n : ModelD) (F5 H5 S5 G5 : Option Addr) (fc5 hc5 sc5 gc5 : Nat),v8=.pointer (some ⟨g,0,none⟩)∧v9=.bool bb∧Ext wr wx∧Blk wx g 30 #[.int .i64 n.pages,.slice F5 n.free.length fc5,.slice H5 n.hands.length hc5,.slice S5 n.spans.length sc5,.slice G5 n.gone.length gc5] ∧
   OwnM wx wr.heap.size n (.slice F5 n.free.length fc5) (.slice H5 n.hands.length hc5) (.slice S5 n.spans.length sc5) (.slice G5 n.gone.length gc5)∧Hid ((bb=false∧DoesN mk x)∨(bb=true∧DoesR mk x n)))
  case first =>
   have HKS : Hid (∀ w',Ext wr w'→(w'.cell? ⟨w.heap.size,0,none⟩=some (.int .i64 mk.pages)∧w'.cell? ⟨w.heap.size,1,none⟩=some (.slice F' mk.free.length fc')∧w'.cell? ⟨w.heap.size,2,none⟩=some (.slice H' mk.hands.length hc')∧w'.cell? ⟨w.heap.size,3,none⟩=some (.slice S' mk.spans.length sc')∧w'.cell? ⟨w.heap.size,4,none⟩=some (.slice G' mk.gone.length gc')∧w'.cell? ⟨b,off + k * 6,none⟩=some (.int .i64 x.kind)∧w'.cell? ⟨b,off + k * 6 + 1,none⟩=some (.int .i64 x.thread)∧w'.cell? ⟨b,off + k * 6 + 2,none⟩=some (.int .i64 x.entry)∧w'.cell? ⟨b,off + k * 6 + 3,none⟩=some (.int .i64 x.page)∧w'.cell? ⟨b,off + k * 6 + 4,none⟩=some (.int .i64 x.n)∧w'.cell? ⟨b,off + k * 6 + 5,none⟩=some (.int .u64 (x.mask : Int)))):=Lib.hid fun w' hE=>⟨hE.cell c0,hE.cell c1,hE.cell c2,hE.cell c3,hE.cell c4,hE.cell a0,hE.cell a1,hE.cell a2,hE.cell a3,hE.cell a4,hE.cell a5⟩
   have hne1 : ¬ w.heap.size=wr.heap.size:=by have:=HR.out.2.1; omega
   have hne2 : ¬ wr.heap.size=w.heap.size:=fun e=>hne1 e.symm
   clear c0 c1 c2 c3 c4 a0 a1 a2 a3 a4 a5
   go_region_held3 (fun w'=>w'.cell? ⟨w.heap.size,0,none⟩=some (.int .i64 mk.pages)∧w'.cell? ⟨w.heap.size,1,none⟩=some (.slice F' mk.free.length fc')∧w'.cell? ⟨w.heap.size,2,none⟩=some (.slice H' mk.hands.length hc')∧w'.cell? ⟨w.heap.size,3,none⟩=some (.slice S' mk.spans.length sc')∧w'.cell? ⟨w.heap.size,4,none⟩=some (.slice G' mk.gone.length gc')∧w'.cell? ⟨b,off + k * 6,none⟩=some (.int .i64 x.kind)∧w'.cell? ⟨b,off + k * 6 + 1,none⟩=some (.int .i64 x.thread)∧w'.cell? ⟨b,off + k * 6 + 2,none⟩=some (.int .i64 x.entry)∧w'.cell? ⟨b,off + k * 6 + 3,none⟩=some (.int .i64 x.page)∧w'.cell? ⟨b,off + k * 6 + 4,none⟩=some (.int .i64 x.n)∧w'.cell? ⟨b,off + k * 6 + 5,none⟩=some (.int .u64 (x.mask : Int))) (first | with_reducible exact HKS.out _ ((Ext.refl wr).drew) | with_reducible exact HKS.out _ (((Ext.refl wr).drew).alloc _) | with_reducible exact HKS.out _ (((Ext.refl wr).alloc _).drew) | with_reducible exact HKS.out _ hA' | with_reducible exact HKS.out _ (hA'.alloc _) | with_reducible exact HKS.out _ (ext5 hA' (Nat.le_refl _)) | with_reducible exact HKS.out _ (ext5 (hA'.alloc _) hszA)) (first
    |(go_at_call 11; (with_reducible refine (HA.out _ ?hE).mono ?_); (case hE=>first | with_reducible exact (Ext.refl _).drew | with_reducible exact ((Ext.refl _).drew).alloc _ | with_reducible exact ((Ext.refl _).alloc _).drew); rintro e w5 ⟨hE5,n,bb,F5,H5,S5,G5,fc5,hc5,sc5,gc5,rfl,hO5,hr5⟩; have hA' : Ext wr w5:=(by first | with_reducible exact ((Ext.refl wr).drew).trans hE5 | with_reducible exact (((Ext.refl wr).drew).alloc _).trans hE5 | with_reducible exact (((Ext.refl wr).alloc _).drew).trans hE5); have hszA : wr.heap.size≤w5.heap.size:=hA'.size; (first | (have hr : Blk w5 wr.heap.size 30 #[.int .i64 0,.slice none 0 0,.slice none 0 0,.slice none 0 0,.slice none 0 0]:=(by with_reducible exact ((Blk.new wr 30 #[.int .i64 0,.slice none 0 0,.slice none 0 0,.slice none 0 0,.slice none 0 0] wr.heap.size rfl).drew).ext hE5); obtain ⟨⟨r0,r1,r2,r3,r4⟩,r5,r6,r7,r8,r9⟩:=blk5 hr) | (have hr : Blk w5 wr.heap.size 30 #[.int .i64 0,.slice none 0 0,.slice none 0 0,.slice none 0 0,.slice none 0 0]:=(by with_reducible exact (Blk.new wr.drew 30 #[.int .i64 0,.slice none 0 0,.slice none 0 0,.slice none 0 0,.slice none 0 0] wr.heap.size rfl).ext hE5); obtain ⟨⟨r0,r1,r2,r3,r4⟩,r5,r6,r7,r8,r9⟩:=blk5 hr) | skip); have hO5' : OwnM w5 wr.heap.size n (.slice F5 n.free.length fc5) (.slice H5 n.hands.length hc5) (.slice S5 n.spans.length sc5) (.slice G5 n.gone.length gc5):=hO5.mono (by first | exact Nat.le_refl _ | (simp; try omega)); have HS:=Lib.hid (And.intro hA' (And.intro hO5' (And.intro hr5 hO5))); clear hE5 hO5 hO5' hr5; unfold modelV))
   all_goals
    go_wp2_with fail
    go_meet
    refine ⟨_,bb,n,F5,H5,S5,G5,fc5,hc5,sc5,gc5,rfl,rfl,?_,?_,?_,Lib.hid ?_⟩
    ·first | with_reducible exact hA'.alloc _ | with_reducible exact ext5 hA' (Nat.le_refl _)
    ·first | with_reducible exact set5 hr | with_reducible exact Blk.new _ _ _ _ rfl
    ·first
      | with_reducible exact HS.out.2.1.ext ((Ext.refl _).alloc _)
      |(have hlt9 : wr.heap.size < wr.heap.size + 1:=Nat.lt_succ_self _
        have ho9:=HS.out.2.2.2
        rw [show ((wr.alloc (.cells #[.int .i64 0,.slice none 0 0,.slice none 0 0,.slice none 0 0,.slice none 0 0] 30)).drew).heap.size=wr.heap.size + 1 by simp] at ho9
        exact (((((ho9.far (p:=⟨wr.heap.size,0,none⟩) hlt9 _).far (p:=⟨wr.heap.size,1,none⟩) hlt9 _).far (p:=⟨wr.heap.size,2,none⟩) hlt9 _).far (p:=⟨wr.heap.size,3,none⟩) hlt9 _).far (p:=⟨wr.heap.size,4,none⟩) hlt9 _).mono (by omega))
    ·exact HS.out.2.2.1.imp (fun ⟨a,_,c⟩=>⟨a,c.resolve_left (fun h=>h (may2_iff.2 HR.out.2.2.2.2.2.2.2.2.2.1))⟩) (fun ⟨a,_,c⟩=>⟨a,c⟩)
  case rest =>
   obtain ⟨g,bb,n,F5,H5,S5,G5,fc5,hc5,sc5,gc5,rfl,rfl,hE5,hb5,hO5,hr5⟩:=hcut
   clear a0 a1 a2 a3 a4 a5 c0 c1 c2 c3 c4
   obtain ⟨hE,hsz,hch,hR,hoff,hb,hbr,hL,hx,hm1,hm2,hlt⟩:=HR.out
   have hb':=hb.ext hE5
   have hbr':=hbr.ext hE5
   rcases hr5.out with ⟨rfl,hn⟩ | ⟨rfl,hd⟩
   ·have c0:=hb'.cell (i:=0) (v:=.int .i64 mk.pages) rfl
    have c1:=hb'.cell (i:=1) (v:=.slice F' mk.free.length fc') rfl
    have c2:=hb'.cell (i:=2) (v:=.slice H' mk.hands.length hc') rfl
    have c3:=hb'.cell (i:=3) (v:=.slice S' mk.spans.length sc') rfl
    have c4:=hb'.cell (i:=4) (v:=.slice G' mk.gone.length gc') rfl
    obtain ⟨⟨g0,g1,g2,g3,g4⟩,fz0,fz1,fz2,fz3,fz4⟩:=Blk.f5 hbr'
    have HQ:=Lib.hid (And.intro (hE.trans hE5) (And.intro hbr' (And.intro ((hR.ext hE5).five (hoff (w.heap.size + 1) hle (Nat.le_refl _)) (.int .i64 mk.pages) (.slice F' mk.free.length fc') (.slice H' mk.hands.length hc') (.slice S' mk.spans.length sc') (.slice G' mk.gone.length gc')) (And.intro hch hn))))
    clear hE hsz hch hR hoff hb hbr hL hx hm1 hm2 hb' hbr' hE5 hb5 hO5 hr5 hn hlt
    go_wp2
    have hB:=((((HQ.out.2.1.set 0 (.int .i64 mk.pages)).set 1 (.slice F' mk.free.length fc')).set 2 (.slice H' mk.hands.length hc')).set 3 (.slice S' mk.spans.length sc')).set 4 (.slice G' mk.gone.length gc')
    simp only [List.setIfInBounds_toArray,List.set_cons_succ,List.set_cons_zero] at hB
    refine bodyPost_ret (results_cell_row3 all28_res _ _ (w.heap.size + 1) 30 _ (0,0) _ rfl hB Tryz.underlying30 rfl own_info) rfl ⟨(((((HQ.out.1).setCell hle _).setCell hle _).setCell hle _).setCell hle _).setCell hle _,mk,(k : Int),false,F',H',S',G',fc',hc',sc',gc',rfl,HQ.out.2.2.1,.inr ⟨HN.out,⟨k,rfl,HQ.out.2.2.2.1,.inr ⟨rfl,HR.out.2.2.2.2.2.2.2.2.2.2.2,by rw [HR.out.2.2.2.2.2.2.2.2.1]; exact HQ.out.2.2.2.2⟩⟩⟩⟩
   ·have c0:=hb5.cell (i:=0) (v:=.int .i64 n.pages) rfl
    have c1:=hb5.cell (i:=1) (v:=.slice F5 n.free.length fc5) rfl
    have c2:=hb5.cell (i:=2) (v:=.slice H5 n.hands.length hc5) rfl
    have c3:=hb5.cell (i:=3) (v:=.slice S5 n.spans.length sc5) rfl
    have c4:=hb5.cell (i:=4) (v:=.slice G5 n.gone.length gc5) rfl
    obtain ⟨⟨g0,g1,g2,g3,g4⟩,fz0,fz1,fz2,fz3,fz4⟩:=Blk.f5 hb'
    have hoff5 : ∀ b,w.heap.size≤b→b≤w.heap.size + 1→OffM b n F5 H5 S5 G5:=fun b h1 h2=>hO5.off (by omega)
    have HQ:=Lib.hid (And.intro (hE.trans hE5) (And.intro hb' (And.intro hbr' (And.intro (hO5.reads.five (hoff5 w.heap.size (Nat.le_refl _) (by omega)) (.int .i64 n.pages) (.slice F5 n.free.length fc5) (.slice H5 n.hands.length hc5) (.slice S5 n.spans.length sc5) (.slice G5 n.gone.length gc5)) (And.intro hoff5 (And.intro (show Chain m l (k + 1) n from ⟨mk,hch,by rw [hx]; exact hd⟩) (And.intro (Nat.le_trans hsz hE5.size) (hL.ext hE5))))))))
    clear hE hsz hch hR hoff hb hbr hL hx hm1 hm2 hb' hbr' hE5 hb5 hO5 hr5 hd hlt hoff5
    go_wp2
    go_roundg (l.length - (k + 1))
    case measure=>go_light; have:=HR.out.2.2.2.2.2.2.2.2.2.2.2; omega
    case rel =>
     obtain ⟨hE,hb',hbr',hR5,hoff5,hch5,hsz5,hL5⟩:=HQ.out
     have hB:=((((hb'.set 0 (.int .i64 n.pages)).set 1 (.slice F5 n.free.length fc5)).set 2 (.slice H5 n.hands.length hc5)).set 3 (.slice S5 n.spans.length sc5)).set 4 (.slice G5 n.gone.length gc5)
     simp only [List.setIfInBounds_toArray,List.set_cons_succ,List.set_cons_zero] at hB
     have hne : w.heap.size + 1≠w.heap.size:=by omega
     have hoL : OffS w.heap.size l.length (some ⟨b,off,none⟩):=HH.out.2.2.2.2.2
     exact ⟨k + 1,n,F5,H5,S5,G5,fc5,hc5,sc5,gc5,by have:=HR.out.2.2.2.2.2.2.2.2.2.2.2; omega,rfl,by go_num,
      (((((hE).setCell (p:=⟨w.heap.size,0,none⟩) hle0 _).setCell (p:=⟨w.heap.size,1,none⟩) hle0 _).setCell (p:=⟨w.heap.size,2,none⟩) hle0 _).setCell (p:=⟨w.heap.size,3,none⟩) hle0 _).setCell (p:=⟨w.heap.size,4,none⟩) hle0 _,
      by simpa using hsz5,hch5,hR5,hoff5,hB,
      ((((hbr'.far (p:=⟨w.heap.size,0,none⟩) hne _).far (p:=⟨w.heap.size,1,none⟩) hne _).far (p:=⟨w.heap.size,2,none⟩) hne _).far (p:=⟨w.heap.size,3,none⟩) hne _).far (p:=⟨w.heap.size,4,none⟩) hne _,
      ((((hL5.off (p:=⟨w.heap.size,0,none⟩) hoL _).off (p:=⟨w.heap.size,1,none⟩) hoL _).off (p:=⟨w.heap.size,2,none⟩) hoL _).off (p:=⟨w.heap.size,3,none⟩) hoL _).off (p:=⟨w.heap.size,4,none⟩) hoL _⟩
set_option maxRecDepth 100000 in
set_option maxHeartbeats 16000000 in
theorem live28_any (m : ModelD) (F H S G : Option Addr) (fc hc sc gc : Nat) (w : World) (hlen : LenM m) (hg63 : ∀ i,i < m.gone.length→ix 0 m.gone i≤9223372036854775807) (hmk : MarksOk m) (hm : ModelR w m F H S G) :
  Calls Tryz.prog 22 #[modelV m F H S G fc hc sc gc] w (LiveP (liveL m) w):=by
 obtain ⟨W0,hW0⟩ : ∃ W0,W0=w.alloc (.cells #[.int .i64 m.pages,.slice F m.free.length fc,.slice H m.hands.length hc,.slice S m.spans.length sc,.slice G m.gone.length gc] 30):=⟨_,rfl⟩
 have e0 : Ext w W0:=hW0▸(Ext.refl w).alloc _
 have ba : Blk W0 w.heap.size 30 #[.int .i64 m.pages,.slice F m.free.length fc,.slice H m.hands.length hc,.slice S m.spans.length sc,.slice G m.gone.length gc]:=hW0▸Blk.new _ _ _ _ rfl
 have HMay : Hid (Calls Tryz.prog 15 #[modelV m F H S G fc hc sc gc] W0 fun e w'=>e=.returned (.bool (B (MayS HoldOk m)))∧Ext W0 w'):=Lib.hid (mayR_any m F H S G fc hc sc gc W0 hlen hg63 (hm.ext e0))
 have HE:=Lib.hid hW0
 have HW : Hid (Ext w W0∧Blk W0 w.heap.size 30 #[.int .i64 m.pages,.slice F m.free.length fc,.slice H m.hands.length hc,.slice S m.spans.length sc,.slice G m.gone.length gc]∧SlR W0 S m.spans.length 8 (holdsV m.spans)):=Lib.hid ⟨e0,ba,SlR.ext hm.spans e0⟩
 have HK:=Lib.hid hmk
 obtain ⟨x0,x1,x2,x3,x4⟩:=Blk.c5 ba
 obtain ⟨i0,hi,hz0,hz1,hz2⟩:=info_parts Tryz.infoMInt
 have HI:=Lib.hid (And.intro hi (And.intro hz0 (And.intro hz1 hz2)))
 clear hi hz0 hz1 hz2
 clear hW0 e0 ba hlen hg63 hm hmk
 unfold modelV at HMay ⊢
 by_cases hmay : MayS HoldOk m
 rotate_left
 ·have hL : liveL m=[]:=by unfold liveL; rw [B_no hmay]; rfl
  rw [B_no hmay] at HMay
  have HL:=Lib.hid hL
  clear hmay hL
  go_enter Tryz.func22,Tryz.ntmps22
  go_upto_region 1 with fail
  rw [← HE.out]
  go_wp2_with (go_at_call 15; (with_reducible refine HMay.out.mono ?_); rintro e w1 ⟨rfl,hE1⟩; have HE1:=Lib.hid hE1; clear hE1)
  go_ret
  rw [HL.out]
  exact ⟨⟨none,0,rfl,SlR.nil⟩,HW.out.1.trans HE1.out⟩
 have hL : liveL m=liveTo m.spans m.spans.length:=by unfold liveL; rw [B_yes hmay]; rfl
 rw [B_yes hmay] at HMay
 have hsl : m.spans.length≤4096:=by have:=hmay.len.1; have:=hmay.pages.2; omega
 have HL:=Lib.hid hL
 have HN:=Lib.hid hmay
 clear hmay hL
 go_enter Tryz.func22,Tryz.ntmps22
 go_upto_region 1 with fail
 rw [← HE.out]
 go_upto_region 4 with (go_at_call 15; (with_reducible refine HMay.out.mono ?_); rintro e w1 ⟨rfl,hE1⟩; have HE1:=Lib.hid hE1; clear hE1)
 clear x0 x1 x2 x3 x4
 go_wp2
 go_loopg [3,4] m.spans.length (fun q v i wr=>∃ k : Nat,k≤m.spans.length∧q=m.spans.length - k∧i=.int .i64 (k : Int)∧Ext W0 wr∧OwnS wr W0.heap.size 3 1 v (liveTo m.spans k).length (intsV (liveTo m.spans k)))
 case atStart=>exact ⟨0,Nat.zero_le _,rfl,rfl,HE1.out,OwnS.nil _ _ _ _ _⟩
 case round =>
  obtain ⟨k,hk,rfl,rfl,hE,hO⟩:=hrel
  have y3:=(HW.out.2.1.ext hE).cell (i:=3) (v:=.slice S m.spans.length sc) rfl
  by_cases hlt : k < m.spans.length
  rotate_left
  ·obtain rfl : k=m.spans.length:=by omega
   have HX:=Lib.hid (And.intro hE hO)
   clear hE hO hlt
   go_wp2
   go_ret
   obtain ⟨A,c,e,_⟩:=HX.out.2.ofSlice
   rw [HL.out]
   subst e
   exact ⟨⟨A,c,rfl,HX.out.2.slr⟩,HW.out.1.trans HX.out.1⟩
  obtain ⟨b,off,rfl,hcl⟩:=HW.out.2.2 (by omega)
  obtain ⟨x,hx⟩ : ∃ x,ix noHold m.spans k=x:=⟨_,rfl⟩
  have hr : ∀ j,j < 8→wr.cell? ⟨b,off + (k * 8 + j),none⟩=some (holdC x j):=fun j hj=>by
   have:=hE.cell (hcl (k * 8 + j) (by omega))
   rw [holdsV_at _ _ _ hj,hx] at this
   exact this
  have a0 : wr.cell? ⟨b,off + k * 8,none⟩=some (.int .i64 x.page):=hr 0 (by omega)
  have a1 : wr.cell? ⟨b,off + k * 8 + 1,none⟩=some (.int .i64 x.pages):=hr 1 (by omega)
  have a2 : wr.cell? ⟨b,off + k * 8 + 2,none⟩=some (.int .i64 x.cls):=hr 2 (by omega)
  have a3 : wr.cell? ⟨b,off + k * 8 + 3,none⟩=some (.int .i64 x.holder):=hr 3 (by omega)
  have a4 : wr.cell? ⟨b,off + k * 8 + 4,none⟩=some (.int .i64 x.claim):=hr 4 (by omega)
  have a5 : wr.cell? ⟨b,off + k * 8 + 5,none⟩=some (.bool x.swept):=hr 5 (by omega)
  have a6 : wr.cell? ⟨b,off + k * 8 + 6,none⟩=some (.int .u64 (x.alloc : Int)):=hr 6 (by omega)
  have a7 : wr.cell? ⟨b,off + k * 8 + 7,none⟩=some (.int .u64 (x.marks : Int)):=hr 7 (by omega)
  have hok:=hx▸(HN.out.span k hlt).1
  have hmx : x.marks < 18446744073709551616:=hx▸HK.out _ (ixMem hlt)
  have HV:=Lib.hid (And.intro (alloc_lt hok) (And.intro hmx (And.intro (liv28_all hok hmx) (slN_le x.cls))))
  have HLk:=Lib.hid (show liveTo m.spans (k + 1)=liveTo m.spans k ++ livS x by rw [← hx]; rfl)
  have HC:=Lib.hid (liveTo_len m.spans k)
  clear hok hmx
  generalize liveTo m.spans k=acc at HLk HC hO
  have q0 : (0 : Int)≤(k : Int):=by omega
  have q1 : (k : Int) < (m.spans.length : Int):=by omega
  obtain ⟨W2,hW2⟩ : ∃ W2,W2=wr.alloc (.cells #[.int .i64 x.page,.int .i64 x.pages,.int .i64 x.cls,.int .i64 x.holder,.int .i64 x.claim,.bool x.swept,.int .u64 (x.alloc : Int),.int .u64 (x.marks : Int)] 51):=⟨_,rfl⟩
  have hE2 : Ext wr W2:=hW2▸(Ext.refl wr).alloc _
  have hbb : Blk W2 wr.heap.size 51 #[.int .i64 x.page,.int .i64 x.pages,.int .i64 x.cls,.int .i64 x.holder,.int .i64 x.claim,.bool x.swept,.int .u64 (x.alloc : Int),.int .u64 (x.marks : Int)]:=hW2▸Blk.new _ _ _ _ rfl
  have HW2:=Lib.hid hW2
  have HR:=Lib.hid (And.intro (hE.trans hE2) (And.intro hbb (hO.ext hE2)))
  clear hW2 hE2 hbb hE hO hr hcl hx
  go_upto_region 8 with fail
  rw [← HW2.out]
  clear a0 a1 a2 a3 a4 a5 a6 a7 y3
  go_wp2
  go_loopg [3,6] (slN x.cls) (fun q v i wy=>∃ j : Nat,j≤slN x.cls∧q=slN x.cls - j∧i=.int .i64 (j : Int)∧Ext W0 wy∧Blk wy wr.heap.size 51 #[.int .i64 x.page,.int .i64 x.pages,.int .i64 x.cls,.int .i64 x.holder,.int .i64 x.claim,.bool x.swept,.int .u64 (x.alloc : Int),.int .u64 (x.marks : Int)]∧OwnS wy W0.heap.size 3 1 v (acc ++ liv28 x j).length (intsV (acc ++ liv28 x j)))
  case atStart=>exact ⟨0,Nat.zero_le _,rfl,rfl,HR.out.1,HR.out.2.1,by rw [liv28_zero,List.append_nil]; exact HR.out.2.2⟩
  case round =>
   obtain ⟨j,hj,rfl,rfl,hE,hb,hO⟩:=hrel
   have b0:=hb.cell (i:=0) (v:=.int .i64 x.page) rfl
   have b2:=hb.cell (i:=2) (v:=.int .i64 x.cls) rfl
   have b5:=hb.cell (i:=5) (v:=.bool x.swept) rfl
   have b6:=hb.cell (i:=6) (v:=.int .u64 (x.alloc : Int)) rfl
   have b7:=hb.cell (i:=7) (v:=.int .u64 (x.marks : Int)) rfl
   have HB0:=Lib.hid (And.intro hE (And.intro hb hO))
   clear hE hb hO
   have hSl:=fun W=>slots1N_any x.cls W
   have HSl:=Lib.hid hSl
   clear hSl
   by_cases hlt2 : j < slN x.cls
   rotate_left
   ·obtain rfl : j=slN x.cls:=by omega
    clear hlt2 b0 b5 b6 b7
    go_wp2_with (go_at_call 25; (with_reducible refine (HSl.out _).mono ?_); rintro e w3 ⟨rfl,hE3⟩; have HE3:=Lib.hid hE3; clear hE3)
    go_roundg (m.spans.length - (k + 1))
    case measure=>go_light; omega
    case rel =>
     refine ⟨k + 1,by omega,rfl,by go_num,HB0.out.1.trans HE3.out,?_⟩
     have hO:=HB0.out.2.2.ext HE3.out
     rw [HV.out.2.2.1] at hO
     rw [HLk.out]
     exact hO
   have q2 : (j : Int) < (slN x.cls : Int):=by omega
   have hs64:=HV.out.2.2.2
   have q3 : (0 : Int)≤(j : Int):=by omega
   have j64 : j < 64:=by have:=HV.out.2.2.2; omega
   have HBa : Hid (∀ W,Calls Tryz.prog 47 #[.int .u64 (x.alloc : Int),.int .i64 (j : Int)] W fun e w'=>e=.returned (.bool (x.alloc.testBit j))∧Ext W w'):=Lib.hid fun W=>bit28_any x.alloc j W HV.out.1 j64
   have HBm : Hid (∀ W,Calls Tryz.prog 47 #[.int .u64 (x.marks : Int),.int .i64 (j : Int)] W fun e w'=>e=.returned (.bool (x.marks.testBit j))∧Ext W w'):=Lib.hid fun W=>bit28_any x.marks j W HV.out.2.1 j64
   have hcs : (x.alloc.testBit j=false∧livB x j=false)∨(x.alloc.testBit j=true∧x.swept=false∧x.marks.testBit j=false∧livB x j=false)∨(x.alloc.testBit j=true∧x.swept=true∧livB x j=true)∨(x.alloc.testBit j=true∧x.swept=false∧x.marks.testBit j=true∧livB x j=true):=by
    unfold livB
    cases x.alloc.testBit j <;> cases x.swept <;> cases x.marks.testBit j <;> simp
   clear j64
   rcases hcs with ⟨ea,hl⟩ | ⟨ea,es,em,hl⟩ | ⟨ea,es,hl⟩ | ⟨ea,es,em,hl⟩
   ·rw [ea] at HBa
    have HLL:=Lib.hid (liv28_no hl)
    clear ea hl HBm
    go_wp2_with (first
     |(go_at_call 25; (with_reducible refine (HSl.out _).mono ?_); rintro e w3 ⟨rfl,hE3⟩; have c6:=hE3.cell b6; have HE3:=Lib.hid hE3; clear hE3)
     |(go_at_call 47; (with_reducible refine (HBa.out _).mono ?_); rintro e w4 ⟨rfl,hE4⟩; have HE4:=Lib.hid hE4; clear hE4))
    go_roundg (slN x.cls - (j + 1))
    case measure=>go_light; omega
    case rel =>
     have hx:=HE3.out.trans HE4.out
     exact ⟨j + 1,by omega,rfl,by go_num,HB0.out.1.trans hx,HB0.out.2.1.ext hx,by rw [HLL.out]; exact HB0.out.2.2.ext hx⟩
   ·rw [ea] at HBa
    rw [em] at HBm
    rw [es] at b5
    have HLL:=Lib.hid (liv28_no hl)
    clear ea hl em es
    go_wp2_with (first
     |(go_at_call 25; (with_reducible refine (HSl.out _).mono ?_); rintro e w3 ⟨rfl,hE3⟩; have c6:=hE3.cell b6; have HE3:=Lib.hid hE3; clear hE3)
     |(go_at_call 47; (with_reducible refine (HBa.out _).mono ?_); rintro e w4 ⟨rfl,hE4⟩; have d5:=(HE3.out.trans hE4).cell b5; have d7:=(HE3.out.trans hE4).cell b7; have HE4:=Lib.hid (HE3.out.trans hE4); clear hE4)
     |(go_at_call 47; (with_reducible refine (HBm.out _).mono ?_); rintro e w5 ⟨rfl,hE5⟩; have HE5:=Lib.hid (HE4.out.trans hE5); clear hE5))
    go_roundg (slN x.cls - (j + 1))
    case measure=>go_light; omega
    case rel=>exact ⟨j + 1,by omega,rfl,by go_num,HB0.out.1.trans HE5.out,HB0.out.2.1.ext HE5.out,by rw [HLL.out]; exact HB0.out.2.2.ext HE5.out⟩
   ·rw [ea] at HBa
    rw [es] at b5
    have HLL:=Lib.hid (liv28_yes hl)
    clear ea hl es HBm
    go_upto_region 12 with (first
     |(go_at_call 25; (with_reducible refine (HSl.out _).mono ?_); rintro e w3 ⟨rfl,hE3⟩; have c6:=hE3.cell b6; have HE3:=Lib.hid hE3; clear hE3)
     |(go_at_call 47; (with_reducible refine (HBa.out _).mono ?_); rintro e w4 ⟨rfl,hE4⟩; have d5:=(HE3.out.trans hE4).cell b5; have HE4:=Lib.hid (HE3.out.trans hE4); clear hE4))
    have HEL:=Lib.hid HE4.out
    clear c6 d5
    obtain ⟨wL,hwL⟩ : ∃ wL,wL=w4:=⟨_,rfl⟩
    subst hwL
    have f0:=HEL.out.cell b0
    have f2:=HEL.out.cell b2
    clear b0 b2 b5 b6 b7
    go_wp2_with fail
    go_at_call 48
    refine (begin1_any _ _ _ _).mono ?_
    rintro e w6 ⟨rfl,hE6⟩
    have HE6:=Lib.hid (HEL.out.trans hE6)
    have HOL:=Lib.hid (HB0.out.2.2.ext (HEL.out.trans hE6))
    have hsz3 : W0.heap.size≤w6.heap.size:=(HB0.out.1.trans (HEL.out.trans hE6)).size
    have hll : (acc ++ liv28 x j).length≤64 * k + 64:=by rw [List.length_append]; have:=HC.out; have:=liv28_len x j; have:=HV.out.2.2.2; omega
    have HLc:=Lib.hid (show acc ++ liv28 x (j + 1)=(acc ++ liv28 x j) ++ [begC x.page x.cls j] by rw [HLL.out,List.append_assoc])
    generalize acc ++ liv28 x j=L at HOL hll HLc
    generalize begC x.page x.cls (j : Int)=p at HLc ⊢
    clear hE6 f0 f2
    go_wp2_with (at_builtin; go_loud (refine wpList_push rfl _ _ 28 rfl W0.heap.size 3 i0 (.int .i64 0) 1 8 Tryz.underlying28 HI.out.1 HI.out.2.1 HI.out.2.2.1 HI.out.2.2.2 rfl (by decide) _ L.length (intsV L) rfl (HOL.out.ext ((Ext.refl _).alloc _)) ⟨w6.heap.size,0,none⟩ 1 (fun _=>.int .i64 p) rfl (fun j hj=>by obtain rfl : j=0:=(by omega); exact cell_new _ _ _ 0 _ rfl) (fun _ _=>rfl) ?b63 ?bby ?bba _ rfl (intsV (L ++ [p])) (fun j hj=>intsV_old hj) (fun j hj=>intsV_new hj) ?_); (case b63=>unfold maxLen; omega); (case bby=>omega); (case bba=>simp; omega); intro gq capq w7 hO7 hgrow hExt hor hg4)
    go_roundg (slN x.cls - (j + 1))
    case measure=>go_light; omega
    case rel =>
     have hB3:=(HB0.out.2.1.ext HE6.out).alloc (.cells #[.int .i64 p] 3)
     have hV3:=HOL.out.ext ((Ext.refl w6).alloc (.cells #[.int .i64 p] 3))
     refine ⟨j + 1,by omega,rfl,by simp,hExt W0 ((HB0.out.1.trans HE6.out).alloc _) (Nat.le_refl _),hB3.grown hgrow (Ne.symm (own_ne_blk hV3 hB3 (by decide))),?_⟩
     rw [HLc.out,List.length_append]
     exact hO7
   ·rw [ea] at HBa
    rw [em] at HBm
    rw [es] at b5
    have HLL:=Lib.hid (liv28_yes hl)
    clear ea hl es em
    go_upto_region 12 with (first
     |(go_at_call 25; (with_reducible refine (HSl.out _).mono ?_); rintro e w3 ⟨rfl,hE3⟩; have c6:=hE3.cell b6; have HE3:=Lib.hid hE3; clear hE3)
     |(go_at_call 47; (with_reducible refine (HBa.out _).mono ?_); rintro e w4 ⟨rfl,hE4⟩; have d5:=(HE3.out.trans hE4).cell b5; have d7:=(HE3.out.trans hE4).cell b7; have HE4:=Lib.hid (HE3.out.trans hE4); clear hE4)
     |(go_at_call 47; (with_reducible refine (HBm.out _).mono ?_); rintro e w5 ⟨rfl,hE5⟩; have HE5:=Lib.hid (HE4.out.trans hE5); clear hE5))
    have HEL:=Lib.hid HE5.out
    clear c6 d5 d7
    obtain ⟨wL,hwL⟩ : ∃ wL,wL=w5:=⟨_,rfl⟩
    subst hwL
    have f0:=HEL.out.cell b0
    have f2:=HEL.out.cell b2
    clear b0 b2 b5 b6 b7
    go_wp2_with fail
    go_at_call 48
    refine (begin1_any _ _ _ _).mono ?_
    rintro e w6 ⟨rfl,hE6⟩
    have HE6:=Lib.hid (HEL.out.trans hE6)
    have HOL:=Lib.hid (HB0.out.2.2.ext (HEL.out.trans hE6))
    have hsz3 : W0.heap.size≤w6.heap.size:=(HB0.out.1.trans (HEL.out.trans hE6)).size
    have hll : (acc ++ liv28 x j).length≤64 * k + 64:=by rw [List.length_append]; have:=HC.out; have:=liv28_len x j; have:=HV.out.2.2.2; omega
    have HLc:=Lib.hid (show acc ++ liv28 x (j + 1)=(acc ++ liv28 x j) ++ [begC x.page x.cls j] by rw [HLL.out,List.append_assoc])
    generalize acc ++ liv28 x j=L at HOL hll HLc
    generalize begC x.page x.cls (j : Int)=p at HLc ⊢
    clear hE6 f0 f2
    go_wp2_with (at_builtin; go_loud (refine wpList_push rfl _ _ 28 rfl W0.heap.size 3 i0 (.int .i64 0) 1 8 Tryz.underlying28 HI.out.1 HI.out.2.1 HI.out.2.2.1 HI.out.2.2.2 rfl (by decide) _ L.length (intsV L) rfl (HOL.out.ext ((Ext.refl _).alloc _)) ⟨w6.heap.size,0,none⟩ 1 (fun _=>.int .i64 p) rfl (fun j hj=>by obtain rfl : j=0:=(by omega); exact cell_new _ _ _ 0 _ rfl) (fun _ _=>rfl) ?b63 ?bby ?bba _ rfl (intsV (L ++ [p])) (fun j hj=>intsV_old hj) (fun j hj=>intsV_new hj) ?_); (case b63=>unfold maxLen; omega); (case bby=>omega); (case bba=>simp; omega); intro gq capq w7 hO7 hgrow hExt hor hg4)
    go_roundg (slN x.cls - (j + 1))
    case measure=>go_light; omega
    case rel =>
     have hB3:=(HB0.out.2.1.ext HE6.out).alloc (.cells #[.int .i64 p] 3)
     have hV3:=HOL.out.ext ((Ext.refl w6).alloc (.cells #[.int .i64 p] 3))
     refine ⟨j + 1,by omega,rfl,by simp,hExt W0 ((HB0.out.1.trans HE6.out).alloc _) (Nat.le_refl _),hB3.grown hgrow (Ne.symm (own_ne_blk hV3 hB3 (by decide))),?_⟩
     rw [HLc.out,List.length_append]
     exact hO7
def AccC (m : ModelD) (x : MarkD) (b : Bool) (m' : ModelD) : Prop:=(b=false∧m'=noModel∧(¬ MayS HoldOk m∨DoesN m x))∨(b=true∧MayS HoldOk m∧DoesR m x m')
theorem acc_same {m m1 m2 : ModelD} {x : MarkD} {b1 b2 : Bool} (h1 : AccC m x b1 m1) (h2 : AccC m x b2 m2) : b1=b2∧m1=m2:=by
 rcases h1 with ⟨rfl,rfl,a⟩ | ⟨rfl,a,c⟩ <;> rcases h2 with ⟨rfl,rfl,p⟩ | ⟨rfl,p,q⟩
 ·exact ⟨rfl,rfl⟩
 ·exact absurd (a.elim (fun h=>h p) (fun h=>does_no (may2_iff.1 p) q h)) id
 ·exact absurd (p.elim (fun h=>h a) (fun h=>does_no (may2_iff.1 a) c h)) id
 ·exact ⟨rfl,does_fun (may2_iff.1 a) c q⟩
theorem noModel_len : LenM noModel:=⟨by decide,by decide,by decide,by decide⟩
theorem acc_len {m m1 : ModelD} {x : MarkD} {b1 : Bool} (h1 : AccC m x b1 m1) (hmk : MarksOk m) (hx : MarkOk x) : LenM m1:=by
 rcases h1 with ⟨rfl,rfl,a⟩ | ⟨rfl,a,c⟩
 ·exact noModel_len
 ·exact may2_len (does_may (may2_iff.1 a) hmk hx c).1
theorem chain_fun {m : ModelD} {l : List MarkD} (h : May2 m) (hmk : MarksOk m) : ∀ k a b,(∀ j,j < k→MarkOk (ix noMark l j))→Chain m l k a→Chain m l k b→a=b
 | 0,a,b,_,ha,hb=>by cases ha; cases hb; rfl
 | k + 1,a,b,hx,⟨a1,ha,da⟩,⟨b1,hb,db⟩=>by
  have hx' : ∀ j,j < k→MarkOk (ix noMark l j):=fun j hj=>hx j (by omega)
  obtain rfl:=chain_fun h hmk k a1 b1 hx' ha hb
  exact does_fun (chain_may h hmk k a1 hx' ha).1.1 da db
theorem chain_cut {m : ModelD} {l : List MarkD} : ∀ (k j : Nat) (c : ModelD),Chain m l k c→j < k→∃ a b,Chain m l j a∧DoesR a (ix noMark l j) b
 | 0,j,c,_,hj=>absurd hj (by omega)
 | k + 1,j,c,⟨a,ha,da⟩,hj=>by
  by_cases e : j=k
  ·subst e; exact ⟨a,c,ha,da⟩
  ·exact chain_cut k j a ha (by omega)
def AllC (m : ModelD) (l : List MarkD) (n : Int) (b : Bool) (m' : ModelD) : Prop:=(b=false∧n=0∧m'=noModel∧¬ MayS HoldOk m)∨(MayS HoldOk m∧∃ k : Nat,n=(k : Int)∧Chain m l k m'∧((b=true∧k=l.length)∨(b=false∧k < l.length∧DoesN m' (ix noMark l k))))
theorem all_same {m m1 m2 : ModelD} {l : List MarkD} {n1 n2 : Int} {b1 b2 : Bool} (hmk : MarksOk m) (hx : ∀ j,j < l.length→MarkOk (ix noMark l j)) (h1 : AllC m l n1 b1 m1) (h2 : AllC m l n2 b2 m2) : b1=b2∧n1=n2∧m1=m2:=by
 rcases h1 with ⟨rfl,rfl,rfl,a⟩ | ⟨a,k,rfl,hc,hk⟩ <;> rcases h2 with ⟨rfl,rfl,rfl,p⟩ | ⟨p,q,rfl,hd,hq⟩
 ·exact ⟨rfl,rfl,rfl⟩
 ·exact absurd p a
 ·exact absurd a p
 ·have hm:=may2_iff.1 a
  have no : ∀ {k q : Nat} {m1 m2 : ModelD},Chain m l k m1→Chain m l q m2→DoesN m1 (ix noMark l k)→k < q→q≤l.length→False:=fun {k q m1 m2} hc hd hn hkq hql=>by
   obtain ⟨u,v,hu,hv⟩:=chain_cut q k m2 hd hkq
   have hx' : ∀ j,j < k→MarkOk (ix noMark l j):=fun j hj=>hx j (by omega)
   obtain rfl:=chain_fun hm hmk k m1 u hx' hc hu
   exact does_no (chain_may hm hmk k m1 hx' hc).1.1 hv hn
  have hkl : k≤l.length:=by rcases hk with ⟨_,h⟩ | ⟨_,h,_⟩ <;> omega
  have hql : q≤l.length:=by rcases hq with ⟨_,h⟩ | ⟨_,h,_⟩ <;> omega
  have e : k=q:=by
   rcases Nat.lt_trichotomy k q with h | h | h
   ·rcases hk with ⟨_,e⟩ | ⟨_,_,hn⟩
    ·omega
    ·exact absurd (no hc hd hn h hql) id
   ·exact h
   ·rcases hq with ⟨_,e⟩ | ⟨_,_,hn⟩
    ·omega
    ·exact absurd (no hd hc hn h hkl) id
  subst e
  refine ⟨?_,rfl,chain_fun hm hmk k m1 m2 (fun j hj=>hx j (by omega)) hc hd⟩
  rcases hk with ⟨rfl,e⟩ | ⟨rfl,e,_⟩ <;> rcases hq with ⟨rfl,e2⟩ | ⟨rfl,e2,_⟩
  ·rfl
  ·omega
  ·omega
  ·rfl
theorem all_len {m m1 : ModelD} {l : List MarkD} {n1 : Int} {b1 : Bool} (h1 : AllC m l n1 b1 m1) (hmk : MarksOk m) (hx : ∀ j,j < l.length→MarkOk (ix noMark l j)) : LenM m1:=by
 rcases h1 with ⟨rfl,rfl,rfl,a⟩ | ⟨a,k,rfl,hc,hk⟩
 ·exact noModel_len
 ·have hkl : k≤l.length:=by rcases hk with ⟨_,h⟩ | ⟨_,h,_⟩ <;> omega
  exact may2_len (chain_may (may2_iff.1 a) hmk k m1 (fun j hj=>hx j (by omega)) hc).1.1
theorem new_len (p : Int) : LenM (newM p):=by
 unfold newM
 cases B (1≤p∧p≤4096)
 ·exact noModel_len
 ·exact ⟨show (1 : Nat)≤1000000 by decide,show (0 : Nat)≤1000000 by decide,show (0 : Nat)≤1000000 by decide,show (0 : Nat)≤1000000 by decide⟩
set_option maxHeartbeats 4000000 in
set_option maxRecDepth 100000 in
theorem roomM_any (m : ModelD) (F H S G : Option Addr) (fc hc sc gc : Nat) (t c n : Int) (w : World) (hlen : LenM m) (hm : ModelR w m F H S G) (hT : Tab w) :
  Calls Tryz.prog 18 #[modelV m F H S G fc hc sc gc,.int .i64 t,.int .i64 c,.int .i64 n] w fun e w'=>e=.returned (.bool (B (MayS HoldOk m∧HasP m t c n)))∧Ext w w':=by
 obtain ⟨W0,hW0⟩ : ∃ W0,W0=w.alloc (.cells #[.int .i64 m.pages,.slice F m.free.length fc,.slice H m.hands.length hc,.slice S m.spans.length sc,.slice G m.gone.length gc] 30):=⟨_,rfl⟩
 have e0 : Ext w W0:=hW0▸(Ext.refl w).alloc _
 have ba : Blk W0 w.heap.size 30 #[.int .i64 m.pages,.slice F m.free.length fc,.slice H m.hands.length hc,.slice S m.spans.length sc,.slice G m.gone.length gc]:=hW0▸Blk.new _ _ _ _ rfl
 have HMay : Hid (Calls Tryz.prog 14 #[modelV m F H S G fc hc sc gc] W0 fun e w'=>e=.returned (.bool (B (MayS HoldOk m)))∧Ext W0 w'):=Lib.hid (mayM_any m F H S G fc hc sc gc W0 ⟨hlen.free,hlen.hands,hlen.spans⟩ hlen.gone (hm.ext e0) (hT.ext e0))
 have HHas : Hid (∀ W,Ext W0 W→Calls Tryz.prog 43 #[modelV m F H S G fc hc sc gc,.int .i64 t,.int .i64 c,.int .i64 n] W fun e w'=>e=.returned (.bool (B (HasP m t c n)))∧Ext W w'):=Lib.hid fun W hE=>has_any m F H S G fc hc sc gc t c n W (hT.ext (e0.trans hE)) ⟨hlen.free,hlen.spans⟩ (SlR.ext hm.free (e0.trans hE)) (SlR.ext hm.spans (e0.trans hE))
 have HE:=Lib.hid hW0
 have HW:=Lib.hid (And.intro e0 ba)
 obtain ⟨x0,x1,x2,x3,x4⟩:=Blk.c5 ba
 clear hW0 e0 ba hlen hm hT
 unfold modelV at HMay HHas ⊢
 by_cases hmay : MayS HoldOk m
 ·rw [B_yes hmay] at HMay
  have HB : Hid (B (MayS HoldOk m∧HasP m t c n)=B (HasP m t c n)):=Lib.hid (B_congr ⟨fun hh=>hh.2,fun hh=>⟨hmay,hh⟩⟩)
  clear hmay
  go_enter Tryz.func18,Tryz.ntmps18
  go_upto_region 1 with fail
  rw [← HE.out]
  go_wp2_with (first
   |(go_at_call 14; (with_reducible refine HMay.out.mono ?_); rintro e w1 ⟨rfl,hE1⟩; have y0:=hE1.cell x0; have y1:=hE1.cell x1; have y2:=hE1.cell x2; have y3:=hE1.cell x3; have y4:=hE1.cell x4; have HE1:=Lib.hid hE1; clear hE1)
   |(go_at_call 43; (with_reducible refine (HHas.out _ HE1.out).mono ?_); rintro e w2 ⟨rfl,hE2⟩; have HE2:=Lib.hid hE2; clear hE2))
  go_ret
  rw [HB.out]
  exact ⟨rfl,(HW.out.1.trans HE1.out).trans HE2.out⟩
 ·rw [B_no hmay] at HMay
  have HB:=Lib.hid (B_no (show ¬ (MayS HoldOk m∧HasP m t c n) from fun hh=>hmay hh.1))
  clear hmay
  go_enter Tryz.func18,Tryz.ntmps18
  go_upto_region 1 with fail
  rw [← HE.out]
  go_wp2_with (go_at_call 14; (with_reducible refine HMay.out.mono ?_); rintro e w1 ⟨rfl,hE1⟩; have HE1:=Lib.hid hE1; clear hE1)
  go_ret
  rw [HB.out]
  exact ⟨rfl,HW.out.1.trans HE1.out⟩
end Go.Proofs.YtoolenhnhlfhmaaGreatDoor
