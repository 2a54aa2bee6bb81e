/- Slices that do not lie in a block; how long a model's rows are. Walks: the document's May. Walks: copied (printed by gen_cop.py). Walks: the document's model behind a pointer. -/
import Derived.Test.YtoolenhnhlfhmaaGreatDoorGQ
import Derived.Test.YtoolenhnhlfhmaaGreatDoorGF
import Derived.Test.YtoolenhnhlfhmaaGreatDoorMdL
import Derived.Test.YtoolenhnhlfhmaaGreatDoorGB
namespace Go.Proofs.YtoolenhnhlfhmaaGreatDoor
open Go.RowKit Go.Sort
set_option linter.unusedVariables false
set_option linter.unusedSimpArgs false
/-- A slice that does not lie in a block. -/
def OffS (b n : Nat) (A : Option Addr) : Prop:=0 < n→∀ a,A=some a→a.block≠b
structure OffM (b : Nat) (m : ModelD) (F H S G : Option Addr) : Prop where
 free : OffS b m.free.length F
 hands : OffS b m.hands.length H
 spans : OffS b m.spans.length S
 gone : OffS b m.gone.length G
theorem SlR.off {w : World} {A : Option Addr} {n sz : Nat} {f : Nat→Value} (h : SlR w A n sz f) {p : Addr} (ho : OffS p.block n A) (v : Value) : SlR (w.setCell p v) A n sz f:=fun hn=>by
 obtain ⟨b,off,rfl,hc⟩:=h hn
 have hb:=ho hn _ rfl
 exact ⟨b,off,rfl,fun j hj=>(World.cell?_setCell_far w p ⟨b,off + j,none⟩ v (fun e=>hb e.symm)).trans (hc j hj)⟩
theorem SlR.offSize {w : World} {A : Option Addr} {n sz : Nat} {f : Nat→Value} (h : SlR w A n sz f) (hs : 0 < sz) : OffS w.heap.size n A:=fun hn a e=>by
 obtain ⟨b,off,rfl,hc⟩:=h hn
 obtain rfl : a=⟨b,off,none⟩:=(Option.some.inj e).symm
 have:=World.block_lt_of_cell? _ _ (hc 0 (Nat.mul_pos hn hs))
 dsimp only at this ⊢
 omega
theorem OwnS.off {w : World} {base : Nat} {t : TypeId} {sz n c : Nat} {A : Option Addr} {f : Nat→Value} (h : OwnS w base t sz (.slice A n c) n f) {b : Nat} (hb : b < base) : OffS b n A:=fun _ a e=>by
 subst e
 have:=(World.ownsRow.lt h a.block rfl).1
 omega
theorem ModelR.off {w : World} {m : ModelD} {F H S G : Option Addr} (h : ModelR w m F H S G) {p : Addr} (ho : OffM p.block m F H S G) (v : Value) : ModelR (w.setCell p v) m F H S G:=⟨h.free.off ho.free v,h.hands.off ho.hands v,h.spans.off ho.spans v,h.gone.off ho.gone v⟩
theorem ModelR.offSize {w : World} {m : ModelD} {F H S G : Option Addr} (h : ModelR w m F H S G) : OffM w.heap.size m F H S G:=⟨h.free.offSize (by decide),h.hands.offSize (by decide),h.spans.offSize (by decide),h.gone.offSize (by decide)⟩
theorem OwnM.off {w : World} {base : Nat} {m : ModelD} {F H S G : Option Addr} {fc hc sc gc : Nat} (h : OwnM w base m (.slice F m.free.length fc) (.slice H m.hands.length hc) (.slice S m.spans.length sc) (.slice G m.gone.length gc)) {b : Nat} (hb : b < base) : OffM b m F H S G:=⟨h.free.off hb,h.hands.off hb,h.spans.off hb,h.gone.off hb⟩
theorem may2_len {m : ModelD} (h : May2 m) : LenM m:=by
 have hp:=h.pages
 obtain ⟨k1,k2⟩:=(may2_iff.2 h).len
 have hlp:=pcs_length m
 exact ⟨by omega,by omega,by omega,by omega⟩
theorem gone_in {m : ModelD} (hl : LaidTo m.pages (pcs m) (pcs m).length) (hc : CoverTo m.pages (pcs m) (pcs m).length) (p : Int) :
  (InFree m p∨InHandP m p (-1))↔((0≤p∧p < m.pages)∧∀ j,j < m.spans.length→¬ InP ((ix noHold m.spans j).page,(ix noHold m.spans j).pages) p):=by
 have hlen:=pcs_length m
 constructor
 ·rintro (⟨i,hi,hin⟩ | ⟨i,hi,hin,_⟩)
  ·have hf:=hl i (by omega)
   rw [pcs_free hi] at hf
   refine ⟨hf.1.lt hin,fun j hj hin2=>?_⟩
   have hs:=hl (m.free.length + (m.hands.length + j)) (by omega)
   rw [pcs_span hj] at hs
   have:=hs.2 i (by omega) p hin2
   rw [pcs_free hi] at this
   exact this hin
  ·have hf:=hl (m.free.length + i) (by omega)
   rw [pcs_hand hi] at hf
   refine ⟨hf.1.lt hin,fun j hj hin2=>?_⟩
   have hs:=hl (m.free.length + (m.hands.length + j)) (by omega)
   rw [pcs_span hj] at hs
   have:=hs.2 (m.free.length + i) (by omega) p hin2
   rw [pcs_hand hi] at this
   exact this hin
 ·rintro ⟨⟨h0,h1⟩,hno⟩
  obtain ⟨i,hi,hin⟩:=hc p h0 h1
  by_cases a : i < m.free.length
  ·rw [pcs_free a] at hin
   exact .inl ⟨i,a,hin⟩
  ·obtain ⟨q,rfl⟩ : ∃ q,i=m.free.length + q:=⟨i - m.free.length,by omega⟩
   by_cases b : q < m.hands.length
   ·rw [pcs_hand b] at hin
    exact .inr ⟨q,b,hin,.inl (by decide)⟩
   ·obtain ⟨r,rfl⟩ : ∃ r,q=m.hands.length + r:=⟨q - m.hands.length,by omega⟩
    rw [pcs_span (by omega)] at hin
    exact absurd hin (hno r (by omega))
set_option maxHeartbeats 8000000 in
set_option maxRecDepth 100000 in
theorem mayR_any (m : ModelD) (F H S G : Option Addr) (fc hc sc gc : Nat) (w : World) (hlen : LenM m) (hg63 : ∀ i,i < m.gone.length→ix 0 m.gone i≤9223372036854775807) (hm : ModelR w m F H S G) :
  Calls Tryz.prog 15 #[modelV m F H S G fc hc sc gc] w fun e w'=>e=.returned (.bool (B (MayS HoldOk m)))∧Ext w w':=by
 obtain ⟨Wb,hWb⟩ : ∃ Wb,w.alloc (.cells #[.int .i64 m.pages,.slice F m.free.length fc,.slice H m.hands.length hc,.slice S m.spans.length sc,.slice G m.gone.length gc] 30)=Wb:=⟨_,rfl⟩
 have hEb : Ext w Wb:=hWb▸(Ext.refl _).alloc _
 have b0 : Blk Wb w.heap.size 30 #[.int .i64 m.pages,.slice F m.free.length fc,.slice H m.hands.length hc,.slice S m.spans.length sc,.slice G m.gone.length gc]:=hWb▸Blk.new _ _ _ _ rfl
 obtain ⟨x0,x1,x2,x3,x4⟩:=Blk.c5 b0
 have l1:=hlen.free
 have l2:=hlen.hands
 have l3:=hlen.spans
 have l4:=hlen.gone
 have HB:=Lib.hid (And.intro b0 (And.intro hEb (hm.ext hEb)))
 have HWb:=Lib.hid hWb
 clear b0 hEb hm hWb hlen
 have s1 : IntKind.i64.wrap ((m.free.length : Int) + m.hands.length)=(m.free.length : Int) + m.hands.length:=by rw [IntKind.wrap_i64]; omega
 have s2 : IntKind.i64.wrap ((m.free.length : Int) + m.hands.length + m.spans.length)=(m.free.length : Int) + m.hands.length + m.spans.length:=by rw [IntKind.wrap_i64]; omega
 by_cases hp : (1≤m.pages∧m.pages≤4096)∧((m.free.length : Int) + m.hands.length + m.spans.length≤m.pages∧(m.gone.length : Int)≤m.pages)
 rotate_left
 ·have HN:=Lib.hid hp
  have hcs : decide (m.pages < 1)=true∨(decide (m.pages < 1)=false∧decide (4096 < m.pages)=true)∨(decide (m.pages < 1)=false∧decide (4096 < m.pages)=false∧decide (m.pages < (m.free.length : Int) + m.hands.length + m.spans.length)=true)∨(decide (m.pages < 1)=false∧decide (4096 < m.pages)=false∧decide (m.pages < (m.free.length : Int) + m.hands.length + m.spans.length)=false∧decide (m.pages < (m.gone.length : Int))=true):=by
   simp only [decide_eq_true_eq,decide_eq_false_iff_not]; omega
  clear hp
  rcases hcs with d1 | ⟨d1,d2⟩ | ⟨d1,d2,d3⟩ | ⟨d1,d2,d3,d4⟩
  all_goals
   go_enter Tryz.func15,Tryz.ntmps15
   unfold modelV
   go_upto_region 1 with fail
   rw [HWb.out]
   go_wp2
   go_ret
   exact ⟨ret_bool (B_no fun hh=>HN.out (by have h2:=hh.len; have h1:=hh.pages; omega)).symm,HB.out.2.1⟩
 obtain ⟨⟨p1,p2'⟩,p3',p4'⟩:=hp
 have d1 : decide (m.pages < 1)=false:=decide_eq_false (by omega)
 have d2 : decide (4096 < m.pages)=false:=decide_eq_false (by omega)
 have d3 : decide (m.pages < (m.free.length : Int) + m.hands.length + m.spans.length)=false:=decide_eq_false (by omega)
 have d4 : decide (m.pages < (m.gone.length : Int))=false:=decide_eq_false (by omega)
 obtain ⟨P,hP⟩ : ∃ P : Nat,m.pages=(P : Int):=⟨m.pages.toNat,by omega⟩
 have hpc:=pieces_any m P F H S G fc hc sc gc Wb hP (by omega) (by omega) (by omega) HB.out.2.2
 unfold modelV at hpc
 have HPc:=Lib.hid (And.intro hpc hP)
 have P1 : P≤4096:=by omega
 have P2 : 1≤P:=by omega
 clear hpc hP
 go_enter Tryz.func15,Tryz.ntmps15
 unfold modelV
 go_upto_region 1 with fail
 rw [HWb.out]
 go_upto_region 5 with (go_at_call 39; (with_reducible refine HPc.out.1.mono ?_); rintro e w1 ⟨⟨g,C,ok,rfl,hO,hK⟩,hE1⟩; have HO:=Lib.hid (And.intro hO (And.intro hK hE1)); clear hO hK hE1)
 have hw1:=HB.out.2.1.trans HO.out.2.2
 have hb1:=HB.out.1.ext HO.out.2.2
 obtain ⟨y0,y1,y2,y3,y4⟩:=Blk.c5 hb1
 have HW1:=Lib.hid (And.intro hw1 (And.intro hb1 (HB.out.2.2.ext HO.out.2.2)))
 clear hw1 hb1 x0 x1 x2 x3 x4
 have hcv : (ok=true∧∀ p : Nat,p < P→C p=1)↔LaidTo m.pages (pcs m) (pcs m).length∧CoverTo m.pages (pcs m) (pcs m).length:=by
  rw [← laid_iff]
  obtain ⟨k1,_,k2⟩:=HO.out.2.1
  have hP:=HPc.out.2
  constructor
  ·rintro ⟨h1,h2⟩
   refine ⟨fun i hi=>by rw [hP]; exact k1.1 h1 i hi,fun p h0 hp=>?_⟩
   obtain ⟨q,rfl⟩ : ∃ q : Nat,p=(q : Int):=⟨p.toNat,by omega⟩
   have a:=k2 h1 q (by omega)
   rw [h2 q (by omega)] at a
   omega
  ·rintro ⟨h1,h2⟩
   have h3 : ok=true:=k1.2 fun i hi=>by rw [← hP]; exact h1 i hi
   refine ⟨h3,fun p hp=>?_⟩
   rw [k2 h3 p hp]
   have:=h2 (p : Int) (by omega) (by omega)
   omega
 have HCV:=Lib.hid hcv
 clear hcv
 go_loopg [4,5] P (fun q okv i wr=>∃ (k : Nat) (o : Bool),k≤P∧q=P - k∧okv=.bool o∧i=.int .i64 (k : Int)∧wr=w1∧(o=true↔ok=true∧∀ p,p < k→C p=1))
 case atStart=>exact ⟨0,ok,Nat.zero_le _,rfl,rfl,rfl,rfl,⟨fun h=>⟨h,fun p hp=>absurd hp (by omega)⟩,fun h=>h.1⟩⟩
 case round =>
  obtain ⟨k,o,hk,rfl,rfl,rfl,hwr,ho⟩:=hrel
  replace hwr:=hwr.symm
  subst hwr
  have HOk:=Lib.hid ho
  clear ho
  cases o with
  | false =>
   have hno : ¬ MayS HoldOk m:=fun hh=>by
    have h1:=HCV.out.2 ⟨hh.laid,hh.cover⟩
    have h2:=HOk.out.2 ⟨h1.1,fun p hp=>h1.2 p (by omega)⟩
    cases h2
   have HNo:=Lib.hid hno
   clear hno
   by_cases hlt : k < P
   ·have q1 : (k : Int) < (P : Int):=by omega
    go_wp2
    go_ret
    exact ⟨ret_bool (B_no HNo.out).symm,HW1.out.1⟩
   ·obtain rfl : k=P:=by omega
    go_wp2
    go_ret
    exact ⟨ret_bool (B_no HNo.out).symm,HW1.out.1⟩
  | true =>
   have HT:=Lib.hid (rfl : true=true)
   by_cases hlt : k < P
   ·have c0:=HO.out.1.cellAt (j:=k) (by omega)
    have q0 : (0 : Int)≤(k : Int):=by omega
    have q1 : (k : Int) < (P : Int):=by omega
    by_cases h1 : C k=1
    ·have e1 : (C k == 1)=true:=by simpa using h1
     have H1:=Lib.hid h1
     clear h1
     go_wp2
     go_roundg (P - (k + 1))
     case measure=>go_light; omega
     case rel =>
      exact ⟨k + 1,true,by omega,rfl,rfl,by go_num,rfl,⟨fun _=>⟨(HOk.out.1 HT.out).1,fun p hp=>by
       by_cases e : p=k
       ·subst e; exact H1.out
       ·exact (HOk.out.1 HT.out).2 p (by omega)⟩,fun _=>rfl⟩⟩
    ·have e1 : (C k == 1)=false:=by simpa using h1
     have H1:=Lib.hid h1
     clear h1
     go_wp2
     go_roundg (P - (k + 1))
     case measure=>go_light; omega
     case rel =>
      exact ⟨k + 1,false,by omega,rfl,rfl,by go_num,rfl,⟨fun h=>(by cases h),fun h=>absurd (h.2 k (by omega)) H1.out⟩⟩
   obtain rfl : k=P:=by omega
   have hlc:=HCV.out.1 (HOk.out.1 HT.out)
   have HLC:=Lib.hid hlc
   clear hlc
   go_wp2
   go_loopg [6] m.free.length (fun q i wr=>∃ k : Nat,k≤m.free.length∧q=m.free.length - k∧i=.int .i64 (k : Int)∧Ext w1 wr∧FreeTo m k)
   case atStart=>exact ⟨0,Nat.zero_le _,rfl,rfl,Ext.refl _,fun i hi=>absurd hi (by omega)⟩
   case round =>
    obtain ⟨k,hk,rfl,rfl,hE,hf⟩:=hrel
    have HF:=Lib.hid hf
    have hbw:=HW1.out.2.1.ext hE
    have HE:=Lib.hid hE
    have x1:=hbw.cell (i:=1) (v:=.slice F m.free.length fc) rfl
    clear hf hbw y0 y1 y2 y3 y4
    by_cases hlt : k < m.free.length
    ·obtain ⟨b,off,rfl,hcl⟩:=HW1.out.2.2.free (by omega)
     have a0:=hE.cell (hcl (k * 2) (by omega))
     rw [runV0] at a0
     have q0 : (0 : Int)≤(k : Int):=by omega
     have q1 : (k : Int) < (m.free.length : Int):=by omega
     obtain ⟨r,hr⟩ : ∃ r,(ix noRun m.free k).at_=r:=⟨_,rfl⟩
     rw [hr] at a0
     have HR:=Lib.hid hr
     clear hr
     by_cases hkk : k=0
     ·have e2 : decide ((0 : Int) < (k : Int))=false:=decide_eq_false (by omega)
      have e2' : decide (0 < k)=false:=decide_eq_false (by omega)
      have HKK:=Lib.hid hkk
      clear hcl hkk hE
      go_wp2
      go_quiet (fail)
      go_wp2
      go_roundg (m.free.length - (k + 1))
      case measure=>go_light; omega
      case rel=>exact ⟨k + 1,by omega,rfl,by go_num,(HE.out.drewN _),fun i hi h0=>by have:=HKK.out; omega⟩
     ·have e2 : decide ((0 : Int) < (k : Int))=true:=decide_eq_true (by omega)
      have e2' : decide (0 < k)=true:=decide_eq_true (by omega)
      have q2 : (0 : Int)≤(k : Int) - 1:=by omega
      have q3 : (k : Int) - 1 < (m.free.length : Int):=by omega
      have q4 : ((k : Int) - 1).toNat=k - 1:=by omega
      have q5 : 1≤k:=by omega
      have q7 : (1 : Int)≤(k : Int):=by omega
      have q8 : (k : Int)≤(m.free.length : Int):=by omega
      have q9 : IntKind.i64.wrap ((k : Int) - 1)=(k : Int) - 1:=by rw [IntKind.wrap_i64]; omega
      have z0:=hE.cell (hcl ((k - 1) * 2) (by omega))
      have z1:=hE.cell (hcl ((k - 1) * 2 + 1) (by omega))
      rw [runV0] at z0
      rw [runV1] at z1
      have hfit:=HLC.out.1 (k - 1) (by rw [pcs_length]; omega)
      rw [pcs_free (by omega)] at hfit
      obtain ⟨u,hu⟩ : ∃ u,(ix noRun m.free (k - 1)).at_=u:=⟨_,rfl⟩
      obtain ⟨v,hv⟩ : ∃ v,(ix noRun m.free (k - 1)).n=v:=⟨_,rfl⟩
      rw [hu] at z0 hfit
      rw [hv] at z1 hfit
      replace z1 : wr.cell? ⟨b,off + (k - 1) * 2 + 1,none⟩=some (.int .i64 v):=z1
      obtain ⟨f1,f2,f3,f4⟩:=hfit.1
      dsimp only at f1 f2 f3 f4
      have q6 : IntKind.i64.wrap (u + v)=u + v:=by rw [IntKind.wrap_i64]; omega
      have HU:=Lib.hid (And.intro hu hv)
      clear hcl hfit hu hv f1 f2 f3 f4 hE
      by_cases h2 : r≤u + v
      ·have e4 : decide (r≤u + v)=true:=decide_eq_true h2
       have H2:=Lib.hid h2
       clear h2
       go_wp2
       go_quiet (fail)
       go_wp2
       go_ret
       exact ⟨ret_bool (B_no fun hh=>by
        have:=hh.free k hlt (by omega)
        rw [HR.out,HU.out.1,HU.out.2] at this
        have:=H2.out
        omega).symm,HW1.out.1.trans (HE.out.drewN _)⟩
      ·have e4 : decide (r≤u + v)=false:=decide_eq_false h2
       have H2:=Lib.hid h2
       clear h2
       go_wp2
       go_quiet (fail)
       go_wp2
       go_roundg (m.free.length - (k + 1))
       case measure=>go_light; omega
       case rel=>exact ⟨k + 1,by omega,rfl,by go_num,(HE.out.drewN _),fun i hi h0=>by
        by_cases e : i=k
        ·subst e
         rw [HR.out,HU.out.1,HU.out.2]
         have:=H2.out
         omega
        ·exact HF.out i (by omega) h0⟩
    obtain rfl : k=m.free.length:=by omega
    have HF1:=HF
    go_wp2
    obtain ⟨w2,hw2⟩ : ∃ w2,w2=wr:=⟨_,rfl⟩
    rw [← hw2] at hE ⊢
    have HE2:=Lib.hid hE
    clear hE hw2
    go_loopg [7] m.hands.length (fun q i wr=>∃ k : Nat,k≤m.hands.length∧q=m.hands.length - k∧i=.int .i64 (k : Int)∧Ext w2 wr∧HandTo m k)
    case atStart=>exact ⟨0,Nat.zero_le _,rfl,rfl,Ext.refl _,fun i hi=>absurd hi (by omega)⟩
    case round =>
     obtain ⟨k,hk,rfl,rfl,hE,hf⟩:=hrel
     have HF2:=Lib.hid hf
     have HE0:=Lib.hid hE
     replace hE:=HE2.out.trans hE
     have hbw:=HW1.out.2.1.ext hE
     have HE:=Lib.hid (And.intro hE hbw)
     by_cases hlt : k < m.hands.length
     ·obtain ⟨b,off,rfl,hcl⟩:=HW1.out.2.2.hands (by omega)
      have p2:=hbw.cell (i:=2) (v:=.slice (some ⟨b,off,none⟩) m.hands.length hc) rfl
      have x2:=fun d os=>cell_regrown p2 d os
      have a0':=hE.cell (hcl (k * 3) (by omega))
      have a1':=hE.cell (hcl (k * 3 + 1) (by omega))
      rw [handV0] at a0'
      rw [handV1] at a1'
      have q0 : (0 : Int)≤(k : Int):=by omega
      have q1 : (k : Int) < (m.hands.length : Int):=by omega
      obtain ⟨r,hr⟩ : ∃ r,(ix noHand m.hands k).at_=r:=⟨_,rfl⟩
      obtain ⟨t,ht⟩ : ∃ t,(ix noHand m.hands k).t=t:=⟨_,rfl⟩
      rw [ht] at a0'
      rw [hr] at a1'
      replace a1' : wr.cell? ⟨b,off + k * 3 + 1,none⟩=some (.int .i64 r):=a1'
      have a0:=fun d os=>cell_regrown a0' d os
      have a1:=fun d os=>cell_regrown a1' d os
      have HR:=Lib.hid (And.intro ht hr)
      obtain ⟨u,hu⟩ : ∃ u,(ix noHand m.hands (k - 1)).at_=u:=⟨_,rfl⟩
      have z1':=hE.cell (hcl ((k - 1) * 3 + 1) (by omega))
      rw [handV1,hu] at z1'
      replace z1' : wr.cell? ⟨b,off + (k - 1) * 3 + 1,none⟩=some (.int .i64 u):=z1'
      have z1:=fun d os=>cell_regrown z1' d os
      have HU:=Lib.hid hu
      have q4 : ((k : Int) - 1).toNat=k - 1:=by omega
      have hBt : (B (ThreadP t)=true∧Hid (ThreadP t))∨(B (ThreadP t)=false∧Hid (¬ ThreadP t)):=by
       by_cases h : ThreadP t
       ·exact .inl ⟨B_yes h,Lib.hid h⟩
       ·exact .inr ⟨B_no h,Lib.hid h⟩
      have hks : (decide ((0 : Int) < (k : Int))=false∧decide (0 < k)=false∧Hid (k=0))∨(decide ((0 : Int) < (k : Int))=true∧decide (0 < k)=true∧decide (r≤u)=true∧1≤k∧(1 : Int)≤(k : Int)∧Hid (r≤u))∨(decide ((0 : Int) < (k : Int))=true∧decide (0 < k)=true∧decide (r≤u)=false∧1≤k∧(1 : Int)≤(k : Int)∧Hid (u < r)):=by
       by_cases h : k=0
       ·exact .inl ⟨decide_eq_false (by omega),decide_eq_false (by omega),Lib.hid h⟩
       ·by_cases h2 : r≤u
        ·exact .inr (.inl ⟨decide_eq_true (by omega),decide_eq_true (by omega),decide_eq_true h2,by omega,by omega,Lib.hid h2⟩)
        ·exact .inr (.inr ⟨decide_eq_true (by omega),decide_eq_true (by omega),decide_eq_false h2,by omega,by omega,Lib.hid (by omega)⟩)
      have q8 : (k : Int)≤(m.hands.length : Int):=by omega
      clear hcl hE hf hbw a0' a1' z1' hr ht hu
      rcases hBt with ⟨t0,t1⟩ | ⟨t0,t1⟩ <;> rcases hks with ⟨k0,k1,k2⟩ | ⟨k0,k1,k2,k3,k4,k5⟩ | ⟨k0,k1,k2,k3,k4,k5⟩
      all_goals
       go_upto_region 18 with fail
       refine wp_region_quiet_below (by kernel_rfl) (by kernel_rfl) ?_
       repeat (go_big_quiet_step ((go_at_call 29; exact Calls.regrown_of (thread28_any _ _))))
       refine wpQuiet_nil ?_
       intro _ hw'
       obtain ⟨⟨dq,osq⟩,hw''⟩:=hw'
       subst hw''
       go_wp2
       first
       |(go_roundg (m.hands.length - (k + 1))
         case measure=>go_light; omega
         case rel =>
         refine ⟨k + 1,by omega,rfl,by go_num,HE0.out.trans (below_regrown _ _ _),fun i hi=>?_⟩
         by_cases e : i=k
         ·subst e
          rw [HR.out.1,HR.out.2]
          refine ⟨t1.out,fun h0=>?_⟩
          rw [HU.out]
          first
          | exact k5.out
          | exact absurd k2.out (by omega)
         ·exact HF2.out i (by omega))
       |(go_ret
         refine ⟨ret_bool (B_no fun hh=>?_).symm,HW1.out.1.trans (HE.out.1.trans (below_regrown _ _ _))⟩
         have h9:=hh.hand k hlt
         rw [HR.out.1,HR.out.2,HU.out] at h9
         first
         | exact t1.out h9.1
         |(have:=h9.2 (by omega); have:=k5.out; omega))
     obtain rfl : k=m.hands.length:=by omega
     have p2:=hbw.cell (i:=2) (v:=.slice H m.hands.length hc) rfl
     clear hf hbw
     go_wp2
     obtain ⟨w3,hw3⟩ : ∃ w3,w3=wr:=⟨_,rfl⟩
     rw [← hw3] at hE ⊢
     have HE3:=Lib.hid hE
     clear hE hw3 p2
     go_loopg [8] m.spans.length (fun q i wr=>∃ k : Nat,k≤m.spans.length∧q=m.spans.length - k∧i=.int .i64 (k : Int)∧Ext w3 wr∧SpanTo HoldOk m k)
     case atStart=>exact ⟨0,Nat.zero_le _,rfl,rfl,Ext.refl _,fun i hi=>absurd hi (by omega)⟩
     case round =>
      obtain ⟨k,hk,rfl,rfl,hE,hf⟩:=hrel
      have HF3:=Lib.hid hf
      have HE0:=Lib.hid hE
      replace hE:=HE3.out.trans hE
      have hbw:=HW1.out.2.1.ext hE
      have HE:=Lib.hid (And.intro hE hbw)
      have p3:=hbw.cell (i:=3) (v:=.slice S m.spans.length sc) rfl
      by_cases hlt : k < m.spans.length
      ·obtain ⟨b,off,rfl,hcl⟩:=HW1.out.2.2.spans (by omega)
       have x3:=fun d os=>cell_regrown p3 d os
       have hce:=fun (j : Nat) (hj : j < 8)=>(hE.cell (hcl (k * 8 + j) (by omega))).trans (congrArg some (holdsV_at m.spans k j hj))
       obtain ⟨h,hh⟩ : ∃ h,ix noHold m.spans k=h:=⟨_,rfl⟩
       rw [hh] at hce
       have a0:=fun d os=>cell_regrown (show wr.cell? ⟨b,off + k * 8,none⟩=some (.int .i64 h.page) from hce 0 (by omega)) d os
       have a1:=fun d os=>cell_regrown (show wr.cell? ⟨b,off + k * 8 + 1,none⟩=some (.int .i64 h.pages) from hce 1 (by omega)) d os
       have a2:=fun d os=>cell_regrown (show wr.cell? ⟨b,off + k * 8 + 2,none⟩=some (.int .i64 h.cls) from hce 2 (by omega)) d os
       have a3:=fun d os=>cell_regrown (show wr.cell? ⟨b,off + k * 8 + 3,none⟩=some (.int .i64 h.holder) from hce 3 (by omega)) d os
       have a4:=fun d os=>cell_regrown (show wr.cell? ⟨b,off + k * 8 + 4,none⟩=some (.int .i64 h.claim) from hce 4 (by omega)) d os
       have a5:=fun d os=>cell_regrown (show wr.cell? ⟨b,off + k * 8 + 5,none⟩=some (.bool h.swept) from hce 5 (by omega)) d os
       have a6:=fun d os=>cell_regrown (show wr.cell? ⟨b,off + k * 8 + 6,none⟩=some (.int .u64 (h.alloc : Int)) from hce 6 (by omega)) d os
       have a7:=fun d os=>cell_regrown (show wr.cell? ⟨b,off + k * 8 + 7,none⟩=some (.int .u64 (h.marks : Int)) from hce 7 (by omega)) d os
       have q0 : (0 : Int)≤(k : Int):=by omega
       have q1 : (k : Int) < (m.spans.length : Int):=by omega
       have HR:=Lib.hid hh
       obtain ⟨u,hu⟩ : ∃ u,(ix noHold m.spans (k - 1)).page=u:=⟨_,rfl⟩
       have z0':=(hE.cell (hcl ((k - 1) * 8 + 0) (by omega))).trans (congrArg some (holdsV_at m.spans (k - 1) 0 (by omega)))
       have z0:=fun d os=>cell_regrown (show wr.cell? ⟨b,off + (k - 1) * 8,none⟩=some (.int .i64 u) from z0'.trans (congrArg some (congrArg (Value.int .i64) hu))) d os
       have HU:=Lib.hid hu
       have q4 : ((k : Int) - 1).toNat=k - 1:=by omega
       have hMH : ∀ W,Calls Tryz.prog 40 #[.agg #[.int .i64 h.page,.int .i64 h.pages,.int .i64 h.cls,.int .i64 h.holder,.int .i64 h.claim,.bool h.swept,.int .u64 (h.alloc : Int),.int .u64 (h.marks : Int)]] W fun e w'=>e=.returned (.bool (B (HoldOk h)))∧Ext W w':=fun W=>mayHold_any h W
       have HMH:=Lib.hid hMH
       have hBt : (B (HoldOk h)=true∧Hid (HoldOk h))∨(B (HoldOk h)=false∧Hid (¬ HoldOk h)):=by
        by_cases h : HoldOk h
        ·exact .inl ⟨B_yes h,Lib.hid h⟩
        ·exact .inr ⟨B_no h,Lib.hid h⟩
       have hks : (decide ((0 : Int) < (k : Int))=false∧decide (0 < k)=false∧Hid (k=0))∨(decide ((0 : Int) < (k : Int))=true∧decide (0 < k)=true∧decide (h.page≤u)=true∧1≤k∧(1 : Int)≤(k : Int)∧Hid (h.page≤u))∨(decide ((0 : Int) < (k : Int))=true∧decide (0 < k)=true∧decide (h.page≤u)=false∧1≤k∧(1 : Int)≤(k : Int)∧Hid (u < h.page)):=by
        by_cases e : k=0
        ·exact .inl ⟨decide_eq_false (by omega),decide_eq_false (by omega),Lib.hid e⟩
        ·by_cases h2 : h.page≤u
         ·exact .inr (.inl ⟨decide_eq_true (by omega),decide_eq_true (by omega),decide_eq_true h2,by omega,by omega,Lib.hid h2⟩)
         ·exact .inr (.inr ⟨decide_eq_true (by omega),decide_eq_true (by omega),decide_eq_false h2,by omega,by omega,Lib.hid (by omega)⟩)
       have q8 : (k : Int)≤(m.spans.length : Int):=by omega
       clear hcl hE hf hbw hce z0' hh hu hMH
       rcases hBt with ⟨t0,t1⟩ | ⟨t0,t1⟩ <;> rcases hks with ⟨k0,k1,k2⟩ | ⟨k0,k1,k2,k3,k4,k5⟩ | ⟨k0,k1,k2,k3,k4,k5⟩
       all_goals
        go_upto_region 23 with fail
        refine wp_region_quiet_below (by kernel_rfl) (by kernel_rfl) ?_
        repeat (go_big_quiet_step ((go_at_call 40; exact Calls.regrown_of (HMH.out _))))
        refine wpQuiet_nil ?_
        intro _ hw'
        obtain ⟨⟨dq,osq⟩,hw''⟩:=hw'
        subst hw''
        go_wp2
        first
        |(go_roundg (m.spans.length - (k + 1))
          case measure=>go_light; omega
          case rel =>
          refine ⟨k + 1,by omega,rfl,by go_num,HE0.out.trans (below_regrown _ _ _),fun i hi=>?_⟩
          by_cases e : i=k
          ·subst e
           rw [HR.out]
           refine ⟨t1.out,fun h0=>?_⟩
           rw [HU.out]
           first
           | exact k5.out
           | exact absurd k2.out (by omega)
          ·exact HF3.out i (by omega))
        |(go_ret
          refine ⟨ret_bool (B_no fun hh=>?_).symm,HW1.out.1.trans (HE.out.1.trans (below_regrown _ _ _))⟩
          have h9:=hh.span k hlt
          rw [HR.out,HU.out] at h9
          first
          | exact t1.out h9.1
          |(have:=h9.2 (by omega); have:=k5.out; omega))
      obtain rfl : k=m.spans.length:=by omega
      clear hf hbw
      go_wp2
      obtain ⟨w4,hw4⟩ : ∃ w4,w4=wr:=⟨_,rfl⟩
      rw [← hw4] at hE ⊢
      have HE4:=Lib.hid hE
      clear hE hw4 p3
      go_loopg [9] m.gone.length (fun q i wr=>∃ k : Nat,k≤m.gone.length∧q=m.gone.length - k∧i=.int .i64 (k : Int)∧Ext w4 wr∧GoneTo m k)
      case atStart=>exact ⟨0,Nat.zero_le _,rfl,rfl,Ext.refl _,GoneTo.nil _⟩
      case round =>
       obtain ⟨k,hk,rfl,rfl,hE,hf⟩:=hrel
       have HF4:=Lib.hid hf
       have HE0:=Lib.hid hE
       replace hE:=HE4.out.trans hE
       have hbw:=HW1.out.2.1.ext hE
       have HE:=Lib.hid (And.intro hE hbw)
       have p4:=hbw.cell (i:=4) (v:=.slice G m.gone.length gc) rfl
       by_cases hlt : k < m.gone.length
       ·obtain ⟨b,off,rfl,hcl⟩:=HW1.out.2.2.gone (by omega)
        have r0:=fun d os=>cell_regrown (hbw.cell (i:=0) (v:=.int .i64 m.pages) rfl) d os
        have r1:=fun d os=>cell_regrown (hbw.cell (i:=1) (v:=.slice F m.free.length fc) rfl) d os
        have r2:=fun d os=>cell_regrown (hbw.cell (i:=2) (v:=.slice H m.hands.length hc) rfl) d os
        have r3:=fun d os=>cell_regrown (hbw.cell (i:=3) (v:=.slice S m.spans.length sc) rfl) d os
        have r4:=fun d os=>cell_regrown p4 d os
        obtain ⟨r,hr⟩ : ∃ r,ix 0 m.gone k=r:=⟨_,rfl⟩
        obtain ⟨u,hu⟩ : ∃ u,ix 0 m.gone (k - 1)=u:=⟨_,rfl⟩
        have a0:=fun d os=>cell_regrown (show wr.cell? ⟨b,off + k,none⟩=some (.int .i64 r) from (hE.cell (hcl k (by omega))).trans (congrArg some (congrArg (Value.int .i64) hr))) d os
        have z0:=fun d os=>cell_regrown (show wr.cell? ⟨b,off + (k - 1),none⟩=some (.int .i64 u) from (hE.cell (hcl (k - 1) (by omega))).trans (congrArg some (congrArg (Value.int .i64) hu))) d os
        have q0 : (0 : Int)≤(k : Int):=by omega
        have q1 : (k : Int) < (m.gone.length : Int):=by omega
        have hr63 : r≤9223372036854775807:=hr▸hg63 k hlt
        have HR:=Lib.hid (And.intro hr hu)
        have q4 : ((k : Int) - 1).toNat=k - 1:=by omega
        have hff : ∀ i,i < m.free.length→FitP 4096 ((ix noRun m.free i).at_,(ix noRun m.free i).n):=fun i hi=>by
         have:=(HLC.out.1 i (by rw [pcs_length]; omega)).1
         rw [pcs_free hi] at this
         obtain ⟨f1,f2,f3,f4⟩:=this
         exact ⟨f1,f2,by dsimp only at *; omega,by dsimp only at *; omega⟩
        have hfh : ∀ i,i < m.hands.length→FitP 4096 ((ix noHand m.hands i).at_,(ix noHand m.hands i).n):=fun i hi=>by
         have:=(HLC.out.1 (m.free.length + i) (by rw [pcs_length]; omega)).1
         rw [pcs_hand hi] at this
         obtain ⟨f1,f2,f3,f4⟩:=this
         exact ⟨f1,f2,by dsimp only at *; omega,by dsimp only at *; omega⟩
        have hCF : ∀ W,Ext wr W→Calls Tryz.prog 41 #[.agg #[.int .i64 m.pages,.slice F m.free.length fc,.slice H m.hands.length hc,.slice S m.spans.length sc,.slice (some ⟨b,off,none⟩) m.gone.length gc],.int .i64 r] W fun e w'=>e=.returned (.bool (B (InFree m r)))∧Ext W w':=fun W hW=>free28_any m F H S (some ⟨b,off,none⟩) fc hc sc gc r W (HW1.out.2.2.ext (hE.trans hW)) hff hr63 (by omega)
        have hCH : ∀ W,Ext wr W→Calls Tryz.prog 42 #[.agg #[.int .i64 m.pages,.slice F m.free.length fc,.slice H m.hands.length hc,.slice S m.spans.length sc,.slice (some ⟨b,off,none⟩) m.gone.length gc],.int .i64 r,.int .i64 (-1)] W fun e w'=>e=.returned (.bool (B (InHandP m r (-1))))∧Ext W w':=fun W hW=>inHand28_any m F H S (some ⟨b,off,none⟩) fc hc sc gc r (-1) W (HW1.out.2.2.ext (hE.trans hW)) hfh hr63 (by omega)
        have HC:=Lib.hid (And.intro hCF hCH)
        have hBt : (B (InFree m r)=true∧Hid (InFree m r∨InHandP m r (-1)))∨(B (InFree m r)=false∧B (InHandP m r (-1))=true∧Hid (InFree m r∨InHandP m r (-1)))∨(B (InFree m r)=false∧B (InHandP m r (-1))=false∧Hid (¬ (InFree m r∨InHandP m r (-1)))):=by
         by_cases h1 : InFree m r
         ·exact .inl ⟨B_yes h1,Lib.hid (.inl h1)⟩
         ·by_cases h2 : InHandP m r (-1)
          ·exact .inr (.inl ⟨B_no h1,B_yes h2,Lib.hid (.inr h2)⟩)
          ·exact .inr (.inr ⟨B_no h1,B_no h2,Lib.hid fun h=>h.elim h1 h2⟩)
        have hks : (decide ((0 : Int) < (k : Int))=false∧decide (0 < k)=false∧Hid (k=0))∨(decide ((0 : Int) < (k : Int))=true∧decide (0 < k)=true∧decide (r≤u)=true∧1≤k∧(1 : Int)≤(k : Int)∧Hid (r≤u))∨(decide ((0 : Int) < (k : Int))=true∧decide (0 < k)=true∧decide (r≤u)=false∧1≤k∧(1 : Int)≤(k : Int)∧Hid (u < r)):=by
         by_cases e : k=0
         ·exact .inl ⟨decide_eq_false (by omega),decide_eq_false (by omega),Lib.hid e⟩
         ·by_cases h2 : r≤u
          ·exact .inr (.inl ⟨decide_eq_true (by omega),decide_eq_true (by omega),decide_eq_true h2,by omega,by omega,Lib.hid h2⟩)
          ·exact .inr (.inr ⟨decide_eq_true (by omega),decide_eq_true (by omega),decide_eq_false h2,by omega,by omega,Lib.hid (by omega)⟩)
        have q8 : (k : Int)≤(m.gone.length : Int):=by omega
        clear hcl hE hf hbw hr hu hff hfh hCF hCH hr63
        rcases hBt with ⟨t0,t1⟩ | ⟨t0,t2,t1⟩ | ⟨t0,t2,t1⟩ <;> rcases hks with ⟨k0,k1,k2⟩ | ⟨k0,k1,k2,k3,k4,k5⟩ | ⟨k0,k1,k2,k3,k4,k5⟩
        all_goals
         go_upto_region 28 with fail
         refine wp_region_quiet_below (by kernel_rfl) (by kernel_rfl) ?_
         repeat (go_big_quiet_step ((first
          |(go_at_call 41; exact Calls.regrown_of (HC.out.1 _ (below_regrown _ _ _)))
          |(go_at_call 42; exact Calls.regrown_of (HC.out.2 _ (below_regrown _ _ _))))))
         refine wpQuiet_nil ?_
         intro _ hw'
         obtain ⟨⟨dq,osq⟩,hw''⟩:=hw'
         subst hw''
         go_wp2
         first
         |(go_roundg (m.gone.length - (k + 1))
           case measure=>go_light; omega
           case rel =>
           have hgi:=(gone_in HLC.out.1 HLC.out.2 r).1 t1.out
           refine ⟨k + 1,by omega,rfl,by go_num,HE0.out.trans (below_regrown _ _ _),HF4.out.step (by rw [HR.out.1]; exact hgi.1) (fun h0=>?_) (by rw [HR.out.1]; exact hgi.2)⟩
           rw [HR.out.1,HR.out.2]
           first
           | exact k5.out
           | exact absurd k2.out (by omega))
         |(go_ret
           refine ⟨ret_bool (B_no fun hh=>?_).symm,HW1.out.1.trans (HE.out.1.trans (below_regrown _ _ _))⟩
           have h9:=hh.gone k hlt
           have h8:=hh.apart k hlt
           rw [HR.out.1,HR.out.2] at h9
           rw [HR.out.1] at h8
           first
           | exact t1.out ((gone_in HLC.out.1 HLC.out.2 r).2 ⟨h9.1,h8⟩)
           |(have:=h9.2 (by omega); have:=k5.out; omega))
       obtain rfl : k=m.gone.length:=by omega
       go_wp2
       go_ret
       exact ⟨ret_bool (B_yes ⟨⟨p1,p2'⟩,HLC.out.1,HLC.out.2,HF1.out,HF2.out,HF3.out,HF4.out.1,HF4.out.2⟩).symm,HW1.out.1.trans HE.out.1⟩
/-- Within the region: what those that are listed have left. -/
structure CopI (w0 : World) (b : Nat) (m : ModelD) (F H S G : Option Addr) (fc hc sc gc : Nat) (L : Nat→Bool) (u3 u4 u5 u6 u7 u8 u9 u10 u11 u12 u13 u14 u15 u16 u17 u18 u19 u20 u21 : Value) (w' : World) : Prop where
 s0 : L 0=true→u3=.pointer (some ⟨b,0,none⟩)
 s1 : L 1=true→u4=.int .i64 m.pages
 s2 : L 2=true→L 5=false→∃ A c,u5=.slice A 0 c∧OwnS w' (b + 2) 54 2 (.slice A 0 c) 0 (runV m.free)
 s3 : L 3=true→u6=.pointer (some ⟨b,1,none⟩)
 s4 : L 4=true→u7=.slice F m.free.length fc
 s5 : L 5=true→∃ A c,u8=.slice A m.free.length c∧OwnS w' (b + 2) 54 2 (.slice A m.free.length c) m.free.length (runV m.free)
 s6 : L 6=true→L 9=false→∃ A c,u9=.slice A 0 c∧OwnS w' (b + 2) 56 3 (.slice A 0 c) 0 (handV m.hands)
 s7 : L 7=true→u10=.pointer (some ⟨b,2,none⟩)
 s8 : L 8=true→u11=.slice H m.hands.length hc
 s9 : L 9=true→∃ A c,u12=.slice A m.hands.length c∧OwnS w' (b + 2) 56 3 (.slice A m.hands.length c) m.hands.length (handV m.hands)
 s10 : L 10=true→L 13=false→∃ A c,u13=.slice A 0 c∧OwnS w' (b + 2) 51 8 (.slice A 0 c) 0 (holdsV m.spans)
 s11 : L 11=true→u14=.pointer (some ⟨b,3,none⟩)
 s12 : L 12=true→u15=.slice S m.spans.length sc
 s13 : L 13=true→∃ A c,u16=.slice A m.spans.length c∧OwnS w' (b + 2) 51 8 (.slice A m.spans.length c) m.spans.length (holdsV m.spans)
 s14 : L 14=true→L 17=false→∃ A c,u17=.slice A 0 c∧OwnS w' (b + 2) 3 1 (.slice A 0 c) 0 (fun j=>.int .i64 (ix 0 m.gone j))
 s15 : L 15=true→u18=.pointer (some ⟨b,4,none⟩)
 s16 : L 16=true→u19=.slice G m.gone.length gc
 s17 : L 17=true→∃ A c,u20=.slice A m.gone.length c∧OwnS w' (b + 2) 3 1 (.slice A m.gone.length c) m.gone.length (fun j=>.int .i64 (ix 0 m.gone j))
 s18 : L 18=true→u21=.agg #[.int .i64 m.pages,u8,u12,u16,u20]
 z18 : L 18=true→L 5=true∧L 9=true∧L 13=true∧L 17=true
 z19 : L 19=true→∀ j,j < 19→L j=true
 ext : Ext w0 w'
 sz : b + 2≤w'.heap.size
 blk : Blk w' b 30 #[.int .i64 m.pages,.slice F m.free.length fc,.slice H m.hands.length hc,.slice S m.spans.length sc,.slice G m.gone.length gc]
 res : L 19=false→Blk w' (b + 1) 30 #[.int .i64 0,.slice none 0 0,.slice none 0 0,.slice none 0 0,.slice none 0 0]
 rez : L 19=true→Blk w' (b + 1) 30 #[.int .i64 m.pages,u8,u12,u16,u20]
theorem cop_res : Tryz.f30.results=#[.cell 2 30]:=by kernel_rfl
set_option maxHeartbeats 8000000 in
set_option maxRecDepth 100000 in
theorem copied_any (m : ModelD) (F H S G : Option Addr) (fc hc sc gc : Nat) (w : World) (hlen : LenM m) (hm : ModelR w m F H S G) :
  Calls Tryz.prog 30 #[modelV m F H S G fc hc sc gc] w fun e w'=>∃ F' H' S' G' fc' hc' sc' gc',e=.returned (modelV m F' H' S' G' fc' hc' sc' gc')∧Ext w w'∧OwnM w' w.heap.size m (.slice F' m.free.length fc') (.slice H' m.hands.length hc') (.slice S' m.spans.length sc') (.slice G' m.gone.length gc'):=by
 have l1:=hlen.free
 have l2:=hlen.hands
 have l3:=hlen.spans
 have l4:=hlen.gone
 have HM:=Lib.hid (And.intro hm hlen)
 clear hm hlen
 obtain ⟨i1,hi1,hz1,hs1,hb1⟩:=info_parts Tryz.infoMRun
 obtain ⟨i2,hi2,hz2,hs2,hb2⟩:=info_parts Tryz.infoMHand
 obtain ⟨i3,hi3,hz3,hs3,hb3⟩:=info_parts Tryz.infoMHold
 obtain ⟨i4,hi4,hz4,hs4,hb4⟩:=info_parts Tryz.infoMInt
 have HI1:=Lib.hid (And.intro hi1 (And.intro hz1 (And.intro hs1 hb1)))
 have HI2:=Lib.hid (And.intro hi2 (And.intro hz2 (And.intro hs2 hb2)))
 have HI3:=Lib.hid (And.intro hi3 (And.intro hz3 (And.intro hs3 hb3)))
 have HI4:=Lib.hid (And.intro hi4 (And.intro hz4 (And.intro hs4 hb4)))
 clear hi1 hz1 hs1 hb1 hi2 hz2 hs2 hb2 hi3 hz3 hs3 hb3 hi4 hz4 hs4 hb4
 go_enter Tryz.func30,Tryz.ntmps30
 unfold modelV
 go_wp2_with (fail)
 refine wp_region_inv (fun L a w'=>∃ u3 u4 u5 u6 u7 u8 u9 u10 u11 u12 u13 u14 u15 u16 u17 u18 u19 u20 u21,a=⟨#[.agg #[.int .i64 m.pages,.slice F m.free.length fc,.slice H m.hands.length hc,.slice S m.spans.length sc,.slice G m.gone.length gc],.pointer (some ⟨w.heap.size,0,none⟩),.pointer (some ⟨w.heap.size + 1,0,none⟩),u3,u4,u5,u6,u7,u8,u9,u10,u11,u12,u13,u14,u15,u16,u17,u18,u19,u20,u21],[]⟩∧CopI w w.heap.size m F H S G fc hc sc gc L u3 u4 u5 u6 u7 u8 u9 u10 u11 u12 u13 u14 u15 u16 u17 u18 u19 u20 u21 w') rfl (by kernel_rfl) ?h0 ?hstep ?hend
 case h0 =>
  refine ⟨undef,undef,undef,undef,undef,undef,undef,undef,undef,undef,undef,undef,undef,undef,undef,undef,undef,undef,undef,rfl,?_⟩
  constructor
  case ext=>exact (((Ext.refl _).alloc _).alloc _).drew
  case sz=>simp [World.drew]
  case blk=>exact ((Blk.new _ _ _ _ rfl).alloc _).drew
  case res=>exact fun _=>(Blk.new _ _ _ _ (by simp)).drew
  all_goals exact fun h=>(by cases h)
 case hstep =>
  intro L a w' i o ho hL hdep hI
  obtain ⟨u3,u4,u5,u6,u7,u8,u9,u10,u11,u12,u13,u14,u15,u16,u17,u18,u19,u20,u21,rfl,I⟩:=hI
  rcases i with _ | _ | _ | _ | _ | _ | _ | _ | _ | _ | _ | _ | _ | _ | _ | _ | _ | _ | _ | _ | i
  ·cases ho
   go_wp2
   refine ⟨fun _=>⟨_,u4,u5,u6,u7,u8,u9,u10,u11,u12,u13,u14,u15,u16,u17,u18,u19,u20,u21,rfl,?_⟩,fun h=>absurd rfl h⟩
   constructor
   case s0=>exact fun _=>rfl
   case s1=>exact kL I.s1
   case s2=>exact kF I.s2
   case s3=>exact kL I.s3
   case s4=>exact kL I.s4
   case s5=>exact kL I.s5
   case s6=>exact kF I.s6
   case s7=>exact kL I.s7
   case s8=>exact kL I.s8
   case s9=>exact kL I.s9
   case s10=>exact kF I.s10
   case s11=>exact kL I.s11
   case s12=>exact kL I.s12
   case s13=>exact kL I.s13
   case s14=>exact kF I.s14
   case s15=>exact kL I.s15
   case s16=>exact kL I.s16
   case s17=>exact kL I.s17
   case s18=>exact kL I.s18
   case z18 =>
    intro h
    obtain ⟨q1,q2,q3,q4⟩:=I.z18 (keepL h (by decide))
    exact ⟨setL_le q1,setL_le q2,setL_le q3,setL_le q4⟩
   case z19=>exact kA I.z19
   case ext=>exact I.ext
   case sz=>exact I.sz
   case blk=>exact I.blk
   case res=>exact fun h=>I.res (keepF h (by decide))
   case rez=>exact fun h=>notL hL (I.z19 (keepL h (by decide)) 0 (by omega))
  ·cases ho
   have e0:=I.s0 (hdep ⟨0,.data⟩ (by simp) rfl)
   subst e0
   have hc:=I.blk.cell (i:=0) (v:=.int .i64 m.pages) rfl
   go_wp2
   refine ⟨fun _=>⟨_,_,u5,u6,u7,u8,u9,u10,u11,u12,u13,u14,u15,u16,u17,u18,u19,u20,u21,rfl,?_⟩,fun h=>absurd rfl h⟩
   constructor
   case s0=>exact kL I.s0
   case s1=>exact fun _=>rfl
   case s2=>exact kF I.s2
   case s3=>exact kL I.s3
   case s4=>exact kL I.s4
   case s5=>exact kL I.s5
   case s6=>exact kF I.s6
   case s7=>exact kL I.s7
   case s8=>exact kL I.s8
   case s9=>exact kL I.s9
   case s10=>exact kF I.s10
   case s11=>exact kL I.s11
   case s12=>exact kL I.s12
   case s13=>exact kL I.s13
   case s14=>exact kF I.s14
   case s15=>exact kL I.s15
   case s16=>exact kL I.s16
   case s17=>exact kL I.s17
   case s18=>exact kL I.s18
   case z18 =>
    intro h
    obtain ⟨q1,q2,q3,q4⟩:=I.z18 (keepL h (by decide))
    exact ⟨setL_le q1,setL_le q2,setL_le q3,setL_le q4⟩
   case z19=>exact kA I.z19
   case ext=>exact I.ext
   case sz=>exact I.sz
   case blk=>exact I.blk
   case res=>exact fun h=>I.res (keepF h (by decide))
   case rez=>exact fun h=>notL hL (I.z19 (keepL h (by decide)) 1 (by omega))
  ·cases ho
   have hE2 : Ext w' (w'.alloc (.cells #[] 54)):=(Ext.refl w').alloc _
   go_wp2
   refine ⟨fun _=>⟨u3,u4,_,u6,u7,u8,u9,u10,u11,u12,u13,u14,u15,u16,u17,u18,u19,u20,u21,rfl,?_⟩,fun h=>absurd rfl h⟩
   constructor
   case s0=>exact kL I.s0
   case s1=>exact kL I.s1
   case s2=>exact fun _ _=>⟨_,_,rfl,(OwnS.lit0 w' 54 2 (runV m.free)).mono I.sz⟩
   case s3=>exact kL I.s3
   case s4=>exact kL I.s4
   case s5 =>
    intro h
    obtain ⟨A,c,e,hO⟩:=I.s5 (keepL h (by decide))
    exact ⟨A,c,e,hO.ext hE2⟩
   case s6 =>
    intro h h2
    obtain ⟨A,c,e,hO⟩:=I.s6 (keepL h (by decide)) (keepF h2 (by decide))
    exact ⟨A,c,e,hO.ext hE2⟩
   case s7=>exact kL I.s7
   case s8=>exact kL I.s8
   case s9 =>
    intro h
    obtain ⟨A,c,e,hO⟩:=I.s9 (keepL h (by decide))
    exact ⟨A,c,e,hO.ext hE2⟩
   case s10 =>
    intro h h2
    obtain ⟨A,c,e,hO⟩:=I.s10 (keepL h (by decide)) (keepF h2 (by decide))
    exact ⟨A,c,e,hO.ext hE2⟩
   case s11=>exact kL I.s11
   case s12=>exact kL I.s12
   case s13 =>
    intro h
    obtain ⟨A,c,e,hO⟩:=I.s13 (keepL h (by decide))
    exact ⟨A,c,e,hO.ext hE2⟩
   case s14 =>
    intro h h2
    obtain ⟨A,c,e,hO⟩:=I.s14 (keepL h (by decide)) (keepF h2 (by decide))
    exact ⟨A,c,e,hO.ext hE2⟩
   case s15=>exact kL I.s15
   case s16=>exact kL I.s16
   case s17 =>
    intro h
    obtain ⟨A,c,e,hO⟩:=I.s17 (keepL h (by decide))
    exact ⟨A,c,e,hO.ext hE2⟩
   case s18=>exact kL I.s18
   case z18 =>
    intro h
    obtain ⟨q1,q2,q3,q4⟩:=I.z18 (keepL h (by decide))
    exact ⟨setL_le q1,setL_le q2,setL_le q3,setL_le q4⟩
   case z19=>exact kA I.z19
   case ext=>exact I.ext.trans hE2
   case sz=>exact Nat.le_trans I.sz hE2.size
   case blk=>exact I.blk.ext hE2
   case res=>exact fun h=>(I.res (keepF h (by decide))).ext hE2
   case rez=>exact fun h=>notL hL (I.z19 (keepL h (by decide)) 2 (by omega))
  ·cases ho
   go_wp2
   refine ⟨fun _=>⟨u3,u4,u5,_,u7,u8,u9,u10,u11,u12,u13,u14,u15,u16,u17,u18,u19,u20,u21,rfl,?_⟩,fun h=>absurd rfl h⟩
   constructor
   case s0=>exact kL I.s0
   case s1=>exact kL I.s1
   case s2=>exact kF I.s2
   case s3=>exact fun _=>rfl
   case s4=>exact kL I.s4
   case s5=>exact kL I.s5
   case s6=>exact kF I.s6
   case s7=>exact kL I.s7
   case s8=>exact kL I.s8
   case s9=>exact kL I.s9
   case s10=>exact kF I.s10
   case s11=>exact kL I.s11
   case s12=>exact kL I.s12
   case s13=>exact kL I.s13
   case s14=>exact kF I.s14
   case s15=>exact kL I.s15
   case s16=>exact kL I.s16
   case s17=>exact kL I.s17
   case s18=>exact kL I.s18
   case z18 =>
    intro h
    obtain ⟨q1,q2,q3,q4⟩:=I.z18 (keepL h (by decide))
    exact ⟨setL_le q1,setL_le q2,setL_le q3,setL_le q4⟩
   case z19=>exact kA I.z19
   case ext=>exact I.ext
   case sz=>exact I.sz
   case blk=>exact I.blk
   case res=>exact fun h=>I.res (keepF h (by decide))
   case rez=>exact fun h=>notL hL (I.z19 (keepL h (by decide)) 3 (by omega))
  ·cases ho
   have e0:=I.s3 (hdep ⟨3,.data⟩ (by simp) rfl)
   subst e0
   have hc:=I.blk.cell (i:=1) (v:=.slice F m.free.length fc) rfl
   go_wp2
   refine ⟨fun _=>⟨u3,u4,u5,_,_,u8,u9,u10,u11,u12,u13,u14,u15,u16,u17,u18,u19,u20,u21,rfl,?_⟩,fun h=>absurd rfl h⟩
   constructor
   case s0=>exact kL I.s0
   case s1=>exact kL I.s1
   case s2=>exact kF I.s2
   case s3=>exact kL I.s3
   case s4=>exact fun _=>rfl
   case s5=>exact kL I.s5
   case s6=>exact kF I.s6
   case s7=>exact kL I.s7
   case s8=>exact kL I.s8
   case s9=>exact kL I.s9
   case s10=>exact kF I.s10
   case s11=>exact kL I.s11
   case s12=>exact kL I.s12
   case s13=>exact kL I.s13
   case s14=>exact kF I.s14
   case s15=>exact kL I.s15
   case s16=>exact kL I.s16
   case s17=>exact kL I.s17
   case s18=>exact kL I.s18
   case z18 =>
    intro h
    obtain ⟨q1,q2,q3,q4⟩:=I.z18 (keepL h (by decide))
    exact ⟨setL_le q1,setL_le q2,setL_le q3,setL_le q4⟩
   case z19=>exact kA I.z19
   case ext=>exact I.ext
   case sz=>exact I.sz
   case blk=>exact I.blk
   case res=>exact fun h=>I.res (keepF h (by decide))
   case rez=>exact fun h=>notL hL (I.z19 (keepL h (by decide)) 4 (by omega))
  ·cases ho
   have e0:=I.s4 (hdep ⟨4,.data⟩ (by simp) rfl)
   obtain ⟨A0,c0,e1,hO0⟩:=I.s2 (hdep ⟨2,.data⟩ (by simp) rfl) hL
   subst e0 e1
   have hsz2:=I.sz
   refine wpList_pushAll rfl _ _ 25 rfl (w.heap.size + 2) 54 i1 (.agg #[.int .i64 0,.int .i64 0]) 2 16 Tryz.underlying25 HI1.out.1 HI1.out.2.1 HI1.out.2.2.1 HI1.out.2.2.2 rfl (by decide) _ 0 (runV m.free) rfl hO0 F m.free.length fc (runV m.free) rfl ((HM.out.1.ext I.ext).free) (fun j _=>runV_one _ _) ?b63 ?bby ?bba (runV m.free) (fun j _=>rfl) (fun j _=>by simp) m.free.length (by omega) ?_
   case b63=>unfold maxLen; omega
   case bby=>omega
   case bba=>omega
   intro A' c' w2 hO2 hg2 hX2 _
   have hgs:=hg2.size
   go_wp2
   refine ⟨fun _=>⟨u3,u4,_,u6,_,_,u9,u10,u11,u12,u13,u14,u15,u16,u17,u18,u19,u20,u21,rfl,?_⟩,fun h=>absurd rfl h⟩
   constructor
   case s0=>exact kL I.s0
   case s1=>exact kL I.s1
   case s2=>exact fun _ h=>setL_no h
   case s3=>exact kL I.s3
   case s4=>exact kL I.s4
   case s5=>exact fun _=>⟨A',c',rfl,hO2⟩
   case s6 =>
    intro h h2
    obtain ⟨A,c,e,hO⟩:=I.s6 (keepL h (by decide)) (keepF h2 (by decide))
    exact ⟨A,c,e,hO.keepG hO0 hg2 (by decide)⟩
   case s7=>exact kL I.s7
   case s8=>exact kL I.s8
   case s9 =>
    intro h
    obtain ⟨A,c,e,hO⟩:=I.s9 (keepL h (by decide))
    exact ⟨A,c,e,hO.keepG hO0 hg2 (by decide)⟩
   case s10 =>
    intro h h2
    obtain ⟨A,c,e,hO⟩:=I.s10 (keepL h (by decide)) (keepF h2 (by decide))
    exact ⟨A,c,e,hO.keepG hO0 hg2 (by decide)⟩
   case s11=>exact kL I.s11
   case s12=>exact kL I.s12
   case s13 =>
    intro h
    obtain ⟨A,c,e,hO⟩:=I.s13 (keepL h (by decide))
    exact ⟨A,c,e,hO.keepG hO0 hg2 (by decide)⟩
   case s14 =>
    intro h h2
    obtain ⟨A,c,e,hO⟩:=I.s14 (keepL h (by decide)) (keepF h2 (by decide))
    exact ⟨A,c,e,hO.keepG hO0 hg2 (by decide)⟩
   case s15=>exact kL I.s15
   case s16=>exact kL I.s16
   case s17 =>
    intro h
    obtain ⟨A,c,e,hO⟩:=I.s17 (keepL h (by decide))
    exact ⟨A,c,e,hO.keepG hO0 hg2 (by decide)⟩
   case s18=>exact fun h=>notL hL (by have:=I.z18 (keepL h (by decide)); simp_all)
   case z18 =>
    intro h
    obtain ⟨q1,q2,q3,q4⟩:=I.z18 (keepL h (by decide))
    exact ⟨setL_le q1,setL_le q2,setL_le q3,setL_le q4⟩
   case z19=>exact kA I.z19
   case ext=>exact hX2 _ I.ext (by omega)
   case sz=>exact Nat.le_trans I.sz hgs
   case blk=>exact I.blk.grown hg2 (Ne.symm (own_ne_blk hO0 I.blk (by decide)))
   case res=>exact fun h=>(I.res (keepF h (by decide))).grown hg2 (Ne.symm (own_ne_blk hO0 (I.res (keepF h (by decide))) (by decide)))
   case rez=>exact fun h=>notL hL (I.z19 (keepL h (by decide)) 5 (by omega))
  ·cases ho
   have hE2 : Ext w' (w'.alloc (.cells #[] 56)):=(Ext.refl w').alloc _
   go_wp2
   refine ⟨fun _=>⟨u3,u4,u5,u6,u7,u8,_,u10,u11,u12,u13,u14,u15,u16,u17,u18,u19,u20,u21,rfl,?_⟩,fun h=>absurd rfl h⟩
   constructor
   case s0=>exact kL I.s0
   case s1=>exact kL I.s1
   case s2 =>
    intro h h2
    obtain ⟨A,c,e,hO⟩:=I.s2 (keepL h (by decide)) (keepF h2 (by decide))
    exact ⟨A,c,e,hO.ext hE2⟩
   case s3=>exact kL I.s3
   case s4=>exact kL I.s4
   case s5 =>
    intro h
    obtain ⟨A,c,e,hO⟩:=I.s5 (keepL h (by decide))
    exact ⟨A,c,e,hO.ext hE2⟩
   case s6=>exact fun _ _=>⟨_,_,rfl,(OwnS.lit0 w' 56 3 (handV m.hands)).mono I.sz⟩
   case s7=>exact kL I.s7
   case s8=>exact kL I.s8
   case s9 =>
    intro h
    obtain ⟨A,c,e,hO⟩:=I.s9 (keepL h (by decide))
    exact ⟨A,c,e,hO.ext hE2⟩
   case s10 =>
    intro h h2
    obtain ⟨A,c,e,hO⟩:=I.s10 (keepL h (by decide)) (keepF h2 (by decide))
    exact ⟨A,c,e,hO.ext hE2⟩
   case s11=>exact kL I.s11
   case s12=>exact kL I.s12
   case s13 =>
    intro h
    obtain ⟨A,c,e,hO⟩:=I.s13 (keepL h (by decide))
    exact ⟨A,c,e,hO.ext hE2⟩
   case s14 =>
    intro h h2
    obtain ⟨A,c,e,hO⟩:=I.s14 (keepL h (by decide)) (keepF h2 (by decide))
    exact ⟨A,c,e,hO.ext hE2⟩
   case s15=>exact kL I.s15
   case s16=>exact kL I.s16
   case s17 =>
    intro h
    obtain ⟨A,c,e,hO⟩:=I.s17 (keepL h (by decide))
    exact ⟨A,c,e,hO.ext hE2⟩
   case s18=>exact kL I.s18
   case z18 =>
    intro h
    obtain ⟨q1,q2,q3,q4⟩:=I.z18 (keepL h (by decide))
    exact ⟨setL_le q1,setL_le q2,setL_le q3,setL_le q4⟩
   case z19=>exact kA I.z19
   case ext=>exact I.ext.trans hE2
   case sz=>exact Nat.le_trans I.sz hE2.size
   case blk=>exact I.blk.ext hE2
   case res=>exact fun h=>(I.res (keepF h (by decide))).ext hE2
   case rez=>exact fun h=>notL hL (I.z19 (keepL h (by decide)) 6 (by omega))
  ·cases ho
   go_wp2
   refine ⟨fun _=>⟨u3,u4,u5,u6,u7,u8,u9,_,u11,u12,u13,u14,u15,u16,u17,u18,u19,u20,u21,rfl,?_⟩,fun h=>absurd rfl h⟩
   constructor
   case s0=>exact kL I.s0
   case s1=>exact kL I.s1
   case s2=>exact kF I.s2
   case s3=>exact kL I.s3
   case s4=>exact kL I.s4
   case s5=>exact kL I.s5
   case s6=>exact kF I.s6
   case s7=>exact fun _=>rfl
   case s8=>exact kL I.s8
   case s9=>exact kL I.s9
   case s10=>exact kF I.s10
   case s11=>exact kL I.s11
   case s12=>exact kL I.s12
   case s13=>exact kL I.s13
   case s14=>exact kF I.s14
   case s15=>exact kL I.s15
   case s16=>exact kL I.s16
   case s17=>exact kL I.s17
   case s18=>exact kL I.s18
   case z18 =>
    intro h
    obtain ⟨q1,q2,q3,q4⟩:=I.z18 (keepL h (by decide))
    exact ⟨setL_le q1,setL_le q2,setL_le q3,setL_le q4⟩
   case z19=>exact kA I.z19
   case ext=>exact I.ext
   case sz=>exact I.sz
   case blk=>exact I.blk
   case res=>exact fun h=>I.res (keepF h (by decide))
   case rez=>exact fun h=>notL hL (I.z19 (keepL h (by decide)) 7 (by omega))
  ·cases ho
   have e0:=I.s7 (hdep ⟨7,.data⟩ (by simp) rfl)
   subst e0
   have hc:=I.blk.cell (i:=2) (v:=.slice H m.hands.length hc) rfl
   go_wp2
   refine ⟨fun _=>⟨u3,u4,u5,u6,u7,u8,u9,_,_,u12,u13,u14,u15,u16,u17,u18,u19,u20,u21,rfl,?_⟩,fun h=>absurd rfl h⟩
   constructor
   case s0=>exact kL I.s0
   case s1=>exact kL I.s1
   case s2=>exact kF I.s2
   case s3=>exact kL I.s3
   case s4=>exact kL I.s4
   case s5=>exact kL I.s5
   case s6=>exact kF I.s6
   case s7=>exact kL I.s7
   case s8=>exact fun _=>rfl
   case s9=>exact kL I.s9
   case s10=>exact kF I.s10
   case s11=>exact kL I.s11
   case s12=>exact kL I.s12
   case s13=>exact kL I.s13
   case s14=>exact kF I.s14
   case s15=>exact kL I.s15
   case s16=>exact kL I.s16
   case s17=>exact kL I.s17
   case s18=>exact kL I.s18
   case z18 =>
    intro h
    obtain ⟨q1,q2,q3,q4⟩:=I.z18 (keepL h (by decide))
    exact ⟨setL_le q1,setL_le q2,setL_le q3,setL_le q4⟩
   case z19=>exact kA I.z19
   case ext=>exact I.ext
   case sz=>exact I.sz
   case blk=>exact I.blk
   case res=>exact fun h=>I.res (keepF h (by decide))
   case rez=>exact fun h=>notL hL (I.z19 (keepL h (by decide)) 8 (by omega))
  ·cases ho
   have e0:=I.s8 (hdep ⟨8,.data⟩ (by simp) rfl)
   obtain ⟨A0,c0,e1,hO0⟩:=I.s6 (hdep ⟨6,.data⟩ (by simp) rfl) hL
   subst e0 e1
   have hsz2:=I.sz
   refine wpList_pushAll rfl _ _ 26 rfl (w.heap.size + 2) 56 i2 (.agg #[.int .i64 0,.int .i64 0,.int .i64 0]) 3 24 Tryz.underlying26 HI2.out.1 HI2.out.2.1 HI2.out.2.2.1 HI2.out.2.2.2 rfl (by decide) _ 0 (handV m.hands) rfl hO0 H m.hands.length hc (handV m.hands) rfl ((HM.out.1.ext I.ext).hands) (fun j _=>handV_one _ _) ?b63 ?bby ?bba (handV m.hands) (fun j _=>rfl) (fun j _=>by simp) m.hands.length (by omega) ?_
   case b63=>unfold maxLen; omega
   case bby=>omega
   case bba=>omega
   intro A' c' w2 hO2 hg2 hX2 _
   have hgs:=hg2.size
   go_wp2
   refine ⟨fun _=>⟨u3,u4,u5,u6,u7,u8,_,u10,_,_,u13,u14,u15,u16,u17,u18,u19,u20,u21,rfl,?_⟩,fun h=>absurd rfl h⟩
   constructor
   case s0=>exact kL I.s0
   case s1=>exact kL I.s1
   case s2 =>
    intro h h2
    obtain ⟨A,c,e,hO⟩:=I.s2 (keepL h (by decide)) (keepF h2 (by decide))
    exact ⟨A,c,e,hO.keepG hO0 hg2 (by decide)⟩
   case s3=>exact kL I.s3
   case s4=>exact kL I.s4
   case s5 =>
    intro h
    obtain ⟨A,c,e,hO⟩:=I.s5 (keepL h (by decide))
    exact ⟨A,c,e,hO.keepG hO0 hg2 (by decide)⟩
   case s6=>exact fun _ h=>setL_no h
   case s7=>exact kL I.s7
   case s8=>exact kL I.s8
   case s9=>exact fun _=>⟨A',c',rfl,hO2⟩
   case s10 =>
    intro h h2
    obtain ⟨A,c,e,hO⟩:=I.s10 (keepL h (by decide)) (keepF h2 (by decide))
    exact ⟨A,c,e,hO.keepG hO0 hg2 (by decide)⟩
   case s11=>exact kL I.s11
   case s12=>exact kL I.s12
   case s13 =>
    intro h
    obtain ⟨A,c,e,hO⟩:=I.s13 (keepL h (by decide))
    exact ⟨A,c,e,hO.keepG hO0 hg2 (by decide)⟩
   case s14 =>
    intro h h2
    obtain ⟨A,c,e,hO⟩:=I.s14 (keepL h (by decide)) (keepF h2 (by decide))
    exact ⟨A,c,e,hO.keepG hO0 hg2 (by decide)⟩
   case s15=>exact kL I.s15
   case s16=>exact kL I.s16
   case s17 =>
    intro h
    obtain ⟨A,c,e,hO⟩:=I.s17 (keepL h (by decide))
    exact ⟨A,c,e,hO.keepG hO0 hg2 (by decide)⟩
   case s18=>exact fun h=>notL hL (by have:=I.z18 (keepL h (by decide)); simp_all)
   case z18 =>
    intro h
    obtain ⟨q1,q2,q3,q4⟩:=I.z18 (keepL h (by decide))
    exact ⟨setL_le q1,setL_le q2,setL_le q3,setL_le q4⟩
   case z19=>exact kA I.z19
   case ext=>exact hX2 _ I.ext (by omega)
   case sz=>exact Nat.le_trans I.sz hgs
   case blk=>exact I.blk.grown hg2 (Ne.symm (own_ne_blk hO0 I.blk (by decide)))
   case res=>exact fun h=>(I.res (keepF h (by decide))).grown hg2 (Ne.symm (own_ne_blk hO0 (I.res (keepF h (by decide))) (by decide)))
   case rez=>exact fun h=>notL hL (I.z19 (keepL h (by decide)) 9 (by omega))
  ·cases ho
   have hE2 : Ext w' (w'.alloc (.cells #[] 51)):=(Ext.refl w').alloc _
   go_wp2
   refine ⟨fun _=>⟨u3,u4,u5,u6,u7,u8,u9,u10,u11,u12,_,u14,u15,u16,u17,u18,u19,u20,u21,rfl,?_⟩,fun h=>absurd rfl h⟩
   constructor
   case s0=>exact kL I.s0
   case s1=>exact kL I.s1
   case s2 =>
    intro h h2
    obtain ⟨A,c,e,hO⟩:=I.s2 (keepL h (by decide)) (keepF h2 (by decide))
    exact ⟨A,c,e,hO.ext hE2⟩
   case s3=>exact kL I.s3
   case s4=>exact kL I.s4
   case s5 =>
    intro h
    obtain ⟨A,c,e,hO⟩:=I.s5 (keepL h (by decide))
    exact ⟨A,c,e,hO.ext hE2⟩
   case s6 =>
    intro h h2
    obtain ⟨A,c,e,hO⟩:=I.s6 (keepL h (by decide)) (keepF h2 (by decide))
    exact ⟨A,c,e,hO.ext hE2⟩
   case s7=>exact kL I.s7
   case s8=>exact kL I.s8
   case s9 =>
    intro h
    obtain ⟨A,c,e,hO⟩:=I.s9 (keepL h (by decide))
    exact ⟨A,c,e,hO.ext hE2⟩
   case s10=>exact fun _ _=>⟨_,_,rfl,(OwnS.lit0 w' 51 8 (holdsV m.spans)).mono I.sz⟩
   case s11=>exact kL I.s11
   case s12=>exact kL I.s12
   case s13 =>
    intro h
    obtain ⟨A,c,e,hO⟩:=I.s13 (keepL h (by decide))
    exact ⟨A,c,e,hO.ext hE2⟩
   case s14 =>
    intro h h2
    obtain ⟨A,c,e,hO⟩:=I.s14 (keepL h (by decide)) (keepF h2 (by decide))
    exact ⟨A,c,e,hO.ext hE2⟩
   case s15=>exact kL I.s15
   case s16=>exact kL I.s16
   case s17 =>
    intro h
    obtain ⟨A,c,e,hO⟩:=I.s17 (keepL h (by decide))
    exact ⟨A,c,e,hO.ext hE2⟩
   case s18=>exact kL I.s18
   case z18 =>
    intro h
    obtain ⟨q1,q2,q3,q4⟩:=I.z18 (keepL h (by decide))
    exact ⟨setL_le q1,setL_le q2,setL_le q3,setL_le q4⟩
   case z19=>exact kA I.z19
   case ext=>exact I.ext.trans hE2
   case sz=>exact Nat.le_trans I.sz hE2.size
   case blk=>exact I.blk.ext hE2
   case res=>exact fun h=>(I.res (keepF h (by decide))).ext hE2
   case rez=>exact fun h=>notL hL (I.z19 (keepL h (by decide)) 10 (by omega))
  ·cases ho
   go_wp2
   refine ⟨fun _=>⟨u3,u4,u5,u6,u7,u8,u9,u10,u11,u12,u13,_,u15,u16,u17,u18,u19,u20,u21,rfl,?_⟩,fun h=>absurd rfl h⟩
   constructor
   case s0=>exact kL I.s0
   case s1=>exact kL I.s1
   case s2=>exact kF I.s2
   case s3=>exact kL I.s3
   case s4=>exact kL I.s4
   case s5=>exact kL I.s5
   case s6=>exact kF I.s6
   case s7=>exact kL I.s7
   case s8=>exact kL I.s8
   case s9=>exact kL I.s9
   case s10=>exact kF I.s10
   case s11=>exact fun _=>rfl
   case s12=>exact kL I.s12
   case s13=>exact kL I.s13
   case s14=>exact kF I.s14
   case s15=>exact kL I.s15
   case s16=>exact kL I.s16
   case s17=>exact kL I.s17
   case s18=>exact kL I.s18
   case z18 =>
    intro h
    obtain ⟨q1,q2,q3,q4⟩:=I.z18 (keepL h (by decide))
    exact ⟨setL_le q1,setL_le q2,setL_le q3,setL_le q4⟩
   case z19=>exact kA I.z19
   case ext=>exact I.ext
   case sz=>exact I.sz
   case blk=>exact I.blk
   case res=>exact fun h=>I.res (keepF h (by decide))
   case rez=>exact fun h=>notL hL (I.z19 (keepL h (by decide)) 11 (by omega))
  ·cases ho
   have e0:=I.s11 (hdep ⟨11,.data⟩ (by simp) rfl)
   subst e0
   have hc:=I.blk.cell (i:=3) (v:=.slice S m.spans.length sc) rfl
   go_wp2
   refine ⟨fun _=>⟨u3,u4,u5,u6,u7,u8,u9,u10,u11,u12,u13,_,_,u16,u17,u18,u19,u20,u21,rfl,?_⟩,fun h=>absurd rfl h⟩
   constructor
   case s0=>exact kL I.s0
   case s1=>exact kL I.s1
   case s2=>exact kF I.s2
   case s3=>exact kL I.s3
   case s4=>exact kL I.s4
   case s5=>exact kL I.s5
   case s6=>exact kF I.s6
   case s7=>exact kL I.s7
   case s8=>exact kL I.s8
   case s9=>exact kL I.s9
   case s10=>exact kF I.s10
   case s11=>exact kL I.s11
   case s12=>exact fun _=>rfl
   case s13=>exact kL I.s13
   case s14=>exact kF I.s14
   case s15=>exact kL I.s15
   case s16=>exact kL I.s16
   case s17=>exact kL I.s17
   case s18=>exact kL I.s18
   case z18 =>
    intro h
    obtain ⟨q1,q2,q3,q4⟩:=I.z18 (keepL h (by decide))
    exact ⟨setL_le q1,setL_le q2,setL_le q3,setL_le q4⟩
   case z19=>exact kA I.z19
   case ext=>exact I.ext
   case sz=>exact I.sz
   case blk=>exact I.blk
   case res=>exact fun h=>I.res (keepF h (by decide))
   case rez=>exact fun h=>notL hL (I.z19 (keepL h (by decide)) 12 (by omega))
  ·cases ho
   have e0:=I.s12 (hdep ⟨12,.data⟩ (by simp) rfl)
   obtain ⟨A0,c0,e1,hO0⟩:=I.s10 (hdep ⟨10,.data⟩ (by simp) rfl) hL
   subst e0 e1
   have hsz2:=I.sz
   refine wpList_pushAll rfl _ _ 27 rfl (w.heap.size + 2) 51 i3 (.agg #[.int .i64 0,.int .i64 0,.int .i64 0,.int .i64 0,.int .i64 0,.bool false,.int .u64 0,.int .u64 0]) 8 64 Tryz.underlying27 HI3.out.1 HI3.out.2.1 HI3.out.2.2.1 HI3.out.2.2.2 rfl (by decide) _ 0 (holdsV m.spans) rfl hO0 S m.spans.length sc (holdsV m.spans) rfl ((HM.out.1.ext I.ext).spans) (fun j _=>holdsV_one _ _) ?b63 ?bby ?bba (holdsV m.spans) (fun j _=>rfl) (fun j _=>by simp) m.spans.length (by omega) ?_
   case b63=>unfold maxLen; omega
   case bby=>omega
   case bba=>omega
   intro A' c' w2 hO2 hg2 hX2 _
   have hgs:=hg2.size
   go_wp2
   refine ⟨fun _=>⟨u3,u4,u5,u6,u7,u8,u9,u10,u11,u12,_,u14,_,_,u17,u18,u19,u20,u21,rfl,?_⟩,fun h=>absurd rfl h⟩
   constructor
   case s0=>exact kL I.s0
   case s1=>exact kL I.s1
   case s2 =>
    intro h h2
    obtain ⟨A,c,e,hO⟩:=I.s2 (keepL h (by decide)) (keepF h2 (by decide))
    exact ⟨A,c,e,hO.keepG hO0 hg2 (by decide)⟩
   case s3=>exact kL I.s3
   case s4=>exact kL I.s4
   case s5 =>
    intro h
    obtain ⟨A,c,e,hO⟩:=I.s5 (keepL h (by decide))
    exact ⟨A,c,e,hO.keepG hO0 hg2 (by decide)⟩
   case s6 =>
    intro h h2
    obtain ⟨A,c,e,hO⟩:=I.s6 (keepL h (by decide)) (keepF h2 (by decide))
    exact ⟨A,c,e,hO.keepG hO0 hg2 (by decide)⟩
   case s7=>exact kL I.s7
   case s8=>exact kL I.s8
   case s9 =>
    intro h
    obtain ⟨A,c,e,hO⟩:=I.s9 (keepL h (by decide))
    exact ⟨A,c,e,hO.keepG hO0 hg2 (by decide)⟩
   case s10=>exact fun _ h=>setL_no h
   case s11=>exact kL I.s11
   case s12=>exact kL I.s12
   case s13=>exact fun _=>⟨A',c',rfl,hO2⟩
   case s14 =>
    intro h h2
    obtain ⟨A,c,e,hO⟩:=I.s14 (keepL h (by decide)) (keepF h2 (by decide))
    exact ⟨A,c,e,hO.keepG hO0 hg2 (by decide)⟩
   case s15=>exact kL I.s15
   case s16=>exact kL I.s16
   case s17 =>
    intro h
    obtain ⟨A,c,e,hO⟩:=I.s17 (keepL h (by decide))
    exact ⟨A,c,e,hO.keepG hO0 hg2 (by decide)⟩
   case s18=>exact fun h=>notL hL (by have:=I.z18 (keepL h (by decide)); simp_all)
   case z18 =>
    intro h
    obtain ⟨q1,q2,q3,q4⟩:=I.z18 (keepL h (by decide))
    exact ⟨setL_le q1,setL_le q2,setL_le q3,setL_le q4⟩
   case z19=>exact kA I.z19
   case ext=>exact hX2 _ I.ext (by omega)
   case sz=>exact Nat.le_trans I.sz hgs
   case blk=>exact I.blk.grown hg2 (Ne.symm (own_ne_blk hO0 I.blk (by decide)))
   case res=>exact fun h=>(I.res (keepF h (by decide))).grown hg2 (Ne.symm (own_ne_blk hO0 (I.res (keepF h (by decide))) (by decide)))
   case rez=>exact fun h=>notL hL (I.z19 (keepL h (by decide)) 13 (by omega))
  ·cases ho
   have hE2 : Ext w' (w'.alloc (.cells #[] 3)):=(Ext.refl w').alloc _
   go_wp2
   refine ⟨fun _=>⟨u3,u4,u5,u6,u7,u8,u9,u10,u11,u12,u13,u14,u15,u16,_,u18,u19,u20,u21,rfl,?_⟩,fun h=>absurd rfl h⟩
   constructor
   case s0=>exact kL I.s0
   case s1=>exact kL I.s1
   case s2 =>
    intro h h2
    obtain ⟨A,c,e,hO⟩:=I.s2 (keepL h (by decide)) (keepF h2 (by decide))
    exact ⟨A,c,e,hO.ext hE2⟩
   case s3=>exact kL I.s3
   case s4=>exact kL I.s4
   case s5 =>
    intro h
    obtain ⟨A,c,e,hO⟩:=I.s5 (keepL h (by decide))
    exact ⟨A,c,e,hO.ext hE2⟩
   case s6 =>
    intro h h2
    obtain ⟨A,c,e,hO⟩:=I.s6 (keepL h (by decide)) (keepF h2 (by decide))
    exact ⟨A,c,e,hO.ext hE2⟩
   case s7=>exact kL I.s7
   case s8=>exact kL I.s8
   case s9 =>
    intro h
    obtain ⟨A,c,e,hO⟩:=I.s9 (keepL h (by decide))
    exact ⟨A,c,e,hO.ext hE2⟩
   case s10 =>
    intro h h2
    obtain ⟨A,c,e,hO⟩:=I.s10 (keepL h (by decide)) (keepF h2 (by decide))
    exact ⟨A,c,e,hO.ext hE2⟩
   case s11=>exact kL I.s11
   case s12=>exact kL I.s12
   case s13 =>
    intro h
    obtain ⟨A,c,e,hO⟩:=I.s13 (keepL h (by decide))
    exact ⟨A,c,e,hO.ext hE2⟩
   case s14=>exact fun _ _=>⟨_,_,rfl,(OwnS.lit0 w' 3 1 (fun j=>.int .i64 (ix 0 m.gone j))).mono I.sz⟩
   case s15=>exact kL I.s15
   case s16=>exact kL I.s16
   case s17 =>
    intro h
    obtain ⟨A,c,e,hO⟩:=I.s17 (keepL h (by decide))
    exact ⟨A,c,e,hO.ext hE2⟩
   case s18=>exact kL I.s18
   case z18 =>
    intro h
    obtain ⟨q1,q2,q3,q4⟩:=I.z18 (keepL h (by decide))
    exact ⟨setL_le q1,setL_le q2,setL_le q3,setL_le q4⟩
   case z19=>exact kA I.z19
   case ext=>exact I.ext.trans hE2
   case sz=>exact Nat.le_trans I.sz hE2.size
   case blk=>exact I.blk.ext hE2
   case res=>exact fun h=>(I.res (keepF h (by decide))).ext hE2
   case rez=>exact fun h=>notL hL (I.z19 (keepL h (by decide)) 14 (by omega))
  ·cases ho
   go_wp2
   refine ⟨fun _=>⟨u3,u4,u5,u6,u7,u8,u9,u10,u11,u12,u13,u14,u15,u16,u17,_,u19,u20,u21,rfl,?_⟩,fun h=>absurd rfl h⟩
   constructor
   case s0=>exact kL I.s0
   case s1=>exact kL I.s1
   case s2=>exact kF I.s2
   case s3=>exact kL I.s3
   case s4=>exact kL I.s4
   case s5=>exact kL I.s5
   case s6=>exact kF I.s6
   case s7=>exact kL I.s7
   case s8=>exact kL I.s8
   case s9=>exact kL I.s9
   case s10=>exact kF I.s10
   case s11=>exact kL I.s11
   case s12=>exact kL I.s12
   case s13=>exact kL I.s13
   case s14=>exact kF I.s14
   case s15=>exact fun _=>rfl
   case s16=>exact kL I.s16
   case s17=>exact kL I.s17
   case s18=>exact kL I.s18
   case z18 =>
    intro h
    obtain ⟨q1,q2,q3,q4⟩:=I.z18 (keepL h (by decide))
    exact ⟨setL_le q1,setL_le q2,setL_le q3,setL_le q4⟩
   case z19=>exact kA I.z19
   case ext=>exact I.ext
   case sz=>exact I.sz
   case blk=>exact I.blk
   case res=>exact fun h=>I.res (keepF h (by decide))
   case rez=>exact fun h=>notL hL (I.z19 (keepL h (by decide)) 15 (by omega))
  ·cases ho
   have e0:=I.s15 (hdep ⟨15,.data⟩ (by simp) rfl)
   subst e0
   have hc:=I.blk.cell (i:=4) (v:=.slice G m.gone.length gc) rfl
   go_wp2
   refine ⟨fun _=>⟨u3,u4,u5,u6,u7,u8,u9,u10,u11,u12,u13,u14,u15,u16,u17,_,_,u20,u21,rfl,?_⟩,fun h=>absurd rfl h⟩
   constructor
   case s0=>exact kL I.s0
   case s1=>exact kL I.s1
   case s2=>exact kF I.s2
   case s3=>exact kL I.s3
   case s4=>exact kL I.s4
   case s5=>exact kL I.s5
   case s6=>exact kF I.s6
   case s7=>exact kL I.s7
   case s8=>exact kL I.s8
   case s9=>exact kL I.s9
   case s10=>exact kF I.s10
   case s11=>exact kL I.s11
   case s12=>exact kL I.s12
   case s13=>exact kL I.s13
   case s14=>exact kF I.s14
   case s15=>exact kL I.s15
   case s16=>exact fun _=>rfl
   case s17=>exact kL I.s17
   case s18=>exact kL I.s18
   case z18 =>
    intro h
    obtain ⟨q1,q2,q3,q4⟩:=I.z18 (keepL h (by decide))
    exact ⟨setL_le q1,setL_le q2,setL_le q3,setL_le q4⟩
   case z19=>exact kA I.z19
   case ext=>exact I.ext
   case sz=>exact I.sz
   case blk=>exact I.blk
   case res=>exact fun h=>I.res (keepF h (by decide))
   case rez=>exact fun h=>notL hL (I.z19 (keepL h (by decide)) 16 (by omega))
  ·cases ho
   have e0:=I.s16 (hdep ⟨16,.data⟩ (by simp) rfl)
   obtain ⟨A0,c0,e1,hO0⟩:=I.s14 (hdep ⟨14,.data⟩ (by simp) rfl) hL
   subst e0 e1
   have hsz2:=I.sz
   refine wpList_pushAll rfl _ _ 28 rfl (w.heap.size + 2) 3 i4 (.int .i64 0) 1 8 Tryz.underlying28 HI4.out.1 HI4.out.2.1 HI4.out.2.2.1 HI4.out.2.2.2 rfl (by decide) _ 0 (fun j=>.int .i64 (ix 0 m.gone j)) rfl hO0 G m.gone.length gc (fun j=>.int .i64 (ix 0 m.gone j)) rfl ((HM.out.1.ext I.ext).gone) (fun j _=>rfl) ?b63 ?bby ?bba (fun j=>.int .i64 (ix 0 m.gone j)) (fun j _=>rfl) (fun j _=>by simp) m.gone.length (by omega) ?_
   case b63=>unfold maxLen; omega
   case bby=>omega
   case bba=>omega
   intro A' c' w2 hO2 hg2 hX2 _
   have hgs:=hg2.size
   go_wp2
   refine ⟨fun _=>⟨u3,u4,u5,u6,u7,u8,u9,u10,u11,u12,u13,u14,u15,u16,_,u18,_,_,u21,rfl,?_⟩,fun h=>absurd rfl h⟩
   constructor
   case s0=>exact kL I.s0
   case s1=>exact kL I.s1
   case s2 =>
    intro h h2
    obtain ⟨A,c,e,hO⟩:=I.s2 (keepL h (by decide)) (keepF h2 (by decide))
    exact ⟨A,c,e,hO.keepG hO0 hg2 (by decide)⟩
   case s3=>exact kL I.s3
   case s4=>exact kL I.s4
   case s5 =>
    intro h
    obtain ⟨A,c,e,hO⟩:=I.s5 (keepL h (by decide))
    exact ⟨A,c,e,hO.keepG hO0 hg2 (by decide)⟩
   case s6 =>
    intro h h2
    obtain ⟨A,c,e,hO⟩:=I.s6 (keepL h (by decide)) (keepF h2 (by decide))
    exact ⟨A,c,e,hO.keepG hO0 hg2 (by decide)⟩
   case s7=>exact kL I.s7
   case s8=>exact kL I.s8
   case s9 =>
    intro h
    obtain ⟨A,c,e,hO⟩:=I.s9 (keepL h (by decide))
    exact ⟨A,c,e,hO.keepG hO0 hg2 (by decide)⟩
   case s10 =>
    intro h h2
    obtain ⟨A,c,e,hO⟩:=I.s10 (keepL h (by decide)) (keepF h2 (by decide))
    exact ⟨A,c,e,hO.keepG hO0 hg2 (by decide)⟩
   case s11=>exact kL I.s11
   case s12=>exact kL I.s12
   case s13 =>
    intro h
    obtain ⟨A,c,e,hO⟩:=I.s13 (keepL h (by decide))
    exact ⟨A,c,e,hO.keepG hO0 hg2 (by decide)⟩
   case s14=>exact fun _ h=>setL_no h
   case s15=>exact kL I.s15
   case s16=>exact kL I.s16
   case s17=>exact fun _=>⟨A',c',rfl,hO2⟩
   case s18=>exact fun h=>notL hL (by have:=I.z18 (keepL h (by decide)); simp_all)
   case z18 =>
    intro h
    obtain ⟨q1,q2,q3,q4⟩:=I.z18 (keepL h (by decide))
    exact ⟨setL_le q1,setL_le q2,setL_le q3,setL_le q4⟩
   case z19=>exact kA I.z19
   case ext=>exact hX2 _ I.ext (by omega)
   case sz=>exact Nat.le_trans I.sz hgs
   case blk=>exact I.blk.grown hg2 (Ne.symm (own_ne_blk hO0 I.blk (by decide)))
   case res=>exact fun h=>(I.res (keepF h (by decide))).grown hg2 (Ne.symm (own_ne_blk hO0 (I.res (keepF h (by decide))) (by decide)))
   case rez=>exact fun h=>notL hL (I.z19 (keepL h (by decide)) 17 (by omega))
  ·cases ho
   have e1:=I.s1 (hdep ⟨1,.data⟩ (by simp) rfl)
   subst e1
   have hd5 : L 5=true:=hdep ⟨5,.data⟩ (by simp) rfl
   have hd9 : L 9=true:=hdep ⟨9,.data⟩ (by simp) rfl
   have hd13 : L 13=true:=hdep ⟨13,.data⟩ (by simp) rfl
   have hd17 : L 17=true:=hdep ⟨17,.data⟩ (by simp) rfl
   obtain ⟨A1,c1,f1,_⟩:=I.s5 hd5
   obtain ⟨A2,c2,f2,_⟩:=I.s9 hd9
   obtain ⟨A3,c3,f3,_⟩:=I.s13 hd13
   obtain ⟨A4,c4,f4,_⟩:=I.s17 hd17
   subst f1 f2 f3 f4
   go_wp2
   refine ⟨fun _=>⟨u3,_,u5,u6,u7,_,u9,u10,u11,_,u13,u14,u15,_,u17,u18,u19,_,_,rfl,?_⟩,fun h=>absurd rfl h⟩
   constructor
   case s0=>exact kL I.s0
   case s1=>exact kL I.s1
   case s2=>exact kF I.s2
   case s3=>exact kL I.s3
   case s4=>exact kL I.s4
   case s5=>exact kL I.s5
   case s6=>exact kF I.s6
   case s7=>exact kL I.s7
   case s8=>exact kL I.s8
   case s9=>exact kL I.s9
   case s10=>exact kF I.s10
   case s11=>exact kL I.s11
   case s12=>exact kL I.s12
   case s13=>exact kL I.s13
   case s14=>exact kF I.s14
   case s15=>exact kL I.s15
   case s16=>exact kL I.s16
   case s17=>exact kL I.s17
   case s18=>exact fun _=>rfl
   case z18=>exact fun _=>⟨setL_le hd5,setL_le hd9,setL_le hd13,setL_le hd17⟩
   case z19=>exact kA I.z19
   case ext=>exact I.ext
   case sz=>exact I.sz
   case blk=>exact I.blk
   case res=>exact fun h=>I.res (keepF h (by decide))
   case rez=>exact fun h=>notL hL (I.z19 (keepL h (by decide)) 18 (by omega))
  ·cases ho
   have e1:=I.s18 (hdep ⟨18,.data⟩ (by simp) rfl)
   subst e1
   have hall : ∀ j,j < 19→L j=true:=by
    intro j hj
    have hj2 : j=0∨j=1∨j=2∨j=3∨j=4∨j=5∨j=6∨j=7∨j=8∨j=9∨j=10∨j=11∨j=12∨j=13∨j=14∨j=15∨j=16∨j=17∨j=18:=by omega
    rcases hj2 with rfl | rfl | rfl | rfl | rfl | rfl | rfl | rfl | rfl | rfl | rfl | rfl | rfl | rfl | rfl | rfl | rfl | rfl | rfl
    ·exact hdep ⟨0,.phase⟩ (by simp) rfl
    ·exact hdep ⟨1,.phase⟩ (by simp) rfl
    ·exact hdep ⟨2,.phase⟩ (by simp) rfl
    ·exact hdep ⟨3,.phase⟩ (by simp) rfl
    ·exact hdep ⟨4,.phase⟩ (by simp) rfl
    ·exact hdep ⟨5,.phase⟩ (by simp) rfl
    ·exact hdep ⟨6,.phase⟩ (by simp) rfl
    ·exact hdep ⟨7,.phase⟩ (by simp) rfl
    ·exact hdep ⟨8,.phase⟩ (by simp) rfl
    ·exact hdep ⟨9,.phase⟩ (by simp) rfl
    ·exact hdep ⟨10,.phase⟩ (by simp) rfl
    ·exact hdep ⟨11,.phase⟩ (by simp) rfl
    ·exact hdep ⟨12,.phase⟩ (by simp) rfl
    ·exact hdep ⟨13,.phase⟩ (by simp) rfl
    ·exact hdep ⟨14,.phase⟩ (by simp) rfl
    ·exact hdep ⟨15,.phase⟩ (by simp) rfl
    ·exact hdep ⟨16,.phase⟩ (by simp) rfl
    ·exact hdep ⟨17,.phase⟩ (by simp) rfl
    ·exact hdep ⟨18,.phase⟩ (by simp) rfl
   obtain ⟨A1,c1,e1,o1⟩:=I.s5 (hall 5 (by decide))
   obtain ⟨A2,c2,e2,o2⟩:=I.s9 (hall 9 (by decide))
   obtain ⟨A3,c3,e3,o3⟩:=I.s13 (hall 13 (by decide))
   obtain ⟨A4,c4,e4,o4⟩:=I.s17 (hall 17 (by decide))
   subst e1 e2 e3 e4
   have hr:=I.res hL
   obtain ⟨g0,g1,g2,g3,g4⟩:=Blk.c5 hr
   have fz0:=hr.frozen 0
   have fz1:=hr.frozen 1
   have fz2:=hr.frozen 2
   have fz3:=hr.frozen 3
   have fz4:=hr.frozen 4
   have hB:=((((hr.set 0 (.int .i64 m.pages)).set 1 (.slice A1 m.free.length c1)).set 2 (.slice A2 m.hands.length c2)).set 3 (.slice A3 m.spans.length c3)).set 4 (.slice A4 m.gone.length c4)
   simp only [List.setIfInBounds_toArray,List.set_cons_succ,List.set_cons_zero] at hB
   have hle : w.heap.size≤w.heap.size + 1:=by omega
   have hlt : w.heap.size + 1 < w.heap.size + 2:=by omega
   have hne : w.heap.size≠w.heap.size + 1:=by omega
   have HS:=Lib.hid (And.intro hB (And.intro o1 (And.intro o2 (And.intro o3 o4))))
   clear hB o1 o2 o3 o4 hr
   go_wp2
   refine ⟨fun _=>⟨u3,u4,u5,u6,u7,_,u9,u10,u11,_,u13,u14,u15,_,u17,u18,u19,_,_,rfl,?_⟩,fun h=>absurd rfl h⟩
   constructor
   case s0=>exact kL I.s0
   case s1=>exact kL I.s1
   case s2=>exact fun _ h=>absurd (keepF h (by decide)) (by rw [hall 5 (by decide)]; decide)
   case s3=>exact kL I.s3
   case s4=>exact kL I.s4
   case s5=>exact fun _=>⟨_,_,rfl,(((((HS.out.2.1).far hlt _).far hlt _).far hlt _).far hlt _).far hlt _⟩
   case s6=>exact fun _ h=>absurd (keepF h (by decide)) (by rw [hall 9 (by decide)]; decide)
   case s7=>exact kL I.s7
   case s8=>exact kL I.s8
   case s9=>exact fun _=>⟨_,_,rfl,(((((HS.out.2.2.1).far hlt _).far hlt _).far hlt _).far hlt _).far hlt _⟩
   case s10=>exact fun _ h=>absurd (keepF h (by decide)) (by rw [hall 13 (by decide)]; decide)
   case s11=>exact kL I.s11
   case s12=>exact kL I.s12
   case s13=>exact fun _=>⟨_,_,rfl,(((((HS.out.2.2.2.1).far hlt _).far hlt _).far hlt _).far hlt _).far hlt _⟩
   case s14=>exact fun _ h=>absurd (keepF h (by decide)) (by rw [hall 17 (by decide)]; decide)
   case s15=>exact kL I.s15
   case s16=>exact kL I.s16
   case s17=>exact fun _=>⟨_,_,rfl,(((((HS.out.2.2.2.2).far hlt _).far hlt _).far hlt _).far hlt _).far hlt _⟩
   case s18=>exact fun _=>rfl
   case z18=>exact fun _=>⟨setL_le (hall 5 (by decide)),setL_le (hall 9 (by decide)),setL_le (hall 13 (by decide)),setL_le (hall 17 (by decide))⟩
   case z19=>exact fun _ j hj=>setL_le (hall j hj)
   case ext=>exact ((((I.ext.setCell (p:=⟨w.heap.size + 1,0,none⟩) hle _).setCell (p:=⟨w.heap.size + 1,1,none⟩) hle _).setCell (p:=⟨w.heap.size + 1,2,none⟩) hle _).setCell (p:=⟨w.heap.size + 1,3,none⟩) hle _).setCell (p:=⟨w.heap.size + 1,4,none⟩) hle _
   case sz=>exact Nat.le_trans I.sz (Nat.le_of_eq (by simp))
   case blk=>exact ((((I.blk.far hne _).far hne _).far hne _).far hne _).far hne _
   case res=>exact fun h=>setL_no h
   case rez=>exact fun _=>HS.out.1
  ·simp at ho
 case hend =>
  intro L a w' hall hI
  obtain ⟨u3,u4,u5,u6,u7,u8,u9,u10,u11,u12,u13,u14,u15,u16,u17,u18,u19,u20,u21,rfl,I⟩:=hI
  obtain ⟨A1,c1,e1,o1⟩:=I.s5 (hall 5 (by decide))
  obtain ⟨A2,c2,e2,o2⟩:=I.s9 (hall 9 (by decide))
  obtain ⟨A3,c3,e3,o3⟩:=I.s13 (hall 13 (by decide))
  obtain ⟨A4,c4,e4,o4⟩:=I.s17 (hall 17 (by decide))
  subst e1 e2 e3 e4
  have hr:=I.rez (hall 19 (by decide))
  have HE:=Lib.hid (And.intro I.ext (And.intro (OwnM.mk o1 o2 o3 o4) hr))
  clear I hr o1 o2 o3 o4
  go_wp2
  refine bodyPost_ret (results_cell_row cop_res _ _ (w.heap.size + 1) 30 _ (0,0) _ rfl HE.out.2.2 Tryz.underlying30 rfl own_info) rfl ⟨A1,A2,A3,A4,c1,c2,c3,c4,rfl,HE.out.1,HE.out.2.1.mono (by omega)⟩
/-- A model of its own in a block. -/
structure RefM (w : World) (d base : Nat) (m : ModelD) (F H S G : Value) : Prop where
 blk : Blk w d 30 #[.int .i64 m.pages,F,H,S,G]
 own : OwnM w base m F H S G
section
variable {w w' w2 : World} {d base : Nat} {m : ModelD} {F H S G v' : Value}
theorem RefM.ext (h : RefM w d base m F H S G) (hE : Ext w w') : RefM w' d base m F H S G:=⟨h.blk.ext hE,h.own.ext hE⟩
theorem RefM.nes (h : RefM w d base m F H S G) : F.ownBlock≠some d∧H.ownBlock≠some d∧S.ownBlock≠some d∧G.ownBlock≠some d :=
 ⟨own_ne_blk h.own.free h.blk (by decide),own_ne_blk h.own.hands h.blk (by decide),own_ne_blk h.own.spans h.blk (by decide),own_ne_blk h.own.gone h.blk (by decide)⟩
theorem RefM.setFree (h : RefM w d base m F H S G) (l : List RunD) (hO : OwnS w base 54 2 v' l.length (runV l)) : RefM (w.setCell ⟨d,1,none⟩ v') d base { m with free:=l } v' H S G:=by
 obtain ⟨n1,n2,n3,n4⟩:=h.nes
 have hb2:=h.blk.set 1 v'
 simp only [List.setIfInBounds_toArray,List.set_cons_succ,List.set_cons_zero] at hb2
 exact ⟨hb2,hO.setOther (own_ne_blk hO h.blk (by decide)) _,h.own.hands.setOther n2 _,h.own.spans.setOther n3 _,h.own.gone.setOther n4 _⟩
theorem RefM.setHands (h : RefM w d base m F H S G) (l : List HandD) (hO : OwnS w base 56 3 v' l.length (handV l)) : RefM (w.setCell ⟨d,2,none⟩ v') d base { m with hands:=l } F v' S G:=by
 obtain ⟨n1,n2,n3,n4⟩:=h.nes
 have hb2:=h.blk.set 2 v'
 simp only [List.setIfInBounds_toArray,List.set_cons_succ,List.set_cons_zero] at hb2
 exact ⟨hb2,h.own.free.setOther n1 _,hO.setOther (own_ne_blk hO h.blk (by decide)) _,h.own.spans.setOther n3 _,h.own.gone.setOther n4 _⟩
theorem RefM.setSpans (h : RefM w d base m F H S G) (l : List HoldD) (hO : OwnS w base 51 8 v' l.length (holdsV l)) : RefM (w.setCell ⟨d,3,none⟩ v') d base { m with spans:=l } F H v' G:=by
 obtain ⟨n1,n2,n3,n4⟩:=h.nes
 have hb2:=h.blk.set 3 v'
 simp only [List.setIfInBounds_toArray,List.set_cons_succ,List.set_cons_zero] at hb2
 exact ⟨hb2,h.own.free.setOther n1 _,h.own.hands.setOther n2 _,hO.setOther (own_ne_blk hO h.blk (by decide)) _,h.own.gone.setOther n4 _⟩
theorem RefM.setGone (h : RefM w d base m F H S G) (l : List Int) (hO : OwnS w base 3 1 v' l.length (fun j=>.int .i64 (ix 0 l j))) : RefM (w.setCell ⟨d,4,none⟩ v') d base { m with gone:=l } F H S v':=by
 obtain ⟨n1,n2,n3,n4⟩:=h.nes
 have hb2:=h.blk.set 4 v'
 simp only [List.setIfInBounds_toArray,List.set_cons_succ,List.set_cons_zero] at hb2
 exact ⟨hb2,h.own.free.setOther n1 _,h.own.hands.setOther n2 _,h.own.spans.setOther n3 _,hO.setOther (own_ne_blk hO h.blk (by decide)) _⟩
theorem RefM.reads {F H S G : Option Addr} {fc hc sc gc : Nat} (h : RefM w d base m (.slice F m.free.length fc) (.slice H m.hands.length hc) (.slice S m.spans.length sc) (.slice G m.gone.length gc)) : ModelR w m F H S G:=h.own.reads
end
/-- The two pieces of a row of its own. -/
theorem OwnS.addr {w : World} {base : Nat} {e : TypeId} {sz n c : Nat} {A : Option Addr} {F : Nat→Value} (h : OwnS w base e sz (.slice A n c) n F) : A=none∧n=0∧c=0∨∃ g,A=some ⟨g,0,none⟩∧base≤g:=by
 rcases h.2 with ⟨e1,e2⟩ | ⟨g,cap,cur,e1,hg,r⟩
 ·injection e1 with a1 a2 a3
  exact .inl ⟨a1,e2,a3⟩
 ·injection e1 with a1 a2 a3
  exact .inr ⟨g,a1,hg⟩
theorem OwnS.slr {w : World} {base t sz n c : Nat} {A : Option Addr} {F : Nat→Value} (h : OwnS w base t sz (.slice A n c) n F) : SlR w A n sz F:=by
 obtain ⟨A',c',e,_,h2⟩:=h.form
 injection e with e1 e2 e3
 subst e1 e3
 exact h2
theorem SlR.upto {w : World} {A : Option Addr} {n a sz : Nat} {F : Nat→Value} (h : SlR w A n sz F) (ha : a≤n) : SlR w A a sz F:=fun h0=>by
 obtain ⟨b,off,e,hc⟩:=h (by omega)
 exact ⟨b,off,e,fun j hj=>hc j (Nat.lt_of_lt_of_le hj (Nat.mul_le_mul_right _ ha))⟩
theorem SlR.from {w : World} {g n a c sz : Nat} {F G : Nat→Value} (h : SlR w (some ⟨g,0,none⟩) n sz F) (hc : n≤c) (hG : ∀ j,F (a * sz + j)=G j) : SlR w (if c=a then some ⟨g,0,none⟩ else some ⟨g,a * sz,none⟩) (n - a) sz G:=fun h0=>by
 obtain ⟨b,off,e,hcl⟩:=h (by omega)
 injection e with e
 injection e with e1 e2
 subst e1 e2
 rw [if_neg (by omega)]
 refine ⟨_,_,rfl,fun j hj=>?_⟩
 rw [← hG j]
 have:=hcl (a * sz + j) (by
  have h2 : (a + (n - a)) * sz≤n * sz:=Nat.mul_le_mul_right _ (by omega)
  rw [Nat.add_mul] at h2
  omega)
 rw [Nat.zero_add] at this
 exact this
set_option maxHeartbeats 8000000 in
set_option maxRecDepth 100000 in
theorem drop28_any (m : ModelD) (d base : Nat) (F H S G : Value) (i : Nat) (w : World) (hi : i < m.hands.length) (hl : m.hands.length≤900000) (hbase : base≤w.heap.size) (hD : RefM w d base m F H S G) :
  Calls Tryz.prog 68 #[.pointer (some ⟨d,0,none⟩),.int .i64 i] w fun e w'=>e=.returned (.tuple #[])∧KeepD base d w w'∧w.heap.size≤w'.heap.size∧∃ H',RefM w' d base { m with hands:=cutIn m.hands i (i + 1) [] } F H' S G∧∃ w1,Ext w w1∧w'=w1.setCell ⟨d,2,none⟩ H':=by
 obtain ⟨HA,hc,rfl,hhc⟩:=hD.own.hands.ofSlice
 obtain ⟨g,rfl,hg⟩ : ∃ g,HA=some ⟨g,0,none⟩∧base≤g:=by
  rcases hD.own.hands.addr with ⟨_,h0,_⟩ | h
  ·omega
  ·exact h
 obtain ⟨i0,hi0,hz0,hs0,hb0⟩:=info_parts Tryz.infoMHand
 have HI:=Lib.hid (And.intro hi0 (And.intro hz0 (And.intro hs0 hb0)))
 clear hi0 hz0 hs0 hb0
 have HD:=Lib.hid hD
 have x2:=hD.blk.cell (i:=2) (v:=.slice (some ⟨g,0,none⟩) m.hands.length hc) rfl
 have hfr:=hD.own.hands.slr.from (a:=i + 1) (c:=hc) hhc (G:=fun j=>handV m.hands ((i + 1) * 3 + j)) (fun j=>rfl)
 obtain ⟨cA,hcA⟩ : ∃ cA,(if hc=i + 1 then some (⟨g,0,none⟩ : Addr) else some ⟨g,(i + 1) * 3,none⟩)=cA:=⟨_,rfl⟩
 rw [hcA] at hfr
 have HFr:=Lib.hid hfr
 clear hfr hD
 have q0 : (0 : Int)≤(i : Int):=by omega
 have q1 : (i : Int)≤(m.hands.length : Int):=by omega
 have q2 : (i : Int) + 1≤(m.hands.length : Int):=by omega
 have q3 : (i : Int)≤(hc : Int):=by omega
 have q4 : (0 : Int)≤(i : Int) + 1:=by omega
 have w1 : IntKind.i64.wrap ((i : Int) + 1)=(i : Int) + 1:=by rw [IntKind.wrap_i64]; omega
 go_enter Tryz.func68,Tryz.ntmps68
 go_wp2_with (fail)
 refine wp_region_ord (fun w'=>w'.cell? ⟨d,2,none⟩=some (.slice (some ⟨g,0,none⟩) m.hands.length hc)) (fun i=>!(i == 1 || i == 8 || i == 16 || i == 19)) (fun i=>i == 5 || i == 12) (fun i=>i == 1 || i == 8) [0,2,3,4,5,6,7,9,10,11,12,13,14,15,1,8,16,17,18,19] (by kernel_rfl) (by kernel_rfl) (fun c a d v w h=>by cases d <;> exact h) ?_
 refine wpOrd_quiet (v:=?vs0) rfl rfl rfl rfl ?ys0 ?rs0
 case ys0=>(intro w'; go_simp; try with_reducible rfl)
 simp only [List.getElem_toArray,List.getElem_cons_succ,List.getElem_cons_zero,Act.put,List.setIfInBounds_toArray,List.set_cons_zero,List.set_cons_succ]
 refine wpOrd_quiet (v:=?vs2) rfl rfl rfl rfl ?ys2 ?rs2
 case ys2=>(intro w'; go_simp; try with_reducible rfl)
 simp only [List.getElem_toArray,List.getElem_cons_succ,List.getElem_cons_zero,Act.put,List.setIfInBounds_toArray,List.set_cons_zero,List.set_cons_succ]
 refine wpOrd_quiet (v:=?vs3) rfl rfl rfl rfl ?ys3 ?rs3
 case ys3=>(intro w'; go_simp; try with_reducible rfl)
 simp only [List.getElem_toArray,List.getElem_cons_succ,List.getElem_cons_zero,Act.put,List.setIfInBounds_toArray,List.set_cons_zero,List.set_cons_succ]
 refine wpOrd_quiet (v:=?vs4) rfl rfl rfl rfl ?ys4 ?rs4
 case ys4=>(intro w'; go_simp; try with_reducible rfl)
 simp only [List.getElem_toArray,List.getElem_cons_succ,List.getElem_cons_zero,Act.put,List.setIfInBounds_toArray,List.set_cons_zero,List.set_cons_succ]
 refine wpOrd_held (v:=?vs5) rfl rfl rfl ((Ext.refl w).drew.cell x2) rfl ?ys5 ?rs5
 case ys5=>(intro w' hS'; (try dsimp only at hS'); go_simp; try with_reducible rfl)
 simp only [List.getElem_toArray,List.getElem_cons_succ,List.getElem_cons_zero,Act.put,List.setIfInBounds_toArray,List.set_cons_zero,List.set_cons_succ]
 refine wpOrd_quiet (v:=?vs6) rfl rfl rfl rfl ?ys6 ?rs6
 case ys6=>(intro w'; go_simp; try with_reducible rfl)
 simp only [List.getElem_toArray,List.getElem_cons_succ,List.getElem_cons_zero,Act.put,List.setIfInBounds_toArray,List.set_cons_zero,List.set_cons_succ]
 refine wpOrd_quiet (v:=?vs7) rfl rfl rfl rfl ?ys7 ?rs7
 case ys7=>(intro w'; go_simp; try with_reducible rfl)
 simp only [List.getElem_toArray,List.getElem_cons_succ,List.getElem_cons_zero,Act.put,List.setIfInBounds_toArray,List.set_cons_zero,List.set_cons_succ]
 refine wpOrd_quiet (v:=?vs9) rfl rfl rfl rfl ?ys9 ?rs9
 case ys9=>(intro w'; go_simp; try with_reducible rfl)
 simp only [List.getElem_toArray,List.getElem_cons_succ,List.getElem_cons_zero,Act.put,List.setIfInBounds_toArray,List.set_cons_zero,List.set_cons_succ]
 refine wpOrd_quiet (v:=?vs10) rfl rfl rfl rfl ?ys10 ?rs10
 case ys10=>(intro w'; go_simp; try with_reducible rfl)
 simp only [List.getElem_toArray,List.getElem_cons_succ,List.getElem_cons_zero,Act.put,List.setIfInBounds_toArray,List.set_cons_zero,List.set_cons_succ]
 refine wpOrd_quiet (v:=?vs11) rfl rfl rfl rfl ?ys11 ?rs11
 case ys11=>(intro w'; go_simp; try with_reducible rfl)
 simp only [List.getElem_toArray,List.getElem_cons_succ,List.getElem_cons_zero,Act.put,List.setIfInBounds_toArray,List.set_cons_zero,List.set_cons_succ]
 refine wpOrd_held (v:=?vs12) rfl rfl rfl ((Ext.refl w).drew.cell x2) rfl ?ys12 ?rs12
 case ys12=>(intro w' hS'; (try dsimp only at hS'); go_simp; try with_reducible rfl)
 simp only [List.getElem_toArray,List.getElem_cons_succ,List.getElem_cons_zero,Act.put,List.setIfInBounds_toArray,List.set_cons_zero,List.set_cons_succ]
 refine wpOrd_quiet (v:=?vs13) rfl rfl rfl rfl ?ys13 ?rs13
 case ys13=>(intro w'; go_simp; try with_reducible rfl)
 simp only [List.getElem_toArray,List.getElem_cons_succ,List.getElem_cons_zero,Act.put,List.setIfInBounds_toArray,List.set_cons_zero,List.set_cons_succ]
 refine wpOrd_quiet (v:=?vs14) rfl rfl rfl rfl ?ys14 ?rs14
 case ys14=>(intro w'; go_simp; try with_reducible rfl)
 simp only [List.getElem_toArray,List.getElem_cons_succ,List.getElem_cons_zero,Act.put,List.setIfInBounds_toArray,List.set_cons_zero,List.set_cons_succ]
 refine wpOrd_quiet (v:=?vs15) rfl rfl rfl rfl ?ys15 ?rs15
 case ys15=>(intro w'; go_simp; try with_reducible rfl)
 simp only [List.getElem_toArray,List.getElem_cons_succ,List.getElem_cons_zero,Act.put,List.setIfInBounds_toArray,List.set_cons_zero,List.set_cons_succ]
 refine wpOrd_loud rfl rfl rfl ?_
 simp only [List.getElem_toArray,List.getElem_cons_succ,List.getElem_cons_zero]
 go_wp2
 have hEa : Ext w (w.drew.alloc (.cells #[] 56)):=(Ext.refl w).drew.alloc _
 refine postK_intro (ordK_need (hEa.cell x2) ?_)
 refine wpOrd_loud rfl rfl rfl ?_
 simp only [List.getElem_toArray,List.getElem_cons_succ,List.getElem_cons_zero]
 refine wpList_pushAll rfl _ _ 26 rfl w.heap.size 56 i0 (.agg #[.int .i64 0,.int .i64 0,.int .i64 0]) 3 24 Tryz.underlying26 HI.out.1 HI.out.2.1 HI.out.2.2.1 HI.out.2.2.2 rfl (by decide) _ 0 (handV (cutIn m.hands i (i + 1) [])) rfl (OwnS.lit0 w.drew 56 3 (handV (cutIn m.hands i (i + 1) []))) (some ⟨g,0,none⟩) i hc (handV m.hands) rfl ((HD.out.own.hands.slr.upto (by omega)).ext hEa) (fun j _=>handV_one _ _) ?b631 ?bby1 ?bba1 (handV (cutIn m.hands i (i + 1) [])) (fun j _=>rfl) (fun j hj=>by rw [Nat.zero_mul,Nat.zero_add]; exact rowV_lo (C:=handX) (d:=noHand) (sz:=3) (by omega) j hj) i (by omega) ?_
 case b631=>unfold maxLen; omega
 case bby1=>omega
 case bba1=>simp [World.drew]
 intro A1 c1 w1 hO1 hg1 hX1 _
 replace hX1:=hX1 w hEa (Nat.le_refl _)
 go_wp2
 refine postK_intro (ordK_need (hX1.cell x2) ?_)
 refine wpOrd_loud rfl rfl rfl ?_
 simp only [List.getElem_toArray,List.getElem_cons_succ,List.getElem_cons_zero]
 refine wpList_pushAll rfl _ _ 26 rfl w.heap.size 56 i0 (.agg #[.int .i64 0,.int .i64 0,.int .i64 0]) 3 24 Tryz.underlying26 HI.out.1 HI.out.2.1 HI.out.2.2.1 HI.out.2.2.2 rfl (by decide) _ i (handV (cutIn m.hands i (i + 1) [])) rfl hO1 cA (m.hands.length - (i + 1)) (hc - (i + 1)) (fun j=>handV m.hands ((i + 1) * 3 + j)) rfl (HFr.out.ext hX1) (fun j _=>handV_one _ _) ?b632 ?bby2 ?bba2 (handV (cutIn m.hands i (i + 1) [])) (fun j _=>rfl) (fun j hj=>rowV_hi (C:=handX) (d:=noHand) (sz:=3) (vs:=[]) (by omega) (by omega) j) (cutIn m.hands i (i + 1) []).length (by rw [cutIn_length (by omega)]; simp) ?_
 case b632=>unfold maxLen; omega
 case bby2=>omega
 case bba2=>exact hX1.size
 intro A2 c2 w2 hO2 hg2 hX2 _
 replace hX2:=hX2 w hX1 (Nat.le_refl _)
 go_wp2
 refine postK_intro (ordK_free rfl ?_)
 refine wpOrd_quiet (v:=?vs17) rfl rfl rfl rfl ?ys17 ?rs17
 case ys17=>(intro w'; go_simp; try with_reducible rfl)
 simp only [List.getElem_toArray,List.getElem_cons_succ,List.getElem_cons_zero,Act.put,List.setIfInBounds_toArray,List.set_cons_zero,List.set_cons_succ]
 refine wpOrd_quiet (v:=?vs18) rfl rfl rfl rfl ?ys18 ?rs18
 case ys18=>(intro w'; go_simp; try with_reducible rfl)
 simp only [List.getElem_toArray,List.getElem_cons_succ,List.getElem_cons_zero,Act.put,List.setIfInBounds_toArray,List.set_cons_zero,List.set_cons_succ]
 refine wpOrd_loud rfl rfl rfl ?_
 simp only [List.getElem_toArray,List.getElem_cons_succ,List.getElem_cons_zero]
 have hD2:=HD.out.ext hX2
 have y2:=hD2.blk.cell (i:=2) (v:=.slice (some ⟨g,0,none⟩) m.hands.length hc) rfl
 have yf:=hD2.blk.frozen 2
 have HE:=Lib.hid (And.intro hX2 (hD2.setHands (cutIn m.hands i (i + 1) []) (hO2.mono hbase)))
 clear hD2 hX2 hX1 hEa hg1 hg2 hO1 hO2
 go_wp2
 refine postK_intro (ordK_free rfl ?_)
 refine wpOrd_nil ?_
 go_wp2
 go_end0
 exact ⟨rfl,(KeepD.ext HE.out.1).trans (KeepD.set 2 _),Nat.le_trans HE.out.1.size (Nat.le_of_eq (by simp)),_,HE.out.2,_,HE.out.1,rfl⟩
end Go.Proofs.YtoolenhnhlfhmaaGreatDoor
