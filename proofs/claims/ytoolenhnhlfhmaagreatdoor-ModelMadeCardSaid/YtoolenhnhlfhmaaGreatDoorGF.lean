/- Walks: May. Walks: slices.Clone, of runs, of hands, of spans and of numbers (printed by gen_mdk.py). -/
import Derived.Test.YtoolenhnhlfhmaaGreatDoorMdH
namespace Go.Proofs.YtoolenhnhlfhmaaGreatDoor
open Go.RowKit Go.Sort
set_option linter.unusedVariables false
set_option linter.unusedSimpArgs false
/-- The first k of the gone pages: rising, of no span. -/
def GoneTo (m : ModelD) (k : Nat) : Prop:=RiseTo m.pages m.gone k∧∀ i,i < k→∀ j,j < m.spans.length→¬ InP ((ix noHold m.spans j).page,(ix noHold m.spans j).pages) (ix 0 m.gone i)
theorem GoneTo.nil (m : ModelD) : GoneTo m 0:=⟨fun i hi=>absurd hi (by omega),fun i hi=>absurd hi (by omega)⟩
theorem GoneTo.step {m : ModelD} {k : Nat} (h : GoneTo m k) (h1 : 0≤ix 0 m.gone k∧ix 0 m.gone k < m.pages) (h2 : 0 < k→ix 0 m.gone (k - 1) < ix 0 m.gone k) (h3 : ∀ j,j < m.spans.length→¬ InP ((ix noHold m.spans j).page,(ix noHold m.spans j).pages) (ix 0 m.gone k)) : GoneTo m (k + 1):=by
 refine ⟨fun i hi=>?_,fun i hi=>?_⟩
 ·by_cases e : i=k
  ·subst e; exact ⟨h1,h2⟩
  ·exact h.1 i (by omega)
 ·by_cases e : i=k
  ·subst e; exact h3
  ·exact h.2 i (by omega)
theorem CovK.span {m : ModelD} {C : Nat→Int} (h : CovK m (pcs m).length C) {p : Nat} (hp : (p : Int) < m.pages) : C p=3↔∃ j,j < m.spans.length∧InP ((ix noHold m.spans j).page,(ix noHold m.spans j).pages) (p : Int):=by
 rw [h.three p hp]
 constructor
 ·rintro ⟨i,hi,hi2,hi3⟩
  rw [pcs_length] at hi
  obtain ⟨j,rfl⟩ : ∃ j,i=m.free.length + (m.hands.length + j):=⟨i - (m.free.length + m.hands.length),by omega⟩
  have hj : j < m.spans.length:=by omega
  rw [pcs_span hj] at hi3
  exact ⟨j,hj,hi3⟩
 ·rintro ⟨j,hj,hj2⟩
  refine ⟨m.free.length + (m.hands.length + j),by rw [pcs_length]; omega,by omega,?_⟩
  rw [pcs_span hj]
  exact hj2
theorem mayS_of {m : ModelD} (hp : 1≤m.pages∧m.pages≤4096) : MayS HoldOk m↔CovOk HoldOk m∧GoneTo m m.gone.length :=
 ⟨fun h=>⟨⟨h.laid,h.cover,h.free,h.hand,h.span⟩,h.gone,h.apart⟩,fun ⟨h,g1,g2⟩=>⟨hp,h.laid,h.cover,h.free,h.hand,h.span,g1,g2⟩⟩
set_option maxHeartbeats 4000000 in
set_option maxRecDepth 100000 in
theorem mayM_any (m : ModelD) (F H S G : Option Addr) (fc hc sc gc : Nat) (w : World) (hlen : m.free.length≤1000000∧m.hands.length≤1000000∧m.spans.length≤1000000) (hgl : m.gone.length≤1000000) (hm : ModelR w m F H S G) (hT : Tab w) :
  Calls Tryz.prog 14 #[modelV m F H S G fc hc sc gc] w fun e w'=>e=.returned (.bool (B (MayS HoldOk m)))∧Ext w w':=by
 obtain ⟨Wb,hWb⟩ : ∃ Wb,w.alloc (.cells #[.int .i64 m.pages,.slice F m.free.length fc,.slice H m.hands.length hc,.slice S m.spans.length sc,.slice G m.gone.length gc] 30)=Wb:=⟨_,rfl⟩
 have hEb : Ext w Wb:=hWb▸(Ext.refl _).alloc _
 have b0 : Blk Wb w.heap.size 30 #[.int .i64 m.pages,.slice F m.free.length fc,.slice H m.hands.length hc,.slice S m.spans.length sc,.slice G m.gone.length gc]:=hWb▸Blk.new _ _ _ _ rfl
 obtain ⟨x0,x1,x2,x3,x4⟩:=Blk.c5 b0
 have HB:=Lib.hid (And.intro b0 (And.intro hEb (And.intro hm hT)))
 have HWb:=Lib.hid hWb
 clear b0 hEb hm hT hWb
 by_cases hp : 1≤m.pages∧m.pages≤4096
 ·obtain ⟨p1,p2⟩:=hp
  obtain ⟨P,hP⟩ : ∃ P : Nat,m.pages=(P : Int):=⟨m.pages.toNat,by omega⟩
  have hcov:=covered_any m P F H S G fc hc sc gc Wb hP (by omega) (by omega) hlen (HB.out.2.2.1.ext HB.out.2.1) (HB.out.2.2.2.ext HB.out.2.1)
  have HWb2:=HWb.out
  unfold modelV at hcov
  rw [hP] at hcov HWb2
  have HX:=Lib.hid (And.intro hcov HWb2)
  clear hcov HWb2
  by_cases hcv : CovOk HoldOk m
  ·have HC:=Lib.hid hcv
   clear hcv
   go_enter Tryz.func14,Tryz.ntmps14
   unfold modelV
   go_wp2_with (go_at_call 38; rw [HX.out.2]; refine HX.out.1.mono ?_; rintro e w1 ⟨⟨v,ok,rfl,hok,hC⟩,hE1⟩; obtain rfl : ok=true:=hok.2 HC.out; obtain ⟨g,C,rfl,hO,hK⟩:=hC rfl; have y4:=hE1.cell x4; have y0:=hE1.cell x0; clear hok hC)
   have HO:=Lib.hid (And.intro hO (And.intro hK hE1))
   clear hO hK hE1 x0 x1 x2 x3 x4
   go_loopg [23] m.gone.length (fun q i wr=>∃ k,k≤m.gone.length∧q=m.gone.length - k∧i=.int .i64 (k : Int)∧wr=w1∧GoneTo m k)
   case atStart=>exact ⟨0,Nat.zero_le _,rfl,rfl,rfl,GoneTo.nil _⟩
   case round =>
    obtain ⟨k,hk,rfl,rfl,rfl,hg⟩:=hrel
    have HG:=Lib.hid hg
    clear hg
    by_cases hlt : k < m.gone.length
    ·obtain ⟨b,off,rfl,hcl⟩:=HB.out.2.2.1.gone (by omega)
     have hEw:=HB.out.2.1.trans HO.out.2.2
     have a0:=hEw.cell (hcl (k * 1) (by omega))
     rw [Nat.mul_one] at a0
     dsimp only at a0
     have q0 : (0 : Int)≤(k : Int):=by omega
     have q1 : (k : Int) < (m.gone.length : Int):=by omega
     obtain ⟨r,hr⟩ : ∃ r,ix 0 m.gone k=r:=⟨_,rfl⟩
     rw [hr] at a0
     by_cases h0 : 0≤r∧r < (P : Int)
     ·obtain ⟨r,rfl⟩ : ∃ n : Nat,r=(n : Int):=⟨r.toNat,by omega⟩
      obtain ⟨h0,h1⟩:=h0
      have e0 : decide ((r : Int) < 0)=false:=decide_eq_false (by omega)
      have e1 : decide ((P : Int)≤(r : Int))=false:=decide_eq_false (by omega)
      have e1' : decide (P≤r)=false:=decide_eq_false (by omega)
      have c0:=HO.out.1.cellAt (j:=r) (by omega)
      have HR:=Lib.hid hr
      clear hr
      by_cases hkk : k=0
      ·have e2 : decide ((0 : Int) < (k : Int))=false:=decide_eq_false (by omega)
       have e2' : decide (0 < k)=false:=decide_eq_false (by omega)
       have HKK:=Lib.hid hkk
       clear hcl hkk
       by_cases h3 : C r=3
       ·have e3 : (C r == 3)=true:=by simp [h3]
        have H3:=Lib.hid h3
        clear h3
        go_wp2
        go_ret
        refine ⟨ret_bool (B_no fun hc=>?_).symm,HB.out.2.1.trans HO.out.2.2⟩
        replace hc:=((mayS_of ⟨p1,p2⟩).1 hc).2
        obtain ⟨j,hj,hin⟩:=(HO.out.2.1.span (by omega)).1 H3.out
        exact hc.2 k hlt j hj (by rw [HR.out]; exact hin)
       ·have e3 : (C r == 3)=false:=by simpa using h3
        have H3:=Lib.hid h3
        clear h3
        go_wp2
        go_roundg (m.gone.length - (k + 1))
        case measure=>go_light; omega
        case rel =>
         refine ⟨k + 1,by omega,rfl,by go_num,rfl,HG.out.step (by rw [HR.out,hP]; omega) (fun h=>absurd h (by have:=HKK.out; omega)) ?_⟩
         rw [HR.out]
         exact fun j hj hin=>H3.out ((HO.out.2.1.span (by omega)).2 ⟨j,hj,hin⟩)
      ·have e2 : decide ((0 : Int) < (k : Int))=true:=decide_eq_true (by omega)
       have e2' : decide (0 < k)=true:=decide_eq_true (by omega)
       have q2 : (0 : Int)≤(k : Int) - 1:=by omega
       have q3 : (k : Int) - 1 < (m.gone.length : Int):=by omega
       have q4 : ((k : Int) - 1).toNat=k - 1:=by omega
       have z0:=hEw.cell (hcl ((k - 1) * 1) (by omega))
       rw [Nat.mul_one] at z0
       dsimp only at z0
       obtain ⟨rp,hrp⟩ : ∃ rp,ix 0 m.gone (k - 1)=rp:=⟨_,rfl⟩
       rw [hrp] at z0
       have HRP:=Lib.hid hrp
       clear hcl hrp
       by_cases h2 : (r : Int)≤rp
       ·have e4 : decide ((r : Int)≤rp)=true:=decide_eq_true h2
        have H2:=Lib.hid h2
        clear h2
        go_wp2
        go_ret
        refine ⟨ret_bool (B_no fun hc=>?_).symm,HB.out.2.1.trans HO.out.2.2⟩
        replace hc:=((mayS_of ⟨p1,p2⟩).1 hc).2
        have h5:=(hc.1 k hlt).2 (by omega)
        rw [HR.out,HRP.out] at h5
        have h6:=H2.out
        omega
       ·have e4 : decide ((r : Int)≤rp)=false:=decide_eq_false h2
        have H2:=Lib.hid h2
        clear h2
        by_cases h3 : C r=3
        ·have e3 : (C r == 3)=true:=by simp [h3]
         have H3:=Lib.hid h3
         clear h3
         go_wp2
         go_ret
         refine ⟨ret_bool (B_no fun hc=>?_).symm,HB.out.2.1.trans HO.out.2.2⟩
         replace hc:=((mayS_of ⟨p1,p2⟩).1 hc).2
         obtain ⟨j,hj,hin⟩:=(HO.out.2.1.span (by omega)).1 H3.out
         exact hc.2 k hlt j hj (by rw [HR.out]; exact hin)
        ·have e3 : (C r == 3)=false:=by simpa using h3
         have H3:=Lib.hid h3
         clear h3
         go_wp2
         go_roundg (m.gone.length - (k + 1))
         case measure=>go_light; omega
         case rel =>
          refine ⟨k + 1,by omega,rfl,by go_num,rfl,HG.out.step (by rw [HR.out,hP]; omega) (fun _=>by rw [HR.out,HRP.out]; have:=H2.out; omega) ?_⟩
          rw [HR.out]
          exact fun j hj hin=>H3.out ((HO.out.2.1.span (by omega)).2 ⟨j,hj,hin⟩)
     ·have HR:=Lib.hid hr
      have HN:=Lib.hid h0
      clear hr
      by_cases h5 : r < 0
      ·have e0 : decide (r < 0)=true:=decide_eq_true h5
       clear h0 h5 hcl
       go_wp2
       go_ret
       refine ⟨ret_bool (B_no fun hc=>?_).symm,HB.out.2.1.trans HO.out.2.2⟩
       replace hc:=((mayS_of ⟨p1,p2⟩).1 hc).2
       have h5:=(hc.1 k hlt).1
       rw [HR.out,hP] at h5
       exact HN.out h5
      ·have e0 : decide (r < 0)=false:=decide_eq_false h5
       have e1 : decide ((P : Int)≤r)=true:=decide_eq_true (by omega)
       clear h0 h5 hcl
       go_wp2
       go_ret
       refine ⟨ret_bool (B_no fun hc=>?_).symm,HB.out.2.1.trans HO.out.2.2⟩
       replace hc:=((mayS_of ⟨p1,p2⟩).1 hc).2
       have h5:=(hc.1 k hlt).1
       rw [HR.out,hP] at h5
       exact HN.out h5
    ·obtain rfl : k=m.gone.length:=by omega
     go_wp2
     go_ret
     exact ⟨ret_bool (B_yes ((mayS_of ⟨p1,p2⟩).2 ⟨HC.out,HG.out⟩)).symm,HB.out.2.1.trans HO.out.2.2⟩
  ·have HC:=Lib.hid hcv
   clear hcv
   go_enter Tryz.func14,Tryz.ntmps14
   unfold modelV
   go_wp2_with (go_at_call 38; rw [HX.out.2]; refine HX.out.1.mono ?_; rintro e w1 ⟨⟨v,ok,rfl,hok,hC⟩,hE1⟩; obtain rfl : ok=false:=Bool.eq_false_iff.2 fun h=>HC.out (hok.1 h); have y4:=hE1.cell x4; have y0:=hE1.cell x0; have HO:=Lib.hid hE1; clear hok hC hE1)
   clear x0 x1 x2 x3 x4
   go_loopg [23] m.gone.length (fun q i wr=>q=m.gone.length∧i=.int .i64 0∧wr=w1)
   case atStart=>exact ⟨rfl,rfl,rfl⟩
   case round =>
    obtain ⟨rfl,rfl,rfl⟩:=hrel
    by_cases hlt : 0 < m.gone.length
    ·obtain ⟨b,off,rfl,hcl⟩:=HB.out.2.2.1.gone hlt
     have a0:=(HB.out.2.1.trans HO.out).cell (hcl 0 (by omega))
     rw [Nat.add_zero] at a0
     dsimp only at a0
     have q1 : (0 : Int) < (m.gone.length : Int):=by omega
     have q2 : decide ((0 : Int) < (m.gone.length : Int))=true:=decide_eq_true q1
     clear hcl
     go_wp2
     go_ret
     exact ⟨ret_bool (B_no fun hc=>HC.out ((mayS_of ⟨p1,p2⟩).1 hc).1).symm,HB.out.2.1.trans HO.out⟩
    ·have q1 : ¬ (0 : Int) < (m.gone.length : Int):=by omega
     have q2 : decide ((0 : Int) < (m.gone.length : Int))=false:=decide_eq_false q1
     go_wp2
     go_ret
     exact ⟨ret_bool (B_no fun hc=>HC.out ((mayS_of ⟨p1,p2⟩).1 hc).1).symm,HB.out.2.1.trans HO.out⟩
 ·have HN:=Lib.hid hp
  by_cases h1 : m.pages < 1
  ·have e1 : decide (m.pages < 1)=true:=decide_eq_true h1
   clear hp h1
   go_enter Tryz.func14,Tryz.ntmps14
   unfold modelV
   go_wp2
   go_ret
   exact ⟨ret_bool (B_no fun hc=>HN.out hc.pages).symm,(Ext.refl _).alloc _⟩
  ·have e1 : decide (m.pages < 1)=false:=decide_eq_false h1
   have e2 : decide (4096 < m.pages)=true:=decide_eq_true (by omega)
   clear hp h1
   go_enter Tryz.func14,Tryz.ntmps14
   unfold modelV
   go_wp2
   go_ret
   exact ⟨ret_bool (B_no fun hc=>HN.out hc.pages).symm,(Ext.refl _).alloc _⟩
theorem sl_none {w : World} {n sz : Nat} {f : Nat→Value} (h : SlR w none n sz f) : n=0:=by
 by_cases e : n=0
 ·exact e
 ·obtain ⟨b,off,hb,_⟩:=h (by omega)
  cases hb
theorem Tryz.infoMRun : (Tryz.prog.info? 54).map (fun i=>(i.zero,i.size,i.bytes))=some (some (.agg #[.int .i64 0,.int .i64 0]),2,16):=by kernel_rfl
set_option maxHeartbeats 2000000 in
set_option maxRecDepth 100000 in
theorem cloneRun_any (A : Option Addr) (n c : Nat) (f : Nat→Value) (w : World) (hn : n≤1000000) (hf : ∀ j,(f j).oneCell'=true) (hd : SlR w A n 2 f) :
  Calls Tryz.prog 51 #[.slice A n c] w fun e w'=>∃ A' c',e=.returned (.slice A' n c')∧OwnS w' w.heap.size 54 2 (.slice A' n c') n f∧Ext w w':=by
 obtain ⟨i0,hi,hz0,hz1,hz2⟩:=info_parts Tryz.infoMRun
 have q22 : ∀ (w : World) (a : Option Addr) (n c n' c' : Nat),(binOp .eql 25 (.slice a n c) (.slice none n' c')).run Tryz.prog w=.ok (.bool a.isNone) w:=fun w a n c n' c'=>Lib.run_eql_slice_nil w _ _ a n c n' c' Tryz.underlying25
 have HD:=Lib.hid hd
 clear hd
 cases A with
 | none =>
  have h0:=sl_none HD.out
  subst h0
  go_enter Tryz.func51,Tryz.ntmps51
  go_wp2
  go_ret
  exact ⟨none,0,rfl,OwnS.nil _ _ _ _ _,Ext.refl _⟩
 | some a =>
  go_enter Tryz.func51,Tryz.ntmps51
  go_wp2_with (at_builtin; refine wpList_pushAll rfl _ _ 25 rfl w.heap.size 54 i0 (.agg #[.int .i64 0,.int .i64 0]) 2 16 Tryz.underlying25 hi hz0 hz1 hz2 rfl (by decide) _ 0 (fun _=>undef) rfl (OwnS.lit0 w _ 2 _) (some a) n c f rfl ?qc1 (fun j _=>hf j) ?qc4 ?qc5 ?qc6 f (fun j hj=>absurd hj (by omega)) (fun j hj=>by rw [Nat.zero_mul,Nat.zero_add]) n (Nat.zero_add _) ?_)
  case qc1=>exact SlR.ext HD.out ((Ext.refl _).alloc _)
  case qc4=>unfold maxLen; omega
  case qc5=>omega
  case qc6=>simp
  intro A' c' w1 hown hgrow hE hor
  go_wp2
  go_ret
  exact ⟨A',c',rfl,hown,hE w ((Ext.refl _).alloc _) (Nat.le_refl _)⟩
theorem Tryz.infoMHand : (Tryz.prog.info? 56).map (fun i=>(i.zero,i.size,i.bytes))=some (some (.agg #[.int .i64 0,.int .i64 0,.int .i64 0]),3,24):=by kernel_rfl
set_option maxHeartbeats 2000000 in
set_option maxRecDepth 100000 in
theorem cloneHand_any (A : Option Addr) (n c : Nat) (f : Nat→Value) (w : World) (hn : n≤1000000) (hf : ∀ j,(f j).oneCell'=true) (hd : SlR w A n 3 f) :
  Calls Tryz.prog 52 #[.slice A n c] w fun e w'=>∃ A' c',e=.returned (.slice A' n c')∧OwnS w' w.heap.size 56 3 (.slice A' n c') n f∧Ext w w':=by
 obtain ⟨i0,hi,hz0,hz1,hz2⟩:=info_parts Tryz.infoMHand
 have q22 : ∀ (w : World) (a : Option Addr) (n c n' c' : Nat),(binOp .eql 26 (.slice a n c) (.slice none n' c')).run Tryz.prog w=.ok (.bool a.isNone) w:=fun w a n c n' c'=>Lib.run_eql_slice_nil w _ _ a n c n' c' Tryz.underlying26
 have HD:=Lib.hid hd
 clear hd
 cases A with
 | none =>
  have h0:=sl_none HD.out
  subst h0
  go_enter Tryz.func52,Tryz.ntmps52
  go_wp2
  go_ret
  exact ⟨none,0,rfl,OwnS.nil _ _ _ _ _,Ext.refl _⟩
 | some a =>
  go_enter Tryz.func52,Tryz.ntmps52
  go_wp2_with (at_builtin; refine wpList_pushAll rfl _ _ 26 rfl w.heap.size 56 i0 (.agg #[.int .i64 0,.int .i64 0,.int .i64 0]) 3 24 Tryz.underlying26 hi hz0 hz1 hz2 rfl (by decide) _ 0 (fun _=>undef) rfl (OwnS.lit0 w _ 3 _) (some a) n c f rfl ?qc1 (fun j _=>hf j) ?qc4 ?qc5 ?qc6 f (fun j hj=>absurd hj (by omega)) (fun j hj=>by rw [Nat.zero_mul,Nat.zero_add]) n (Nat.zero_add _) ?_)
  case qc1=>exact SlR.ext HD.out ((Ext.refl _).alloc _)
  case qc4=>unfold maxLen; omega
  case qc5=>omega
  case qc6=>simp
  intro A' c' w1 hown hgrow hE hor
  go_wp2
  go_ret
  exact ⟨A',c',rfl,hown,hE w ((Ext.refl _).alloc _) (Nat.le_refl _)⟩
theorem Tryz.infoMHold : (Tryz.prog.info? 51).map (fun i=>(i.zero,i.size,i.bytes))=some (some (.agg #[.int .i64 0,.int .i64 0,.int .i64 0,.int .i64 0,.int .i64 0,.bool false,.int .u64 0,.int .u64 0]),8,64):=by kernel_rfl
set_option maxHeartbeats 2000000 in
set_option maxRecDepth 100000 in
theorem cloneHold_any (A : Option Addr) (n c : Nat) (f : Nat→Value) (w : World) (hn : n≤1000000) (hf : ∀ j,(f j).oneCell'=true) (hd : SlR w A n 8 f) :
  Calls Tryz.prog 53 #[.slice A n c] w fun e w'=>∃ A' c',e=.returned (.slice A' n c')∧OwnS w' w.heap.size 51 8 (.slice A' n c') n f∧Ext w w':=by
 obtain ⟨i0,hi,hz0,hz1,hz2⟩:=info_parts Tryz.infoMHold
 have q22 : ∀ (w : World) (a : Option Addr) (n c n' c' : Nat),(binOp .eql 27 (.slice a n c) (.slice none n' c')).run Tryz.prog w=.ok (.bool a.isNone) w:=fun w a n c n' c'=>Lib.run_eql_slice_nil w _ _ a n c n' c' Tryz.underlying27
 have HD:=Lib.hid hd
 clear hd
 cases A with
 | none =>
  have h0:=sl_none HD.out
  subst h0
  go_enter Tryz.func53,Tryz.ntmps53
  go_wp2
  go_ret
  exact ⟨none,0,rfl,OwnS.nil _ _ _ _ _,Ext.refl _⟩
 | some a =>
  go_enter Tryz.func53,Tryz.ntmps53
  go_wp2_with (at_builtin; refine wpList_pushAll rfl _ _ 27 rfl w.heap.size 51 i0 (.agg #[.int .i64 0,.int .i64 0,.int .i64 0,.int .i64 0,.int .i64 0,.bool false,.int .u64 0,.int .u64 0]) 8 64 Tryz.underlying27 hi hz0 hz1 hz2 rfl (by decide) _ 0 (fun _=>undef) rfl (OwnS.lit0 w _ 8 _) (some a) n c f rfl ?qc1 (fun j _=>hf j) ?qc4 ?qc5 ?qc6 f (fun j hj=>absurd hj (by omega)) (fun j hj=>by rw [Nat.zero_mul,Nat.zero_add]) n (Nat.zero_add _) ?_)
  case qc1=>exact SlR.ext HD.out ((Ext.refl _).alloc _)
  case qc4=>unfold maxLen; omega
  case qc5=>omega
  case qc6=>simp
  intro A' c' w1 hown hgrow hE hor
  go_wp2
  go_ret
  exact ⟨A',c',rfl,hown,hE w ((Ext.refl _).alloc _) (Nat.le_refl _)⟩
set_option maxHeartbeats 2000000 in
set_option maxRecDepth 100000 in
theorem cloneInt_any (A : Option Addr) (n c : Nat) (f : Nat→Value) (w : World) (hn : n≤1000000) (hf : ∀ j,(f j).oneCell'=true) (hd : SlR w A n 1 f) :
  Calls Tryz.prog 54 #[.slice A n c] w fun e w'=>∃ A' c',e=.returned (.slice A' n c')∧OwnS w' w.heap.size 3 1 (.slice A' n c') n f∧Ext w w':=by
 obtain ⟨i0,hi,hz0,hz1,hz2⟩:=info_parts Tryz.infoIntE
 have q22 : ∀ (w : World) (a : Option Addr) (n c n' c' : Nat),(binOp .eql 28 (.slice a n c) (.slice none n' c')).run Tryz.prog w=.ok (.bool a.isNone) w:=fun w a n c n' c'=>Lib.run_eql_slice_nil w _ _ a n c n' c' Tryz.underlying28
 have HD:=Lib.hid hd
 clear hd
 cases A with
 | none =>
  have h0:=sl_none HD.out
  subst h0
  go_enter Tryz.func54,Tryz.ntmps54
  go_wp2
  go_ret
  exact ⟨none,0,rfl,OwnS.nil _ _ _ _ _,Ext.refl _⟩
 | some a =>
  go_enter Tryz.func54,Tryz.ntmps54
  go_wp2_with (at_builtin; refine wpList_pushAll rfl _ _ 28 rfl w.heap.size 3 i0 (.int .i64 0) 1 8 Tryz.underlying28 hi hz0 hz1 hz2 rfl (by decide) _ 0 (fun _=>undef) rfl (OwnS.lit0 w _ 1 _) (some a) n c f rfl ?qc1 (fun j _=>hf j) ?qc4 ?qc5 ?qc6 f (fun j hj=>absurd hj (by omega)) (fun j hj=>by rw [Nat.zero_mul,Nat.zero_add]) n (Nat.zero_add _) ?_)
  case qc1=>exact SlR.ext HD.out ((Ext.refl _).alloc _)
  case qc4=>unfold maxLen; omega
  case qc5=>omega
  case qc6=>simp
  intro A' c' w1 hown hgrow hE hor
  go_wp2
  go_ret
  exact ⟨A',c',rfl,hown,hE w ((Ext.refl _).alloc _) (Nat.le_refl _)⟩
theorem runV_one (l : List RunD) (j : Nat) : (runV l j).oneCell'=true:=by unfold runV; split <;> rfl
theorem handV_one (l : List HandD) (j : Nat) : (handV l j).oneCell'=true:=by
 unfold handV
 repeat (first | rfl | split)
theorem holdsV_one (l : List HoldD) (j : Nat) : (holdsV l j).oneCell'=true:=by
 unfold holdsV holdC
 repeat (first | rfl | split)
end Go.Proofs.YtoolenhnhlfhmaaGreatDoor
