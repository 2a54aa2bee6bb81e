/- Walks: the document's bits: pages that are released, or are no more. Walks: the document's lay. Plain: what the document's back leaves of the free runs. Plain: what a model that may be gives to the document's back. Walks: the document's New. What a mark makes of a model is one model, and either it is made or it may not be. The document's list of pages that are gone is the program's. The document's words on bits: room in a span, the slots that live, what a sweep leaves. What the document does with one span: words, and what stands while it is done. -/
import Derived.Test.YtoolenhnhlfhmaaGreatDoorHB
import Derived.Test.YtoolenhnhlfhmaaGreatDoorHA
import Derived.Laws.BitsAllLaws
namespace Go.Proofs.YtoolenhnhlfhmaaGreatDoor
open Go.RowKit Go.Sort
set_option linter.unusedVariables false
set_option linter.unusedSimpArgs false
set_option maxHeartbeats 400000 in
theorem bit28_any (x n : Nat) (w : World) (hx : x < 18446744073709551616) (hn : n < 64) : Calls Tryz.prog 47 #[.int .u64 x,.int .i64 n] w fun e w'=>e=.returned (.bool (x.testBit n))∧Ext w w':=by
 have hb:=shr_and_one x n hx
 cases ht : x.testBit n
 all_goals
  rw [ht] at hb
  simp only [if_true,if_false,Bool.false_eq_true] at hb
  clear ht
  go_enter Tryz.func47,Tryz.ntmps47
  go_wp2
  go_ret
  exact ⟨rfl,Ext.refl _⟩
/-- Is a page told? -/
def NowP (x : MarkD) (p : Nat) : Prop:=(p : Int) / 64=x.page∧x.mask.testBit (p % 64)=true
def IsG (m : ModelD) (p : Nat) : Prop:=∃ i,i < m.gone.length∧ix 0 m.gone i=(p : Int)
def OutP (m : ModelD) (x : MarkD) (p : Nat) : Prop:=(x.kind=15∧IsG m p∧¬ NowP x p)∨(x.kind≠15∧(NowP x p∨IsG m p))
def OkP (m : ModelD) (x : MarkD) (p : Nat) : Prop:=(x.kind=15∧IsG m p∧InHandP m (p : Int) x.thread)∨(x.kind≠15∧¬ IsG m p∧InFree m (p : Int))
noncomputable def outB (m : ModelD) (x : MarkD) (k : Nat) : List Int:=((List.range k).filter fun p=>B (OutP m x p)).map fun (p : Nat)=>(p : Int)
theorem outB_succ (m : ModelD) (x : MarkD) (k : Nat) : outB m x (k + 1)=outB m x k ++ (if B (OutP m x k) then [(k : Int)] else []):=by
 unfold outB
 rw [List.range_succ,List.filter_append,List.map_append]
 congr 1
 cases h : B (OutP m x k) <;> simp [h]
theorem outB_len (m : ModelD) (x : MarkD) (k : Nat) : (outB m x k).length≤k:=by
 unfold outB
 rw [List.length_map]
 exact Nat.le_trans (List.length_filter_le _ _) (by simp)
theorem outB_no {m : ModelD} {x : MarkD} {k : Nat} (h : ¬ OutP m x k) : outB m x (k + 1)=outB m x k:=by rw [outB_succ,B_no h]; simp
theorem outB_yes {m : ModelD} {x : MarkD} {k : Nat} (h : OutP m x k) : outB m x (k + 1)=outB m x k ++ [(k : Int)]:=by rw [outB_succ,B_yes h]; simp
theorem ok_step {m : ModelD} {x : MarkD} {k : Nat} {o o' : Bool} (h : o=true↔∀ p,p < k→NowP x p→OkP m x p) (h2 : o'=true↔o=true∧(NowP x k→OkP m x k)) : o'=true↔∀ p,p < k + 1→NowP x p→OkP m x p:=by
 rw [h2,h]
 constructor
 ·rintro ⟨h3,h4⟩ p hp hn
  by_cases e : p=k
  ·subst e; exact h4 hn
  ·exact h3 p (by omega) hn
 ·intro h3
  exact ⟨fun p hp=>h3 p (by omega),h3 k (by omega)⟩
set_option maxHeartbeats 8000000 in
set_option maxRecDepth 100000 in
theorem bits28_any (m : ModelD) (d base : Nat) (F H S G : Value) (x : MarkD) (w : World) (hmay : May2 m) (hx : MarkOk x) (hbase : base≤w.heap.size) (hD : RefM w d base m F H S G) :
  Calls Tryz.prog 32 #[.pointer (some ⟨d,0,none⟩),markV x] w fun e w'=>KeepD base d w w'∧w.heap.size≤w'.heap.size ∧
   ((e=.returned (.bool false)∧(x.mask=0∨x.page < 0∨64≤x.page∨¬ ∀ p,p < 4096→NowP x p→OkP m x p)) ∨
    (e=.returned (.bool true)∧x.mask≠0∧(0≤x.page∧x.page < 64)∧(∀ p,p < 4096→NowP x p→OkP m x p)∧∃ G',RefM w' d base { m with gone:=outB m x 4096 } F H S G')):=by
 obtain ⟨W0,hW0⟩ : ∃ W0,W0=w.alloc (.cells (markA x) 34):=⟨_,rfl⟩
 have hE0 : Ext w W0:=hW0▸(Ext.refl w).alloc _
 have hxb : Blk W0 w.heap.size 34 (markA x):=hW0▸Blk.new _ _ _ _ rfl
 obtain ⟨F1,H1,S1,G1,fc,hc,sc,gc,rfl,rfl,rfl,rfl⟩:=hD.own.slices
 obtain ⟨i0,hi0,hz0,hs0,hb0⟩:=info_parts Tryz.infoMInt
 have HI:=Lib.hid (And.intro hi0 (And.intro hz0 (And.intro hs0 hb0)))
 have hlen:=may2_len hmay
 have HW:=Lib.hid (And.intro hW0 (And.intro hE0 (And.intro hxb (And.intro (hD.ext hE0) (And.intro hmay hlen)))))
 have hxm:=hx.mask
 have hdw : d < w.heap.size:=hD.blk.lt
 have n3:=hxb.cell (i:=3) (v:=.int .i64 x.page) rfl
 have n5:=hxb.cell (i:=5) (v:=.int .u64 (x.mask : Int)) rfl
 clear hi0 hz0 hs0 hb0 hW0 hE0 hxb hD hmay hlen hx
 unfold markV
 unfold markA at HW
 by_cases hgo : x.mask≠0∧0≤x.page∧x.page < 64
 rotate_left
 ·have HN:=Lib.hid (show x.mask=0∨x.page < 0∨64≤x.page from by omega)
  have hcs : ((x.mask : Int) == 0)=true∧(x.mask == 0)=true∨(((x.mask : Int) == 0)=false∧(x.mask == 0)=false∧decide (x.page < 0)=true)∨(((x.mask : Int) == 0)=false∧(x.mask == 0)=false∧decide (x.page < 0)=false∧decide (64≤x.page)=true):=by
   simp only [beq_iff_eq,beq_eq_false_iff_ne,ne_eq,decide_eq_true_eq,decide_eq_false_iff_not]; omega
  clear hgo
  rcases hcs with ⟨e0,e1⟩ | ⟨e0,e1,e2⟩ | ⟨e0,e1,e2,e3⟩
  all_goals
   go_enter Tryz.func32,Tryz.ntmps32
   go_upto_region 1 with fail
   rw [← HW.out.1]
   go_wp2
   go_ret
   exact ⟨KeepD.ext HW.out.2.1,HW.out.2.1.size,.inl ⟨rfl,by have:=HN.out; omega⟩⟩
 obtain ⟨hm0,hp0,hp1⟩:=hgo
 have e0 : ((x.mask : Int) == 0)=false:=by rw [beq_eq_false_iff_ne]; omega
 have e1 : (x.mask == 0)=false:=by rw [beq_eq_false_iff_ne]; omega
 have e2 : decide (x.page < 0)=false:=decide_eq_false (by omega)
 have e3 : decide (64≤x.page)=false:=decide_eq_false (by omega)
 have HM0:=Lib.hid hm0
 clear hm0
 go_enter Tryz.func32,Tryz.ntmps32
 go_upto_region 1 with fail
 rw [← HW.out.1]
 go_wp2
 go_loopg [5,6,7] 4096 (fun q ov okv i wr=>∃ (k : Nat) (o : Bool) (A : Option Addr) (c : Nat),k≤4096∧q=4096 - k∧ov=.slice A (outB m x k).length c∧okv=.bool o∧i=.int .i64 (k : Int)∧Ext W0 wr∧OwnS wr W0.heap.size 3 1 (.slice A (outB m x k).length c) (outB m x k).length (intsV (outB m x k))∧(o=true↔∀ p,p < k→NowP x p→OkP m x p))
 case atStart=>exact ⟨0,true,none,0,Nat.zero_le _,rfl,rfl,rfl,rfl,Ext.refl _,OwnS.nil _ _ _ _ _,⟨fun _ p hp=>absurd hp (by omega),fun _=>rfl⟩⟩
 case round =>
  obtain ⟨k,o,A,c,hk,rfl,rfl,rfl,rfl,hE,hO,ho⟩:=hrel
  have hol:=outB_len m x k
  obtain ⟨L,hL⟩ : ∃ L,outB m x k=L:=⟨_,rfl⟩
  rw [hL] at hO hol ⊢
  by_cases hlt : k < 4096
  ·have hD:=HW.out.2.2.2.1.ext hE
   have hxb:=HW.out.2.2.1.ext hE
   obtain ⟨y0,y1,y2,y3,y4⟩:=Blk.c5 hD.blk
   have m0:=hxb.cell (i:=0) (v:=.int .i64 x.kind) rfl
   have m1:=hxb.cell (i:=1) (v:=.int .i64 x.thread) rfl
   have m3:=hxb.cell (i:=3) (v:=.int .i64 x.page) rfl
   have m5:=hxb.cell (i:=5) (v:=.int .u64 (x.mask : Int)) rfl
   have hfit:=fun (i : Nat) (hi : i < m.free.length)=>(fit_free HW.out.2.2.2.2.1 (ixMem (d:=noRun) hi))
   have hCB : ∀ W,Calls Tryz.prog 47 #[.int .u64 (x.mask : Int),.int .i64 ((k : Int) % 64)] W fun e w'=>e=.returned (.bool (x.mask.testBit (k % 64)))∧Ext W w':=fun W=>by
    have:=bit28_any x.mask (k % 64) W hxm (Nat.mod_lt _ (by decide))
    rw [show (((k % 64 : Nat) : Int))=(k : Int) % 64 by omega] at this
    exact this
   have hCG : ∀ W,Ext wr W→Calls Tryz.prog 66 #[.agg #[.int .i64 m.pages,.slice F1 m.free.length fc,.slice H1 m.hands.length hc,.slice S1 m.spans.length sc,.slice G1 m.gone.length gc],.int .i64 (k : Int)] W fun e w'=>e=.returned (.bool (B (IsG m k)))∧Ext W w':=fun W hW=>gone28_any m F1 H1 S1 G1 fc hc sc gc (k : Int) W HW.out.2.2.2.2.2.gone (hD.reads.ext hW)
   have hlm:=(may2_iff.2 HW.out.2.2.2.2.1).len
   have hpg:=HW.out.2.2.2.2.1.pages
   have hF4 : ∀ i,i < m.free.length→FitP 4096 ((ix noRun m.free i).at_,(ix noRun m.free i).n):=fun i hi=>by
    obtain ⟨f1,f2,f3,f4⟩:=fit_free HW.out.2.2.2.2.1 (ixMem (d:=noRun) hi)
    unfold fR at f1 f2 f3 f4
    exact ⟨f1,f2,by dsimp only at *; omega,by dsimp only at *; omega⟩
   have hH4 : ∀ i,i < m.hands.length→FitP 4096 ((ix noHand m.hands i).at_,(ix noHand m.hands i).n):=fun i hi=>by
    obtain ⟨f1,f2,f3,f4⟩:=fit_hand HW.out.2.2.2.2.1 (ixMem (d:=noHand) hi)
    unfold fH at f1 f2 f3 f4
    exact ⟨f1,f2,by dsimp only at *; omega,by dsimp only at *; omega⟩
   have hCF : ∀ W,Ext wr W→Calls Tryz.prog 41 #[.agg #[.int .i64 m.pages,.slice F1 m.free.length fc,.slice H1 m.hands.length hc,.slice S1 m.spans.length sc,.slice G1 m.gone.length gc],.int .i64 (k : Int)] W fun e w'=>e=.returned (.bool (B (InFree m (k : Int))))∧Ext W w':=fun W hW=>free28_any m F1 H1 S1 G1 fc hc sc gc (k : Int) W (hD.reads.ext hW) hF4 (by omega) (by omega)
   have hCH : ∀ W,Ext wr W→Calls Tryz.prog 42 #[.agg #[.int .i64 m.pages,.slice F1 m.free.length fc,.slice H1 m.hands.length hc,.slice S1 m.spans.length sc,.slice G1 m.gone.length gc],.int .i64 (k : Int),.int .i64 x.thread] W fun e w'=>e=.returned (.bool (B (InHandP m (k : Int) x.thread)))∧Ext W w':=fun W hW=>inHand28_any m F1 H1 S1 G1 fc hc sc gc (k : Int) x.thread W (hD.reads.ext hW) hH4 (by omega) (by omega)
   have HC:=Lib.hid (And.intro hCB (And.intro hCG (And.intro hCF hCH)))
   have HK:=Lib.hid (And.intro hE (And.intro hD (And.intro hxb (And.intro ho (And.intro hO hL)))))
   have hws:=hE.size
   have q0 : (0 : Int)≤(k : Int):=by omega
   have q1 : decide ((k : Int) < 4096)=true:=decide_eq_true (by omega)
   have q2 : decide (k < 4096)=true:=decide_eq_true hlt
   clear hCB hCG hCF hCH hE hD hxb ho hO hL hfit hF4 hH4 hlm hpg
   clear y0 y1 y2 y3 y4 m0 m1
   go_upto_region 8 with fail
   go_cut [8] (fun v wx=>v=.bool (B (NowP x k))∧Ext wr wx)
   case first =>
    by_cases h1 : (k : Int) / 64=x.page
    ·have d1 : ((k : Int) / 64 == x.page)=true:=by simpa using h1
     have H1':=Lib.hid h1
     clear h1
     go_wp2_with (go_at_call 47; (with_reducible refine (HC.out.1 _).mono ?_); rintro e w8 ⟨rfl,hE8⟩; have HE8:=Lib.hid hE8; clear hE8)
     go_meet
     refine ⟨congrArg Value.bool (B_of ?_),HE8.out⟩
     exact ⟨fun h=>⟨H1'.out,h⟩,fun h=>h.2⟩
    ·have d1 : ((k : Int) / 64 == x.page)=false:=by simpa using h1
     have H1':=Lib.hid h1
     clear h1
     go_wp2_with fail
     go_meet
     exact ⟨congrArg Value.bool (B_no fun h=>H1'.out h.1).symm,Ext.refl _⟩
   case rest =>
    obtain ⟨rfl,hE8⟩:=hcut
    have hD8:=HK.out.2.1.ext hE8
    obtain ⟨y0,y1,y2,y3,y4⟩:=Blk.c5 hD8.blk
    have HE8:=Lib.hid hE8
    clear hD8 hE8 m3 m5
    go_upto_region 10 with (go_at_call 66; (with_reducible refine (HC.out.2.1 _ HE8.out).mono ?_); rintro e w9 ⟨rfl,hE9⟩; have HE9:=Lib.hid (HE8.out.trans hE9); clear hE9)
    clear y0 y1 y2 y3 y4
    have hD9:=HK.out.2.1.ext HE9.out
    have hx9:=HK.out.2.2.1.ext HE9.out
    have HO9:=Lib.hid (HK.out.2.2.2.2.1.ext HE9.out)
    have HE0:=Lib.hid (HK.out.1.trans HE9.out)
    have y0:=fun d os=>cell_regrown (hD9.blk.cell (i:=0) (v:=.int .i64 m.pages) rfl) d os
    have y1:=fun d os=>cell_regrown (hD9.blk.cell (i:=1) (v:=.slice F1 m.free.length fc) rfl) d os
    have y2:=fun d os=>cell_regrown (hD9.blk.cell (i:=2) (v:=.slice H1 m.hands.length hc) rfl) d os
    have y3:=fun d os=>cell_regrown (hD9.blk.cell (i:=3) (v:=.slice S1 m.spans.length sc) rfl) d os
    have y4:=fun d os=>cell_regrown (hD9.blk.cell (i:=4) (v:=.slice G1 m.gone.length gc) rfl) d os
    obtain ⟨p0,p1,p2,p3,p4⟩:=Blk.c5 hD9.blk
    have m0:=hx9.cell (i:=0) (v:=.int .i64 x.kind) rfl
    have m1:=hx9.cell (i:=1) (v:=.int .i64 x.thread) rfl
    have m1':=fun d os=>cell_regrown m1 d os
    clear hD9 hx9
    have hkd : ((x.kind == 15)=true∧Hid (x.kind=15))∨((x.kind == 15)=false∧Hid (x.kind≠15)):=by
     by_cases h : x.kind=15
     ·exact .inl ⟨by simpa using h,Lib.hid h⟩
     ·exact .inr ⟨by simpa using h,Lib.hid h⟩
    have hnb : (B (NowP x k)=true∧Hid (NowP x k))∨(B (NowP x k)=false∧Hid (¬ NowP x k)):=by
     by_cases h : NowP x k
     ·exact .inl ⟨B_yes h,Lib.hid h⟩
     ·exact .inr ⟨B_no h,Lib.hid h⟩
    have hib : (B (IsG m k)=true∧Hid (IsG m k))∨(B (IsG m k)=false∧Hid (¬ IsG m k)):=by
     by_cases h : IsG m k
     ·exact .inl ⟨B_yes h,Lib.hid h⟩
     ·exact .inr ⟨B_no h,Lib.hid h⟩
    rcases hnb with ⟨nb,HNb⟩ | ⟨nb,HNb⟩
    ·rcases hkd with ⟨kb,HKb⟩ | ⟨kb,HKb⟩
     ·have hcs : (o=false)∨(o=true∧B (IsG m k)=false∧Hid (¬ IsG m k))∨(o=true∧B (IsG m k)=true∧Hid (IsG m k)):=by
       cases o
       ·exact .inl rfl
       ·rcases hib with ⟨a,b⟩ | ⟨a,b⟩
        ·exact .inr (.inr ⟨rfl,a,b⟩)
        ·exact .inr (.inl ⟨rfl,a,b⟩)
      clear hib
      rcases hcs with rfl | ⟨rfl,ib,HIb⟩ | ⟨rfl,ib,HIb⟩
      all_goals
       go_upto_region 11 with fail
       refine wp_region_quiet_below (by kernel_rfl) (by kernel_rfl) ?_
       repeat (go_big_quiet_step ((go_at_call 42; exact Calls.regrown_of (HC.out.2.2.2 _ (HE9.out.trans (below_regrown _ _ _))))))
       refine wpQuiet_nil ?_
       intro _ hw'
       obtain ⟨⟨dq,osq⟩,hw''⟩:=hw'
       subst hw''
       go_wp2
       go_roundg (4096 - (k + 1))
       case measure=>go_light; omega
       case rel =>
        have hno : outB m x (k + 1)=L:=by rw [outB_no (fun h=>h.elim (fun h=>h.2.2 HNb.out) (fun h=>h.1 HKb.out)),HK.out.2.2.2.2.2]
        refine ⟨k + 1,_,A,c,by omega,rfl,by rw [hno],rfl,by go_num,HE0.out.trans (below_regrown _ _ _),by rw [hno]; exact HO9.out.ext (below_regrown _ _ _),?_⟩
        first
        | exact ok_step (o:=false) HK.out.2.2.2.1 ⟨fun h=>(by cases h),fun h=>h.1⟩
        | exact ok_step (o:=true) ⟨fun _=>HK.out.2.2.2.1.1 (by trivial),fun _=>rfl⟩ ⟨fun h=>(by cases h),fun h=>absurd (h.2 HNb.out) (fun hq=>hq.elim (fun hq=>HIb.out hq.2.1) (fun hq=>hq.1 HKb.out))⟩
        | exact ok_step (o:=true) ⟨fun _=>HK.out.2.2.2.1.1 (by trivial),fun _=>rfl⟩ ⟨fun h=>⟨rfl,fun _=>.inl ⟨HKb.out,HIb.out,B_iff.1 h⟩⟩,fun h=>(h.2 HNb.out).elim (fun hq=>B_yes hq.2.2) (fun hq=>absurd HKb.out hq.1)⟩
     ·have hcs : (o=false)∨(o=true∧B (IsG m k)=true∧Hid (IsG m k))∨(o=true∧B (IsG m k)=false∧Hid (¬ IsG m k)):=by
       cases o
       ·exact .inl rfl
       ·rcases hib with ⟨a,b⟩ | ⟨a,b⟩
        ·exact .inr (.inl ⟨rfl,a,b⟩)
        ·exact .inr (.inr ⟨rfl,a,b⟩)
      clear hib
      have hyes : outB m x (k + 1)=L ++ [(k : Int)]:=by rw [outB_yes (.inr ⟨HKb.out,.inl HNb.out⟩),HK.out.2.2.2.2.2]
      have HY:=Lib.hid hyes
      clear hyes
      rcases hcs with rfl | ⟨rfl,ib,HIb⟩ | ⟨rfl,ib,HIb⟩
      ·go_wp2_with (at_builtin; refine wpList_push rfl _ _ 28 rfl W0.heap.size 3 i0 (.int .i64 0) 1 8 Tryz.underlying28 HI.out.1 HI.out.2.1 HI.out.2.2.1 HI.out.2.2.2 rfl (by decide) _ L.length (intsV L) rfl (HO9.out.ext ((Ext.refl _).alloc _)) ⟨w9.heap.size,0,none⟩ 1 (fun _=>.int .i64 (k : Int)) rfl ?pcq (fun j hj=>rfl) ?b63q ?bbyq ?bbaq _ rfl (intsV (L ++ [(k : Int)])) (fun j hj=>intsV_old hj) (fun j hj=>intsV_new hj) ?_; (case pcq=>exact fun j hj=>by obtain rfl : j=0:=(by omega); exact cell_new _ _ _ 0 _ rfl); (case b63q=>unfold maxLen; omega); (case bbyq=>omega); (case bbaq=>exact Nat.le_trans HE0.out.size ((Ext.refl w9).alloc _).size); intro gq capq wq j1 j2 j3 j4 j5; have HAq:=Lib.hid (And.intro j1 (j3 _ (HE0.out.alloc _) (Nat.le_refl _))); clear j1 j2 j3 j4 j5)
       go_roundg (4096 - (k + 1))
       case measure=>go_light; omega
       case rel =>
        refine ⟨k + 1,false,some ⟨gq,0,none⟩,capq,by omega,rfl,?_,rfl,by go_num,HAq.out.2,?_,?_⟩
        ·rw [HY.out,List.length_append]; rfl
        ·rw [HY.out,List.length_append]; exact HAq.out.1
        ·first | exact ok_step (o:=false) HK.out.2.2.2.1 ⟨fun h=>(by cases h),fun h=>h.1⟩
      ·go_wp2_with (at_builtin; refine wpList_push rfl _ _ 28 rfl W0.heap.size 3 i0 (.int .i64 0) 1 8 Tryz.underlying28 HI.out.1 HI.out.2.1 HI.out.2.2.1 HI.out.2.2.2 rfl (by decide) _ L.length (intsV L) rfl (HO9.out.ext ((Ext.refl _).alloc _)) ⟨w9.heap.size,0,none⟩ 1 (fun _=>.int .i64 (k : Int)) rfl ?pcq (fun j hj=>rfl) ?b63q ?bbyq ?bbaq _ rfl (intsV (L ++ [(k : Int)])) (fun j hj=>intsV_old hj) (fun j hj=>intsV_new hj) ?_; (case pcq=>exact fun j hj=>by obtain rfl : j=0:=(by omega); exact cell_new _ _ _ 0 _ rfl); (case b63q=>unfold maxLen; omega); (case bbyq=>omega); (case bbaq=>exact Nat.le_trans HE0.out.size ((Ext.refl w9).alloc _).size); intro gq capq wq j1 j2 j3 j4 j5; have HAq:=Lib.hid (And.intro j1 (j3 _ (HE0.out.alloc _) (Nat.le_refl _))); clear j1 j2 j3 j4 j5)
       go_roundg (4096 - (k + 1))
       case measure=>go_light; omega
       case rel =>
        refine ⟨k + 1,false,some ⟨gq,0,none⟩,capq,by omega,rfl,?_,rfl,by go_num,HAq.out.2,?_,?_⟩
        ·rw [HY.out,List.length_append]; rfl
        ·rw [HY.out,List.length_append]; exact HAq.out.1
        ·exact ok_step (o:=true) ⟨fun _=>HK.out.2.2.2.1.1 (by trivial),fun _=>rfl⟩ ⟨fun h=>(by cases h),fun h=>absurd (h.2 HNb.out) (fun hq=>hq.elim (fun hq=>HKb.out hq.1) (fun hq=>hq.2.1 HIb.out))⟩
      ·go_upto_region 14 with (go_at_call 41; (with_reducible refine (HC.out.2.2.1 _ HE9.out).mono ?_); rintro e wv ⟨rfl,hEv⟩; have HEv:=Lib.hid (HE9.out.trans hEv); have HEv0:=Lib.hid (HK.out.1.trans HEv.out); have HOv:=Lib.hid (HK.out.2.2.2.2.1.ext HEv.out); clear hEv)
       go_wp2_with (at_builtin; refine wpList_push rfl _ _ 28 rfl W0.heap.size 3 i0 (.int .i64 0) 1 8 Tryz.underlying28 HI.out.1 HI.out.2.1 HI.out.2.2.1 HI.out.2.2.2 rfl (by decide) _ L.length (intsV L) rfl (HOv.out.ext ((Ext.refl _).alloc _)) ⟨wv.heap.size,0,none⟩ 1 (fun _=>.int .i64 (k : Int)) rfl ?pcq (fun j hj=>rfl) ?b63q ?bbyq ?bbaq _ rfl (intsV (L ++ [(k : Int)])) (fun j hj=>intsV_old hj) (fun j hj=>intsV_new hj) ?_; (case pcq=>exact fun j hj=>by obtain rfl : j=0:=(by omega); exact cell_new _ _ _ 0 _ rfl); (case b63q=>unfold maxLen; omega); (case bbyq=>omega); (case bbaq=>exact Nat.le_trans HEv0.out.size ((Ext.refl wv).alloc _).size); intro gq capq wq j1 j2 j3 j4 j5; have HAq:=Lib.hid (And.intro j1 (j3 _ (HEv0.out.alloc _) (Nat.le_refl _))); clear j1 j2 j3 j4 j5)
       go_roundg (4096 - (k + 1))
       case measure=>go_light; omega
       case rel =>
        refine ⟨k + 1,_,some ⟨gq,0,none⟩,capq,by omega,rfl,?_,rfl,by go_num,HAq.out.2,?_,?_⟩
        ·rw [HY.out,List.length_append]; rfl
        ·rw [HY.out,List.length_append]; exact HAq.out.1
        ·exact ok_step (o:=true) ⟨fun _=>HK.out.2.2.2.1.1 (by trivial),fun _=>rfl⟩ ⟨fun h=>⟨rfl,fun _=>.inr ⟨HKb.out,HIb.out,B_iff.1 h⟩⟩,fun h=>(h.2 HNb.out).elim (fun hq=>absurd hq.1 HKb.out) (fun hq=>B_yes hq.2.2)⟩
    ·rcases hib with ⟨ib,HIb⟩ | ⟨ib,HIb⟩
     ·have hyes : outB m x (k + 1)=L ++ [(k : Int)]:=by rw [outB_yes (by by_cases h : x.kind=15; exact .inl ⟨h,HIb.out,HNb.out⟩; exact .inr ⟨h,.inr HIb.out⟩),HK.out.2.2.2.2.2]
      have HY:=Lib.hid hyes
      clear hyes hkd
      go_wp2_with (at_builtin; refine wpList_push rfl _ _ 28 rfl W0.heap.size 3 i0 (.int .i64 0) 1 8 Tryz.underlying28 HI.out.1 HI.out.2.1 HI.out.2.2.1 HI.out.2.2.2 rfl (by decide) _ L.length (intsV L) rfl (HO9.out.ext ((Ext.refl _).alloc _)) ⟨w9.heap.size,0,none⟩ 1 (fun _=>.int .i64 (k : Int)) rfl ?pcq (fun j hj=>rfl) ?b63q ?bbyq ?bbaq _ rfl (intsV (L ++ [(k : Int)])) (fun j hj=>intsV_old hj) (fun j hj=>intsV_new hj) ?_; (case pcq=>exact fun j hj=>by obtain rfl : j=0:=(by omega); exact cell_new _ _ _ 0 _ rfl); (case b63q=>unfold maxLen; omega); (case bbyq=>omega); (case bbaq=>exact Nat.le_trans HE0.out.size ((Ext.refl w9).alloc _).size); intro gq capq wq j1 j2 j3 j4 j5; have HAq:=Lib.hid (And.intro j1 (j3 _ (HE0.out.alloc _) (Nat.le_refl _))); clear j1 j2 j3 j4 j5)
      go_roundg (4096 - (k + 1))
      case measure=>go_light; omega
      case rel =>
        refine ⟨k + 1,o,some ⟨gq,0,none⟩,capq,by omega,rfl,?_,rfl,by go_num,HAq.out.2,?_,?_⟩
        ·rw [HY.out,List.length_append]; rfl
        ·rw [HY.out,List.length_append]; exact HAq.out.1
        ·exact ok_step HK.out.2.2.2.1 ⟨fun h=>⟨h,fun hn=>absurd hn HNb.out⟩,fun h=>h.1⟩
     ·have hno : outB m x (k + 1)=L:=by rw [outB_no (fun h=>h.elim (fun h=>HIb.out h.2.1) (fun h=>h.2.elim HNb.out HIb.out)),HK.out.2.2.2.2.2]
      have HY:=Lib.hid hno
      clear hno hkd
      go_wp2
      go_roundg (4096 - (k + 1))
      case measure=>go_light; omega
      case rel =>
       exact ⟨k + 1,o,A,c,by omega,rfl,by rw [HY.out],rfl,by go_num,HE0.out,by rw [HY.out]; exact HO9.out,ok_step HK.out.2.2.2.1 ⟨fun h=>⟨h,fun hn=>absurd hn HNb.out⟩,fun h=>h.1⟩⟩
  ·obtain rfl : k=4096:=by omega
   have hD:=HW.out.2.2.2.1.ext hE
   have y4:=hD.blk.cell (i:=4) (v:=.slice G1 m.gone.length gc) rfl
   have z4:=hD.blk.frozen 4
   have hb0 : base≤W0.heap.size:=Nat.le_trans hbase HW.out.2.1.size
   have HR:=Lib.hid (And.intro (hD.setGone (v':=.slice A L.length c) L (hO.mono hb0)) (And.intro hE (And.intro ho hL)))
   clear hE hO ho hL hD hb0
   go_wp2
   go_ret
   refine ⟨(KeepD.ext (HW.out.2.1.trans HR.out.2.1)).trans (KeepD.set 4 _),Nat.le_trans (HW.out.2.1.trans HR.out.2.1).size (Nat.le_of_eq (by simp)),?_⟩
   cases o with
   | false=>exact .inl ⟨rfl,.inr (.inr (.inr fun h=>by have:=HR.out.2.2.1.2 h; cases this))⟩
   | true =>
    refine .inr ⟨rfl,HM0.out,⟨hp0,hp1⟩,HR.out.2.2.1.1 rfl,.slice A L.length c,?_⟩
    rw [HR.out.2.2.2]
    exact HR.out.1
noncomputable def firstI (P : Nat→Prop) : Nat→Nat→Int
 | 0,_=>-1
 | f + 1,k=>if B (P k) then (k : Int) else firstI P f (k + 1)
theorem firstI_ok (P : Nat→Prop) : ∀ f k,(firstI P f k=-1∧∀ j,k≤j→j < k + f→¬ P j)∨∃ i : Nat,firstI P f k=(i : Int)∧k≤i∧i < k + f∧P i∧∀ j,k≤j→j < i→¬ P j
 | 0,k=>.inl ⟨rfl,fun j h1 h2=>absurd h2 (by omega)⟩
 | f + 1,k=>by
  unfold firstI
  by_cases h : P k
  ·rw [B_yes h,if_pos rfl]
   exact .inr ⟨k,rfl,Nat.le_refl _,by omega,h,fun j h1 h2=>absurd h2 (by omega)⟩
  ·rw [B_no h,if_neg (by simp)]
   rcases firstI_ok P f (k + 1) with ⟨e,hn⟩ | ⟨i,e,h1,h2,h3,h4⟩
   ·exact .inl ⟨e,fun j h1 h2=>by
     by_cases e2 : j=k
     ·subst e2; exact h
     ·exact hn j (by omega) (by omega)⟩
   ·exact .inr ⟨i,e,by omega,by omega,h3,fun j h5 h6=>by
     by_cases e2 : j=k
     ·subst e2; exact h
     ·exact h4 j (by omega) h6⟩
theorem firstQ_ok (n : Nat) (P : Nat→Prop) : FirstQ n P (firstI P n 0):=by
 rcases firstI_ok P n 0 with ⟨e,hn⟩ | ⟨i,e,h1,h2,h3,h4⟩
 ·exact .inl ⟨e,fun j hj=>hn j (by omega) (by omega)⟩
 ·exact .inr ⟨i,e,by omega,h3,fun j hj=>h4 j (by omega) hj⟩
theorem FirstQ.uniq {n : Nat} {P : Nat→Prop} {a b : Int} (h : FirstQ n P a) (k : FirstQ n P b) : a=b:=by
 rcases h with ⟨rfl,h⟩ | ⟨i,rfl,h1,h2,h3⟩ <;> rcases k with ⟨rfl,k⟩ | ⟨j,rfl,k1,k2,k3⟩
 ·rfl
 ·exact absurd k2 (h j k1)
 ·exact absurd h2 (k i h1)
 ·have : i=j:=by
   rcases Nat.lt_trichotomy i j with h | h | h
   ·exact absurd h2 (k3 i h)
   ·exact h
   ·exact absurd k2 (h3 j h)
  rw [this]
noncomputable def handI (m : ModelD) (t p : Int) : Int:=firstI (fun j=>(ix noHand m.hands j).t=t∧(ix noHand m.hands j).at_=p) m.hands.length 0
noncomputable def placeI (m : ModelD) (p : Int) : Int:=firstI (fun j=>(ix noHold m.spans j).page=p) m.spans.length 0
theorem hand28I (m : ModelD) (F H S G : Option Addr) (fc hc sc gc : Nat) (t p : Int) (w : World) (hl : m.hands.length≤1000000) (hm : ModelR w m F H S G) :
  Calls Tryz.prog 67 #[modelV m F H S G fc hc sc gc,.int .i64 t,.int .i64 p] w fun e w'=>e=.returned (.int .i64 (handI m t p))∧Ext w w' :=
 (hand28_any m F H S G fc hc sc gc t p w hl hm).mono fun e w' ⟨⟨r,h1,h2⟩,h3⟩=>⟨by rw [h1,FirstQ.uniq h2 (firstQ_ok _ _)]; rfl,h3⟩
theorem place28I (m : ModelD) (F H S G : Option Addr) (fc hc sc gc : Nat) (p : Int) (w : World) (hl : m.spans.length≤1000000) (hm : ModelR w m F H S G) :
  Calls Tryz.prog 36 #[modelV m F H S G fc hc sc gc,.int .i64 p] w fun e w'=>e=.returned (.int .i64 (placeI m p))∧Ext w w' :=
 (place28_any m F H S G fc hc sc gc p w hl hm).mono fun e w' ⟨⟨r,h1,h2⟩,h3⟩=>⟨by rw [h1,FirstQ.uniq h2 (firstQ_ok _ _)]; rfl,h3⟩
/-- Does a run touch the pages that come back? -/
def TouchR (x : MarkD) (r : RunD) : Prop:=r.at_ + r.n=x.page∨r.at_=x.page + x.n
noncomputable def restOf (x : MarkD) (r : RunD) : List RunD:=if B (TouchR x r) then [] else [r]
noncomputable def joinOf (x : MarkD) (a r : RunD) : RunD:=if B (TouchR x r) then ⟨min a.at_ r.at_,a.n + r.n⟩ else a
noncomputable def restL (l : List RunD) (x : MarkD) (k : Nat) : List RunD:=(l.take k).flatMap (restOf x)
noncomputable def joinL (l : List RunD) (x : MarkD) (k : Nat) : RunD:=(l.take k).foldl (joinOf x) ⟨x.page,x.n⟩
section
variable {l : List RunD} {x : MarkD} {k : Nat}
theorem restL_zero : restL l x 0=[]:=rfl
theorem joinL_zero : joinL l x 0=⟨x.page,x.n⟩:=rfl
theorem restL_no (hk : k < l.length) (h : ¬ TouchR x (ix noRun l k)) : restL l x (k + 1)=restL l x k ++ [ix noRun l k]:=by
 unfold restL
 rw [List.take_succ_eq_append_getElem hk,List.flatMap_append,← ix_lt (d:=noRun) hk]
 simp [restOf,B_no h]
theorem restL_yes (hk : k < l.length) (h : TouchR x (ix noRun l k)) : restL l x (k + 1)=restL l x k:=by
 unfold restL
 rw [List.take_succ_eq_append_getElem hk,List.flatMap_append,← ix_lt (d:=noRun) hk]
 simp [restOf,B_yes h]
theorem joinL_no (hk : k < l.length) (h : ¬ TouchR x (ix noRun l k)) : joinL l x (k + 1)=joinL l x k:=by
 unfold joinL
 rw [List.take_succ_eq_append_getElem hk,List.foldl_append,← ix_lt (d:=noRun) hk]
 simp [joinOf,B_no h]
theorem joinL_yes (hk : k < l.length) (h : TouchR x (ix noRun l k)) : joinL l x (k + 1)=⟨min (joinL l x k).at_ (ix noRun l k).at_,(joinL l x k).n + (ix noRun l k).n⟩:=by
 unfold joinL
 rw [List.take_succ_eq_append_getElem hk,List.foldl_append,← ix_lt (d:=noRun) hk]
 simp [joinOf,B_yes h]
theorem restL_len : ∀ k,k≤l.length→(restL l x k).length≤k
 | 0,_=>Nat.le_refl _
 | k + 1,h=>by
  have:=restL_len k (by omega)
  by_cases ht : TouchR x (ix noRun l k)
  ·rw [restL_yes (by omega) ht]; omega
  ·rw [restL_no (by omega) ht,List.length_append]; simp; omega
theorem joinL_bound (hfr : ∀ i,i < l.length→0≤(ix noRun l i).at_∧1≤(ix noRun l i).n∧(ix noRun l i).at_ + (ix noRun l i).n≤4096) : ∀ k,k≤l.length→x.n≤(joinL l x k).n∧(joinL l x k).n≤x.n + 4096 * k
 | 0,_=>⟨Int.le_refl _,by show x.n≤x.n + 4096 * ((0 : Nat) : Int); omega⟩
 | k + 1,h=>by
  have h1:=joinL_bound hfr k (by omega)
  have h2:=hfr k (by omega)
  by_cases ht : TouchR x (ix noRun l k)
  ·rw [joinL_yes (by omega) ht]
   dsimp only
   omega
  ·rw [joinL_no (by omega) ht]
   omega
theorem rest_none : ∀ {L : List RunD},(∀ r,r ∈ L→¬ TouchR x r)→L.flatMap (restOf x)=L
 | [],_=>rfl
 | r :: L,h=>by
  rw [List.flatMap_cons,rest_none (fun q hq=>h q (List.mem_cons_of_mem _ hq))]
  simp [restOf,B_no (h r (List.mem_cons_self ..))]
theorem join_none {a : RunD} : ∀ {L : List RunD},(∀ r,r ∈ L→¬ TouchR x r)→L.foldl (joinOf x) a=a
 | [],_=>rfl
 | r :: L,h=>by
  rw [List.foldl_cons,show joinOf x a r=a by simp [joinOf,B_no (h r (List.mem_cons_self ..))]]
  exact join_none (fun q hq=>h q (List.mem_cons_of_mem _ hq))
end
/-- The free runs and the pages that come back. -/
structure BackOk (l : List RunD) (x : MarkD) (k : Nat) : Prop where
 place : PlaceR l k x.page
 gap : ∀ a b,a < b→b < l.length→(ix noRun l a).at_ + (ix noRun l a).n < (ix noRun l b).at_
 pos : ∀ a,a < l.length→1≤(ix noRun l a).n
 n : 1≤x.n
 apart : ∀ a,a < l.length→(ix noRun l a).at_ + (ix noRun l a).n≤x.page∨x.page + x.n≤(ix noRun l a).at_
section
variable {l : List RunD} {x : MarkD} {k : Nat}
theorem BackOk.lo (h : BackOk l x k) {i : Nat} (hi : i < k) : (ix noRun l i).at_ < x.page:=h.place.2.1 i hi
theorem BackOk.hi (h : BackOk l x k) {i : Nat} (h1 : k≤i) (h2 : i < l.length) : x.page + x.n≤(ix noRun l i).at_:=by
 have h3 : x.page≤(ix noRun l i).at_:=h.place.2.2 i h1 h2
 have h4:=h.pos i h2
 rcases h.apart i h2 with h5 | h5 <;> omega
theorem BackOk.loT (h : BackOk l x k) {i : Nat} (hi : i < k) (ht : TouchR x (ix noRun l i)) : i + 1=k∧JoinLo l k x:=by
 have h1:=h.lo hi
 have h2:=h.n
 have hk:=h.place.1
 rcases ht with ht | ht
 ·by_cases e : i + 1=k
  ·refine ⟨e,by omega,?_⟩
   rw [show k - 1=i by omega]
   exact ht
  ·have h3:=h.gap i (k - 1) (by omega) (by omega)
   have h4:=h.lo (i:=k - 1) (by omega)
   omega
 ·omega
theorem BackOk.hiT (h : BackOk l x k) {i : Nat} (h1 : k≤i) (h2 : i < l.length) (ht : TouchR x (ix noRun l i)) : i=k∧JoinHi l k x:=by
 have h3:=h.hi h1 h2
 have h4:=h.n
 have h5:=h.pos i h2
 rcases ht with ht | ht
 ·omega
 ·by_cases e : i=k
  ·subst e
   exact ⟨rfl,h2,ht.symm⟩
  ·have h6:=h.gap k i (by omega) h2
   have h7:=h.hi (i:=k) (Nat.le_refl _) (by omega)
   have h8:=h.pos k (by omega)
   omega
theorem BackOk.both (h : BackOk l x k) : restL l x l.length=l.take (backFrom l k x) ++ l.drop (backTo l k x)∧joinL l x l.length=backRun l k x:=by
 have hk:=h.place.1
 have mt : ∀ n,n≤k→(n < k∨¬ JoinLo l k x)→∀ r,r ∈ l.take n→¬ TouchR x r:=by
  intro n hn hc r hr ht
  obtain ⟨i,hi,rfl⟩:=List.mem_take_iff_getElem.1 hr
  rw [← ix_lt (d:=noRun) (by omega)] at ht
  obtain ⟨h1,h2⟩:=h.loT (i:=i) (by omega) ht
  rcases hc with hc | hc
  ·omega
  ·exact hc h2
 have md : ∀ n,k≤n→(k < n∨¬ JoinHi l k x)→∀ r,r ∈ l.drop n→¬ TouchR x r:=by
  intro n hn hc r hr ht
  obtain ⟨i,hi,rfl⟩:=List.mem_drop_iff_getElem.1 hr
  rw [← ix_lt (d:=noRun) (by omega)] at ht
  obtain ⟨h1,h2⟩:=h.hiT (i:=n + i) (by omega) (by omega) ht
  rcases hc with hc | hc
  ·omega
  ·exact hc h2
 unfold restL joinL
 rw [List.take_length]
 have hsp : l=l.take k ++ l.drop k:=(List.take_append_drop k l).symm
 have hlo : JoinLo l k x→l.take k=l.take (k - 1) ++ [ix noRun l (k - 1)]∧TouchR x (ix noRun l (k - 1)):=by
  intro hj
  refine ⟨?_,.inl hj.2⟩
  have:=List.take_succ_eq_append_getElem (show k - 1 < l.length by have:=hj.1; omega)
  rw [show k - 1 + 1=k by have:=hj.1; omega] at this
  rw [this]
  exact congrArg (fun z=>l.take (k - 1) ++ [z]) (ix_lt (d:=noRun) _).symm
 have hhi : JoinHi l k x→l.drop k=ix noRun l k :: l.drop (k + 1)∧TouchR x (ix noRun l k):=by
  intro hj
  refine ⟨?_,.inr hj.2.symm⟩
  rw [List.drop_eq_getElem_cons hj.1]
  exact congrArg (fun z=>z :: l.drop (k + 1)) (ix_lt (d:=noRun) _).symm
 have hone : ∀ r,TouchR x r→restOf x r=[]:=fun r hr=>by simp [restOf,B_yes hr]
 have hjo : ∀ a r,TouchR x r→joinOf x a r=⟨min a.at_ r.at_,a.n + r.n⟩:=fun a r hr=>by simp [joinOf,B_yes hr]
 have hn1:=h.n
 by_cases jl : JoinLo l k x <;> by_cases jh : JoinHi l k x
 ·obtain ⟨e1,t1⟩:=hlo jl
  obtain ⟨e2,t2⟩:=hhi jh
  have p1:=jl.1
  have p2:=h.lo (i:=k - 1) (by omega)
  have p3:=jh.2
  have n1:=mt (k - 1) (by omega) (.inl (by omega))
  have n2:=md (k + 1) (by omega) (.inl (by omega))
  unfold backFrom backTo backRun
  rw [B_yes jl,B_yes jh]
  simp only [if_true]
  constructor
  ·conv=>lhs; rw [hsp,e1,e2]
   rw [List.flatMap_append,List.flatMap_append,rest_none n1,List.flatMap_cons,List.flatMap_cons,rest_none n2,hone _ t1,hone _ t2]
   simp
  ·conv=>lhs; rw [hsp,e1,e2]
   rw [List.foldl_append,List.foldl_append,join_none n1]
   simp only [List.foldl_cons,List.foldl_nil]
   rw [hjo _ _ t1,hjo _ _ t2,join_none n2]
   congr 1
   dsimp only
   omega
 ·obtain ⟨e1,t1⟩:=hlo jl
  have p1:=jl.1
  have p2:=h.lo (i:=k - 1) (by omega)
  have n1:=mt (k - 1) (by omega) (.inl (by omega))
  have n2:=md k (Nat.le_refl _) (.inr jh)
  unfold backFrom backTo backRun
  rw [B_yes jl,B_no jh]
  simp only [if_true,Bool.false_eq_true,if_false]
  constructor
  ·conv=>lhs; rw [hsp,e1]
   rw [List.flatMap_append,List.flatMap_append,rest_none n1,rest_none n2,List.flatMap_cons,hone _ t1]
   simp
  ·conv=>lhs; rw [hsp,e1]
   rw [List.foldl_append,List.foldl_append,join_none n1,List.foldl_cons,List.foldl_nil,hjo _ _ t1,join_none n2]
   congr 1
   ·dsimp only; omega
   ·dsimp only; omega
 ·obtain ⟨e2,t2⟩:=hhi jh
  have p3:=jh.2
  have n1:=mt k (Nat.le_refl _) (.inr jl)
  have n2:=md (k + 1) (by omega) (.inl (by omega))
  unfold backFrom backTo backRun
  rw [B_no jl,B_yes jh]
  simp only [if_true,Bool.false_eq_true,if_false]
  constructor
  ·conv=>lhs; rw [hsp,e2]
   rw [List.flatMap_append,List.flatMap_cons,rest_none n1,rest_none n2,hone _ t2]
   simp
  ·conv=>lhs; rw [hsp,e2]
   rw [List.foldl_append,join_none n1,List.foldl_cons,hjo _ _ t2,join_none n2]
   congr 1
   ·dsimp only; omega
   ·dsimp only; omega
 ·have n1:=mt k (Nat.le_refl _) (.inr jl)
  have n2:=md k (Nat.le_refl _) (.inr jh)
  unfold backFrom backTo backRun
  rw [B_no jl,B_no jh]
  simp only [Bool.false_eq_true,if_false]
  constructor
  ·conv=>lhs; rw [hsp]
   rw [List.flatMap_append,rest_none n1,rest_none n2]
  ·conv=>lhs; rw [hsp]
   rw [List.foldl_append,join_none n1,join_none n2]
   congr 1
   omega
theorem BackOk.put (h : BackOk l x k) {q : Nat} (hq : q≤(restL l x l.length).length) (h1 : ∀ i,i < q→(ix noRun (restL l x l.length) i).at_ < (joinL l x l.length).at_)
  (h2 : q < (restL l x l.length).length→¬ (ix noRun (restL l x l.length) q).at_ < (joinL l x l.length).at_) :
  cutIn (restL l x l.length) q q [joinL l x l.length]=cutIn l (backFrom l k x) (backTo l k x) [backRun l k x]:=by
 obtain ⟨e1,e2⟩:=h.both
 rw [e1] at hq h1 h2 ⊢
 rw [e2] at h1 h2 ⊢
 have hk:=h.place.1
 have hfk : backFrom l k x≤k:=by unfold backFrom; split <;> omega
 have hkt : k≤backTo l k x:=by unfold backTo; split <;> omega
 have htl : backTo l k x≤l.length:=by
  unfold backTo
  by_cases jh : JoinHi l k x
  ·rw [B_yes jh]; have:=jh.1; simp; omega
  ·rw [B_no jh]; simpa using hk
 have hat : (backRun l k x).at_≤x.page∧∀ i,i < backFrom l k x→(ix noRun l i).at_ < (backRun l k x).at_:=by
  unfold backRun backFrom
  by_cases jl : JoinLo l k x
  ·rw [B_yes jl]
   simp only [if_true]
   have:=h.lo (i:=k - 1) (by have:=jl.1; omega)
   refine ⟨by omega,fun i hi=>?_⟩
   have h3:=h.gap i (k - 1) hi (by omega)
   have h4:=h.pos i (by omega)
   omega
  ·rw [B_no jl]
   simp only [Bool.false_eq_true,if_false]
   exact ⟨Int.le_refl _,fun i hi=>h.lo hi⟩
 have hfl : (l.take (backFrom l k x)).length=backFrom l k x:=by rw [List.length_take]; omega
 have hix : ∀ i,i < backFrom l k x→ix noRun (l.take (backFrom l k x) ++ l.drop (backTo l k x)) i=ix noRun l i:=by
  intro i hi
  rw [ix_lt (by rw [List.length_append,hfl]; omega),ix_lt (by omega),List.getElem_append_left (by omega),List.getElem_take]
 have hqf : q=backFrom l k x:=by
  rcases Nat.lt_trichotomy q (backFrom l k x) with hlt | heq | hgt
  ·exfalso
   have h5:=h2 (by rw [List.length_append,hfl]; omega)
   rw [hix q hlt] at h5
   exact h5 (hat.2 q hlt)
  ·exact heq
  ·exfalso
   have h5:=h1 _ hgt
   have hlen : backTo l k x < l.length:=by rw [List.length_append,hfl,List.length_drop] at hq; omega
   rw [ix_lt (by rw [List.length_append,hfl,List.length_drop]; omega),List.getElem_append_right (by omega),List.getElem_drop] at h5
   simp only [hfl,Nat.sub_self,Nat.add_zero] at h5
   rw [← ix_lt (d:=noRun) hlen] at h5
   have h6:=h.hi hkt hlen
   have h7:=h.n
   omega
 subst hqf
 unfold cutIn
 rw [List.take_append_of_le_length (by omega),List.take_of_length_le (by omega),List.drop_append,hfl,Nat.sub_self,List.drop_of_length_le (by omega)]
 rfl
end
theorem place_ex {α : Type} (d : α) (l : List α) (K : α→Int) (p : Int) (h : Rises d l K) : ∃ k,k≤l.length∧(∀ i,i < k→K (ix d l i) < p)∧∀ i,k≤i→i < l.length→p≤K (ix d l i):=by
 have key : ∀ n,n≤l.length→(∀ i,i < n→K (ix d l i) < p)∨∃ k,k < n∧(∀ i,i < k→K (ix d l i) < p)∧p≤K (ix d l k):=by
  intro n
  induction n with
  | zero=>exact fun _=>.inl fun i hi=>absurd hi (by omega)
  | succ n ih =>
   intro hn
   rcases ih (by omega) with h1 | ⟨k,hk,h1,h2⟩
   ·by_cases h3 : K (ix d l n) < p
    ·refine .inl fun i hi=>?_
     by_cases e : i=n
     ·subst e; exact h3
     ·exact h1 i (by omega)
    ·exact .inr ⟨n,by omega,h1,by omega⟩
   ·exact .inr ⟨k,by omega,h1,h2⟩
 rcases key l.length (Nat.le_refl _) with h1 | ⟨k,hk,h1,h2⟩
 ·exact ⟨l.length,Nat.le_refl _,h1,fun i h3 h4=>absurd h4 (by omega)⟩
 ·refine ⟨k,by omega,h1,fun i h3 h4=>?_⟩
  have:=h.le h3 h4
  omega
theorem May2.apartFH {m : ModelD} (h : May2 m) {j a : Nat} (hj : j < m.hands.length) (ha : a < m.free.length) : (ix noRun m.free a).at_ + (ix noRun m.free a).n≤(ix noHand m.hands j).at_∨(ix noHand m.hands j).at_ + (ix noHand m.hands j).n≤(ix noRun m.free a).at_:=by
 have m1 : fR (ix noRun m.free a) ∈ m.free.map fR:=List.mem_map_of_mem (ixMem ha)
 have m2 : fH (ix noHand m.hands j) ∈ m.hands.map fH:=List.mem_map_of_mem (ixMem hj)
 have f1:=h.laid.1 _ (by rw [pcs_eq]; exact List.mem_append_left _ m1)
 have f2:=h.laid.1 _ (by rw [pcs_eq]; exact List.mem_append_right _ (List.mem_append_left _ m2))
 obtain ⟨a1,a2,a3,a4⟩:=f1
 obtain ⟨b1,b2,b3,b4⟩:=f2
 unfold fR at a1 a2 a3 a4
 unfold fH at b1 b2 b3 b4
 dsimp only at a1 a2 a3 a4 b1 b2 b3 b4
 apply Classical.byContradiction
 intro hn
 have hp : ∃ p,InP (fR (ix noRun m.free a)) p∧InP (fH (ix noHand m.hands j)) p∧0≤p∧p < m.pages:=by
  by_cases e : (ix noRun m.free a).at_≤(ix noHand m.hands j).at_
  ·exact ⟨(ix noHand m.hands j).at_,⟨e,by show _ < (ix noRun m.free a).at_ + (ix noRun m.free a).n; omega⟩,⟨Int.le_refl _,by show _ < (ix noHand m.hands j).at_ + (ix noHand m.hands j).n; omega⟩,b1,b3⟩
  ·exact ⟨(ix noRun m.free a).at_,⟨Int.le_refl _,by show _ < (ix noRun m.free a).at_ + (ix noRun m.free a).n; omega⟩,⟨by show (ix noHand m.hands j).at_≤_; omega,by show _ < (ix noHand m.hands j).at_ + (ix noHand m.hands j).n; omega⟩,a1,a3⟩
 obtain ⟨p,p1,p2,p3,p4⟩:=hp
 have h1:=h.laid.2 p p3 p4
 have h2:=cntL_pos m1 p1
 have h3:=cntL_pos m2 p2
 rw [cnt_pcs] at h1
 omega
theorem new28_res : Tryz.f17.results=#[.cell 2 30]:=by kernel_rfl
set_option maxHeartbeats 2000000 in
set_option maxRecDepth 100000 in
theorem new28_any (p : Int) (w : World) (hp : -9223372036854775808≤p∧p≤9223372036854775807) : Calls Tryz.prog 17 #[.int .i64 p] w (NewP p w):=by
 have hcs : (decide (p < 1)=true∧newM p=noModel)∨(decide (p < 1)=false∧decide (4096 < p)=true∧newM p=noModel)∨(decide (p < 1)=false∧decide (4096 < p)=false∧newM p=⟨p,[⟨0,p⟩],[],[],[]⟩):=by
  unfold newM
  simp only [decide_eq_true_eq,decide_eq_false_iff_not]
  by_cases h : 1≤p∧p≤4096
  ·rw [B_yes h]
   exact .inr (.inr ⟨by omega,by omega,rfl⟩)
  ·rw [B_no h]
   by_cases h1 : p < 1
   ·exact .inl ⟨h1,rfl⟩
   ·exact .inr (.inl ⟨h1,by omega,rfl⟩)
 have hle : w.heap.size≤w.heap.size:=Nat.le_refl _
 rcases hcs with ⟨e1,hn⟩ | ⟨e1,e2,hn⟩ | ⟨e1,e2,hn⟩
 rotate_right 1
 ·have HN:=Lib.hid hn
  clear hn hp
  go_enter Tryz.func17,Tryz.ntmps17
  go_wp2
  refine bodyPost_ret (results_cell_row new28_res _ _ w.heap.size 30 _ (0,0) _ rfl ((Blk.new w _ _ _ rfl).alloc _) Tryz.underlying30 rfl own_info) rfl ⟨((Ext.refl w).alloc _).alloc _,some ⟨w.heap.size + 1,0,none⟩,1,?_,?_⟩
  ·rw [HN.out]; rfl
  ·rw [HN.out]
   refine ⟨fun _=>⟨w.heap.size + 1,0,rfl,fun j hj=>?_⟩,SlR.nil,SlR.nil,SlR.nil⟩
   have hb : Blk ((w.alloc (.cells #[.int .i64 p,.slice (some ⟨w.heap.size + 1,0,none⟩) 1 1,.slice none 0 0,.slice none 0 0,.slice none 0 0] 30)).alloc (.cells #[.int .i64 0,.int .i64 p] 54)) (w.heap.size + 1) 54 #[.int .i64 0,.int .i64 p]:=by
    have:=Blk.new (w.alloc (.cells #[.int .i64 p,.slice (some ⟨w.heap.size + 1,0,none⟩) 1 1,.slice none 0 0,.slice none 0 0,.slice none 0 0] 30)) 54 #[.int .i64 0,.int .i64 p] _ rfl
    rwa [World.size_alloc] at this
   have h2 : j=0∨j=1:=by simp at hj; omega
   rcases h2 with rfl | rfl
   ·exact hb.cell (i:=0) rfl
   ·exact hb.cell (i:=1) rfl
 all_goals
  have HN:=Lib.hid hn
  clear hn hp
  go_enter Tryz.func17,Tryz.ntmps17
  go_wp2
  refine bodyPost_ret (results_cell_row new28_res _ _ w.heap.size 30 _ (0,0) _ rfl (Blk.new w _ _ _ rfl) Tryz.underlying30 rfl own_info) rfl ⟨(Ext.refl w).alloc _,none,0,?_,?_⟩
  ·rw [HN.out]; rfl
  ·rw [HN.out]; exact nilR _
theorem rises_inj {α : Type} {d : α} {l : List α} {K : α→Int} (h : Rises d l K) {i j : Nat} (hi : i < l.length) (hj : j < l.length) (e : K (ix d l i)=K (ix d l j)) : i=j:=by
 rcases Nat.lt_trichotomy i j with hlt | he | hgt
 ·have:=h i j hlt hj; omega
 ·exact he
 ·have:=h j i hgt hi; omega
theorem place_uniq {α : Type} {d : α} {l : List α} {K : α→Int} {p : Int} {i k : Nat} (hi : i≤l.length) (i1 : ∀ q,q < i→K (ix d l q) < p) (i2 : ∀ q,i≤q→q < l.length→p≤K (ix d l q))
  (hk : k≤l.length) (k1 : ∀ q,q < k→K (ix d l q) < p) (k2 : ∀ q,k≤q→q < l.length→p≤K (ix d l q)) : i=k:=by
 rcases Nat.lt_trichotomy i k with hlt | he | hgt
 ·have a:=i2 i (Nat.le_refl _) (by omega)
  have b:=k1 i hlt
  omega
 ·exact he
 ·have a:=k2 k (Nat.le_refl _) (by omega)
  have b:=i1 k hgt
  omega
theorem May2.riseH {m : ModelD} (h : May2 m) : Rises noHand m.hands handK:=(pw_rises (d:=noHand) (K:=fun x=>x.at_)).1 h.hand
theorem May2.riseS {m : ModelD} (h : May2 m) : Rises noHold m.spans pageK:=(pw_rises (d:=noHold) (K:=fun x=>x.page)).1 h.span
theorem hand_uniq {m : ModelD} {x : MarkD} {j k : Nat} (h : May2 m) (hj : j < m.hands.length) (hk : k < m.hands.length) (a : HandP m x j) (b : HandP m x k) : j=k:=rises_inj h.riseH hj hk (a.2.trans b.2.symm)
theorem span_uniq {m : ModelD} {p : Int} {j k : Nat} (h : May2 m) (hj : j < m.spans.length) (hk : k < m.spans.length) (a : (ix noHold m.spans j).page=p) (b : (ix noHold m.spans k).page=p) : j=k:=rises_inj h.riseS hj hk (a.trans b.symm)
theorem placeH_uniq {l : List HandD} {i k : Nat} {p : Int} (a : PlaceH l i p) (b : PlaceH l k p) : i=k:=place_uniq a.1 a.2.1 a.2.2 b.1 b.2.1 b.2.2
theorem placeR_uniq {l : List RunD} {i k : Nat} {p : Int} (a : PlaceR l i p) (b : PlaceR l k p) : i=k:=place_uniq a.1 a.2.1 a.2.2 b.1 b.2.1 b.2.2
theorem placeS_uniq {l : List HoldD} {i k : Nat} {p : Int} (a : PlaceS l i p) (b : PlaceS l k p) : i=k:=place_uniq a.1 a.2.1 a.2.2 b.1 b.2.1 b.2.2
theorem get_fun {m a b : ModelD} {x : MarkD} (ha : GetR m x a) (hb : GetR m x b) : a=b:=by
 obtain ⟨i,k,hi,f1,f2,p1,rfl⟩:=ha
 obtain ⟨j,q,hj,g1,g2,p2,rfl⟩:=hb
 have e : i=j:=by
  rcases Nat.lt_trichotomy i j with hlt | he | hgt
  ·exact absurd f1 (g2 i hlt)
  ·exact he
  ·exact absurd g1 (f2 j hgt)
 subst e
 obtain rfl:=placeH_uniq p1 p2
 rfl
theorem lay_fun {m a b : ModelD} {x : MarkD} (h : May2 m) (ha : LayR m x a) (hb : LayR m x b) : a=b:=by
 obtain ⟨i,k,hi,f1,_,p1,rfl⟩:=ha
 obtain ⟨j,q,hj,g1,_,p2,rfl⟩:=hb
 obtain rfl:=hand_uniq h hi hj f1 g1
 obtain rfl:=placeS_uniq p1 p2
 rfl
theorem back_fun {m a b : ModelD} {x : MarkD} (h : May2 m) (ha : BackR m x a) (hb : BackR m x b) : a=b:=by
 obtain ⟨i,k,hi,f1,_,p1,rfl⟩:=ha
 obtain ⟨j,q,hj,g1,_,p2,rfl⟩:=hb
 obtain rfl:=hand_uniq h hi hj f1 g1
 obtain rfl:=placeR_uniq p1 p2
 rfl
theorem drop_fun {m a b : ModelD} {x : MarkD} (ha : DropR m x a) (hb : DropR m x b) : a=b:=by
 obtain ⟨i,k,hi,f1,_,p1,rfl⟩:=ha
 obtain ⟨j,q,hj,g1,_,p2,rfl⟩:=hb
 obtain rfl:=placeH_uniq p1 p2
 rfl
theorem turn_fun {m a b : ModelD} {x : MarkD} (h : May2 m) (ha : TurnR m x a) (hb : TurnR m x b) : a=b:=by
 obtain ⟨i,y,hi,f1,e1,rfl⟩:=ha
 obtain ⟨j,z,hj,g1,e2,rfl⟩:=hb
 obtain rfl:=span_uniq h hi hj f1 g1
 rw [e1] at e2
 injection e2 with e2
 rw [e2]
theorem does_fun {m a b : ModelD} {x : MarkD} (h : May2 m) (ha : DoesR m x a) (hb : DoesR m x b) : a=b:=by
 obtain ⟨_,ha⟩:=ha
 obtain ⟨_,hb⟩:=hb
 unfold OtherK at ha hb
 rcases ha with ⟨k,ha⟩ | ⟨k,_,ha⟩ | ⟨k,ha⟩ | ⟨k,ha⟩ | ⟨k,ha⟩ | ⟨k,_,ha⟩ | ⟨k,_,ha⟩ | ⟨k,_,ha⟩ | ⟨k,ha⟩ <;>
 rcases hb with ⟨q,hb⟩ | ⟨q,_,hb⟩ | ⟨q,hb⟩ | ⟨q,hb⟩ | ⟨q,hb⟩ | ⟨q,_,hb⟩ | ⟨q,_,hb⟩ | ⟨q,_,hb⟩ | ⟨q,hb⟩
 all_goals first
  | exact get_fun ha hb
  | exact lay_fun h ha hb
  | exact drop_fun ha hb
  | exact back_fun h ha hb
  | exact turn_fun h ha hb
  | exact ha.trans hb.symm
  |(exfalso; omega)
theorem does_no {m a : ModelD} {x : MarkD} (h : May2 m) (ha : DoesR m x a) (hb : DoesN m x) : False:=by
 obtain ⟨ht,ha⟩:=ha
 unfold OtherK at ha
 rcases hb with hb | hb
 ·exact hb ht
 unfold OtherK at hb
 rcases ha with ⟨k,ha⟩ | ⟨k,ha,_⟩ | ⟨k,ha⟩ | ⟨k,ha⟩ | ⟨k,ha⟩ | ⟨k,ha,_⟩ | ⟨k,ha,_⟩ | ⟨k,ha,_⟩ | ⟨k,ha⟩ <;>
 rcases hb with ⟨q,hb⟩ | ⟨q,hb⟩ | ⟨q,hb⟩ | ⟨q,hb⟩ | ⟨q,hb⟩ | ⟨q,hb⟩ | ⟨q,hb⟩ | ⟨q,hb⟩ | ⟨q,hb⟩
 all_goals first
  | exact hb ha
  | exact ha hb
  |(obtain ⟨i,_,hi,f,_⟩:=ha; exact hb i hi f)
  |(obtain ⟨i,_,hi,f1,f2,_⟩:=ha; exact hb i hi f1 (fun q hq hh=>absurd (hand_uniq h (by omega) hi hh f1) (by omega)) f2)
  |(obtain ⟨i,_,hi,f1,f2,_⟩:=ha; exact hb i hi f1 f2)
  |(obtain ⟨i,y,hi,f1,f2,_⟩:=ha
    rcases hb with hb | ⟨j,hj,g1,g2⟩
    ·exact hb i hi f1
    ·obtain rfl:=span_uniq h hi hj f1 g1
     rw [f2] at g2
     cases g2)
  |(exfalso; omega)
theorem pw_ext : ∀ {l k : List Int},l.Pairwise (fun a b=>a < b)→k.Pairwise (fun a b=>a < b)→(∀ p,p ∈ l↔p ∈ k)→l=k
 | [],[],_,_,_=>rfl
 | [],b :: k,_,_,h=>absurd ((h b).2 (List.mem_cons_self ..)) (by simp)
 | a :: l,[],_,_,h=>absurd ((h a).1 (List.mem_cons_self ..)) (by simp)
 | a :: l,b :: k,hl,hk,h=>by
  rw [List.pairwise_cons] at hl hk
  have e : a=b:=by
   rcases List.mem_cons.1 ((h a).1 (List.mem_cons_self ..)) with e | e
   ·exact e
   rcases List.mem_cons.1 ((h b).2 (List.mem_cons_self ..)) with e2 | e2
   ·exact e2.symm
   have:=hk.1 a e
   have:=hl.1 b e2
   omega
  subst e
  congr 1
  refine pw_ext hl.2 hk.2 fun p=>⟨fun hp=>?_,fun hp=>?_⟩
  ·rcases List.mem_cons.1 ((h p).1 (List.mem_cons_of_mem _ hp)) with e | e
   ·have:=hl.1 p hp; omega
   ·exact e
  ·rcases List.mem_cons.1 ((h p).2 (List.mem_cons_of_mem _ hp)) with e | e
   ·have:=hk.1 p hp; omega
   ·exact e
theorem outB_pw (m : ModelD) (x : MarkD) (k : Nat) : (outB m x k).Pairwise (fun a b=>a < b):=by
 unfold outB
 rw [List.pairwise_map]
 exact ((List.pairwise_lt_range (n:=k)).filter _).imp fun h=>by omega
theorem outB_mem {m : ModelD} {x : MarkD} {k : Nat} {q : Int} : q ∈ outB m x k↔∃ p : Nat,q=(p : Int)∧p < k∧OutP m x p:=by
 unfold outB
 rw [List.mem_map]
 constructor
 ·rintro ⟨p,hp,rfl⟩
  rw [List.mem_filter,List.mem_range] at hp
  exact ⟨p,rfl,hp.1,B_iff.1 hp.2⟩
 ·rintro ⟨p,rfl,h1,h2⟩
  exact ⟨p,List.mem_filter.2 ⟨List.mem_range.2 h1,B_yes h2⟩,rfl⟩
theorem tolds_mem {x : MarkD} {q : Int} (hp : 0≤x.page∧x.page < 64) : q ∈ tolds x↔∃ p : Nat,q=(p : Int)∧p < 4096∧NowP x p:=by
 unfold tolds NowP
 rw [if_pos hp,List.mem_map]
 unfold places toldF
 constructor
 ·rintro ⟨i,hi,rfl⟩
  rw [List.mem_filter,List.mem_range] at hi
  refine ⟨64 * x.page.toNat + i,by omega,by omega,by omega,?_⟩
  rw [show (64 * x.page.toNat + i) % 64=i by omega]
  exact hi.2
 ·rintro ⟨p,rfl,h1,h2,h3⟩
  exact ⟨p % 64,List.mem_filter.2 ⟨List.mem_range.2 (Nat.mod_lt _ (by decide)),h3⟩,by omega⟩
theorem tolds_pos {x : MarkD} (hp : 0≤x.page∧x.page < 64) (hx : x.mask < 18446744073709551616) : 0 < (tolds x).length↔x.mask≠0:=by
 unfold tolds
 rw [if_pos hp,List.length_map]
 constructor
 ·intro h e
  rw [e,places_zero] at h
  simp at h
 ·intro h
  obtain ⟨i,hi⟩:=Nat.exists_testBit_of_ne_zero h
  have h64 : i < 64:=by
   rcases Nat.lt_or_ge i 64 with h | h
   ·exact h
   ·have:=Nat.testBit_lt_two_pow (x:=x.mask) (i:=i) (Nat.lt_of_lt_of_le hx (by rw [show 18446744073709551616=2 ^ 64 by decide]; exact Nat.pow_le_pow_right (by decide) h))
    rw [this] at hi
    cases hi
  exact List.length_pos_of_mem (List.mem_filter.2 ⟨List.mem_range.2 h64,hi⟩)
theorem tolds_no {x : MarkD} (hp : ¬ (0≤x.page∧x.page < 64)) : (tolds x).length=0:=by unfold tolds; rw [if_neg hp]; rfl
theorem isG_iff {m : ModelD} {p : Nat} : IsG m p↔(p : Int) ∈ m.gone:=by
 unfold IsG
 constructor
 ·rintro ⟨i,hi,e⟩
  rw [← e]; exact ixMem hi
 ·intro h
  exact ofMem h
theorem toldOf_iff {x : MarkD} {q : Int} : ToldOf x q↔q ∈ tolds x:=by
 unfold ToldOf
 constructor
 ·rintro ⟨i,hi,e⟩
  rw [← e]; exact ixMem hi
 ·intro h
  exact ofMem h
theorem allTold {x : MarkD} {P : Int→Prop} : (∀ i,i < (tolds x).length→P (ix 0 (tolds x) i))↔∀ q,q ∈ tolds x→P q:=by
 constructor
 ·intro h q hq
  obtain ⟨i,hi,e⟩:=ofMem (d:=(0 : Int)) hq
  rw [← e]; exact h i hi
 ·intro h i hi
  exact h _ (ixMem hi)
theorem commit_iff {m : ModelD} {x : MarkD} (hx : MarkOk x) (hk : x.kind=15) (ht : ThreadP x.thread) : CommitC m x↔x.mask≠0∧(0≤x.page∧x.page < 64)∧∀ p,p < 4096→NowP x p→OkP m x p:=by
 by_cases hp : 0≤x.page∧x.page < 64
 rotate_left
 ·constructor
  ·intro h; have:=h.2; rw [tolds_no hp] at this; omega
  ·intro h; exact absurd h.2.1 hp
 unfold CommitC
 rw [tolds_pos hp hx.mask,allTold]
 have hc : (∀ q,q ∈ tolds x→ComP m x q)↔∀ p,p < 4096→NowP x p→OkP m x p:=by
  constructor
  ·intro h p h1 h2
   obtain ⟨g,j,hj,h3,h4⟩:=h (p : Int) ((tolds_mem hp).2 ⟨p,rfl,h1,h2⟩)
   exact .inl ⟨hk,g,j,hj,h4,.inr h3⟩
  ·intro h q hq
   obtain ⟨p,rfl,h1,h2⟩:=(tolds_mem hp).1 hq
   rcases h p h1 h2 with ⟨_,g,j,hj,h4,h3⟩ | ⟨h3,_⟩
   ·refine ⟨g,j,hj,?_,h4⟩
    rcases h3 with h3 | h3
    ·have:=ht.1; omega
    ·exact h3
   ·exact absurd hk h3
 rw [hc]
 exact ⟨fun h=>⟨h.2,hp,h.1⟩,fun h=>⟨h.2.2,h.1⟩⟩
theorem rel_iff {m : ModelD} {x : MarkD} (hx : MarkOk x) (hk : x.kind≠15) : RelC m x↔x.mask≠0∧(0≤x.page∧x.page < 64)∧∀ p,p < 4096→NowP x p→OkP m x p:=by
 by_cases hp : 0≤x.page∧x.page < 64
 rotate_left
 ·constructor
  ·intro h; have:=h.2; rw [tolds_no hp] at this; omega
  ·intro h; exact absurd h.2.1 hp
 unfold RelC
 rw [tolds_pos hp hx.mask,allTold]
 have hc : (∀ q,q ∈ tolds x→RelP m q)↔∀ p,p < 4096→NowP x p→OkP m x p:=by
  constructor
  ·intro h p h1 h2
   obtain ⟨g,j,hj,h4⟩:=h (p : Int) ((tolds_mem hp).2 ⟨p,rfl,h1,h2⟩)
   exact .inr ⟨hk,g,j,hj,h4⟩
  ·intro h q hq
   obtain ⟨p,rfl,h1,h2⟩:=(tolds_mem hp).1 hq
   rcases h p h1 h2 with ⟨h3,_⟩ | ⟨_,g,j,hj,h4⟩
   ·exact absurd h3 hk
   ·exact ⟨g,j,hj,h4⟩
 rw [hc]
 exact ⟨fun h=>⟨h.2,hp,h.1⟩,fun h=>⟨h.2.2,h.1⟩⟩
theorem gone_small {m : ModelD} (h : May2 m) {q : Int} (hq : q ∈ m.gone) : ∃ p : Nat,q=(p : Int)∧p < 4096:=by
 have h1:=h.goneP q hq
 have h2:=h.pages
 exact ⟨q.toNat,by omega,by omega⟩
theorem commit_out {m : ModelD} {x : MarkD} (h : May2 m) (hk : x.kind=15) (hp : 0≤x.page∧x.page < 64) : outB m x 4096=stayL (ToldOf x) m.gone:=by
 refine pw_ext (outB_pw m x 4096) (h.gone.filter _) fun q=>?_
 rw [outB_mem]
 unfold stayL
 rw [List.mem_filter]
 constructor
 ·rintro ⟨p,rfl,h1,⟨_,h2,h3⟩ | ⟨h2,_⟩⟩
  ·refine ⟨isG_iff.1 h2,?_⟩
   rw [B_no fun hh=>h3 ?_]; rfl
   obtain ⟨p',e,_,h4⟩:=(tolds_mem hp).1 (toldOf_iff.1 hh)
   obtain rfl : p=p':=by omega
   exact h4
  ·exact absurd hk h2
 ·rintro ⟨h1,h2⟩
  obtain ⟨p,rfl,h3⟩:=gone_small h h1
  refine ⟨p,rfl,h3,.inl ⟨hk,isG_iff.2 h1,fun hn=>?_⟩⟩
  rw [B_yes (toldOf_iff.2 ((tolds_mem hp).2 ⟨p,rfl,h3,hn⟩))] at h2
  cases h2
theorem rel_out {m : ModelD} {x : MarkD} (h : May2 m) (hk : x.kind≠15) (hc : RelC m x) (hp : 0≤x.page∧x.page < 64) : outB m x 4096=goneTo m x:=by
 refine pw_ext (outB_pw m x 4096) (release_law h hc).gone fun q=>?_
 rw [outB_mem]
 have hm : q ∈ goneTo m x↔q ∈ m.gone ++ tolds x:=by
  unfold goneTo sortI
  exact (List.mergeSort_perm _ _).mem_iff
 show _↔q ∈ goneTo m x
 rw [hm,List.mem_append,tolds_mem hp]
 constructor
 ·rintro ⟨p,rfl,h1,⟨h2,_⟩ | ⟨_,h2 | h2⟩⟩
  ·exact absurd h2 hk
  ·exact .inr ⟨p,rfl,h1,h2⟩
  ·exact .inl (isG_iff.1 h2)
 ·rintro (h1 | ⟨p,rfl,h1,h2⟩)
  ·obtain ⟨p,rfl,h3⟩:=gone_small h h1
   exact ⟨p,rfl,h3,.inr ⟨hk,.inr (isG_iff.2 h1)⟩⟩
  ·exact ⟨p,rfl,h1,.inr ⟨hk,.inl h2⟩⟩
/-- A span that is cut out is the one of that page. -/
theorem stay_cut {m : ModelD} {i : Nat} {p : Int} (h : May2 m) (hi : i < m.spans.length) (hp : (ix noHold m.spans i).page=p) : cutIn m.spans i (i + 1) []=stayL (fun s=>s.page=p) m.spans:=by
 obtain ⟨A,E,e,hA,hc⟩:=cut_one (d:=noHold) hi
 rw [hc []]
 have hw:=h.span
 obtain ⟨y,ey⟩ : ∃ y,ix noHold m.spans i=y:=⟨_,rfl⟩
 rw [ey] at e hp
 rw [e] at hw ⊢
 rw [List.pairwise_append,List.pairwise_cons] at hw
 unfold stayL
 rw [List.filter_append,List.filter_cons,B_yes (show y.page=p from hp)]
 have h1 : A.filter (fun x=>!(B (x.page=p)))=A:=List.filter_eq_self.2 fun s hs=>by
  have:=hw.2.2 s hs y (List.mem_cons_self ..)
  rw [B_no (by omega)]; rfl
 have h2 : E.filter (fun x=>!(B (x.page=p)))=E:=List.filter_eq_self.2 fun s hs=>by
  have:=hw.2.1.1 s hs
  rw [B_no (by omega)]; rfl
 rw [h1,h2]
 rfl
theorem marks_sub {h : HoldD} (hh : HoldOk h) (hm : h.marks < 18446744073709551616) (i : Nat) (e : h.marks.testBit i=true) : h.alloc.testBit i=true:=(andNot_zero hm (alloc_lt hh)).1 hh.2.2.2 i e
theorem alloc_hi {h : HoldD} (hh : HoldOk h) {i : Nat} (hi : slN h.cls≤i) : h.alloc.testBit i=false:=by
 have h1:=hh.2.2.1
 have h2:=Nat.two_pow_pos (slN h.cls)
 exact Nat.testBit_lt_two_pow (Nat.lt_of_lt_of_le (show h.alloc < 2 ^ slN h.cls by omega) (Nat.pow_le_pow_right (by decide) hi))
/-- What is taken in a span: what is allocated, or, if it waits, what is marked. -/
def takenW (h : HoldD) : Nat:=if h.swept then h.alloc else h.marks
theorem taken_lt {h : HoldD} (hh : HoldOk h) (hm : h.marks < 18446744073709551616) : takenW h < 18446744073709551616:=by
 unfold takenW
 split
 ·exact alloc_lt hh
 ·exact hm
theorem ones_lt (c : Int) : 2 ^ slN c - 1 < 18446744073709551616:=by
 have h2:=slN_le c
 have h3 : 2 ^ slN c≤2 ^ 64:=Nat.pow_le_pow_right (by decide) h2
 omega
theorem roomA_zero {h : HoldD} (hh : HoldOk h) : roomA h=0↔∀ i,i < slN h.cls→h.alloc.testBit i=true:=by
 unfold roomA
 rw [andNot_zero (ones_lt h.cls) (alloc_lt hh)]
 constructor
 ·intro k i hi
  exact k i (by rw [Nat.testBit_two_pow_sub_one]; exact decide_eq_true hi)
 ·intro k i hi
  rw [Nat.testBit_two_pow_sub_one] at hi
  exact k i (of_decide_eq_true hi)
theorem or_zero {a b : Nat} (ha : a < 18446744073709551616) (hb : b < 18446744073709551616) : bits .or .u64 (a : Int) (b : Int)=0↔(a : Int)=0∧(b : Int)=0:=by
 rw [bits_or_u64_nat a b ha hb]
 constructor
 ·intro h
  have h0 : a ||| b=0:=by omega
  have h1 : a=0:=by
   have:=Nat.left_le_or (n:=a) (m:=b)
   omega
  have h2 : b=0:=by
   have:=Nat.right_le_or (n:=a) (m:=b)
   omega
  omega
 ·rintro ⟨h1,h2⟩
  have e1 : a=0:=by omega
  have e2 : b=0:=by omega
  rw [e1,e2]; rfl
theorem room_iff {h : HoldD} (hh : HoldOk h) (hm : h.marks < 18446744073709551616) : RoomP h↔∃ i,i < slN h.cls∧(takenW h).testBit i=false:=by
 have hal:=alloc_lt hh
 unfold RoomP takenW
 cases e : h.swept
 ·simp only [Bool.false_eq_true,if_false]
  have hz : roomB h=0↔∀ i,i < slN h.cls→h.marks.testBit i=true:=by
   unfold roomB
   have e1 : roomA h=(((2 ^ slN h.cls - 1) &&& (18446744073709551615 - h.alloc) : Nat) : Int):=by unfold roomA; exact u64_andNot_nat _ _ (ones_lt h.cls) hal
   have e2 : bits .andNot .u64 (h.alloc : Int) (h.marks : Int)=((h.alloc &&& (18446744073709551615 - h.marks) : Nat) : Int):=u64_andNot_nat _ _ hal hm
   have hA:=roomA_zero hh
   have hB:=andNot_zero hal hm
   rw [e2] at hB ⊢
   rw [e1] at hA ⊢
   rw [or_zero (Nat.lt_of_le_of_lt Nat.and_le_left (ones_lt h.cls)) (Nat.lt_of_le_of_lt Nat.and_le_left hal),hA,hB]
   constructor
   ·rintro ⟨k1,k2⟩ i hi
    exact k2 i (k1 i hi)
   ·intro k
    refine ⟨fun i hi=>marks_sub hh hm i (k i hi),fun i hi=>?_⟩
    rcases Nat.lt_or_ge i (slN h.cls) with h1 | h1
    ·exact k i h1
    ·rw [alloc_hi hh h1] at hi; cases hi
  rw [Ne,hz]
  constructor
  ·intro k
   apply Classical.byContradiction
   intro c
   exact k fun i hi=>by
    cases q : h.marks.testBit i
    ·exact absurd ⟨i,hi,q⟩ c
    ·rfl
  ·rintro ⟨i,hi,q⟩ k
   rw [k i hi] at q; cases q
 ·simp only [if_true]
  rw [Ne,roomA_zero hh]
  constructor
  ·intro k
   apply Classical.byContradiction
   intro c
   exact k fun i hi=>by
    cases q : h.alloc.testBit i
    ·exact absurd ⟨i,hi,q⟩ c
    ·rfl
  ·rintro ⟨i,hi,q⟩ k
   rw [k i hi] at q; cases q
/-- The slots that live, as the document gathers them. -/
def livB (h : HoldD) (i : Nat) : Bool:=h.alloc.testBit i && (h.swept || h.marks.testBit i)
noncomputable def liv28 (h : HoldD) (k : Nat) : List Int:=((List.range k).filter (livB h)).map fun (i : Nat)=>begC h.page h.cls i
theorem liv28_zero (h : HoldD) : liv28 h 0=[]:=rfl
theorem liv28_no {h : HoldD} {k : Nat} (e : livB h k=false) : liv28 h (k + 1)=liv28 h k:=by unfold liv28; rw [List.range_succ,List.filter_append]; simp [e]
theorem liv28_yes {h : HoldD} {k : Nat} (e : livB h k=true) : liv28 h (k + 1)=liv28 h k ++ [begC h.page h.cls k]:=by unfold liv28; rw [List.range_succ,List.filter_append,List.map_append]; simp [e]
theorem liv28_len (h : HoldD) (k : Nat) : (liv28 h k).length≤k:=by
 unfold liv28
 rw [List.length_map]
 exact Nat.le_trans (List.length_filter_le _ _) (by simp)
theorem liv28_all {h : HoldD} (hh : HoldOk h) (hm : h.marks < 18446744073709551616) : liv28 h (slN h.cls)=livS h:=by
 unfold liv28 livS places
 congr 1
 have hs:=slN_le h.cls
 have e1 : List.range 64=List.range (slN h.cls) ++ List.range' (slN h.cls) (64 - slN h.cls):=by
  rw [List.range_eq_range',List.range_eq_range',show 64=slN h.cls + (64 - slN h.cls) by omega,← List.range'_append_1]
  simp
 rw [e1,List.filter_append]
 have e2 : (List.range' (slN h.cls) (64 - slN h.cls)).filter (fun i=>(livesW h).testBit i)=[]:=by
  rw [List.filter_eq_nil_iff]
  intro i hi
  have hle:=(List.mem_range'_1.1 hi).1
  have ha:=alloc_hi hh hle
  unfold livesW
  split
  ·rw [ha]; simp
  ·intro hb
   rw [marks_sub hh hm i hb] at ha
   cases ha
 rw [e2,List.append_nil]
 refine List.filter_congr fun i _=>?_
 unfold livB livesW
 cases e : h.swept
 ·simp only [Bool.false_or,Bool.false_eq_true,if_false]
  cases q : h.marks.testBit i
  ·simp
  ·rw [marks_sub hh hm i q]; rfl
 ·simp
/-- What a sweep leaves. -/
theorem sweep_and {a k : Nat} (ha : a < 18446744073709551616) (hk : k < 18446744073709551616) {x : Nat} (hx : x < 18446744073709551616) (e : (x : Int)=bits .andNot .u64 (a : Int) (k : Int)) : bits .andNot .u64 (a : Int) (x : Int)=bits .and .u64 (a : Int) (k : Int):=by
 rw [u64_andNot_nat a k ha hk] at e
 rw [u64_andNot_nat a x ha hx,u64_and_nat a k ha hk]
 have e' : x=a &&& (18446744073709551615 - k):=by omega
 congr 1
 apply Nat.eq_of_testBit_eq
 intro i
 rw [Nat.testBit_and,Nat.testBit_and,tb_not x i hx,e',Nat.testBit_and,tb_not k i hk]
 have h64 : a.testBit i=true→i < 64:=fun hi=>by
  apply Classical.byContradiction
  intro hc
  have:=Nat.testBit_lt_two_pow (x:=a) (i:=i) (Nat.lt_of_lt_of_le ha (by rw [show 18446744073709551616=2 ^ 64 by decide]; exact Nat.pow_le_pow_right (by decide) (by omega)))
  rw [this] at hi; cases hi
 cases q : a.testBit i
 ·rfl
 ·rw [decide_eq_true (h64 q)]
  cases r : k.testBit i <;> rfl
def SpanN (m : ModelD) (i : Nat) (x : MarkD) : Prop:=(x.kind≠9∧turnO (ix noHold m.spans i) x=none)∨(x.kind=9∧¬ DropC x (ix noHold m.spans i))
def SpanR (m : ModelD) (i : Nat) (x : MarkD) (m' : ModelD) : Prop:=(x.kind≠9∧∃ h',turnO (ix noHold m.spans i) x=some h'∧m'={ m with spans:=m.spans.set i h' }) ∨
 (x.kind=9∧DropC x (ix noHold m.spans i)∧∃ k,PlaceH m.hands k x.page∧m'={ m with spans:=cutIn m.spans i (i + 1) [],hands:=cutIn m.hands k k [⟨x.thread,x.page,x.n⟩] })
def SpanP (m : ModelD) (d base i : Nat) (x : MarkD) (w : World) (e : Ending) (w' : World) : Prop :=
 KeepD base d w w'∧w.heap.size≤w'.heap.size∧((e=.returned (.bool false)∧SpanN m i x)∨(e=.returned (.bool true)∧∃ m' F' H' S' G',SpanR m i x m'∧RefM w' d base m' F' H' S' G'))
/-- What stands in its rounds: the model is as it was, and the span's copy lies in a block of its own. -/
structure SpI (w : World) (d base b : Nat) (m : ModelD) (F H S G : Value) (cs : Array Value) (W : World) : Prop where
 ext : Ext w W
 blk : Blk W b 51 cs
 ref : RefM W d base m F H S G
 le : w.heap.size≤b
 ne : d≠b∧F.ownBlock≠some b∧H.ownBlock≠some b∧S.ownBlock≠some b∧G.ownBlock≠some b
theorem RefM.setB {w : World} {d base b : Nat} {m : ModelD} {F H S G : Value} (h : RefM w d base m F H S G) (hd : d≠b) (n1 : F.ownBlock≠some b) (n2 : H.ownBlock≠some b) (n3 : S.ownBlock≠some b) (n4 : G.ownBlock≠some b) (i : Nat) (u : Value) : RefM (w.setCell ⟨b,i,none⟩ u) d base m F H S G :=
 ⟨h.blk.far hd u,h.own.free.setOther n1 u,h.own.hands.setOther n2 u,h.own.spans.setOther n3 u,h.own.gone.setOther n4 u⟩
theorem SpI.more {w W W' : World} {d base b : Nat} {m : ModelD} {F H S G : Value} {cs : Array Value} (h : SpI w d base b m F H S G cs W) (hE : Ext W W') : SpI w d base b m F H S G cs W':=⟨h.ext.trans hE,h.blk.ext hE,h.ref.ext hE,h.le,h.ne⟩
theorem SpI.set {w W : World} {d base b : Nat} {m : ModelD} {F H S G : Value} {cs : Array Value} (h : SpI w d base b m F H S G cs W) (j : Nat) (v : Value) : SpI w d base b m F H S G (cs.setIfInBounds j v) (W.setCell ⟨b,j,none⟩ v) :=
 ⟨h.ext.setCell (p:=⟨b,j,none⟩) h.le v,h.blk.set j v,h.ref.setB h.ne.1 h.ne.2.1 h.ne.2.2.1 h.ne.2.2.2.1 h.ne.2.2.2.2 j v,h.le,h.ne⟩
theorem own_lt {w : World} {base : Nat} {e : TypeId} {sz n : Nat} {v : Value} {F : Nat→Value} (h : OwnS w base e sz v n F) {b : Nat} (hb : w.heap.size≤b) : v.ownBlock≠some b:=fun e=>by
 have:=(World.ownsRow.lt h b e).2
 omega
theorem SpI.start {w : World} {d base : Nat} {m : ModelD} {F H S G : Value} (hD : RefM w d base m F H S G) (xs : Array Value) (cs : Array Value) :
  SpI w d base (w.heap.size + 1) m F H S G cs ((w.alloc (.cells xs 34)).alloc (.cells cs 51))∧Blk ((w.alloc (.cells xs 34)).alloc (.cells cs 51)) w.heap.size 34 xs:=by
 obtain ⟨W0,hW0⟩ : ∃ W0,W0=w.alloc (.cells xs 34):=⟨_,rfl⟩
 rw [← hW0]
 have e0 : Ext w W0:=hW0▸(Ext.refl w).alloc _
 have e1 : Ext W0 (W0.alloc (.cells cs 51)):=(Ext.refl W0).alloc _
 have s0 : W0.heap.size=w.heap.size + 1:=by rw [hW0]; exact World.size_alloc _ _
 have hx : Blk W0 w.heap.size 34 xs:=hW0▸Blk.new _ _ _ _ rfl
 have hlt:=hD.blk.lt
 refine ⟨⟨e0.trans e1,s0▸Blk.new _ _ _ _ rfl,hD.ext (e0.trans e1),by omega,by omega,own_lt hD.own.free (by omega),own_lt hD.own.hands (by omega),own_lt hD.own.spans (by omega),own_lt hD.own.gone (by omega)⟩,hx.ext e1⟩
/-- The span is put back. -/
theorem SpI.back {w W W' : World} {d base b g n sc i : Nat} {m : ModelD} {F H G : Value} {cs : Array Value} (h : SpI w d base b m F H (.slice (some ⟨g,0,none⟩) n sc) G cs W) (hn : n=m.spans.length) (hi : i < n) (h' : HoldD)
  (hE : Ext ((((((((W.setCell ⟨g,i * 8,none⟩ (.int .i64 h'.page)).setCell ⟨g,i * 8 + 1,none⟩ (.int .i64 h'.pages)).setCell ⟨g,i * 8 + 2,none⟩ (.int .i64 h'.cls)).setCell ⟨g,i * 8 + 3,none⟩ (.int .i64 h'.holder)).setCell ⟨g,i * 8 + 4,none⟩ (.int .i64 h'.claim)).setCell ⟨g,i * 8 + 5,none⟩ (.bool h'.swept)).setCell ⟨g,i * 8 + 6,none⟩ (.int .u64 (h'.alloc : Int))).setCell ⟨g,i * 8 + 7,none⟩ (.int .u64 (h'.marks : Int))) W') :
  KeepD base d w W'∧w.heap.size≤W'.heap.size∧RefM W' d base { m with spans:=m.spans.set i h' } F H (.slice (some ⟨g,0,none⟩) n sc) G:=by
 subst hn
 have hO:=h.ref.own.spans
 have h8:=(((((((hO.set (i * 8) (.int .i64 h'.page)).set (i * 8 + 1) (.int .i64 h'.pages)).set (i * 8 + 2) (.int .i64 h'.cls)).set (i * 8 + 3) (.int .i64 h'.holder)).set (i * 8 + 4) (.int .i64 h'.claim)).set (i * 8 + 5) (.bool h'.swept)).set (i * 8 + 6) (.int .u64 (h'.alloc : Int))).set (i * 8 + 7) (.int .u64 (h'.marks : Int))
 have hP:=own_put (i:=i) (h':=h') h8 hi (fun k hk=>by
   have n0 : ¬ k=i * 8:=by omega
   have n1 : ¬ k=i * 8 + 1:=by omega
   have n2 : ¬ k=i * 8 + 2:=by omega
   have n3 : ¬ k=i * 8 + 3:=by omega
   have n4 : ¬ k=i * 8 + 4:=by omega
   have n5 : ¬ k=i * 8 + 5:=by omega
   have n6 : ¬ k=i * 8 + 6:=by omega
   have n7 : ¬ k=i * 8 + 7:=by omega
   simp only [n0,n1,n2,n3,n4,n5,n6,n7,if_false]) (fun r hr=>by
   have hr8 : r=0∨r=1∨r=2∨r=3∨r=4∨r=5∨r=6∨r=7:=by omega
   rcases hr8 with rfl | rfl | rfl | rfl | rfl | rfl | rfl | rfl <;> simp [holdC])
 have hG : W.grownBy W' (Value.slice (some ⟨g,0,none⟩) m.spans.length sc).ownBlock:=(grownBy_setC _ _ _ _).trans ((grownBy_setC _ _ _ _).trans ((grownBy_setC _ _ _ _).trans ((grownBy_setC _ _ _ _).trans ((grownBy_setC _ _ _ _).trans ((grownBy_setC _ _ _ _).trans ((grownBy_setC _ _ _ _).trans ((grownBy_setC _ _ _ _).trans (ext_grown hE _))))))))
 refine ⟨(KeepD.ext h.ext).trans (KeepD.grown hO hG),Nat.le_trans h.ext.size hG.size,h.ref.putSpans hG (m.spans.set i h') ?_⟩
 rw [List.length_set]
 exact hP.ext hE
theorem SpI.no {w W W' : World} {d base b g n sc i : Nat} {m : ModelD} {x : MarkD} {F H G : Value} {cs : Array Value} (h : SpI w d base b m F H (.slice (some ⟨g,0,none⟩) n sc) G cs W) (hn : n=m.spans.length) (hi : i < n) (h' : HoldD)
  (hE : Ext ((((((((W.setCell ⟨g,i * 8,none⟩ (.int .i64 h'.page)).setCell ⟨g,i * 8 + 1,none⟩ (.int .i64 h'.pages)).setCell ⟨g,i * 8 + 2,none⟩ (.int .i64 h'.cls)).setCell ⟨g,i * 8 + 3,none⟩ (.int .i64 h'.holder)).setCell ⟨g,i * 8 + 4,none⟩ (.int .i64 h'.claim)).setCell ⟨g,i * 8 + 5,none⟩ (.bool h'.swept)).setCell ⟨g,i * 8 + 6,none⟩ (.int .u64 (h'.alloc : Int))).setCell ⟨g,i * 8 + 7,none⟩ (.int .u64 (h'.marks : Int))) W')
  (hN : SpanN m i x) : SpanP m d base i x w (.returned (.bool false)) W':=by
 obtain ⟨k1,k2,_⟩:=h.back hn hi h' hE
 exact ⟨k1,k2,.inl ⟨rfl,hN⟩⟩
theorem SpI.yes {w W W' : World} {d base b g n sc i : Nat} {m : ModelD} {x : MarkD} {F H G : Value} {cs : Array Value} (h : SpI w d base b m F H (.slice (some ⟨g,0,none⟩) n sc) G cs W) (hn : n=m.spans.length) (hi : i < n) (h' : HoldD)
  (hE : Ext ((((((((W.setCell ⟨g,i * 8,none⟩ (.int .i64 h'.page)).setCell ⟨g,i * 8 + 1,none⟩ (.int .i64 h'.pages)).setCell ⟨g,i * 8 + 2,none⟩ (.int .i64 h'.cls)).setCell ⟨g,i * 8 + 3,none⟩ (.int .i64 h'.holder)).setCell ⟨g,i * 8 + 4,none⟩ (.int .i64 h'.claim)).setCell ⟨g,i * 8 + 5,none⟩ (.bool h'.swept)).setCell ⟨g,i * 8 + 6,none⟩ (.int .u64 (h'.alloc : Int))).setCell ⟨g,i * 8 + 7,none⟩ (.int .u64 (h'.marks : Int))) W')
  (hk : x.kind≠9) (hT : turnO (ix noHold m.spans i) x=some h') : SpanP m d base i x w (.returned (.bool true)) W':=by
 obtain ⟨k1,k2,k3⟩:=h.back hn hi h' hE
 exact ⟨k1,k2,.inr ⟨rfl,_,_,_,_,_,.inl ⟨hk,h',hT,rfl⟩,k3⟩⟩
end Go.Proofs.YtoolenhnhlfhmaaGreatDoor
