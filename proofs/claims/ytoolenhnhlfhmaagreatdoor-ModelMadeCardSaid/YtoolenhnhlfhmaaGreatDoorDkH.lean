/- Walks: the desk's release. -/
import Derived.Test.YtoolenhnhlfhmaaGreatDoorGL
import Derived.Test.YtoolenhnhlfhmaaGreatDoorShelfM
namespace Go.Proofs.YtoolenhnhlfhmaaGreatDoor
open Go.RowKit Go.Sort
set_option linter.unusedVariables false
set_option linter.unusedSimpArgs false
set_option maxHeartbeats 2000000 in
set_option maxRecDepth 100000 in
theorem release1_any (r : RunD) (pb : Nat) (p : Int) (w : World) (hp : w.cell? ⟨pb,0,none⟩=some (.int .i64 p)) (h0 : 0≤r.at_∧0≤r.n∧r.at_ + r.n≤4096) :
  Calls Tryz.prog 106 #[.agg #[.int .i64 r.at_,.int .i64 r.n],.pointer (some ⟨pb,0,none⟩)] w fun e w'=>e=.returned (.bool (B (InP (r.at_,r.n) p)))∧Ext w w':=by
 obtain ⟨h1,h2,h3⟩:=h0
 have y2:=((Ext.refl w).alloc (.cells #[.int .i64 r.at_,.int .i64 r.n] 54)).cell hp
 have hcs : (decide (r.at_≤p)=false∧¬ (InP (r.at_,r.n) p))∨(decide (r.at_≤p)=true∧decide (p < r.at_ + r.n)=false∧¬ (InP (r.at_,r.n) p))∨(decide (r.at_≤p)=true∧decide (p < r.at_ + r.n)=true∧(InP (r.at_,r.n) p)):=by
  unfold InP
  simp only [decide_eq_true_eq,decide_eq_false_iff_not]
  omega
 clear hp
 rcases hcs with ⟨e1,hx⟩ | ⟨e1,e2,hx⟩ | ⟨e1,e2,hx⟩
 all_goals
  have HX:=Lib.hid hx
  clear hx
  go_enter Tryz.func106,Tryz.ntmps106
  go_wp2
  go_ret
  exact ⟨ret_bool (by first | exact (B_no HX.out).symm | exact (B_yes HX.out).symm),(Ext.refl _).alloc _⟩
noncomputable def sortI (l : List Int) : List Int:=l.mergeSort fun a b=>decide (a≤b)
theorem sortI_len (l : List Int) : (sortI l).length=l.length:=by unfold sortI; simp
theorem intsV_map (l : List Int) : (List.range (l.length * 1)).map (intsV l)=l.map (Value.int .i64):=by
 rw [Nat.mul_one]
 apply List.ext_getElem
 ·simp
 ·intro i h1 h2
  simp only [List.getElem_map,List.getElem_range]
  unfold intsV
  rw [ix_lt (by simpa using h1)]
theorem sort_any (base c N : Nat) (v : Value) (l : List Int) (hN : N=l.length) (w : World) (hL : l.length≤1000000) (A : Option Addr) (hv : v=.slice A N c) (hO : OwnS w base 3 1 v N (intsV l)) :
  Calls Tryz.prog 108 #[v] w fun e w'=>e=.returned (.tuple #[])∧OwnS w' base 3 1 v N (intsV (sortI l))∧w.grownBy w' v.ownBlock:=by
 subst hN
 unfold OwnS at hO
 rw [intsV_map] at hO
 rcases id hO.2 with ⟨hv',hL0⟩ | ⟨gq,cap,cur,hv',hg,hh,hc1,hc2,hc3,hc4⟩
 ·obtain rfl:=List.eq_nil_of_length_eq_zero hL0
  rw [hv']
  refine (Tryz.slices_Sort_int_none none 0 w).mono ?_
  rintro e w1 ⟨rfl,rfl⟩
  exact ⟨rfl,OwnS.nil _ _ _ _ _,ext_grown (Ext.refl _) _⟩
 ·have hH:=holds_of_blockI (ss:=l) hh (by rw [Nat.mul_one] at hc4; exact hc4)
  have hlt:=(Array.getElem?_eq_some_iff.1 hh).1
  rw [hv']
  refine (Tryz.slices_Sort_int gq 0 cap l w hH hlt (by omega)).mono ?_
  rintro e w1 ⟨rfl,n,os,rfl⟩
  have h:=ownsRow_sortedI (n:=n) (os:=os) (ts:=sortI l) (sortI_len l) hg hh hc1 hc2 hc3
  refine ⟨rfl,?_,grownBy_sortedI _⟩
  unfold OwnS
  rw [← sortI_len l,intsV_map]
  rw [sortI_len l]
  exact h
/-- A page is not released, and in a free run. -/
def RelP (m : ModelD) (p : Int) : Prop:=(¬ ∃ i,i < m.gone.length∧ix 0 m.gone i=p)∧∃ j,j < m.free.length∧InP ((ix noRun m.free j).at_,(ix noRun m.free j).n) p
def RelC (m : ModelD) (x : MarkD) : Prop:=(∀ i,i < (tolds x).length→RelP m (ix 0 (tolds x) i))∧0 < (tolds x).length
noncomputable def goneTo (m : ModelD) (x : MarkD) : List Int:=sortI (m.gone ++ tolds x)
def RelPost (m : ModelD) (d base : Nat) (F H S G : Value) (x : MarkD) (w : World) (e : Ending) (w' : World) : Prop :=
 KeepD base d w w'∧w.heap.size≤w'.heap.size∧((e=.returned (.bool false)∧¬ RelC m x∧∃ G',DeskR w' d base m F H S G') ∨
  (e=.returned (.bool true)∧RelC m x∧∃ G',DeskR w' d base { m with gone:=goneTo m x } F H S G'))
theorem intsV_app_lo (l L : List Int) (j : Nat) (h : j < l.length) : intsV (l ++ L) j=intsV l j:=by
 unfold intsV ix
 rw [List.getD_eq_getElem?_getD,List.getD_eq_getElem?_getD,List.getElem?_append_left h]
theorem intsV_app_hi (l L : List Int) (j : Nat) : intsV (l ++ L) (l.length + j)=intsV L j:=by
 unfold intsV ix
 rw [List.getD_eq_getElem?_getD,List.getD_eq_getElem?_getD,List.getElem?_append_right (by omega),Nat.add_sub_cancel_left]
theorem DeskR.putGone {w w2 : World} {d base : Nat} {m : ModelD} {F H S G : Value} (h : DeskR w d base m F H S G) (hg : w.grownBy w2 G.ownBlock) (l : List Int) (hO : OwnS w2 base 3 1 G l.length (intsV l)) : DeskR w2 d base { m with gone:=l } F H S G :=
 ⟨h.blk.grown hg (Ne.symm h.nes.2.2.2),⟨h.own.free.keepG h.own.gone hg (by decide),h.own.hands.keepG h.own.gone hg (by decide),h.own.spans.keepG h.own.gone hg (by decide),hO⟩⟩
set_option maxHeartbeats 4000000 in
set_option maxRecDepth 100000 in
theorem release_any (m : ModelD) (d base : Nat) (F H S G : Value) (x : MarkD) (w : World) (hl : m.free.length≤900000∧m.gone.length≤900000) (hx : MarkOk x)
  (hh : ∀ i,i < m.free.length→0≤(ix noRun m.free i).at_∧1≤(ix noRun m.free i).n∧(ix noRun m.free i).at_ + (ix noRun m.free i).n≤4096)
  (hgs : sortI m.gone=m.gone) (hT : TabB w) (hbase : base≤w.heap.size) (hD : DeskR w d base m F H S G) :
  Calls Tryz.prog 62 #[.pointer (some ⟨d,0,none⟩),markV x] w (RelPost m d base F H S G x w):=by
 obtain ⟨FA,fc,rfl,hfc⟩:=hD.own.free.ofSlice
 obtain ⟨GA,gc,rfl,hgc⟩:=hD.own.gone.ofSlice
 obtain ⟨l1,l2⟩:=hl
 have htl:=tolds_len x
 have hdlt:=hD.blk.lt
 have htold:=told_any x (w.alloc (.cells (markA x) 34)) hx (hT.ext ((Ext.refl w).alloc _))
 have HD:=Lib.hid (And.intro hD (And.intro hh (show Ext w (w.alloc (.cells (markA x) 34)) from (Ext.refl w).alloc _)))
 have HTd:=Lib.hid htold
 clear hD hh hT htold
 unfold markV at HTd ⊢
 unfold markA at HTd
 go_enter Tryz.func62,Tryz.ntmps62
 go_wp2_with (go_at_call 85; (with_reducible refine HTd.out.mono ?_); rintro e w1 ⟨⟨A,c,rfl,hO1⟩,hE1⟩; have HP:=Lib.hid (And.intro hO1 hE1); clear hO1 hE1)
 obtain ⟨L,hL⟩ : ∃ L,L=tolds x:=⟨_,rfl⟩
 have HL:=Lib.hid hL
 rw [← hL] at HP htl ⊢
 have hEx0 : Ext (w.alloc (.cells #[.int .i64 x.kind,.int .i64 x.thread,.int .i64 x.entry,.int .i64 x.page,.int .i64 x.n,.int .u64 (x.mask : Int)] 34)) w1:=HP.out.2
 have hEw : Ext w w1:=((Ext.refl w).alloc _).trans hEx0
 have hO1 : OwnS w1 (w.heap.size + 1) 3 1 (.slice A L.length c) L.length (intsV L):=HP.out.1.mono (by simp)
 have HW:=Lib.hid (And.intro hEw (And.intro hO1 (HD.out.1.ext hEw)))
 clear hEx0 hEw hO1 hL
 go_loopg [13] L.length (fun q i wr=>∃ k : Nat,k≤L.length∧q=L.length - k∧i=.int .i64 (k : Int)∧Ext w1 wr∧∀ j,j < k→RelP m (ix 0 L j))
 case atStart=>exact ⟨0,Nat.zero_le _,rfl,rfl,Ext.refl _,fun j hj=>absurd hj (by omega)⟩
 case round =>
  obtain ⟨k,hk,rfl,rfl,hE,hyes⟩:=hrel
  by_cases hlt : k < L.length
  ·obtain ⟨b,off,rfl,hcl⟩:=(own_sl' HW.out.2.1) (by omega)
   have a0:=hE.cell (hcl (k * 1 + 0) (by omega))
   obtain ⟨p,hp⟩ : ∃ p,ix 0 L k=p:=⟨_,rfl⟩
   have a0' : wr.cell? ⟨b,off + k,none⟩=some (.int .i64 p):=by
    rw [← hp]
    have e : k * 1 + 0=k:=by omega
    rw [e] at a0
    exact a0
   have q0 : (0 : Int)≤(k : Int):=by omega
   have q1 : (k : Int) < (L.length : Int):=by omega
   obtain ⟨W2,hW2⟩ : ∃ W2,W2=wr.alloc (.cells #[.int .i64 p] 3):=⟨_,rfl⟩
   have hE2 : Ext wr W2:=hW2▸(Ext.refl wr).alloc _
   have hpb : Blk W2 wr.heap.size 3 #[.int .i64 p]:=hW2▸Blk.new _ _ _ _ rfl
   have HW2:=Lib.hid hW2
   have hE02 : Ext w1 W2:=hE.trans hE2
   have hD2:=HW.out.2.2.ext hE02
   have x1:=fun d' os=>cell_regrown (hD2.blk.cell (i:=1) (v:=.slice FA m.free.length fc) rfl) d' os
   have x4:=fun d' os=>cell_regrown (hD2.blk.cell (i:=4) (v:=.slice GA m.gone.length gc) rfl) d' os
   have x0:=fun d' os=>cell_regrown (hpb.cell (i:=0) (v:=.int .i64 p) rfl) d' os
   have hc1 : ∀ W,Ext W2 W→Calls Tryz.prog 87 #[.slice GA m.gone.length gc,.int .i64 p] W fun e w'=>e=.returned (.bool (B (∃ i,i < m.gone.length∧ix 0 m.gone i=p)))∧Ext W w':=fun W hEW =>
    (containsI_any GA m.gone.length gc (fun j=>ix 0 m.gone j) p W (by omega) (own_sl' (hD2.ext hEW).own.gone)).mono fun e w' ⟨h1,h2⟩=>⟨h1,h2▸Ext.refl _⟩
   have hc2 : ∀ W,Ext W2 W→Calls Tryz.prog 107 #[.slice FA m.free.length fc,.func (.func 106) #[] #[.pointer (some ⟨wr.heap.size,0,none⟩)]] W fun e w'=>e=.returned (.bool (B (∃ j,j < m.free.length∧InP ((ix noRun m.free j).at_,(ix noRun m.free j).n) p)))∧Ext W w':=fun W hEW =>
    containsRun_any FA m.free fc 106 #[.pointer (some ⟨wr.heap.size,0,none⟩)] (fun j=>InP ((ix noRun m.free j).at_,(ix noRun m.free j).n) p) W (by omega) (fun _ _=>rfl) (own_sl' (hD2.ext hEW).own.free) (fun j hj w' hw' =>
     release1_any _ wr.heap.size p w' (((hpb.ext hEW).ext hw').cell (i:=0) rfl) (by have:=HD.out.2.1 j hj; omega))
   have HR:=Lib.hid (And.intro hE (And.intro hyes (And.intro hp (And.intro hE02 hD2))))
   have hfalse : ∀ W,Ext W2 W→¬ RelP m p→RelPost m d base (.slice FA m.free.length fc) H S (.slice GA m.gone.length gc) x w (.returned (.bool false)) W:=fun W hEW hno =>
    ⟨KeepD.ext ((HW.out.1.trans hE02).trans hEW),((HW.out.1.trans hE02).trans hEW).size,.inl ⟨rfl,fun hc=>hno (by have:=hc.1 k (by rw [← HL.out]; exact hlt); rw [← HL.out,hp] at this; exact this),_,hD2.ext hEW⟩⟩
   have HFl:=Lib.hid hfalse
   by_cases hg1 : ∃ i,i < m.gone.length∧ix 0 m.gone i=p
   ·rw [B_yes hg1] at hc1
    have HC1:=Lib.hid hc1
    have HC2:=Lib.hid hc2
    have HY:=Lib.hid (show ¬ RelP m p from fun h=>h.1 hg1)
    clear hg1 hc1 hc2 hfalse hE hyes hp hE02 hD2 hpb hE2 hW2 a0 hcl
    go_wp2
    rw [← HW2.out]
    refine wp_region_quiet_below (by kernel_rfl) (by kernel_rfl) ?_
    repeat (go_big_quiet_step ((go_at_call 87; exact Calls.regrown_of (HC1.out _ (below_regrown _ _ _)))))
    refine wpQuiet_nil ?_
    intro _ hw'
    obtain ⟨⟨dq,osq⟩,hw''⟩:=hw'
    subst hw''
    have HE3:=Lib.hid (show Ext W2 (grow (redrawn W2 dq) osq) from below_regrown _ _ _)
    go_wp2
    go_ret
    exact HFl.out _ HE3.out HY.out
   ·rw [B_no hg1] at hc1
    by_cases hg2 : ∃ j,j < m.free.length∧InP ((ix noRun m.free j).at_,(ix noRun m.free j).n) p
    ·rw [B_yes hg2] at hc2
     have HC1:=Lib.hid hc1
     have HC2:=Lib.hid hc2
     have HY:=Lib.hid (show RelP m p from ⟨hg1,hg2⟩)
     clear hg1 hg2 hc1 hc2 hfalse hE hyes hp hE02 hD2 hpb hE2 hW2 a0 hcl
     go_wp2
     rw [← HW2.out]
     refine wp_region_quiet_below (by kernel_rfl) (by kernel_rfl) ?_
     repeat (go_big_quiet_step (first
      |(go_at_call 87; exact Calls.regrown_of (HC1.out _ (below_regrown _ _ _)))
      |(go_at_call 107; exact Calls.regrown_of (HC2.out _ (below_regrown _ _ _)))))
     refine wpQuiet_nil ?_
     intro _ hw'
     obtain ⟨⟨dq,osq⟩,hw''⟩:=hw'
     subst hw''
     have HE3:=Lib.hid (show Ext W2 (grow (redrawn W2 dq) osq) from below_regrown _ _ _)
     go_wp2
     go_roundg (L.length - (k + 1))
     case measure=>go_light; omega
     case rel =>
      refine ⟨k + 1,by omega,rfl,by go_num,HR.out.2.2.2.1.trans HE3.out,fun j hj=>?_⟩
      by_cases e : j=k
      ·rw [e,HR.out.2.2.1]; exact HY.out
      ·exact HR.out.2.1 j (by omega)
    ·rw [B_no hg2] at hc2
     have HC1:=Lib.hid hc1
     have HC2:=Lib.hid hc2
     have HY:=Lib.hid (show ¬ RelP m p from fun h=>hg2 h.2)
     clear hg1 hg2 hc1 hc2 hfalse hE hyes hp hE02 hD2 hpb hE2 hW2 a0 hcl
     go_wp2
     rw [← HW2.out]
     refine wp_region_quiet_below (by kernel_rfl) (by kernel_rfl) ?_
     repeat (go_big_quiet_step (first
      |(go_at_call 87; exact Calls.regrown_of (HC1.out _ (below_regrown _ _ _)))
      |(go_at_call 107; exact Calls.regrown_of (HC2.out _ (below_regrown _ _ _)))))
     refine wpQuiet_nil ?_
     intro _ hw'
     obtain ⟨⟨dq,osq⟩,hw''⟩:=hw'
     subst hw''
     have HE3:=Lib.hid (show Ext W2 (grow (redrawn W2 dq) osq) from below_regrown _ _ _)
     go_wp2
     go_ret
     exact HFl.out _ HE3.out HY.out
  ·obtain rfl : k=L.length:=by omega
   have hEr : Ext w wr:=HW.out.1.trans hE
   have hDr:=HW.out.2.2.ext hE
   have hOr:=HW.out.2.1.ext hE
   have hgo : (Value.slice GA m.gone.length gc).ownBlock=GA.map (·.block):=by cases GA <;> rfl
   have hGr:=hDr.own.gone
   have hSl:=own_sl' hOr
   have hbr : base≤wr.heap.size:=Nat.le_trans hbase hEr.size
   have d4:=hDr.blk.cell (i:=4) (v:=.slice GA m.gone.length gc) rfl
   have HY:=Lib.hid (And.intro hyes hEr)
   have HDr:=Lib.hid hDr
   obtain ⟨i0,hi0,hz0,hzs,hzb⟩:=info_parts Tryz.infoMInt
   clear hyes hEr hDr hOr hgo hE
   obtain ⟨N,hN⟩ : ∃ N,(m.gone ++ L).length=N:=⟨_,rfl⟩
   have HN:=Lib.hid hN
   have hN2 : m.gone.length + L.length=N:=by rw [← hN]; simp
   clear hN
   go_upto_region 10 with (at_builtin; refine wpList_pushAll rfl _ _ 28 rfl base 3 i0 (.int .i64 0) 1 8 Tryz.underlying28 hi0 hz0 hzs hzb rfl (by decide) _ m.gone.length (intsV m.gone) rfl hGr A L.length c (intsV L) rfl hSl (fun j hj=>rfl) (by unfold maxLen; omega) (by omega) hbr (intsV (m.gone ++ L)) ?qa ?qb N hN2 ?_; (case qa=>exact fun j hj=>intsV_app_lo _ _ _ (by omega)); (case qb=>exact fun j hj=>by rw [Nat.mul_one]; exact intsV_app_hi _ _ _); intro A' c' w2 k1 k2 k3 k4; have hb2:=HDr.out.blk.grown k2 (Ne.symm HDr.out.nes.2.2.2); have z4:=hb2.cell (i:=4) (v:=.slice GA m.gone.length gc) rfl; have z4':=hb2.frozen 4; have HK:=Lib.hid (And.intro k1 k2); clear k1 k2 k3 k4 hb2)
   obtain ⟨W2,hW2⟩ : ∃ W2,W2=w2.setCell ⟨d,4,none⟩ (.slice A' N c'):=⟨_,rfl⟩
   have hD2 : DeskR W2 d base { m with gone:=m.gone ++ L } (.slice FA m.free.length fc) H S (.slice A' N c'):=by
    rw [hW2]
    refine HDr.out.setGone HK.out.2 _ ?_
    rw [HN.out]
    exact HK.out.1
   have hK2 : KeepD base d w W2:=by
    rw [hW2]
    exact ((KeepD.ext HY.out.2).trans (KeepD.grown HDr.out.own.gone HK.out.2)).trans (KeepD.set _ _)
   have hz2 : w.heap.size≤W2.heap.size:=by
    rw [hW2]
    simpa using Nat.le_trans HY.out.2.size HK.out.2.size
   rw [← hW2]
   clear hW2 HK z4 z4' d4 hGr hSl hbr
   have hsort:=sort_any base c' N (.slice A' N c') (m.gone ++ L) HN.out.symm W2 (by rw [HN.out]; omega) A' rfl (HN.out▸hD2.own.gone)
   have d4:=hD2.blk.cell (i:=4) (v:=.slice A' N c') rfl
   have HS:=Lib.hid hsort
   have HZ:=Lib.hid (And.intro hD2 (And.intro hK2 hz2))
   clear hsort hD2 hK2 hz2
   go_wp2_with (go_at_call 108; (with_reducible refine HS.out.mono ?_); rintro e w3 ⟨rfl,hS1,hS2⟩; have HQ:=Lib.hid (And.intro hS1 hS2); clear hS1 hS2)
   go_ret
   have hD3 : DeskR w3 d base { m with gone:=goneTo m x } (.slice FA m.free.length fc) H S (.slice A' N c'):=by
    have h:=HZ.out.1.putGone HQ.out.2 (sortI (m.gone ++ L)) (by rw [sortI_len,HN.out]; exact HQ.out.1)
    rw [HL.out] at h
    exact h
   refine ⟨HZ.out.2.1.trans (KeepD.grown HZ.out.1.own.gone HQ.out.2),Nat.le_trans HZ.out.2.2 HQ.out.2.size,?_⟩
   by_cases h0 : 0 < L.length
   ·refine .inr ⟨?_,⟨fun i hi=>?_,by rw [← HL.out]; exact h0⟩,_,hD3⟩
    ·show Ending.returned (Value.bool (decide (0 < L.length)))=_
     rw [decide_eq_true h0]
    ·have:=HY.out.1 i (by rw [HL.out]; exact hi)
     rw [HL.out] at this
     exact this
   ·have h3 : goneTo m x=m.gone:=by
     unfold goneTo
     rw [← HL.out,List.eq_nil_of_length_eq_zero (by omega : L.length=0),List.append_nil]
     exact hgs
    rw [h3] at hD3
    refine .inl ⟨?_,fun hc=>h0 (by rw [HL.out]; exact hc.2),_,hD3⟩
    show Ending.returned (Value.bool (decide (0 < L.length)))=_
    rw [decide_eq_false h0]
end Go.Proofs.YtoolenhnhlfhmaaGreatDoor
