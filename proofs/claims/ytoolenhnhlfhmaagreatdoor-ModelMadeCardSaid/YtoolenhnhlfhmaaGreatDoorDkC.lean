/- Walks: the desk's lay. -/
import Derived.Test.YtoolenhnhlfhmaaGreatDoorGU
import Derived.Test.YtoolenhnhlfhmaaGreatDoorGB
namespace Go.Proofs.YtoolenhnhlfhmaaGreatDoor
open Go.RowKit Go.Sort
set_option linter.unusedVariables false
set_option linter.unusedSimpArgs false
set_option maxHeartbeats 2000000 in
set_option maxRecDepth 100000 in
theorem lay1_any (p : Int) (b : Nat) (at_ n : Int) (w : World) (ha : w.cell? ⟨b,1,none⟩=some (.int .i64 at_)) (hn : w.cell? ⟨b,2,none⟩=some (.int .i64 n)) (h0 : 0≤at_∧0≤n∧at_ + n≤4096) :
  Calls Tryz.prog 94 #[.int .i64 p,.pointer (some ⟨b,0,none⟩)] w fun e w'=>e=.returned (.bool (B (InP (at_,n) p)))∧w=w':=by
 obtain ⟨h1,h2,h3⟩:=h0
 have hcs : (decide (at_≤p)=false∧¬ InP (at_,n) p)∨(decide (at_≤p)=true∧decide (p < at_ + n)=false∧¬ InP (at_,n) p)∨(decide (at_≤p)=true∧decide (p < at_ + n)=true∧InP (at_,n) p):=by
  unfold InP
  simp only [decide_eq_true_eq,decide_eq_false_iff_not]
  omega
 rcases hcs with ⟨e0,h⟩ | ⟨e0,e1,h⟩ | ⟨e0,e1,h⟩
 all_goals
  have HX:=Lib.hid h
  clear h
  go_enter Tryz.func94,Tryz.ntmps94
  go_wp2
  go_ret
  exact ⟨ret_bool (by first | exact (B_no HX.out).symm | exact (B_yes HX.out).symm),rfl⟩
theorem nat_beq {a b : Nat} (h : a=b) : (((a : Nat) : Int) == ((b : Nat) : Int))=true∧(((a : Nat) : Int) != ((b : Nat) : Int))=false:=by subst h; simp
theorem nat_bne {a b : Nat} (h : a≠b) : (((a : Nat) : Int) == ((b : Nat) : Int))=false∧(((a : Nat) : Int) != ((b : Nat) : Int))=true:=by
 have h' : ((a : Nat) : Int)≠((b : Nat) : Int):=by omega
 exact ⟨by simpa using h',by simpa using h'⟩
set_option maxHeartbeats 2000000 in
set_option maxRecDepth 100000 in
theorem layC_any (x : HoldD) (p : Int) (w : World) :
  Calls Tryz.prog 97 #[holdV x,.int .i64 p] w fun e w'=>e=.returned (.int .i64 (cmpI x.page p))∧Ext w w':=by
 unfold holdV
 go_enter Tryz.func97,Tryz.ntmps97
 go_wp2_with (go_at_call 98; refine (compare_any _ _ _).mono ?_; rintro e w1 ⟨rfl,rfl⟩)
 go_ret
 exact ⟨rfl,(Ext.refl _).alloc _⟩
set_option maxRecDepth 100000 in
theorem layCF (xs : Array Value) (w : World) : Sem.run Tryz.prog (callFunc 97 xs) w=.ok (.enter 97 xs) w:=rfl
theorem searchL_any (A : Option Addr) (l : List HoldD) (c : Nat) (x : Int) (w : World) (hL : l.length≤1000000) (hR : SlR w A l.length 8 (holdsV l)) (hs : Rises noHold l pageK) :
  Calls Tryz.prog 96 #[.slice A l.length c,.int .i64 x,.func (.func 97) #[] #[]] w fun e w'=>∃ i : Nat,i≤l.length∧e=.returned (.tuple #[.int .i64 (i : Int),.bool (B (i < l.length∧pageK (ix noHold l i)=x))])∧(∀ k,k < i→pageK (ix noHold l k) < x)∧(∀ k,i≤k→k < l.length→x≤pageK (ix noHold l k))∧Ext w w' :=
 searchHold_any A l c _ x pageK w hL layCF hR hs (fun r w'=>layC_any r x w')
/-- Where a span is put. -/
def PlaceS (l : List HoldD) (i : Nat) (p : Int) : Prop:=i≤l.length∧(∀ k,k < i→pageK (ix noHold l k) < p)∧∀ k,i≤k→k < l.length→p≤pageK (ix noHold l k)
def layA (x : MarkD) : Nat:=if x.n=14 then 1 else 0
/-- A hand that may be laid. -/
def LayC (m : ModelD) (x : MarkD) (h : HandD) : Prop:=(0≤x.n∧x.n≤14)∧((x.n≠14→h.n=pagC x.n)∧x.mask=layA x)∧∀ i,i < m.gone.length→¬ InP (h.at_,h.n) (ix 0 m.gone i)
def layHold (x : MarkD) (h : HandD) : HoldD:=⟨h.at_,h.n,x.n,x.thread,-1,true,layA x,0⟩
def LayP (m : ModelD) (d base : Nat) (F H S G : Value) (x : MarkD) (w : World) (e : Ending) (w' : World) : Prop :=
 KeepD base d w w'∧w.heap.size≤w'.heap.size∧((e=.returned (.bool false)∧(∀ j,j < m.hands.length→HandP m x j→(∀ q,q < j→¬ HandP m x q)→¬ LayC m x (ix noHand m.hands j))∧DeskR w' d base m F H S G) ∨
  (e=.returned (.bool true)∧∃ j k H' S',j < m.hands.length∧HandP m x j∧LayC m x (ix noHand m.hands j)∧PlaceS m.spans k (ix noHand m.hands j).at_ ∧
   DeskR w' d base { m with spans:=cutIn m.spans k k [layHold x (ix noHand m.hands j)],hands:=cutIn m.hands j (j + 1) [] } F H' S' G))
theorem HandP.uniq {m : ModelD} {x : MarkD} {i j : Nat} (h1 : HandP m x i) (h2 : ∀ q,q < i→¬ HandP m x q) (k1 : HandP m x j) (k2 : ∀ q,q < j→¬ HandP m x q) : i=j:=by
 rcases Nat.lt_trichotomy i j with h | h | h
 ·exact absurd h1 (k2 i h)
 ·exact h
 ·exact absurd k1 (h2 j h)
set_option maxHeartbeats 4000000 in
set_option maxRecDepth 100000 in
theorem layD_any (m : ModelD) (d base : Nat) (F H S G : Value) (x : MarkD) (w : World) (hl : m.hands.length≤900000∧m.spans.length≤900000∧m.gone.length≤900000) (hx : MarkOk x)
  (hh : ∀ i,i < m.hands.length→0≤(ix noHand m.hands i).at_∧1≤(ix noHand m.hands i).n∧(ix noHand m.hands i).at_ + (ix noHand m.hands i).n≤4096)
  (hs : Rises noHold m.spans pageK) (hT : Tab w) (hbase : base≤w.heap.size) (hD : DeskR w d base m F H S G) :
  Calls Tryz.prog 58 #[.pointer (some ⟨d,0,none⟩),markV x] w (LayP m d base F H S G x w):=by
 obtain ⟨HA,hc,rfl,hhc⟩:=hD.own.hands.ofSlice
 obtain ⟨SA,sc,rfl,hsc⟩:=hD.own.spans.ofSlice
 obtain ⟨GA,gc,rfl,hgc⟩:=hD.own.gone.ofSlice
 obtain ⟨l1,l2,l3⟩:=hl
 obtain ⟨⟨pg0,pg1⟩,⟨n0,n1⟩,hmk⟩:=hx
 obtain ⟨W0,hW0⟩ : ∃ W0,W0=w.alloc (.cells (markA x) 34):=⟨_,rfl⟩
 have hE0 : Ext w W0:=hW0▸(Ext.refl w).alloc _
 have hbx : Blk W0 w.heap.size 34 (markA x):=hW0▸Blk.new _ _ _ _ rfl
 have hdlt:=hD.blk.lt
 have hhand : ∀ W,Ext w W→Calls Tryz.prog 91 #[.pointer (some ⟨d,0,none⟩),.int .i64 x.thread,.int .i64 x.page] W fun e w'=>∃ r,e=.returned (.tuple #[.int .i64 r,.bool (decide (0≤r))])∧Hid (FirstP m.hands.length (HandP m x) r∧Ext W w'):=fun W hE =>
  (hand_any m d base _ _ _ _ HA hc rfl x.thread x.page W (by omega) (hD.ext hE)).mono fun e w' ⟨r,he,hr,hE'⟩=>⟨r,he,Lib.hid ⟨hr,hE'⟩⟩
 unfold markV
 unfold markA at hW0 hbx
 have x1:=hbx.cell (i:=1) (v:=.int .i64 x.thread) rfl
 have x3:=hbx.cell (i:=3) (v:=.int .i64 x.page) rfl
 have HX:=Lib.hid (show Ext w (w.alloc (.cells #[.int .i64 x.kind,.int .i64 x.thread,.int .i64 x.entry,.int .i64 x.page,.int .i64 x.n,.int .u64 (x.mask : Int)] 34)) from (Ext.refl w).alloc _)
 rw [hW0] at x1 x3
 have hbx' : Blk (w.alloc (.cells #[.int .i64 x.kind,.int .i64 x.thread,.int .i64 x.entry,.int .i64 x.page,.int .i64 x.n,.int .u64 (x.mask : Int)] 34)) w.heap.size 34 #[.int .i64 x.kind,.int .i64 x.thread,.int .i64 x.entry,.int .i64 x.page,.int .i64 x.n,.int .u64 (x.mask : Int)]:=hW0▸hbx
 have HD:=Lib.hid (And.intro hD (And.intro hs (And.intro hh (And.intro hbx' hT))))
 have HH:=Lib.hid hhand
 clear hD hs hh hE0 hbx hW0 hhand hbx' hT
 go_enter Tryz.func58,Tryz.ntmps58
 go_upto_region 2 with (go_at_call 91; (with_reducible refine (HH.out _ HX.out).mono ?_); rintro e w1 ⟨r,rfl,HR⟩)
 clear x1 x3
 obtain ⟨hr,hE1⟩:=HR.out
 have hEw : Ext w w1:=HX.out.trans hE1
 have hbx1:=HD.out.2.2.2.1.ext hE1
 have x4:=hbx1.cell (i:=4) (v:=.int .i64 x.n) rfl
 rcases hr with ⟨rfl,hno⟩ | ⟨j,hj,rfl,hp,hfirst⟩
 ·have e0 : decide ((0 : Int)≤-1)=false:=rfl
  simp only [e0]
  have HN:=Lib.hid (And.intro hno hEw)
  clear hno hE1 e0 hEw hbx1
  go_wp2
  go_ret
  exact ⟨KeepD.ext HN.out.2,HN.out.2.size,.inl ⟨rfl,fun j hj h=>absurd h (HN.out.1 j hj),HD.out.1.ext HN.out.2⟩⟩
 ·have e0 : decide ((0 : Int)≤(j : Int))=true:=decide_eq_true (by omega)
  simp only [e0]
  have hD1:=HD.out.1.ext hEw
  obtain ⟨g,c',e1⟩:=hD1.own.hands.form' (by omega)
  injection e1 with e1 e2 e3
  subst e1 e3
  clear e2
  have x1:=hbx1.cell (i:=1) (v:=.int .i64 x.thread) rfl
  have x5:=hbx1.cell (i:=5) (v:=.int .u64 (x.mask : Int)) rfl
  have d2:=hD1.blk.cell (i:=2) (v:=.slice (some ⟨g,0,none⟩) m.hands.length hc) rfl
  have d4:=hD1.blk.cell (i:=4) (v:=.slice GA m.gone.length gc) rfl
  have c0:=hD1.own.hands.cellAt (j:=j * 3 + 0) (by omega)
  have c1:=hD1.own.hands.cellAt (j:=j * 3 + 1) (by omega)
  have c2:=hD1.own.hands.cellAt (j:=j * 3 + 2) (by omega)
  rw [Nat.add_zero,handV0] at c0
  rw [handV1] at c1
  rw [handV2] at c2
  obtain ⟨b0,b1,b2⟩:=HD.out.2.2.1 j hj
  obtain ⟨h,hh⟩ : ∃ h,ix noHand m.hands j=h:=⟨_,rfl⟩
  have HP:=Lib.hid (And.intro hj (And.intro hp (And.intro hfirst (And.intro hh (And.intro hEw (And.intro hD1 hbx1))))))
  rw [hh] at c0 c1 c2 b0 b1 b2
  have q0 : (0 : Int)≤(j : Int):=by omega
  have q1 : (j : Int) < (m.hands.length : Int):=by omega
  have hwl : w.heap.size < w1.heap.size:=hbx1.lt
  have hdl : d < w1.heap.size:=hD1.blk.lt
  -- it is refused
  have hfalse : ∀ W,Ext w1 W→¬ LayC m x h→LayP m d base F (.slice (some ⟨g,0,none⟩) m.hands.length hc) (.slice SA m.spans.length sc) (.slice GA m.gone.length gc) x w (.returned (.bool false)) W:=fun W hE hno =>
   ⟨KeepD.ext (hEw.trans hE),(hEw.trans hE).size,.inl ⟨rfl,fun i hi h1 h2=>by rw [HandP.uniq h1 h2 hp hfirst,hh]; exact hno,hD1.ext hE⟩⟩
  have HFl:=Lib.hid hfalse
  clear hj hp hfirst hh hEw hD1 hbx1 e0 hE1 hfalse
  by_cases hn : 0≤x.n∧x.n≤14
  ·obtain ⟨t0,t1⟩:=hn
   have u0 : decide (x.n < 0)=false:=decide_eq_false (by omega)
   have u1 : decide (14 < x.n)=false:=decide_eq_false (by omega)
   go_upto_if 42 with fail
   obtain ⟨W3,hW3⟩ : ∃ W3,W3=w1.alloc (.cells #[.int .i64 h.t,.int .i64 h.at_,.int .i64 h.n] 56):=⟨_,rfl⟩
   have hE3 : Ext w1 W3:=hW3▸(Ext.refl w1).alloc _
   have hbh : Blk W3 w1.heap.size 56 #[.int .i64 h.t,.int .i64 h.at_,.int .i64 h.n]:=hW3▸Blk.new _ _ _ _ rfl
   rw [← hW3]
   have H3:=Lib.hid (And.intro hE3 hbh)
   clear x4 x1 x5 d2 d4 c0 c1 c2 hW3 hE3 hbh u0 u1
   go_cut [8] (fun s wx=>s=.int .u64 ((layA x : Nat) : Int)∧wx=W3)
   case first =>
    by_cases h14 : x.n=14
    ·have e : (x.n == 14)=true:=by simpa using h14
     have HA:=Lib.hid (show layA x=1 from if_pos h14)
     clear h14
     go_wp2_with fail
     go_meet
     exact ⟨by rw [HA.out]; rfl,rfl⟩
    ·have e : (x.n == 14)=false:=by simpa using h14
     have HA:=Lib.hid (show layA x=0 from if_neg h14)
     clear h14
     go_wp2_with fail
     go_meet
     exact ⟨by rw [HA.out]; rfl,rfl⟩
   case rest =>
    obtain ⟨rfl,rfl⟩:=hcut
    have x4:=(HP.out.2.2.2.2.2.2.ext H3.out.1).cell (i:=4) (v:=.int .i64 x.n) rfl
    have x5:=(HP.out.2.2.2.2.2.2.ext H3.out.1).cell (i:=5) (v:=.int .u64 (x.mask : Int)) rfl
    have h2:=H3.out.2.cell (i:=2) (v:=.int .i64 h.n) rfl
    have HTb:=Lib.hid ((HD.out.2.2.2.2.ext HP.out.2.2.2.2.1).ext H3.out.1)
    go_upto_region 8 with fail
    go_cut [59] (fun c wx=>c=.bool (B ((x.n≠14∧h.n≠pagC x.n)∨x.mask≠layA x))∧∃ n,wx=wc.drewN n)
    case first =>
     have hm : x.mask=layA x∨x.mask≠layA x:=Classical.em _
     by_cases h14 : x.n=14
     ·have e : (x.n == 14)=true:=by simpa using h14
      have e' : (x.n != 14)=false:=by simpa using h14
      rcases hm with hm | hm
      ·obtain ⟨e6,e5⟩:=nat_beq hm
       have HB:=Lib.hid (B_no (show ¬ ((x.n≠14∧h.n≠pagC x.n)∨x.mask≠layA x) from fun hh=>hh.elim (fun h=>h.1 h14) (fun h=>h hm)))
       clear hm h14
       go_quiet (fail)
       go_wp2_with fail
       go_meet
       exact ⟨congrArg Value.bool HB.out.symm,_,rfl⟩
      ·obtain ⟨e6,e5⟩:=nat_bne hm
       have HB:=Lib.hid (B_yes (show ((x.n≠14∧h.n≠pagC x.n)∨x.mask≠layA x) from .inr hm))
       clear hm h14
       go_quiet (fail)
       go_wp2_with fail
       go_meet
       exact ⟨congrArg Value.bool HB.out.symm,_,rfl⟩
     ·have e : (x.n == 14)=false:=by simpa using h14
      have e' : (x.n != 14)=true:=by simpa using h14
      by_cases hpg : h.n=pagC x.n
      ·have e7 : (h.n == pagC x.n)=true:=by simpa using hpg
       have e8 : (h.n != pagC x.n)=false:=by simpa using hpg
       rcases hm with hm | hm
       ·obtain ⟨e6,e5⟩:=nat_beq hm
        have HB:=Lib.hid (B_no (show ¬ ((x.n≠14∧h.n≠pagC x.n)∨x.mask≠layA x) from fun hh=>hh.elim (fun h=>h.2 hpg) (fun h=>h hm)))
        clear hm h14 hpg
        go_quiet ((go_at_call 92; exact Calls.quiet_of_same ((pages_c_any x.n _ (HTb.out.ext ((Ext.refl _).drewN _))).mono fun _ _ ⟨h1,h2⟩=>⟨h1,h2.symm⟩)))
        go_wp2_with fail
        go_meet
        exact ⟨congrArg Value.bool HB.out.symm,_,rfl⟩
       ·obtain ⟨e6,e5⟩:=nat_bne hm
        have HB:=Lib.hid (B_yes (show ((x.n≠14∧h.n≠pagC x.n)∨x.mask≠layA x) from .inr hm))
        clear hm h14 hpg
        go_quiet ((go_at_call 92; exact Calls.quiet_of_same ((pages_c_any x.n _ (HTb.out.ext ((Ext.refl _).drewN _))).mono fun _ _ ⟨h1,h2⟩=>⟨h1,h2.symm⟩)))
        go_wp2_with fail
        go_meet
        exact ⟨congrArg Value.bool HB.out.symm,_,rfl⟩
      ·have e7 : (h.n == pagC x.n)=false:=by simpa using hpg
       have e8 : (h.n != pagC x.n)=true:=by simpa using hpg
       have HB:=Lib.hid (B_yes (show ((x.n≠14∧h.n≠pagC x.n)∨x.mask≠layA x) from .inl ⟨h14,hpg⟩))
       clear hm h14 hpg
       go_quiet ((go_at_call 92; exact Calls.quiet_of_same ((pages_c_any x.n _ (HTb.out.ext ((Ext.refl _).drewN _))).mono fun _ _ ⟨h1,h2⟩=>⟨h1,h2.symm⟩)))
       go_wp2_with fail
       go_meet
       exact ⟨congrArg Value.bool HB.out.symm,_,rfl⟩
    case rest =>
     obtain ⟨rfl,nd,rfl⟩:=hcut
     obtain ⟨W4,hW4⟩ : ∃ W4,W4=wc.drewN nd:=⟨_,rfl⟩
     have hE4 : Ext w1 W4:=hW4▸H3.out.1.drewN nd
     have hbh4 : Blk W4 w1.heap.size 56 #[.int .i64 h.t,.int .i64 h.at_,.int .i64 h.n]:=hW4▸H3.out.2
     rw [← hW4]
     have H4:=Lib.hid (And.intro hE4 hbh4)
     clear hW4 x4 x5 h2 hE4 hbh4
     by_cases hbad : (x.n≠14∧h.n≠pagC x.n)∨x.mask≠layA x
     ·have hB:=B_yes hbad
      have HBad:=Lib.hid hbad
      clear hbad
      simp only [hB]
      go_wp2
      go_ret
      exact HFl.out _ H4.out.1 (fun hc=>HBad.out.elim (fun h=>h.2 (hc.2.1.1 h.1)) (fun h=>h hc.2.1.2))
     ·have hB:=B_no hbad
      have HBad:=Lib.hid (show (x.n≠14→h.n=pagC x.n)∧x.mask=layA x from ⟨fun h=>Classical.byContradiction fun hh=>hbad (.inl ⟨h,hh⟩),Classical.byContradiction fun hh=>hbad (.inr hh)⟩)
      clear hbad
      simp only [hB]
      have hcont : ∀ W,Ext W4 W→Calls Tryz.prog 93 #[.slice GA m.gone.length gc,.func (.func 94) #[] #[.pointer (some ⟨w1.heap.size,0,none⟩)]] W fun e w'=>e=.returned (.bool (B (∃ i,i < m.gone.length∧InP (h.at_,h.n) (ix 0 m.gone i))))∧Hid (Ext W w'):=fun W hE =>
       (containsInt_any GA m.gone gc 94 #[.pointer (some ⟨w1.heap.size,0,none⟩)] (fun i=>InP (h.at_,h.n) (ix 0 m.gone i)) W (by omega) (fun _ _=>rfl) (own_sl' ((HP.out.2.2.2.2.2.1.ext (H4.out.1.trans hE)).own.gone)) (fun i hi W' hW' =>
        (lay1_any (ix 0 m.gone i) w1.heap.size h.at_ h.n W' (((H4.out.2.ext hE).ext hW').cell (i:=1) rfl) (((H4.out.2.ext hE).ext hW').cell (i:=2) rfl) ⟨b0,by omega,b2⟩).mono fun e w' ⟨h1,h2⟩=>⟨h1,h2▸Ext.refl _⟩)).mono fun e w' ⟨h1,h2⟩=>⟨h1,Lib.hid h2⟩
      have HC:=Lib.hid hcont
      have HE4:=Lib.hid (Ext.refl W4)
      have d4:=(HP.out.2.2.2.2.2.1.ext H4.out.1).blk.cell (i:=4) (v:=.slice GA m.gone.length gc) rfl
      clear hcont
      by_cases hex : ∃ i,i < m.gone.length∧InP (h.at_,h.n) (ix 0 m.gone i)
      ·have hB2:=B_yes hex
       have HEx:=Lib.hid hex
       clear hex
       go_wp2_with (go_at_call 93; (with_reducible refine (HC.out _ HE4.out).mono ?_); rintro e w5 ⟨rfl,HE5⟩; simp only [hB2])
       go_ret
       exact HFl.out _ (H4.out.1.trans HE5.out) (fun hc=>by obtain ⟨i,hi,hp⟩:=HEx.out; exact hc.2.2 i hi hp)
      ·have hB2:=B_no hex
       have HEx:=Lib.hid hex
       clear hex
       have hdel : ∀ W,Ext W4 W→Calls Tryz.prog 95 #[.slice (some ⟨g,0,none⟩) m.hands.length hc,.int .i64 (j : Int),.int .i64 ((j : Int) + 1)] W fun e w'=>∃ A' N c' v,e=.returned (.slice A' N c')∧w'.cell? ⟨d,2,none⟩=some v∧w'.frozen? ⟨d,2,none⟩=false ∧
         Hid (DeskR (w'.setCell ⟨d,2,none⟩ (.slice A' N c')) d base { m with hands:=cutIn m.hands j (j + 1) [] } F (.slice A' N c') (.slice SA m.spans.length sc) (.slice GA m.gone.length gc)∧Blk (w'.setCell ⟨d,2,none⟩ (.slice A' N c')) w.heap.size 34 #[.int .i64 x.kind,.int .i64 x.thread,.int .i64 x.entry,.int .i64 x.page,.int .i64 x.n,.int .u64 (x.mask : Int)]∧Blk (w'.setCell ⟨d,2,none⟩ (.slice A' N c')) w1.heap.size 56 #[.int .i64 h.t,.int .i64 h.at_,.int .i64 h.n]∧KeepD base d w (w'.setCell ⟨d,2,none⟩ (.slice A' N c'))∧w.heap.size≤(w'.setCell ⟨d,2,none⟩ (.slice A' N c')).heap.size):=fun W hE0=>by
        have hE:=H4.out.1.trans hE0
        obtain ⟨hj,hp,hfirst,hh,hEw,hD1,hbx1⟩:=HP.out
        have hDW:=hD1.ext hE
        refine (delHand1 base hc j (some ⟨g,0,none⟩) m.hands W hj hDW.own.hands).mono fun e w' ⟨he,hO,hg⟩=>?_
        have hb2:=hDW.blk.grown hg (Ne.symm hDW.nes.2.1)
        have hx2:=(hbx1.ext hE).grown hg (fun h=>own_ne_blk hDW.own.hands (hbx1.ext hE) (by decide) h.symm)
        have hgl:=(World.ownsRow.lt hD1.own.hands g rfl).2
        have hh2:=(H4.out.2.ext hE0).grown hg (fun h=>by simp at h; omega)
        refine ⟨_,_,_,_,he,hb2.cell (i:=2) rfl,hb2.frozen 2,Lib.hid ⟨hDW.setHands hg _ hO,hx2.far (by show w.heap.size≠d; omega) _,hh2.far (by show w1.heap.size≠d; omega) _,((KeepD.ext (hEw.trans hE)).trans (KeepD.grown hDW.own.hands hg)).trans (KeepD.set _ _),by simpa using Nat.le_trans (hEw.trans hE).size hg.size⟩⟩
       have HDl:=Lib.hid hdel
       clear hdel
       go_wp2_with (first
        |(go_at_call 93; (with_reducible refine (HC.out _ HE4.out).mono ?_); rintro e w5 ⟨rfl,HE5⟩; simp only [hB2]; have d2:=(HP.out.2.2.2.2.2.1.ext (H4.out.1.trans HE5.out)).blk.cell (i:=2) (v:=.slice (some ⟨g,0,none⟩) m.hands.length hc) rfl)
        |(go_at_call 95; (with_reducible refine (HDl.out _ HE5.out).mono ?_); rintro e w2 ⟨A',N,c',v,rfl,k1,k2,HF⟩))
       obtain ⟨W2,hW2⟩ : ∃ W2,W2=w2.setCell ⟨d,2,none⟩ (.slice A' N c'):=⟨_,rfl⟩
       have HF2:=HF.out
       rw [← hW2] at HF2
       rw [← hW2]
       obtain ⟨hD2,hx2,hh2,hK2,hz2⟩:=HF2
       clear hW2 k1 k2 HF d2 d4
       have d3:=hD2.blk.cell (i:=3) (v:=.slice SA m.spans.length sc) rfl
       have y1:=hh2.cell (i:=1) (v:=.int .i64 h.at_) rfl
       have H2:=Lib.hid (And.intro hD2 (And.intro hx2 (And.intro hh2 (And.intro hK2 hz2))))
       clear hD2 hx2 hh2 hK2 hz2
       refine wp_region_loud 7 _ rfl rfl (by kernel_rfl) (by kernel_rfl) ?_
       simp only [List.take_succ_cons,List.take_zero]
       repeat (go_big_quiet_step (fail))
       refine wpQuiet_nil ?_
       intro mm
       refine wp_enter 96 #[.slice SA m.spans.length sc,.int .i64 h.at_,.func (.func 97) #[] #[]] (by kernel_rfl) ?_
       refine (searchL_any SA m.spans sc h.at_ _ (by omega) ((own_sl' H2.out.1.own.spans).ext ((Ext.refl _).drewN mm)) HD.out.2.1).mono ?_
       rintro e w3 ⟨k,hk,rfl,hlo,hhi,hE3⟩
       have HS:=Lib.hid (show PlaceS m.spans k h.at_∧Ext W2 w3 from ⟨⟨hk,hlo,hhi⟩,((Ext.refl W2).drewN mm).trans hE3⟩)
       clear hk hlo hhi hE3
       generalize B (k < m.spans.length∧pageK (ix noHold m.spans k)=h.at_)=bb
       refine ⟨_,rfl,fun w'=>∃ m,w'=w3.drewN m,⟨0,rfl⟩,?_⟩
       simp only [List.drop_succ_cons,List.drop_zero,Act.put,List.setIfInBounds_toArray,List.set_cons_succ,List.set_cons_zero]
       repeat (go_big_quiet_step (fail))
       refine wpQuiet_nil ?_
       rintro w' ⟨mm2,rfl⟩
       obtain ⟨W5,hW5⟩ : ∃ W5,W5=w3.drewN mm2:=⟨_,rfl⟩
       have hE5 : Ext W2 W5:=hW5▸HS.out.2.drewN mm2
       rw [← hW5]
       clear hW5 d3 y1
       have hD5:=H2.out.1.ext hE5
       have hx5:=H2.out.2.1.ext hE5
       have hh5:=H2.out.2.2.1.ext hE5
       have d3:=hD5.blk.cell (i:=3) (v:=.slice SA m.spans.length sc) rfl
       have y1:=hh5.cell (i:=1) (v:=.int .i64 h.at_) rfl
       have y2:=hh5.cell (i:=2) (v:=.int .i64 h.n) rfl
       have x1:=hx5.cell (i:=1) (v:=.int .i64 x.thread) rfl
       have x4:=hx5.cell (i:=4) (v:=.int .i64 x.n) rfl
       have hdl5 : d < W5.heap.size:=hD5.blk.lt
       have hxl5 : w.heap.size < W5.heap.size:=hx5.lt
       have hhl5 : w1.heap.size < W5.heap.size:=hh5.lt
       have H5:=Lib.hid (And.intro hD5 (And.intro (H2.out.2.2.2.1.trans (KeepD.ext hE5)) (And.intro (Nat.le_trans H2.out.2.2.2.2 hE5.size) (And.intro hx5 hh5))))
       clear hE5 hD5 hx5 hh5
       have hins : ∀ W,Ext W5 W→RowW W W5.heap.size 51 [.int .i64 h.at_,.int .i64 h.n,.int .i64 x.n,.int .i64 x.thread,.int .i64 (-1),.bool true,.int .u64 ((layA x : Nat) : Int),.int .u64 0]→Calls Tryz.prog 99 #[.slice SA m.spans.length sc,.int .i64 (k : Int),.slice (some ⟨W5.heap.size,0,none⟩) 1 1] W fun e w' =>
         ∃ A'' N'' c'' v,e=.returned (.slice A'' N'' c'')∧w'.cell? ⟨d,3,none⟩=some v∧w'.frozen? ⟨d,3,none⟩=false∧(w'.cell? ⟨w1.heap.size,1,none⟩=some (.int .i64 h.at_)∧w'.cell? ⟨w1.heap.size,2,none⟩=some (.int .i64 h.n)∧w'.cell? ⟨w.heap.size,1,none⟩=some (.int .i64 x.thread)∧w'.cell? ⟨w.heap.size,4,none⟩=some (.int .i64 x.n))∧Hid (LayP m d base F (.slice (some ⟨g,0,none⟩) m.hands.length hc) (.slice SA m.spans.length sc) (.slice GA m.gone.length gc) x w (.returned (.bool true)) (w'.setCell ⟨d,3,none⟩ (.slice A'' N'' c''))):=fun W hE hRow=>by
        have hDW:=H5.out.1.ext hE
        refine (insHold1 base sc k W5.heap.size 1 SA m.spans (layHold x h) W HS.out.1.1 (by omega) (Nat.le_trans hbase (Nat.le_trans H5.out.2.2.1 hE.size)) (fun hh=>?_) hDW.own.spans hRow).mono fun e w' ⟨A'',c'',he,hO,hg⟩=>?_
        ·have h1:=(World.ownsRow.lt H5.out.1.own.spans W5.heap.size (by rw [own_blk]; exact hh.symm)).2
         omega
        ·have hg' : W.grownBy w' (Value.slice SA m.spans.length sc).ownBlock:=by rw [own_blk]; exact hg
         have hb2:=hDW.blk.grown hg' (Ne.symm hDW.nes.2.2.1)
         have hxk:=(H5.out.2.2.2.1.ext hE).grown hg' (fun h=>own_ne_blk hDW.own.spans (H5.out.2.2.2.1.ext hE) (by decide) h.symm)
         have hhk:=(H5.out.2.2.2.2.ext hE).grown hg' (fun h=>own_ne_blk hDW.own.spans (H5.out.2.2.2.2.ext hE) (by decide) h.symm)
         exact ⟨A'',_,c'',_,he,hb2.cell (i:=3) rfl,hb2.frozen 3,⟨hhk.cell (i:=1) rfl,hhk.cell (i:=2) rfl,hxk.cell (i:=1) rfl,hxk.cell (i:=4) rfl⟩,Lib.hid ⟨((H5.out.2.1.trans (KeepD.ext hE)).trans (KeepD.grown hDW.own.spans hg')).trans (KeepD.set _ _),by simpa using Nat.le_trans H5.out.2.2.1 (Nat.le_trans hE.size hg.size),.inr ⟨rfl,j,k,_,_,HP.out.1,HP.out.2.1,by rw [HP.out.2.2.2.1]; exact ⟨⟨t0,t1⟩,HBad.out,fun i hi hp=>HEx.out ⟨i,hi,hp⟩⟩,by rw [HP.out.2.2.2.1]; exact HS.out.1,by rw [HP.out.2.2.2.1]; exact hDW.setSpans hg' _ hO⟩⟩⟩
       have HI:=Lib.hid hins
       have HEX:=Lib.hid (show Ext W5 (W5.alloc (.cells #[.int .i64 h.at_,.int .i64 h.n,.int .i64 x.n,.int .i64 x.thread,.int .i64 (-1),.bool true,.int .u64 ((layA x : Nat) : Int),.int .u64 0] 51)).drew from ((Ext.refl W5).alloc _).drew)
       have HRW:=Lib.hid (show RowW (W5.alloc (.cells #[.int .i64 h.at_,.int .i64 h.n,.int .i64 x.n,.int .i64 x.thread,.int .i64 (-1),.bool true,.int .u64 ((layA x : Nat) : Int),.int .u64 0] 51)).drew W5.heap.size 51 [.int .i64 h.at_,.int .i64 h.n,.int .i64 x.n,.int .i64 x.thread,.int .i64 (-1),.bool true,.int .u64 ((layA x : Nat) : Int),.int .u64 0] from (Blk.new W5 _ _ _ rfl))
       clear hins
       go_wp2_with fail
       have hSx : ∀ W,Ext W5 W→(fun w'=>w'.cell? ⟨d,3,none⟩=some (.slice SA m.spans.length sc)∧w'.cell? ⟨w1.heap.size,1,none⟩=some (.int .i64 h.at_)∧w'.cell? ⟨w1.heap.size,2,none⟩=some (.int .i64 h.n)∧w'.cell? ⟨w.heap.size,1,none⟩=some (.int .i64 x.thread)∧w'.cell? ⟨w.heap.size,4,none⟩=some (.int .i64 x.n)) W:=fun W hE=>⟨hE.cell d3,hE.cell y1,hE.cell y2,hE.cell x1,hE.cell x4⟩
       have HS0:=Lib.hid hSx
       have HE0:=Lib.hid ((Ext.refl W5).drew)
       clear hSx
       refine wp_region_ord (fun w'=>w'.cell? ⟨d,3,none⟩=some (.slice SA m.spans.length sc)∧w'.cell? ⟨w1.heap.size,1,none⟩=some (.int .i64 h.at_)∧w'.cell? ⟨w1.heap.size,2,none⟩=some (.int .i64 h.n)∧w'.cell? ⟨w.heap.size,1,none⟩=some (.int .i64 x.thread)∧w'.cell? ⟨w.heap.size,4,none⟩=some (.int .i64 x.n)) (fun i=>decide (i < 17)) (fun i=>i == 5 || i == 8 || i == 10 || i == 12 || i == 14) (fun i=>i == 17) [0,1,2,3,4,5,6,7,8,9,10,11,12,13,14,15,16,17,18,19,20,21,22] (by kernel_rfl) (by kernel_rfl) (fun c a d v w h=>by cases d <;> exact h) ?_
       refine wpOrd_quiet (v:=?vs0) rfl rfl rfl rfl ?ys0 ?rs0
       case ys0=>(intro w'; go_simp; try with_reducible rfl)
       simp only [List.getElem_toArray,List.getElem_cons_succ,List.getElem_cons_zero,Act.put,List.setIfInBounds_toArray,List.set_cons_zero,List.set_cons_succ]
       refine wpOrd_quiet (v:=?vs1) rfl rfl rfl rfl ?ys1 ?rs1
       case ys1=>(intro w'; go_simp; try with_reducible rfl)
       simp only [List.getElem_toArray,List.getElem_cons_succ,List.getElem_cons_zero,Act.put,List.setIfInBounds_toArray,List.set_cons_zero,List.set_cons_succ]
       refine wpOrd_quiet (v:=?vs2) rfl rfl rfl rfl ?ys2 ?rs2
       case ys2=>(intro w'; go_simp; try with_reducible rfl)
       simp only [List.getElem_toArray,List.getElem_cons_succ,List.getElem_cons_zero,Act.put,List.setIfInBounds_toArray,List.set_cons_zero,List.set_cons_succ]
       refine wpOrd_quiet (v:=?vs3) rfl rfl rfl rfl ?ys3 ?rs3
       case ys3=>(intro w'; go_simp; try with_reducible rfl)
       simp only [List.getElem_toArray,List.getElem_cons_succ,List.getElem_cons_zero,Act.put,List.setIfInBounds_toArray,List.set_cons_zero,List.set_cons_succ]
       refine wpOrd_quiet (v:=?vs4) rfl rfl rfl rfl ?ys4 ?rs4
       case ys4=>(intro w'; go_simp; try with_reducible rfl)
       simp only [List.getElem_toArray,List.getElem_cons_succ,List.getElem_cons_zero,Act.put,List.setIfInBounds_toArray,List.set_cons_zero,List.set_cons_succ]
       refine wpOrd_held (v:=?vs5) rfl rfl rfl (HS0.out _ HE0.out) rfl ?ys5 ?rs5
       case ys5=>(intro w' hS'; (try dsimp only at hS'); go_simp; try with_reducible rfl)
       simp only [List.getElem_toArray,List.getElem_cons_succ,List.getElem_cons_zero,Act.put,List.setIfInBounds_toArray,List.set_cons_zero,List.set_cons_succ]
       refine wpOrd_quiet (v:=?vs6) rfl rfl rfl rfl ?ys6 ?rs6
       case ys6=>(intro w'; go_simp; try with_reducible rfl)
       simp only [List.getElem_toArray,List.getElem_cons_succ,List.getElem_cons_zero,Act.put,List.setIfInBounds_toArray,List.set_cons_zero,List.set_cons_succ]
       refine wpOrd_quiet (v:=?vs7) rfl rfl rfl rfl ?ys7 ?rs7
       case ys7=>(intro w'; go_simp; try with_reducible rfl)
       simp only [List.getElem_toArray,List.getElem_cons_succ,List.getElem_cons_zero,Act.put,List.setIfInBounds_toArray,List.set_cons_zero,List.set_cons_succ]
       refine wpOrd_held (v:=?vs8) rfl rfl rfl (HS0.out _ HE0.out) rfl ?ys8 ?rs8
       case ys8=>(intro w' hS'; (try dsimp only at hS'); go_simp; try with_reducible rfl)
       simp only [List.getElem_toArray,List.getElem_cons_succ,List.getElem_cons_zero,Act.put,List.setIfInBounds_toArray,List.set_cons_zero,List.set_cons_succ]
       refine wpOrd_quiet (v:=?vs9) rfl rfl rfl rfl ?ys9 ?rs9
       case ys9=>(intro w'; go_simp; try with_reducible rfl)
       simp only [List.getElem_toArray,List.getElem_cons_succ,List.getElem_cons_zero,Act.put,List.setIfInBounds_toArray,List.set_cons_zero,List.set_cons_succ]
       refine wpOrd_held (v:=?vs10) rfl rfl rfl (HS0.out _ HE0.out) rfl ?ys10 ?rs10
       case ys10=>(intro w' hS'; (try dsimp only at hS'); go_simp; try with_reducible rfl)
       simp only [List.getElem_toArray,List.getElem_cons_succ,List.getElem_cons_zero,Act.put,List.setIfInBounds_toArray,List.set_cons_zero,List.set_cons_succ]
       refine wpOrd_quiet (v:=?vs11) rfl rfl rfl rfl ?ys11 ?rs11
       case ys11=>(intro w'; go_simp; try with_reducible rfl)
       simp only [List.getElem_toArray,List.getElem_cons_succ,List.getElem_cons_zero,Act.put,List.setIfInBounds_toArray,List.set_cons_zero,List.set_cons_succ]
       refine wpOrd_held (v:=?vs12) rfl rfl rfl (HS0.out _ HE0.out) rfl ?ys12 ?rs12
       case ys12=>(intro w' hS'; (try dsimp only at hS'); go_simp; try with_reducible rfl)
       simp only [List.getElem_toArray,List.getElem_cons_succ,List.getElem_cons_zero,Act.put,List.setIfInBounds_toArray,List.set_cons_zero,List.set_cons_succ]
       refine wpOrd_quiet (v:=?vs13) rfl rfl rfl rfl ?ys13 ?rs13
       case ys13=>(intro w'; go_simp; try with_reducible rfl)
       simp only [List.getElem_toArray,List.getElem_cons_succ,List.getElem_cons_zero,Act.put,List.setIfInBounds_toArray,List.set_cons_zero,List.set_cons_succ]
       refine wpOrd_held (v:=?vs14) rfl rfl rfl (HS0.out _ HE0.out) rfl ?ys14 ?rs14
       case ys14=>(intro w' hS'; (try dsimp only at hS'); go_simp; try with_reducible rfl)
       simp only [List.getElem_toArray,List.getElem_cons_succ,List.getElem_cons_zero,Act.put,List.setIfInBounds_toArray,List.set_cons_zero,List.set_cons_succ]
       refine wpOrd_quiet (v:=?vs15) rfl rfl rfl rfl ?ys15 ?rs15
       case ys15=>(intro w'; go_simp; try with_reducible rfl)
       simp only [List.getElem_toArray,List.getElem_cons_succ,List.getElem_cons_zero,Act.put,List.setIfInBounds_toArray,List.set_cons_zero,List.set_cons_succ]
       refine wpOrd_quiet (v:=?vs16) rfl rfl rfl rfl ?ys16 ?rs16
       case ys16=>(intro w'; go_simp; try with_reducible rfl)
       simp only [List.getElem_toArray,List.getElem_cons_succ,List.getElem_cons_zero,Act.put,List.setIfInBounds_toArray,List.set_cons_zero,List.set_cons_succ]
       refine wpOrd_loud rfl rfl rfl ?_
       simp only [List.getElem_toArray,List.getElem_cons_succ,List.getElem_cons_zero]
       go_wp2
       refine postK_intro (ordK_need (HS0.out _ HEX.out) ?_)
       refine wpOrd_loud rfl rfl rfl ?_
       simp only [List.getElem_toArray,List.getElem_cons_succ,List.getElem_cons_zero]
       go_wp2_with (go_at_call 99; (with_reducible refine (HI.out _ HEX.out HRW.out).mono ?_); rintro e w9 ⟨A'',N'',c'',v,rfl,k1,k2,kk,HP9⟩)
       refine postK_intro (ordK_free rfl ?_)
       refine wpOrd_loud rfl rfl rfl ?_
       simp only [List.getElem_toArray,List.getElem_cons_succ,List.getElem_cons_zero]
       go_wp2
       refine postK_intro (ordK_free rfl ?_)
       refine wpOrd_loud rfl rfl rfl ?_
       simp only [List.getElem_toArray,List.getElem_cons_succ,List.getElem_cons_zero]
       go_wp2
       refine postK_intro (ordK_free rfl ?_)
       refine wpOrd_loud rfl rfl rfl ?_
       simp only [List.getElem_toArray,List.getElem_cons_succ,List.getElem_cons_zero]
       go_wp2
       refine postK_intro (ordK_free rfl ?_)
       refine wpOrd_loud rfl rfl rfl ?_
       simp only [List.getElem_toArray,List.getElem_cons_succ,List.getElem_cons_zero]
       go_wp2
       refine postK_intro (ordK_free rfl ?_)
       refine wpOrd_nil ?_
       go_wp2
       go_ret
       exact HP9.out
  ·have HN:=Lib.hid hn
   have hds : decide (x.n < 0)=true∨(decide (x.n < 0)=false∧decide (14 < x.n)=true):=by
    simp only [decide_eq_true_eq,decide_eq_false_iff_not]
    omega
   clear hn
   rcases hds with u0 | ⟨u0,u1⟩
   all_goals
    go_wp2
    go_ret
    exact HFl.out _ (Ext.refl _) (fun hc=>HN.out hc.1)
end Go.Proofs.YtoolenhnhlfhmaaGreatDoor
