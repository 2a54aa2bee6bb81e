/- Walks: the pages that a mark tells of. Walks: the desk's commit. -/
import Derived.Test.YtoolenhnhlfhmaaGreatDoorDkE
import Derived.Test.YtoolenhnhlfhmaaGreatDoorGK
namespace Go.Proofs.YtoolenhnhlfhmaaGreatDoor
open Go.RowKit Go.Sort
set_option linter.unusedVariables false
set_option linter.unusedSimpArgs false
/-- The pages that a mark tells of. -/
def toldF (x : MarkD) (i : Nat) : Int:=64 * x.page + (i : Int)
def tolds (x : MarkD) : List Int:=if 0≤x.page∧x.page < 64 then (places x.mask).map (toldF x) else []
theorem tolds_len (x : MarkD) : (tolds x).length≤64:=by
 unfold tolds
 split
 ·rw [List.length_map]; exact places_len _
 ·simp
theorem intsV_old {l : List Int} {x : Int} {j : Nat} (h : j < l.length * 1) : intsV (l ++ [x]) j=intsV l j:=by unfold intsV; rw [ix_app_lt 0 l x (by omega)]
theorem intsV_new {l : List Int} {x : Int} {j : Nat} (h : j < 1) : intsV (l ++ [x]) (l.length * 1 + j)=.int .i64 x:=by
 obtain rfl : j=0:=by omega
 unfold intsV
 rw [Nat.mul_one,Nat.add_zero,ix_app_end]
def ToldP (x : MarkD) (w : World) (e : Ending) (w' : World) : Prop:=(∃ A c,e=.returned (.slice A (tolds x).length c)∧OwnS w' w.heap.size 3 1 (.slice A (tolds x).length c) (tolds x).length (intsV (tolds x)))∧Ext w w'
set_option maxHeartbeats 2000000 in
set_option maxRecDepth 100000 in
theorem told_any (x : MarkD) (w : World) (hx : MarkOk x) (hT : TabB w) :
  Calls Tryz.prog 85 #[markV x] w (ToldP x w):=by
 obtain ⟨⟨pg0,pg1⟩,_,hmk⟩:=hx
 obtain ⟨i0,hi0,hz0,hzs,hzb⟩:=info_parts Tryz.infoMInt
 have hE0 : Ext w (w.alloc (.cells (markA x) 34)):=(Ext.refl w).alloc _
 have hbx : Blk (w.alloc (.cells (markA x) 34)) w.heap.size 34 (markA x):=Blk.new _ _ _ _ rfl
 have x3:=hbx.cell (i:=3) (v:=.int .i64 x.page) rfl
 have x5:=hbx.cell (i:=5) (v:=.int .u64 (x.mask : Int)) rfl
 have HD:=Lib.hid (And.intro hE0 (And.intro hbx hT))
 clear hE0 hbx hT
 unfold markV
 unfold markA at x3 x5
 by_cases hpg : 0≤x.page∧x.page < 64
 ·obtain ⟨p0,p1⟩:=hpg
  have HL:=Lib.hid (show tolds x=(places x.mask).map (toldF x) from if_pos ⟨p0,p1⟩)
  have e0 : decide (x.page < 0)=false:=decide_eq_false (by omega)
  have e1 : decide (64≤x.page)=false:=decide_eq_false (by omega)
  have hpl:=places_len x.mask
  have HT:=Lib.hid (show TabB (w.alloc (.cells #[.int .i64 x.kind,.int .i64 x.thread,.int .i64 x.entry,.int .i64 x.page,.int .i64 x.n,.int .u64 (x.mask : Int)] 34)) from HD.out.2.2.ext ((Ext.refl w).alloc _))
  go_enter Tryz.func85,Tryz.ntmps85
  go_wp2_with (go_at_call 45; refine (places_any x.mask _ hmk HT.out).mono ?_; rintro e w1 ⟨⟨A,c,rfl,hO1⟩,hE1⟩; have HP:=Lib.hid (And.intro hO1 hE1); clear hO1 hE1)
  have hEw : Ext w w1:=((Ext.refl w).alloc _).trans HP.out.2
  have hbx1 : Blk w1 w.heap.size 34 (markA x):=HD.out.2.1.ext HP.out.2
  have HW:=Lib.hid (And.intro hEw hbx1)
  obtain ⟨N,hN⟩ : ∃ N,(places x.mask).length=N:=⟨_,rfl⟩
  have HN:=Lib.hid hN
  rw [hN] at hpl ⊢
  clear hEw hbx1 hN x3 x5
  go_loopg [2,17] N (fun q out i wr=>∃ (k : Nat) (B : Option Addr) (bc : Nat),k≤N∧q=N - k∧out=.slice B k bc∧i=.int .i64 (k : Int)∧OwnS wr w1.heap.size 3 1 (.slice B k bc) k (intsV (((places x.mask).take k).map (toldF x)))∧Ext w1 wr)
  case atStart=>exact ⟨0,none,0,Nat.zero_le _,rfl,rfl,rfl,OwnS.nil _ _ _ _ _,Ext.refl _⟩
  case round =>
   obtain ⟨k,B,bc,hk,rfl,rfl,rfl,hO,hE⟩:=hrel
   by_cases hlt : k < N
   ·have hlt' : k < (places x.mask).length:=by rw [HN.out]; exact hlt
    obtain ⟨b,off,rfl,hcl⟩:=(own_sl' HP.out.1) (by rw [HN.out]; omega)
    have a0:=hE.cell (hcl (k * 1 + 0) (by rw [HN.out]; omega))
    have hq:=places_lt (ix_mem (d:=0) hlt')
    obtain ⟨p,hp⟩ : ∃ p,ix 0 (places x.mask) k=p:=⟨_,rfl⟩
    have a0' : wr.cell? ⟨b,off + k,none⟩=some (.int .i64 (p : Int)):=by
     rw [← hp]
     have e : k * 1 + 0=k:=by omega
     rw [e] at a0
     exact a0
    rw [hp] at hq
    have hp64:=hq.1
    have x3:=(HW.out.2.ext hE).cell (i:=3) (v:=.int .i64 x.page) rfl
    have q0 : (0 : Int)≤(k : Int):=by omega
    have q1 : (k : Int) < (N : Int):=by omega
    have w1e : IntKind.i64.wrap (64 * x.page)=64 * x.page:=by rw [IntKind.wrap_i64]; omega
    have w2e : IntKind.i64.wrap (64 * x.page + (p : Int))=64 * x.page + (p : Int):=by rw [IntKind.wrap_i64]; omega
    have htk : ((places x.mask).take (k + 1)).map (toldF x)=((places x.mask).take k).map (toldF x) ++ [64 * x.page + (p : Int)]:=by
     rw [List.take_succ_eq_append_getElem hlt',List.map_append,← hp,ix_lt hlt']
     rfl
    have hlk : (((places x.mask).take k).map (toldF x)).length=k:=by simp; omega
    have HR:=Lib.hid (And.intro hO (And.intro hE (And.intro htk hlk)))
    clear hO hE htk hlk hq a0 hcl hp
    go_wp2_with (at_builtin; refine wpList_push rfl _ _ 28 rfl w1.heap.size 3 i0 (.int .i64 0) 1 8 Tryz.underlying28 hi0 hz0 hzs hzb rfl (by decide) _ k (intsV (((places x.mask).take k).map (toldF x))) rfl ?p0 ⟨wr.heap.size,0,none⟩ 1 (fun _=>.int .i64 (64 * x.page + (p : Int))) rfl ?p1 (fun _ _=>rfl) ?p2 ?p3 ?p4 _ rfl (intsV (((places x.mask).take (k + 1)).map (toldF x))) ?p5 ?p6 ?_)
    case p0=>exact HR.out.1.ext ((Ext.refl _).alloc _)
    case p1 =>
     intro j hj
     obtain rfl : j=0:=by omega
     exact cell_newg _ _ _ _ _ _ rfl rfl
    case p2=>unfold maxLen; omega
    case p3=>omega
    case p4=>exact Nat.le_trans HR.out.2.1.size (by simp)
    case p5 =>
     intro j hj
     rw [HR.out.2.2.1]
     exact intsV_old (by rw [HR.out.2.2.2]; exact hj)
    case p6 =>
     intro j hj
     rw [HR.out.2.2.1]
     have:=intsV_new (l:=((places x.mask).take k).map (toldF x)) (x:=64 * x.page + (p : Int)) hj
     rw [HR.out.2.2.2] at this
     exact this
    intro g' cap w2 k1 k2 k3 k4 k5
    have HK:=Lib.hid (And.intro k1 (k3 _ (HR.out.2.1.alloc _) (Nat.le_refl _)))
    clear k1 k2 k3 k4 k5
    go_wp2
    go_roundg (N - (k + 1))
    case measure=>go_light; omega
    case rel=>exact ⟨k + 1,_,_,by omega,rfl,rfl,by go_num,by rw [List.map_take]; exact HK.out.1,HK.out.2⟩
   ·obtain rfl : k=N:=by omega
    have HR:=Lib.hid (And.intro hO hE)
    clear hO hE
    go_wp2
    go_ret
    have e : ((places x.mask).take k)=places x.mask:=List.take_of_length_le (by rw [HN.out]; exact Nat.le_refl _)
    have h1:=HR.out.1
    rw [e,← HL.out] at h1
    have h2 : (tolds x).length=k:=by rw [HL.out,List.length_map]; exact HN.out
    refine ⟨⟨B,bc,by rw [h2]; rfl,?_⟩,HW.out.1.trans HR.out.2⟩
    rw [h2]
    exact h1.mono HW.out.1.size
 ·have HL:=Lib.hid (show tolds x=[] from if_neg hpg)
  have hds : decide (x.page < 0)=true∨(decide (x.page < 0)=false∧decide (64≤x.page)=true):=by
   simp only [decide_eq_true_eq,decide_eq_false_iff_not]
   omega
  clear hpg
  rcases hds with e0 | ⟨e0,e1⟩
  all_goals
   go_enter Tryz.func85,Tryz.ntmps85
   go_wp2
   go_ret
   refine ⟨⟨none,0,by rw [HL.out]; rfl,?_⟩,(Ext.refl _).alloc _⟩
   rw [HL.out]
   exact OwnS.nil _ _ _ _ _
set_option maxHeartbeats 2000000 in
set_option maxRecDepth 100000 in
theorem commit1_any (h : HandD) (b pb : Nat) (t p : Int) (w : World) (hb : w.cell? ⟨b,1,none⟩=some (.int .i64 t)) (hp : w.cell? ⟨pb,0,none⟩=some (.int .i64 p)) (h0 : 0≤h.at_∧0≤h.n∧h.at_ + h.n≤4096) :
  Calls Tryz.prog 86 #[.agg #[.int .i64 h.t,.int .i64 h.at_,.int .i64 h.n],.pointer (some ⟨b,0,none⟩),.pointer (some ⟨pb,0,none⟩)] w fun e w'=>e=.returned (.bool (B (h.t=t∧InP (h.at_,h.n) p)))∧Ext w w':=by
 obtain ⟨h1,h2,h3⟩:=h0
 have y1:=((Ext.refl w).alloc (.cells #[.int .i64 h.t,.int .i64 h.at_,.int .i64 h.n] 56)).cell hb
 have y2:=((Ext.refl w).alloc (.cells #[.int .i64 h.t,.int .i64 h.at_,.int .i64 h.n] 56)).cell hp
 have hcs : ((h.t == t)=false∧¬ (h.t=t∧InP (h.at_,h.n) p))∨((h.t == t)=true∧decide (h.at_≤p)=false∧¬ (h.t=t∧InP (h.at_,h.n) p))∨((h.t == t)=true∧decide (h.at_≤p)=true∧decide (p < h.at_ + h.n)=false∧¬ (h.t=t∧InP (h.at_,h.n) p))∨((h.t == t)=true∧decide (h.at_≤p)=true∧decide (p < h.at_ + h.n)=true∧(h.t=t∧InP (h.at_,h.n) p)):=by
  unfold InP
  simp only [beq_iff_eq,beq_eq_false_iff_ne,ne_eq,decide_eq_true_eq,decide_eq_false_iff_not]
  omega
 clear hb hp
 rcases hcs with ⟨e0,hx⟩ | ⟨e0,e1,hx⟩ | ⟨e0,e1,e2,hx⟩ | ⟨e0,e1,e2,hx⟩
 all_goals
  have HX:=Lib.hid hx
  clear hx
  go_enter Tryz.func86,Tryz.ntmps86
  go_wp2
  go_ret
  exact ⟨ret_bool (by first | exact (B_no HX.out).symm | exact (B_yes HX.out).symm),(Ext.refl _).alloc _⟩
set_option maxHeartbeats 2000000 in
set_option maxRecDepth 100000 in
theorem commit2_any (p : Int) (b : Nat) (A : Option Addr) (l : List Int) (n c : Nat) (hn : n=l.length) (w : World) (hl : l.length≤1000000) (hb : w.cell? ⟨b,0,none⟩=some (.slice A n c)) (hR : SlR w A n 1 (intsV l)) :
  Calls Tryz.prog 90 #[.int .i64 p,.pointer (some ⟨b,0,none⟩)] w fun e w'=>e=.returned (.bool (B (∃ i,i < l.length∧ix 0 l i=p)))∧Ext w w':=by
 subst hn
 have HC:=Lib.hid (containsI_any A l.length c (fun j=>ix 0 l j) p w hl hR)
 clear hR
 go_enter Tryz.func90,Tryz.ntmps90
 go_wp2_with (go_at_call 87; (with_reducible refine HC.out.mono ?_); rintro e w1 ⟨rfl,rfl⟩)
 go_ret
 exact ⟨rfl,Ext.refl _⟩
/-- A page is released, and in a hand of the thread. -/
def ComP (m : ModelD) (x : MarkD) (p : Int) : Prop:=(∃ i,i < m.gone.length∧ix 0 m.gone i=p)∧∃ j,j < m.hands.length∧((ix noHand m.hands j).t=x.thread∧InP ((ix noHand m.hands j).at_,(ix noHand m.hands j).n) p)
def CommitC (m : ModelD) (x : MarkD) : Prop:=(∀ i,i < (tolds x).length→ComP m x (ix 0 (tolds x) i))∧0 < (tolds x).length
def ToldOf (x : MarkD) (p : Int) : Prop:=∃ i,i < (tolds x).length∧ix 0 (tolds x) i=p
def CommitP (m : ModelD) (d base : Nat) (F H S G : Value) (x : MarkD) (w : World) (e : Ending) (w' : World) : Prop :=
 KeepD base d w w'∧w.heap.size≤w'.heap.size∧((e=.returned (.bool false)∧¬ CommitC m x∧∃ G',DeskR w' d base m F H S G') ∨
  (e=.returned (.bool true)∧CommitC m x∧∃ G',DeskR w' d base { m with gone:=stayL (ToldOf x) m.gone } F H S G'))
set_option maxHeartbeats 4000000 in
set_option maxRecDepth 100000 in
theorem commit_any (m : ModelD) (d base : Nat) (F H S G : Value) (x : MarkD) (w : World) (hl : m.hands.length≤900000∧m.gone.length≤900000) (hx : MarkOk x)
  (hh : ∀ i,i < m.hands.length→0≤(ix noHand m.hands i).at_∧1≤(ix noHand m.hands i).n∧(ix noHand m.hands i).at_ + (ix noHand m.hands i).n≤4096)
  (hT : TabB w) (hbase : base≤w.heap.size) (hD : DeskR w d base m F H S G) :
  Calls Tryz.prog 57 #[.pointer (some ⟨d,0,none⟩),markV x] w (CommitP m d base F H S G x w):=by
 obtain ⟨HA,hc,rfl,hhc⟩:=hD.own.hands.ofSlice
 obtain ⟨GA,gc,rfl,hgc⟩:=hD.own.gone.ofSlice
 obtain ⟨l1,l2⟩:=hl
 have htl:=tolds_len x
 have hdlt:=hD.blk.lt
 have hbx : Blk (w.alloc (.cells (markA x) 34)) w.heap.size 34 (markA x):=Blk.new _ _ _ _ rfl
 have htold:=told_any x (w.alloc (.cells (markA x) 34)) hx (hT.ext ((Ext.refl w).alloc _))
 have HD:=Lib.hid (And.intro hD (And.intro hh (And.intro hbx (show Ext w (w.alloc (.cells (markA x) 34)) from (Ext.refl w).alloc _))))
 have HTd:=Lib.hid htold
 clear hD hh hT hbx htold
 unfold markV at HTd ⊢
 unfold markA at HTd
 go_enter Tryz.func57,Tryz.ntmps57
 go_wp2_with (go_at_call 85; (with_reducible refine HTd.out.mono ?_); rintro e w1 ⟨⟨A,c,rfl,hO1⟩,hE1⟩; have HP:=Lib.hid (And.intro hO1 hE1); clear hO1 hE1)
 obtain ⟨L,hL⟩ : ∃ L,L=tolds x:=⟨_,rfl⟩
 have HL:=Lib.hid hL
 rw [← hL] at HP htl ⊢
 obtain ⟨W1,hW1⟩ : ∃ W1,W1=w1.alloc (.cells #[.slice A L.length c] 28):=⟨_,rfl⟩
 have hE1 : Ext w1 W1:=hW1▸(Ext.refl w1).alloc _
 have hlb : Blk W1 w1.heap.size 28 #[.slice A L.length c]:=hW1▸Blk.new _ _ _ _ rfl
 rw [← hW1]
 have hEx0 : Ext (w.alloc (.cells #[.int .i64 x.kind,.int .i64 x.thread,.int .i64 x.entry,.int .i64 x.page,.int .i64 x.n,.int .u64 (x.mask : Int)] 34)) w1:=HP.out.2
 have hEw : Ext w W1:=(((Ext.refl w).alloc _).trans hEx0).trans hE1
 have hbx1 : Blk W1 w.heap.size 34 #[.int .i64 x.kind,.int .i64 x.thread,.int .i64 x.entry,.int .i64 x.page,.int .i64 x.n,.int .u64 (x.mask : Int)]:=((HD.out.2.2.1 : Blk _ _ _ #[.int .i64 x.kind,.int .i64 x.thread,.int .i64 x.entry,.int .i64 x.page,.int .i64 x.n,.int .u64 (x.mask : Int)]).ext hEx0).ext hE1
 have hO1 : OwnS W1 (w.heap.size + 1) 3 1 (.slice A L.length c) L.length (intsV L):=(HP.out.1.ext hE1).mono (by simp)
 have hlbs : w.heap.size < w1.heap.size:=by have:=hEx0.size; simp at this; omega
 have HW:=Lib.hid (And.intro hEw (And.intro hbx1 (And.intro hlb (And.intro hO1 (HD.out.1.ext hEw)))))
 clear hW1 hE1 hlb hEx0 hEw hbx1 hO1 hL
 go_loopg [13] L.length (fun q i wr=>∃ k : Nat,k≤L.length∧q=L.length - k∧i=.int .i64 (k : Int)∧Ext W1 wr∧∀ j,j < k→ComP m x (ix 0 L j))
 case atStart=>exact ⟨0,Nat.zero_le _,rfl,rfl,Ext.refl _,fun j hj=>absurd hj (by omega)⟩
 case round =>
  obtain ⟨k,hk,rfl,rfl,hE,hyes⟩:=hrel
  by_cases hlt : k < L.length
  ·obtain ⟨b,off,rfl,hcl⟩:=(own_sl' HW.out.2.2.2.1) (by omega)
   have a0:=hE.cell (hcl (k * 1 + 0) (by omega))
   obtain ⟨p,hp⟩ : ∃ p,ix 0 L k=p:=⟨_,rfl⟩
   have a0' : wr.cell? ⟨b,off + k,none⟩=some (.int .i64 p):=by
    rw [← hp]
    have e : k * 1 + 0=k:=by omega
    rw [e] at a0
    exact a0
   have q0 : (0 : Int)≤(k : Int):=by omega
   have q1 : (k : Int) < (L.length : Int):=by omega
   obtain ⟨W2,hW2⟩ : ∃ W2,W2=wr.alloc (.cells #[.int .i64 p] 3):=⟨_,rfl⟩
   have hE2 : Ext wr W2:=hW2▸(Ext.refl wr).alloc _
   have hpb : Blk W2 wr.heap.size 3 #[.int .i64 p]:=hW2▸Blk.new _ _ _ _ rfl
   have HW2:=Lib.hid hW2
   have hE02 : Ext W1 W2:=hE.trans hE2
   have hD2:=HW.out.2.2.2.2.ext hE02
   have hx2:=HW.out.2.1.ext hE02
   have x2:=fun d' os=>cell_regrown (hD2.blk.cell (i:=2) (v:=.slice HA m.hands.length hc) rfl) d' os
   have x4:=fun d' os=>cell_regrown (hD2.blk.cell (i:=4) (v:=.slice GA m.gone.length gc) rfl) d' os
   have x0:=fun d' os=>cell_regrown (hpb.cell (i:=0) (v:=.int .i64 p) rfl) d' os
   have hc1 : ∀ W,Ext W2 W→Calls Tryz.prog 87 #[.slice GA m.gone.length gc,.int .i64 p] W fun e w'=>e=.returned (.bool (B (∃ i,i < m.gone.length∧ix 0 m.gone i=p)))∧Ext W w':=fun W hEW =>
    (containsI_any GA m.gone.length gc (fun j=>ix 0 m.gone j) p W (by omega) (own_sl' (hD2.ext hEW).own.gone)).mono fun e w' ⟨h1,h2⟩=>⟨h1,h2▸Ext.refl _⟩
   have hc2 : ∀ W,Ext W2 W→Calls Tryz.prog 88 #[.slice HA m.hands.length hc,.func (.func 86) #[] #[.pointer (some ⟨w.heap.size,0,none⟩),.pointer (some ⟨wr.heap.size,0,none⟩)]] W fun e w'=>e=.returned (.bool (B (∃ j,j < m.hands.length∧((ix noHand m.hands j).t=x.thread∧InP ((ix noHand m.hands j).at_,(ix noHand m.hands j).n) p))))∧Ext W w':=fun W hEW =>
    containsHand_any HA m.hands hc 86 #[.pointer (some ⟨w.heap.size,0,none⟩),.pointer (some ⟨wr.heap.size,0,none⟩)] (fun j=>(ix noHand m.hands j).t=x.thread∧InP ((ix noHand m.hands j).at_,(ix noHand m.hands j).n) p) W (by omega) (fun _ _=>rfl) (own_sl' (hD2.ext hEW).own.hands) (fun j hj w' hw' =>
     commit1_any _ w.heap.size wr.heap.size x.thread p w' (((hx2.ext hEW).ext hw').cell (i:=1) rfl) (((hpb.ext hEW).ext hw').cell (i:=0) rfl) (by have:=HD.out.2.1 j hj; omega))
   have HR:=Lib.hid (And.intro hE (And.intro hyes (And.intro hp (And.intro hE02 hD2))))
   have hfalse : ∀ W,Ext W2 W→¬ ComP m x p→CommitP m d base F (.slice HA m.hands.length hc) S (.slice GA m.gone.length gc) x w (.returned (.bool false)) W:=fun W hEW hno =>
    ⟨KeepD.ext ((HW.out.1.trans hE02).trans hEW),((HW.out.1.trans hE02).trans hEW).size,.inl ⟨rfl,fun hc=>hno (by have:=hc.1 k (by rw [← HL.out]; exact hlt); rw [← HL.out,hp] at this; exact this),_,hD2.ext hEW⟩⟩
   have HFl:=Lib.hid hfalse
   by_cases hg1 : ∃ i,i < m.gone.length∧ix 0 m.gone i=p
   ·rw [B_yes hg1] at hc1
    by_cases hg2 : ∃ j,j < m.hands.length∧((ix noHand m.hands j).t=x.thread∧InP ((ix noHand m.hands j).at_,(ix noHand m.hands j).n) p)
    ·rw [B_yes hg2] at hc2
     have HC1:=Lib.hid hc1
     have HC2:=Lib.hid hc2
     have HY:=Lib.hid (show ComP m x p from ⟨hg1,hg2⟩)
     clear hg1 hg2 hc1 hc2 hfalse hE hyes hp hE02 hD2 hx2 hpb hE2 hW2 a0 hcl
     go_wp2
     rw [← HW2.out]
     refine wp_region_quiet_below (by kernel_rfl) (by kernel_rfl) ?_
     repeat (go_big_quiet_step (first
      |(go_at_call 87; exact Calls.regrown_of (HC1.out _ (below_regrown _ _ _)))
      |(go_at_call 88; exact Calls.regrown_of (HC2.out _ (below_regrown _ _ _)))))
     refine wpQuiet_nil ?_
     intro _ hw'
     obtain ⟨⟨dq,osq⟩,hw''⟩:=hw'
     subst hw''
     have HE3:=Lib.hid (show Ext W2 (grow (redrawn W2 dq) osq) from below_regrown _ _ _)
     go_wp2
     go_roundg (L.length - (k + 1))
     case measure=>go_light; omega
     case rel =>
      refine ⟨k + 1,by omega,rfl,by go_num,HR.out.2.2.2.1.trans HE3.out,fun j hj=>?_⟩
      by_cases e : j=k
      ·rw [e,HR.out.2.2.1]; exact HY.out
      ·exact HR.out.2.1 j (by omega)
    ·rw [B_no hg2] at hc2
     have HC1:=Lib.hid hc1
     have HC2:=Lib.hid hc2
     have HY:=Lib.hid (show ¬ ComP m x p from fun h=>hg2 h.2)
     clear hg1 hg2 hc1 hc2 hfalse hE hyes hp hE02 hD2 hx2 hpb hE2 hW2 a0 hcl
     go_wp2
     rw [← HW2.out]
     refine wp_region_quiet_below (by kernel_rfl) (by kernel_rfl) ?_
     repeat (go_big_quiet_step (first
      |(go_at_call 87; exact Calls.regrown_of (HC1.out _ (below_regrown _ _ _)))
      |(go_at_call 88; exact Calls.regrown_of (HC2.out _ (below_regrown _ _ _)))))
     refine wpQuiet_nil ?_
     intro _ hw'
     obtain ⟨⟨dq,osq⟩,hw''⟩:=hw'
     subst hw''
     have HE3:=Lib.hid (show Ext W2 (grow (redrawn W2 dq) osq) from below_regrown _ _ _)
     go_wp2
     go_ret
     exact HFl.out _ HE3.out HY.out
   ·rw [B_no hg1] at hc1
    have HC1:=Lib.hid hc1
    have HC2:=Lib.hid hc2
    have HY:=Lib.hid (show ¬ ComP m x p from fun h=>hg1 h.1)
    clear hg1 hc1 hc2 hfalse hE hyes hp hE02 hD2 hx2 hpb hE2 hW2 a0 hcl
    go_wp2
    rw [← HW2.out]
    refine wp_region_quiet_below (by kernel_rfl) (by kernel_rfl) ?_
    repeat (go_big_quiet_step ((go_at_call 87; exact Calls.regrown_of (HC1.out _ (below_regrown _ _ _)))))
    refine wpQuiet_nil ?_
    intro _ hw'
    obtain ⟨⟨dq,osq⟩,hw''⟩:=hw'
    subst hw''
    have HE3:=Lib.hid (show Ext W2 (grow (redrawn W2 dq) osq) from below_regrown _ _ _)
    go_wp2
    go_ret
    exact HFl.out _ HE3.out HY.out
  ·obtain rfl : k=L.length:=by omega
   have hEr : Ext w wr:=HW.out.1.trans hE
   have hDr:=HW.out.2.2.2.2.ext hE
   have hbr:=HW.out.2.2.1.ext hE
   have hOr:=HW.out.2.2.2.1.ext hE
   have hgo : (Value.slice GA m.gone.length gc).ownBlock=GA.map (·.block):=by cases GA <;> rfl
   have hgl : ∀ g,some g=GA.map (·.block)→g < w.heap.size:=fun g hg=>(World.ownsRow.lt HD.out.1.own.gone g (hgo.trans hg.symm)).2
   have hdel : Calls Tryz.prog 89 #[.slice GA m.gone.length gc,.func (.func 90) #[] #[.pointer (some ⟨w1.heap.size,0,none⟩)]] wr fun e w'=>∃ A' N c' v,e=.returned (.slice A' N c')∧w'.cell? ⟨d,4,none⟩=some v∧w'.frozen? ⟨d,4,none⟩=false ∧
     Hid (DeskR (w'.setCell ⟨d,4,none⟩ (.slice A' N c')) d base { m with gone:=stayL (ToldOf x) m.gone } F (.slice HA m.hands.length hc) S (.slice A' N c')∧Blk (w'.setCell ⟨d,4,none⟩ (.slice A' N c')) w1.heap.size 28 #[.slice A L.length c]∧KeepD base d w (w'.setCell ⟨d,4,none⟩ (.slice A' N c'))∧w.heap.size≤(w'.setCell ⟨d,4,none⟩ (.slice A' N c')).heap.size):=by
    refine (delInt_any base _ gc GA m.gone rfl 90 #[.pointer (some ⟨w1.heap.size,0,none⟩)] (ToldOf x) (fun W=>Blk W w1.heap.size 28 #[.slice A L.length c]∧OwnS W (w.heap.size + 1) 3 1 (.slice A L.length c) L.length (intsV L)) wr (by omega) (fun _ _=>rfl) ⟨hbr,hOr⟩ (fun a b h k=>⟨k.1.ext h,k.2.ext h⟩) (fun a b h k=>⟨k.1.grown h (fun e=>by have:=hgl _ e; omega),k.2.grown h (by cases A with
     | none=>exact .inl rfl
     | some g=>exact .inr fun e=>by have:=hgl _ e; have:=(World.ownsRow.lt HW.out.2.2.2.1 g.block rfl).1; omega)⟩) (fun y w' hw'=>?_) hDr.own.gone).mono fun e w' ⟨he,hO,hg,hx2⟩=>?_
    ·exact (commit2_any y w1.heap.size A L L.length c rfl w' (by omega) (hw'.1.cell (i:=0) rfl) (own_sl' hw'.2)).mono fun e w' ⟨h1,h2⟩=>⟨by rw [h1]; unfold ToldOf; rw [← HL.out],h2⟩
    ·have hb2:=hDr.blk.grown hg (Ne.symm (hgo▸hDr.nes.2.2.2))
     exact ⟨_,_,_,_,he,hb2.cell (i:=4) rfl,hb2.frozen 4,Lib.hid ⟨hDr.setGone (hgo.symm▸hg) _ hO,hx2.1.far (by show w1.heap.size≠d; omega) _,((KeepD.ext hEr).trans (KeepD.grown hDr.own.gone (hgo.symm▸hg))).trans (KeepD.set _ _),by simpa using Nat.le_trans hEr.size hg.size⟩⟩
   have HDl:=Lib.hid hdel
   have d4:=hDr.blk.cell (i:=4) (v:=.slice GA m.gone.length gc) rfl
   have HY:=Lib.hid (And.intro hyes hEr)
   have HDr:=Lib.hid hDr
   clear hdel hyes hEr hDr hbr hOr hgl hgo hE
   go_upto_region 10 with (go_at_call 89; (with_reducible refine HDl.out.mono ?_); rintro e w2 ⟨A',N,c',v,rfl,k1,k2,HF⟩)
   obtain ⟨W2,hW2⟩ : ∃ W2,W2=w2.setCell ⟨d,4,none⟩ (.slice A' N c'):=⟨_,rfl⟩
   have HF2:=HF.out
   rw [← hW2] at HF2
   rw [← hW2]
   obtain ⟨hD2,hx2,hK2,hz2⟩:=HF2
   clear hW2 k1 k2 HF
   have y0:=hx2.cell (i:=0) (v:=.slice A L.length c) rfl
   have HZ:=Lib.hid (And.intro hD2 (And.intro hK2 hz2))
   clear hD2 hK2 hz2
   go_wp2
   go_ret
   refine ⟨HZ.out.2.1,HZ.out.2.2,?_⟩
   by_cases h0 : 0 < L.length
   ·refine .inr ⟨?_,⟨fun i hi=>?_,by rw [← HL.out]; exact h0⟩,_,HZ.out.1⟩
    ·show Ending.returned (Value.bool (decide (0 < L.length)))=_
     rw [decide_eq_true h0]
    ·have:=HY.out.1 i (by rw [HL.out]; exact hi)
     rw [HL.out] at this
     exact this
   ·refine .inl ⟨?_,fun hc=>h0 (by rw [HL.out]; exact hc.2),.slice A' N c',?_⟩
    ·show Ending.returned (Value.bool (decide (0 < L.length)))=_
     rw [decide_eq_false h0]
    ·have hno : stayL (ToldOf x) m.gone=m.gone:=stayL_all (d:=(0 : Int)) fun j _ h=>by
      obtain ⟨i,hi,_⟩:=h
      rw [HL.out] at h0
      omega
     have:=HZ.out.1
     rw [hno] at this
     exact this
end Go.Proofs.YtoolenhnhlfhmaaGreatDoor
