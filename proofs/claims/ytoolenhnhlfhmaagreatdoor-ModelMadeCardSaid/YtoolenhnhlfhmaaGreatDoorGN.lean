/- Walks: room in a span; has. Walks: has. -/
import Derived.Test.YtoolenhnhlfhmaaGreatDoorDkL
namespace Go.Proofs.YtoolenhnhlfhmaaGreatDoor
open Go.RowKit Go.Sort
set_option linter.unusedVariables false
set_option linter.unusedSimpArgs false
/-- The slots that may be had. -/
noncomputable def roomA (h : HoldD) : Int:=bits .andNot .u64 ((2 ^ slN h.cls - 1 : Nat) : Int) (h.alloc : Int)
noncomputable def roomB (h : HoldD) : Int:=bits .or .u64 (roomA h) (bits .andNot .u64 (h.alloc : Int) (h.marks : Int))
def RoomP (h : HoldD) : Prop:=(if h.swept then roomA h else roomB h)≠0
set_option maxHeartbeats 2000000 in
set_option maxRecDepth 100000 in
theorem room_any (h : HoldD) (w : World) (hT : Tab w) : Calls Tryz.prog 76 #[holdV h] w fun e w'=>e=.returned (.bool (B (RoomP h)))∧Ext w w':=by
 obtain ⟨W0,hW0⟩ : ∃ W0,W0=w.alloc (.cells #[.int .i64 h.page,.int .i64 h.pages,.int .i64 h.cls,.int .i64 h.holder,.int .i64 h.claim,.bool h.swept,.int .u64 (h.alloc : Int),.int .u64 (h.marks : Int)] 51):=⟨_,rfl⟩
 have hE0 : Ext w W0:=hW0▸(Ext.refl w).alloc _
 have hbx : Blk W0 w.heap.size 51 #[.int .i64 h.page,.int .i64 h.pages,.int .i64 h.cls,.int .i64 h.holder,.int .i64 h.claim,.bool h.swept,.int .u64 (h.alloc : Int),.int .u64 (h.marks : Int)]:=hW0▸Blk.new _ _ _ _ rfl
 have HA : Hid (∀ W,Ext W0 W→Calls Tryz.prog 112 #[.int .i64 h.cls] W fun e w'=>e=.returned (.int .u64 ((2 ^ slN h.cls - 1 : Nat) : Int))∧Ext W w'):=Lib.hid fun W hE=>allM_any _ _ (hT.ext (hE0.trans hE))
 have x2:=hbx.cell (i:=2) (v:=.int .i64 h.cls) rfl
 have x5:=hbx.cell (i:=5) (v:=.bool h.swept) rfl
 have x6:=hbx.cell (i:=6) (v:=.int .u64 (h.alloc : Int)) rfl
 have x7:=hbx.cell (i:=7) (v:=.int .u64 (h.marks : Int)) rfl
 have y2:=fun d os=>cell_regrown x2 d os
 have y6:=fun d os=>cell_regrown x6 d os
 have HE0:=Lib.hid hE0
 have hcs : (h.swept=true∧∃ z,(2 ^ slN h.cls - 1 : Nat)=z∧(bits .andNot .u64 ((z : Nat) : Int) (h.alloc : Int) != 0)=B (RoomP h))∨(h.swept=false∧∃ z,(2 ^ slN h.cls - 1 : Nat)=z∧(bits .or .u64 (bits .andNot .u64 ((z : Nat) : Int) (h.alloc : Int)) (bits .andNot .u64 (h.alloc : Int) (h.marks : Int)) != 0)=B (RoomP h)):=by
  unfold RoomP
  cases e : h.swept
  ·refine .inr ⟨rfl,_,rfl,?_⟩
   simp only [Bool.false_eq_true,if_false]
   unfold roomB roomA
   by_cases q : bits .or .u64 (bits .andNot .u64 ((2 ^ slN h.cls - 1 : Nat) : Int) (h.alloc : Int)) (bits .andNot .u64 (h.alloc : Int) (h.marks : Int))=0
   ·rw [B_no (not_not_intro q)]; simpa using q
   ·rw [B_yes q]; simpa using q
  ·refine .inl ⟨rfl,_,rfl,?_⟩
   simp only [if_true]
   unfold roomA
   by_cases q : bits .andNot .u64 ((2 ^ slN h.cls - 1 : Nat) : Int) (h.alloc : Int)=0
   ·rw [B_no (not_not_intro q)]; simpa using q
   ·rw [B_yes q]; simpa using q
 unfold holdV
 rcases hcs with ⟨e1,z,hz,hv⟩ | ⟨e1,z,hz,hv⟩
 all_goals
  rw [hz] at HA
  rw [e1] at x5 hW0 ⊢
  have HV:=Lib.hid hv
  have HW0:=Lib.hid hW0
  clear hv hbx hz hE0 hW0
  go_enter Tryz.func76,Tryz.ntmps76
  go_upto_region 1 with fail
  rw [← HW0.out]
  refine wp_region_quiet_below (by kernel_rfl) (by kernel_rfl) ?_
  repeat (go_big_quiet_step ((go_at_call 112; exact Calls.regrown_of (HA.out _ (below_regrown _ _ _)))))
  refine wpQuiet_nil ?_
  intro _ hw'
  obtain ⟨⟨dq,osq⟩,hw''⟩:=hw'
  subst hw''
  have hE3 : Ext W0 (grow (redrawn W0 dq) osq):=below_regrown W0 dq osq
  generalize grow (redrawn W0 dq) osq=W3 at hE3 ⊢
  have d5:=Ext.cell hE3 x5
  have d6:=Ext.cell hE3 x6
  have d7:=Ext.cell hE3 x7
  have HE3:=Lib.hid hE3
  clear hE3 x2 x5 x6 x7 y2 y6
  go_wp2
  go_ret
  rw [← HV.out]
  exact ⟨rfl,HE0.out.trans HE3.out⟩
/-- A span that a thread may have a slot of. -/
def HasS (c t n : Int) (h : HoldD) : Prop:=h.cls=c∧MineP h t∧RoomP h∧(c≠14∨n≤h.pages)
set_option maxHeartbeats 4000000 in
set_option maxRecDepth 100000 in
theorem has1_any (h : HoldD) (cb tb nb : Nat) (c t n : Int) (w : World) (hT : Tab w) (hc : w.cell? ⟨cb,0,none⟩=some (.int .i64 c)) (ht : w.cell? ⟨tb,0,none⟩=some (.int .i64 t)) (hn : w.cell? ⟨nb,0,none⟩=some (.int .i64 n)) :
  Calls Tryz.prog 74 #[holdV h,.pointer (some ⟨cb,0,none⟩),.pointer (some ⟨tb,0,none⟩),.pointer (some ⟨nb,0,none⟩)] w fun e w'=>e=.returned (.bool (B (HasS c t n h)))∧Ext w w':=by
 have hE0 : Ext w (w.alloc (.cells #[.int .i64 h.page,.int .i64 h.pages,.int .i64 h.cls,.int .i64 h.holder,.int .i64 h.claim,.bool h.swept,.int .u64 (h.alloc : Int),.int .u64 (h.marks : Int)] 51)):=(Ext.refl w).alloc _
 have HM : Hid (∀ W,Calls Tryz.prog 75 #[holdV h,.int .i64 t] W fun e w'=>e=.returned (.bool (B (MineP h t)))∧Ext W w'):=Lib.hid fun W=>mine_any h t W
 have HR : Hid (∀ W,Ext w W→Calls Tryz.prog 76 #[holdV h] W fun e w'=>e=.returned (.bool (B (RoomP h)))∧Ext W w'):=Lib.hid fun W hE=>room_any h W (hT.ext hE)
 have x0:=hE0.cell hc
 have x1:=hE0.cell ht
 have x2:=hE0.cell hn
 have hbx : Blk (w.alloc (.cells #[.int .i64 h.page,.int .i64 h.pages,.int .i64 h.cls,.int .i64 h.holder,.int .i64 h.claim,.bool h.swept,.int .u64 (h.alloc : Int),.int .u64 (h.marks : Int)] 51)) w.heap.size 51 #[.int .i64 h.page,.int .i64 h.pages,.int .i64 h.cls,.int .i64 h.holder,.int .i64 h.claim,.bool h.swept,.int .u64 (h.alloc : Int),.int .u64 (h.marks : Int)]:=Blk.new _ _ _ _ rfl
 have HE0:=Lib.hid hE0
 clear hc ht hn hE0 hT
 have hcs : ((h.cls == c)=false∧¬ HasS c t n h)∨((h.cls == c)=true∧B (MineP h t)=false∧¬ HasS c t n h)∨((h.cls == c)=true∧B (MineP h t)=true∧B (RoomP h)=false∧¬ HasS c t n h) ∨
   ((h.cls == c)=true∧B (MineP h t)=true∧B (RoomP h)=true∧(c != 14)=true∧HasS c t n h) ∨
   ((h.cls == c)=true∧B (MineP h t)=true∧B (RoomP h)=true∧(c != 14)=false∧decide (n≤h.pages)=true∧HasS c t n h) ∨
   ((h.cls == c)=true∧B (MineP h t)=true∧B (RoomP h)=true∧(c != 14)=false∧decide (n≤h.pages)=false∧¬ HasS c t n h):=by
  unfold HasS
  simp only [beq_iff_eq,beq_eq_false_iff_ne,ne_eq,bne_iff_ne,bne_eq_false_iff_eq,decide_eq_true_eq,decide_eq_false_iff_not]
  by_cases q0 : h.cls=c
  rotate_left
  ·exact .inl ⟨q0,fun k=>q0 k.1⟩
  refine .inr ?_
  by_cases q1 : MineP h t
  rotate_left
  ·exact .inl ⟨q0,B_no q1,fun k=>q1 k.2.1⟩
  refine .inr ?_
  by_cases q2 : RoomP h
  rotate_left
  ·exact .inl ⟨q0,B_yes q1,B_no q2,fun k=>q2 k.2.2.1⟩
  refine .inr ?_
  by_cases q3 : c=14
  rotate_left
  ·exact .inl ⟨q0,B_yes q1,B_yes q2,q3,q0,q1,q2,.inl q3⟩
  refine .inr ?_
  by_cases q4 : n≤h.pages
  ·exact .inl ⟨q0,B_yes q1,B_yes q2,q3,q4,q0,q1,q2,.inr q4⟩
  ·exact .inr ⟨q0,B_yes q1,B_yes q2,q3,q4,fun k=>k.2.2.2.elim (fun z=>z q3) q4⟩
 unfold holdV at HM HR ⊢
 rcases hcs with ⟨e0,hx⟩ | ⟨e0,e1,hx⟩ | ⟨e0,e1,e2,hx⟩ | ⟨e0,e1,e2,e3,hx⟩ | ⟨e0,e1,e2,e3,e4,hx⟩ | ⟨e0,e1,e2,e3,e4,hx⟩
 all_goals
  first
   | rw [e1] at HM
   | skip
  first
   | rw [e2] at HR
   | skip
  have HX:=Lib.hid hx
  clear hx
  go_enter Tryz.func74,Tryz.ntmps74
  go_wp2_with (first
   |(go_at_call 75; (with_reducible refine (HM.out _).mono ?_); rintro e w1 ⟨rfl,hE1⟩; have z0:=hE1.cell x0; have z1:=hE1.cell x1; have z2:=hE1.cell x2; have hbx1:=hbx.ext hE1; obtain ⟨b0,b1,b2,b3,b4,b5,b6,b7⟩:=Blk.c8 hbx1; have HE1:=Lib.hid hE1; clear hE1)
   |(go_at_call 76; (with_reducible refine (HR.out _ (HE0.out.trans HE1.out)).mono ?_); rintro e w2 ⟨rfl,hE2⟩; have u0:=hE2.cell z0; have u1:=hE2.cell z1; have u2:=hE2.cell z2; have u3:=(hbx1.ext hE2).cell (i:=1) (v:=.int .i64 h.pages) rfl; have HE2:=Lib.hid hE2; clear hE2))
  go_ret
  first
   | exact ⟨ret_bool (by first | exact (B_no HX.out).symm | exact (B_yes HX.out).symm),HE0.out⟩
   | exact ⟨ret_bool (by first | exact (B_no HX.out).symm | exact (B_yes HX.out).symm),HE0.out.trans HE1.out⟩
   | exact ⟨ret_bool (by first | exact (B_no HX.out).symm | exact (B_yes HX.out).symm),(HE0.out.trans HE1.out).trans HE2.out⟩
/-- A thread may have a slot of a class, or pages. -/
def HasP (m : ModelD) (t c n : Int) : Prop:=(∃ i,i < m.free.length∧(1≤n∧n≤(ix noRun m.free i).n))∨∃ j,j < m.spans.length∧HasS c t n (ix noHold m.spans j)
set_option maxHeartbeats 4000000 in
set_option maxRecDepth 100000 in
theorem has_any (m : ModelD) (F H S G : Option Addr) (fc hc sc gc : Nat) (t c n : Int) (w : World) (hT : Tab w) (hl : m.free.length≤1000000∧m.spans.length≤1000000) (hF : SlR w F m.free.length 2 (runV m.free)) (hS : SlR w S m.spans.length 8 (holdsV m.spans)) :
  Calls Tryz.prog 43 #[modelV m F H S G fc hc sc gc,.int .i64 t,.int .i64 c,.int .i64 n] w fun e w'=>e=.returned (.bool (B (HasP m t c n)))∧Ext w w':=by
 obtain ⟨Wa,hWa⟩ : ∃ Wa,Wa=w.alloc (.cells #[.int .i64 m.pages,.slice F m.free.length fc,.slice H m.hands.length hc,.slice S m.spans.length sc,.slice G m.gone.length gc] 30):=⟨_,rfl⟩
 obtain ⟨Wb,hWb⟩ : ∃ Wb,Wb=Wa.alloc (.cells #[.int .i64 t] 3):=⟨_,rfl⟩
 obtain ⟨Wc,hWc⟩ : ∃ Wc,Wc=Wb.alloc (.cells #[.int .i64 c] 3):=⟨_,rfl⟩
 obtain ⟨W0,hW0⟩ : ∃ W0,W0=Wc.alloc (.cells #[.int .i64 n] 3):=⟨_,rfl⟩
 have ea : Ext w Wa:=hWa▸(Ext.refl w).alloc _
 have eb : Ext Wa Wb:=hWb▸(Ext.refl Wa).alloc _
 have ec : Ext Wb Wc:=hWc▸(Ext.refl Wb).alloc _
 have ed : Ext Wc W0:=hW0▸(Ext.refl Wc).alloc _
 have ba : Blk W0 w.heap.size 30 #[.int .i64 m.pages,.slice F m.free.length fc,.slice H m.hands.length hc,.slice S m.spans.length sc,.slice G m.gone.length gc]:=((hWa▸Blk.new _ _ _ _ rfl : Blk Wa w.heap.size _ _).ext eb |>.ext ec |>.ext ed)
 have sa : Wa.heap.size=w.heap.size + 1:=by rw [hWa]; exact World.size_alloc _ _
 have sb : Wb.heap.size=w.heap.size + 2:=by rw [hWb,World.size_alloc,sa]
 have sc' : Wc.heap.size=w.heap.size + 3:=by rw [hWc,World.size_alloc,sb]
 have s0 : W0.heap.size=w.heap.size + 4:=by rw [hW0,World.size_alloc,sc']
 have bb : Blk W0 (w.heap.size + 1) 3 #[.int .i64 t]:=sa▸((hWb▸Blk.new _ _ _ _ rfl : Blk Wb Wa.heap.size _ _).ext ec |>.ext ed)
 have bc : Blk W0 (w.heap.size + 2) 3 #[.int .i64 c]:=sb▸((hWc▸Blk.new _ _ _ _ rfl : Blk Wc Wb.heap.size _ _).ext ed)
 have bd : Blk W0 (w.heap.size + 3) 3 #[.int .i64 n]:=sc'▸(hW0▸Blk.new _ _ _ _ rfl : Blk W0 Wc.heap.size _ _)
 have e0 : Ext w W0:=((ea.trans eb).trans ec).trans ed
 have HC : Hid (∀ W,Ext W0 W→Calls Tryz.prog 73 #[.slice S m.spans.length sc,.func (.func 74) #[] #[.pointer (some ⟨w.heap.size + 2,0,none⟩),.pointer (some ⟨w.heap.size + 1,0,none⟩),.pointer (some ⟨w.heap.size + 3,0,none⟩)]] W fun e w'=>e=.returned (.bool (B (∃ j,j < m.spans.length∧HasS c t n (ix noHold m.spans j))))∧Ext W w'):=Lib.hid fun W hE =>
  containsHold_any S m.spans sc 74 #[.pointer (some ⟨w.heap.size + 2,0,none⟩),.pointer (some ⟨w.heap.size + 1,0,none⟩),.pointer (some ⟨w.heap.size + 3,0,none⟩)] (fun j=>HasS c t n (ix noHold m.spans j)) W hl.2 (fun _ _=>rfl) (hS.ext (e0.trans hE)) (fun j hj w' hw' =>
   has1_any _ _ _ _ c t n w' (hT.ext ((e0.trans hE).trans hw')) (((bc.ext hE).ext hw').cell (i:=0) rfl) (((bb.ext hE).ext hw').cell (i:=0) rfl) (((bd.ext hE).ext hw').cell (i:=0) rfl))
 have x1:=ba.cell (i:=1) (v:=.slice F m.free.length fc) rfl
 have l1:=hl.1
 have HW : Hid (Ext w W0∧Blk W0 w.heap.size 30 #[.int .i64 m.pages,.slice F m.free.length fc,.slice H m.hands.length hc,.slice S m.spans.length sc,.slice G m.gone.length gc]∧Blk W0 (w.heap.size + 3) 3 #[.int .i64 n]∧SlR W0 F m.free.length 2 (runV m.free)):=Lib.hid ⟨e0,ba,bd,hF.ext e0⟩
 have HE : Hid (W0=(((w.alloc (.cells #[.int .i64 m.pages,.slice F m.free.length fc,.slice H m.hands.length hc,.slice S m.spans.length sc,.slice G m.gone.length gc] 30)).alloc (.cells #[.int .i64 t] 3)).alloc (.cells #[.int .i64 c] 3)).alloc (.cells #[.int .i64 n] 3)):=Lib.hid (by rw [hW0,hWc,hWb,hWa])
 clear hT hl hF hS hWa hWb hWc hW0 ea eb ec ed ba sa sb sc' s0 bb bc bd e0
 unfold modelV
 go_enter Tryz.func43,Tryz.ntmps43
 go_upto_region 1 with fail
 rw [← HE.out]
 go_wp2
 go_loopg [14] m.free.length (fun q i wr=>∃ k : Nat,k≤m.free.length∧q=m.free.length - k∧i=.int .i64 (k : Int)∧Ext W0 wr∧∀ j,j < k→¬ (1≤n∧n≤(ix noRun m.free j).n))
 case atStart=>exact ⟨0,Nat.zero_le _,rfl,rfl,Ext.refl _,fun j hj=>absurd hj (by omega)⟩
 case round =>
  obtain ⟨k,hk,rfl,rfl,hE,hno⟩:=hrel
  by_cases hlt : k < m.free.length
  ·obtain ⟨b,off,rfl,hcl⟩:=HW.out.2.2.2 (by omega)
   obtain ⟨r,hr⟩ : ∃ r,ix noRun m.free k=r:=⟨_,rfl⟩
   have a0:=hE.cell (hcl (k * 2 + 0) (by omega))
   have a1:=hE.cell (hcl (k * 2 + 1) (by omega))
   rw [show runV m.free (k * 2 + 0)=.int .i64 r.at_ by rw [runV_row]; unfold rowV; rw [show (k * 2 + 0) / 2=k by omega,show (k * 2 + 0) % 2=0 by omega,hr]; rfl] at a0
   rw [show runV m.free (k * 2 + 1)=.int .i64 r.n by rw [runV_row]; unfold rowV; rw [show (k * 2 + 1) / 2=k by omega,show (k * 2 + 1) % 2=1 by omega,hr]; rfl] at a1
   replace a0 : wr.cell? ⟨b,off + k * 2,none⟩=some (.int .i64 r.at_):=a0
   replace a1 : wr.cell? ⟨b,off + k * 2 + 1,none⟩=some (.int .i64 r.n):=a1
   have q0 : (0 : Int)≤(k : Int):=by omega
   have q1 : (k : Int) < (m.free.length : Int):=by omega
   obtain ⟨W2,hW2⟩ : ∃ W2,W2=wr.alloc (.cells #[.int .i64 r.at_,.int .i64 r.n] 54):=⟨_,rfl⟩
   have hE2 : Ext wr W2:=hW2▸(Ext.refl wr).alloc _
   have hpb : Blk W2 wr.heap.size 54 #[.int .i64 r.at_,.int .i64 r.n]:=hW2▸Blk.new _ _ _ _ rfl
   have y1:=hpb.cell (i:=1) (v:=.int .i64 r.n) rfl
   have y3:=(HW.out.2.2.1.ext (hE.trans hE2)).cell (i:=0) (v:=.int .i64 n) rfl
   have HW2:=Lib.hid hW2
   have HR:=Lib.hid (And.intro hE (And.intro hno (And.intro hr hE2)))
   have hcs : (decide (1≤n)=false∧¬ (1≤n∧n≤r.n))∨(decide (1≤n)=true∧decide (n≤r.n)=false∧¬ (1≤n∧n≤r.n))∨(decide (1≤n)=true∧decide (n≤r.n)=true∧(1≤n∧n≤r.n)):=by
    simp only [decide_eq_true_eq,decide_eq_false_iff_not]; omega
   clear hE hno hr hE2 hW2 hpb hcl
   rcases hcs with ⟨e1,hx⟩ | ⟨e1,e2,hx⟩ | ⟨e1,e2,hx⟩
   rotate_right 1
   ·have HX:=Lib.hid hx
    clear hx
    go_upto_region 4 with fail
    rw [← HW2.out]
    go_wp2
    go_ret
    exact ⟨ret_bool (B_yes (.inl ⟨k,hlt,by rw [HR.out.2.2.1]; exact HX.out⟩)).symm,HW.out.1.trans (HR.out.1.trans HR.out.2.2.2)⟩
   all_goals
    have HX:=Lib.hid hx
    clear hx
    go_upto_region 4 with fail
    rw [← HW2.out]
    go_wp2
    go_roundg (m.free.length - (k + 1))
    case measure=>go_light; omega
    case rel =>
     refine ⟨k + 1,by omega,rfl,by go_num,HR.out.1.trans HR.out.2.2.2,fun j hj=>?_⟩
     by_cases e : j=k
     ·rw [e,HR.out.2.2.1]; exact HX.out
     ·exact HR.out.2.1 j (by omega)
  ·obtain rfl : k=m.free.length:=by omega
   have y3:=(HW.out.2.1.ext hE).cell (i:=3) (v:=.slice S m.spans.length sc) rfl
   have HR:=Lib.hid (And.intro hE hno)
   clear hE hno
   by_cases hs : ∃ j,j < m.spans.length∧HasS c t n (ix noHold m.spans j)
   ·rw [B_yes hs] at HC
    have HX:=Lib.hid hs
    clear hs
    go_wp2_with (go_at_call 73; (with_reducible refine (HC.out _ HR.out.1).mono ?_); rintro e w2 ⟨rfl,hE2⟩; have HE2:=Lib.hid hE2; clear hE2)
    go_ret
    exact ⟨ret_bool (B_yes (.inr HX.out)).symm,(HW.out.1.trans HR.out.1).trans HE2.out⟩
   ·rw [B_no hs] at HC
    have HX:=Lib.hid hs
    clear hs
    go_wp2_with (go_at_call 73; (with_reducible refine (HC.out _ HR.out.1).mono ?_); rintro e w2 ⟨rfl,hE2⟩; have HE2:=Lib.hid hE2; clear hE2)
    go_ret
    exact ⟨ret_bool (B_no (fun hh=>hh.elim (fun ⟨i,hi,hh⟩=>HR.out.2 i hi hh) HX.out)).symm,(HW.out.1.trans HR.out.1).trans HE2.out⟩
end Go.Proofs.YtoolenhnhlfhmaaGreatDoor
