/- Walks: a span is turned: swept, marked, passed. -/
import Derived.Test.YtoolenhnhlfhmaaGreatDoorDkK
namespace Go.Proofs.YtoolenhnhlfhmaaGreatDoor
open Go.RowKit Go.Sort
set_option linter.unusedVariables false
set_option linter.unusedSimpArgs false
set_option maxHeartbeats 8000000 in
set_option maxRecDepth 100000 in
theorem turns8_any (h : HoldD) (x : MarkD) (base g n c i : Nat) (l : List HoldD) (w : World) (hn : n=l.length) (hi : i < n) (hh : ix noHold l i=h) (hk : x.kind=8)
  (hO : OwnS w base 51 8 (.slice (some ⟨g,0,none⟩) n c) n (holdsV l)) :
  Calls Tryz.prog 64 #[.pointer (some ⟨g,i * 8,none⟩),markV x] w (SetP (turnO h x) base g n c i l w):=by
 subst hn
 obtain ⟨W0,hW0⟩ : ∃ W0,W0=w.alloc (.cells (markA x) 34):=⟨_,rfl⟩
 have hE0 : Ext w W0:=hW0▸(Ext.refl w).alloc _
 have hbx : Blk W0 w.heap.size 34 (markA x):=hW0▸Blk.new _ _ _ _ rfl
 have hO0:=hO.ext hE0
 have c0:=hO0.cellAt (j:=i * 8 + 0) (by omega)
 have c1:=hO0.cellAt (j:=i * 8 + 1) (by omega)
 have c4:=hO0.cellAt (j:=i * 8 + 4) (by omega)
 have c2:=hO0.cellAt (j:=i * 8 + 2) (by omega)
 have c3:=hO0.cellAt (j:=i * 8 + 3) (by omega)
 have c5:=hO0.cellAt (j:=i * 8 + 5) (by omega)
 have c6:=hO0.cellAt (j:=i * 8 + 6) (by omega)
 have c7:=hO0.cellAt (j:=i * 8 + 7) (by omega)
 rw [holdsV_at _ _ _ (by omega),hh] at c0 c1 c2 c3 c4 c5 c6 c7
 replace c0 : W0.cell? ⟨g,i * 8,none⟩=some (.int .i64 h.page):=c0.trans (show some (holdC h 0)=some (.int .i64 h.page) from rfl)
 replace c1:=c1.trans (show some (holdC h 1)=some (.int .i64 h.pages) from rfl)
 replace c4:=c4.trans (show some (holdC h 4)=some (.int .i64 h.claim) from rfl)
 replace c2:=c2.trans (show some (holdC h 2)=some (.int .i64 h.cls) from rfl)
 replace c3:=c3.trans (show some (holdC h 3)=some (.int .i64 h.holder) from rfl)
 replace c5:=c5.trans (show some (holdC h 5)=some (.bool h.swept) from rfl)
 replace c6:=c6.trans (show some (holdC h 6)=some (.int .u64 (h.alloc : Int)) from rfl)
 replace c7:=c7.trans (show some (holdC h 7)=some (.int .u64 (h.marks : Int)) from rfl)
 have x0:=hbx.cell (i:=0) (v:=.int .i64 x.kind) rfl
 have x1:=hbx.cell (i:=1) (v:=.int .i64 x.thread) rfl
 have x4:=hbx.cell (i:=4) (v:=.int .i64 x.n) rfl
 have x5:=hbx.cell (i:=5) (v:=.int .u64 (x.mask : Int)) rfl
 have HFz : Hid (∀ W,Ext W0 W→∀ j,W.frozen? ⟨g,j,none⟩=false):=Lib.hid fun W hE j=>(hO0.ext hE).frozenAt j
 have HN : Hid (turnO h x=none→∀ W,Ext W0 W→SetP (turnO h x) base g l.length c i l w (.returned (.bool false)) W):=Lib.hid fun e W hE=>.inl ⟨rfl,e,hE0.trans hE⟩
 have HY : Hid ((h.holder=x.thread∧h.swept=false∧(x.mask : Int)=bits .andNot .u64 (h.alloc : Int) (h.marks : Int))→∀ W,Ext W0 W→∀ W',Ext (((W.setCell ⟨g,i * 8 + 6,none⟩ (.int .u64 (bits .andNot .u64 (h.alloc : Int) (x.mask : Int)))).setCell ⟨g,i * 8 + 7,none⟩ (.int .u64 0)).setCell ⟨g,i * 8 + 5,none⟩ (.bool true)) W'→SetP (turnO h x) base g l.length c i l w (.returned (.bool true)) W'):=Lib.hid fun hc W hE W' hE'=>by
  have ho : turnO h x=some { h with alloc:=(bits .andNot .u64 (h.alloc : Int) (x.mask : Int)).toNat,marks:=0,swept:=true }:=by
   unfold turnO
   rw [if_neg (by omega),if_pos hk,if_pos hc]
  have hV:=bits_nat .andNot (h.alloc : Int) (x.mask : Int)
  generalize bits .andNot .u64 (h.alloc : Int) (x.mask : Int)=z at hV ho hE'
  obtain ⟨V,rfl⟩ : ∃ V : Nat,z=(V : Int):=⟨_,hV.symm⟩
  rw [Int.toNat_natCast] at ho
  refine .inr ⟨rfl,_,ho,(own_put ((((hO0.ext hE).set (i * 8 + 6) _).set (i * 8 + 7) _).set (i * 8 + 5) _) hi (fun q hq=>by rw [if_neg (by omega),if_neg (by omega),if_neg (by omega)]) (fun r hr=>?_)).ext hE',(ext_grown (hE0.trans hE) _).trans ((grownBy_setC _ _ _ _).trans ((grownBy_setC _ _ _ _).trans ((grownBy_setC _ _ _ _).trans (ext_grown hE' _))))⟩
  have hr8 : r=0∨r=1∨r=2∨r=3∨r=4∨r=5∨r=6∨r=7:=by omega
  rw [holdsV_at _ _ _ hr,hh]
  rcases hr8 with rfl | rfl | rfl | rfl | rfl | rfl | rfl | rfl <;> simp [holdC]
 clear hi hh hO hE0 hO0 hbx
 unfold markA at hW0
 unfold markV
 rw [hk] at x0 hW0 ⊢
 have hcs : ((h.holder == x.thread)=false∧turnO h x=none)∨((h.holder == x.thread)=true∧h.swept=true∧turnO h x=none)∨((h.holder == x.thread)=true∧h.swept=false∧((x.mask : Int) == bits .andNot .u64 (h.alloc : Int) (h.marks : Int))=false∧turnO h x=none) ∨
   ((h.holder == x.thread)=true∧h.swept=false∧((x.mask : Int) == bits .andNot .u64 (h.alloc : Int) (h.marks : Int))=true∧(h.holder=x.thread∧h.swept=false∧(x.mask : Int)=bits .andNot .u64 (h.alloc : Int) (h.marks : Int))):=by
  unfold turnO
  rw [if_neg (by omega),if_pos hk]
  simp only [beq_iff_eq,beq_eq_false_iff_ne,ne_eq]
  by_cases q0 : h.holder=x.thread
  rotate_left
  ·exact .inl ⟨q0,by simp [q0]⟩
  refine .inr ?_
  cases q1 : h.swept
  rotate_left
  ·exact .inl ⟨q0,rfl,by simp⟩
  refine .inr ?_
  by_cases q2 : (x.mask : Int)=bits .andNot .u64 (h.alloc : Int) (h.marks : Int)
  ·exact .inr ⟨q0,rfl,q2,q0,rfl,q2⟩
  ·exact .inl ⟨q0,rfl,q2,by simp [q2]⟩
 rcases hcs with ⟨e0,hx⟩ | ⟨e0,e1,hx⟩ | ⟨e0,e1,e2,hx⟩ | ⟨e0,e1,e2,hx⟩
 rotate_right 1
 ·rw [e1] at c5
  have HX:=Lib.hid hx
  clear hx
  subst hW0
  go_enter Tryz.func64,Tryz.ntmps64
  go_upto_region 9 with fail
  go_quiet (fail)
  obtain ⟨W3,hW3⟩ : ∃ W3,W3=(w.alloc (.cells #[.int .i64 8,.int .i64 x.thread,.int .i64 x.entry,.int .i64 x.page,.int .i64 x.n,.int .u64 (x.mask : Int)] 34)).drewN nq:=⟨_,rfl⟩
  have hE3 : Ext (w.alloc (.cells #[.int .i64 8,.int .i64 x.thread,.int .i64 x.entry,.int .i64 x.page,.int .i64 x.n,.int .u64 (x.mask : Int)] 34)) W3:=hW3▸(Ext.refl _).drewN _
  rw [← hW3]
  have d5:=hE3.cell c5
  have d6:=hE3.cell c6
  have d7:=hE3.cell c7
  have dm:=hE3.cell x5
  have g5:=HFz.out W3 hE3 (i * 8 + 5)
  have g6:=HFz.out W3 hE3 (i * 8 + 6)
  have g7:=HFz.out W3 hE3 (i * 8 + 7)
  have HE3:=Lib.hid hE3
  clear hW3 hE3 c0 c1 c2 c3 c4 c5 c6 c7 x0 x1 x4 x5
  go_wp2
  go_region
  go_wp2
  go_ret
  exact HY.out HX.out W3 HE3.out _ (by first | exact Ext.refl _ | exact (Ext.refl _).drew _ | exact (Ext.refl _).drewN _)
 all_goals
  first
   | rw [e1] at c5
   | skip
  have HX:=Lib.hid hx
  clear hx
  subst hW0
  go_enter Tryz.func64,Tryz.ntmps64
  go_upto_region 9 with fail
  go_quiet (fail)
  go_wp2
  go_ret
  exact HN.out HX.out _ ((Ext.refl _).drewN _)
set_option maxHeartbeats 8000000 in
set_option maxRecDepth 100000 in
theorem turns11_any (h : HoldD) (x : MarkD) (base g n c i : Nat) (l : List HoldD) (w : World) (hn : n=l.length) (hi : i < n) (hh : ix noHold l i=h) (hk : x.kind=11)
  (hO : OwnS w base 51 8 (.slice (some ⟨g,0,none⟩) n c) n (holdsV l)) :
  Calls Tryz.prog 64 #[.pointer (some ⟨g,i * 8,none⟩),markV x] w (SetP (turnO h x) base g n c i l w):=by
 subst hn
 obtain ⟨W0,hW0⟩ : ∃ W0,W0=w.alloc (.cells (markA x) 34):=⟨_,rfl⟩
 have hE0 : Ext w W0:=hW0▸(Ext.refl w).alloc _
 have hbx : Blk W0 w.heap.size 34 (markA x):=hW0▸Blk.new _ _ _ _ rfl
 have hO0:=hO.ext hE0
 have c0:=hO0.cellAt (j:=i * 8 + 0) (by omega)
 have c1:=hO0.cellAt (j:=i * 8 + 1) (by omega)
 have c4:=hO0.cellAt (j:=i * 8 + 4) (by omega)
 have c2:=hO0.cellAt (j:=i * 8 + 2) (by omega)
 have c3:=hO0.cellAt (j:=i * 8 + 3) (by omega)
 have c5:=hO0.cellAt (j:=i * 8 + 5) (by omega)
 have c6:=hO0.cellAt (j:=i * 8 + 6) (by omega)
 have c7:=hO0.cellAt (j:=i * 8 + 7) (by omega)
 rw [holdsV_at _ _ _ (by omega),hh] at c0 c1 c2 c3 c4 c5 c6 c7
 replace c0 : W0.cell? ⟨g,i * 8,none⟩=some (.int .i64 h.page):=c0.trans (show some (holdC h 0)=some (.int .i64 h.page) from rfl)
 replace c1:=c1.trans (show some (holdC h 1)=some (.int .i64 h.pages) from rfl)
 replace c4:=c4.trans (show some (holdC h 4)=some (.int .i64 h.claim) from rfl)
 replace c2:=c2.trans (show some (holdC h 2)=some (.int .i64 h.cls) from rfl)
 replace c3:=c3.trans (show some (holdC h 3)=some (.int .i64 h.holder) from rfl)
 replace c5:=c5.trans (show some (holdC h 5)=some (.bool h.swept) from rfl)
 replace c6:=c6.trans (show some (holdC h 6)=some (.int .u64 (h.alloc : Int)) from rfl)
 replace c7:=c7.trans (show some (holdC h 7)=some (.int .u64 (h.marks : Int)) from rfl)
 have x0:=hbx.cell (i:=0) (v:=.int .i64 x.kind) rfl
 have x1:=hbx.cell (i:=1) (v:=.int .i64 x.thread) rfl
 have x4:=hbx.cell (i:=4) (v:=.int .i64 x.n) rfl
 have x5:=hbx.cell (i:=5) (v:=.int .u64 (x.mask : Int)) rfl
 have HFz : Hid (∀ W,Ext W0 W→∀ j,W.frozen? ⟨g,j,none⟩=false):=Lib.hid fun W hE j=>(hO0.ext hE).frozenAt j
 have HN : Hid (turnO h x=none→∀ W,Ext W0 W→SetP (turnO h x) base g l.length c i l w (.returned (.bool false)) W):=Lib.hid fun e W hE=>.inl ⟨rfl,e,hE0.trans hE⟩
 have HSl : Hid (∀ W,Ext W0 W→Calls Tryz.prog 105 #[holdV h] W fun e w'=>e=.returned (.bool (B (RestP h)))∧Ext W w'):=Lib.hid fun W hE=>rests_any _ _
 have HY : Hid ((RestP h∧bits .andNot .u64 (x.mask : Int) (h.alloc : Int)=0)→∀ W,Ext W0 W→∀ W',Ext (W.setCell ⟨g,i * 8 + 7,none⟩ (.int .u64 (x.mask : Int))) W'→SetP (turnO h x) base g l.length c i l w (.returned (.bool true)) W'):=Lib.hid fun hc W hE W' hE'=>by
  have ho : turnO h x=some { h with marks:=x.mask }:=by
   unfold turnO
   rw [if_neg (by omega),if_neg (by omega),if_pos hk,if_pos ⟨hc.1.1,hc.1.2.1,hc.1.2.2,hc.2⟩]
  refine .inr ⟨rfl,_,ho,(own_put ((hO0.ext hE).set (i * 8 + 7) _) hi (fun q hq=>by rw [if_neg (by omega)]) (fun r hr=>?_)).ext hE',(ext_grown (hE0.trans hE) _).trans ((grownBy_setC _ _ _ _).trans (ext_grown hE' _))⟩
  have hr8 : r=0∨r=1∨r=2∨r=3∨r=4∨r=5∨r=6∨r=7:=by omega
  rw [holdsV_at _ _ _ hr,hh]
  rcases hr8 with rfl | rfl | rfl | rfl | rfl | rfl | rfl | rfl <;> simp [holdC]
 clear hi hh hO hE0 hO0 hbx
 have y0:=fun d os=>cell_regrown c0 d os
 have y1:=fun d os=>cell_regrown c1 d os
 have y2:=fun d os=>cell_regrown c2 d os
 have y3:=fun d os=>cell_regrown c3 d os
 have y4:=fun d os=>cell_regrown c4 d os
 have y5:=fun d os=>cell_regrown c5 d os
 have y6:=fun d os=>cell_regrown c6 d os
 have y7:=fun d os=>cell_regrown c7 d os
 have z5:=fun d os=>cell_regrown x5 d os
 unfold markA at hW0
 unfold markV
 rw [hk] at x0 hW0 ⊢
 have hcs : (B (RestP h)=false∧turnO h x=none)∨(B (RestP h)=true∧(bits .andNot .u64 (x.mask : Int) (h.alloc : Int) == 0)=false∧turnO h x=none)∨(B (RestP h)=true∧(bits .andNot .u64 (x.mask : Int) (h.alloc : Int) == 0)=true∧RestP h∧bits .andNot .u64 (x.mask : Int) (h.alloc : Int)=0):=by
  unfold turnO
  rw [if_neg (by omega),if_neg (by omega),if_pos hk]
  simp only [beq_iff_eq,beq_eq_false_iff_ne,ne_eq]
  by_cases q0 : RestP h
  ·refine .inr ?_
   by_cases q1 : bits .andNot .u64 (x.mask : Int) (h.alloc : Int)=0
   ·exact .inr ⟨B_yes q0,q1,q0,q1⟩
   ·exact .inl ⟨B_yes q0,q1,if_neg fun k=>q1 k.2.2.2⟩
  ·exact .inl ⟨B_no q0,if_neg fun k=>q0 ⟨k.1,k.2.1,k.2.2.1⟩⟩
 unfold holdV at HSl
 rcases hcs with ⟨e0,hx⟩ | ⟨e0,e1,hx⟩ | ⟨e0,e1,hx⟩
 rotate_right 1
 ·rw [e0] at HSl
  have HX:=Lib.hid hx
  clear hx e0
  subst hW0
  go_enter Tryz.func64,Tryz.ntmps64
  go_upto_region 13 with fail
  refine wp_region_quiet_below (by kernel_rfl) (by kernel_rfl) ?_
  repeat (go_big_quiet_step ((go_at_call 105; exact Calls.regrown_of (HSl.out _ (below_regrown _ _ _)))))
  refine wpQuiet_nil ?_
  intro _ hw'
  obtain ⟨⟨dq,osq⟩,hw''⟩:=hw'
  subst hw''
  obtain ⟨W3,hW3⟩ : ∃ W3,W3=(grow (redrawn (w.alloc (.cells #[.int .i64 11,.int .i64 x.thread,.int .i64 x.entry,.int .i64 x.page,.int .i64 x.n,.int .u64 (x.mask : Int)] 34)) dq) osq):=⟨_,rfl⟩
  have hE3 : Ext (w.alloc (.cells #[.int .i64 11,.int .i64 x.thread,.int .i64 x.entry,.int .i64 x.page,.int .i64 x.n,.int .u64 (x.mask : Int)] 34)) W3:=hW3▸below_regrown _ _ _
  rw [← hW3]
  have d7:=hE3.cell c7
  have dm:=hE3.cell x5
  have g7:=HFz.out W3 hE3 (i * 8 + 7)
  have HE3:=Lib.hid hE3
  clear hW3 hE3 c0 c1 c2 c3 c4 c5 c6 c7 x0 x1 x4 x5 y0 y1 y2 y3 y4 y5 y6 y7 z5
  go_wp2
  go_ret
  exact HY.out HX.out W3 HE3.out _ (by first | exact Ext.refl _ | exact (Ext.refl _).drew _ | exact (Ext.refl _).drewN _)
 all_goals
  rw [e0] at HSl
  have HX:=Lib.hid hx
  clear hx e0
  subst hW0
  go_enter Tryz.func64,Tryz.ntmps64
  go_upto_region 13 with fail
  refine wp_region_quiet_below (by kernel_rfl) (by kernel_rfl) ?_
  repeat (go_big_quiet_step ((go_at_call 105; exact Calls.regrown_of (HSl.out _ (below_regrown _ _ _)))))
  refine wpQuiet_nil ?_
  intro _ hw'
  obtain ⟨⟨dq,osq⟩,hw''⟩:=hw'
  subst hw''
  go_wp2
  go_ret
  exact HN.out HX.out _ (below_regrown _ _ _)
set_option maxHeartbeats 8000000 in
set_option maxRecDepth 100000 in
theorem turns_any (h : HoldD) (x : MarkD) (base g n c i : Nat) (l : List HoldD) (w : World) (hn : n=l.length) (hi : i < n) (hh : ix noHold l i=h) (hT : Tab w) (hal : h.alloc < 18446744073709551616)
  (hO : OwnS w base 51 8 (.slice (some ⟨g,0,none⟩) n c) n (holdsV l)) :
  Calls Tryz.prog 64 #[.pointer (some ⟨g,i * 8,none⟩),markV x] w (SetP (turnO h x) base g n c i l w):=by
 by_cases k3 : x.kind=3
 ·exact turns3_any h x base g n c i l w hn hi hh hT k3 hal hO
 by_cases k8 : x.kind=8
 ·exact turns8_any h x base g n c i l w hn hi hh k8 hO
 by_cases k11 : x.kind=11
 ·exact turns11_any h x base g n c i l w hn hi hh k11 hO
 obtain ⟨W0,hW0⟩ : ∃ W0,W0=w.alloc (.cells (markA x) 34):=⟨_,rfl⟩
 have hE0 : Ext w W0:=hW0▸(Ext.refl w).alloc _
 have hbx : Blk W0 w.heap.size 34 (markA x):=hW0▸Blk.new _ _ _ _ rfl
 obtain ⟨x0,x1,x2,x3,x4,x5⟩:=Blk.c6 hbx
 have hp : Calls Tryz.prog 110 #[.pointer (some ⟨g,i * 8,none⟩),markV x] W0 fun e w'=>∃ b,e=.returned (.bool b)∧SetP (turnO h x) base g n c i l w e w':=by
  refine (passes_any h x base g n c i l W0 hn hi hh (hO.ext hE0)).mono fun e w' hs=>?_
  have ho : turnO h x=passH h x:=by unfold turnO; rw [if_neg k3,if_neg k8,if_neg k11]
  rw [ho]
  rcases hs with ⟨rfl,h1,h2⟩ | ⟨rfl,h',h1,h2,h3⟩
  ·exact ⟨_,rfl,.inl ⟨rfl,h1,hE0.trans h2⟩⟩
  ·exact ⟨_,rfl,.inr ⟨rfl,h',h1,h2,(ext_grown hE0 _).trans h3⟩⟩
 have HP:=Lib.hid hp
 clear hp hO hh hi hn hE0 hbx hT hal
 have e3 : (x.kind == 3)=false:=by simpa using k3
 have e8 : (x.kind == 8)=false:=by simpa using k8
 have e11 : (x.kind == 11)=false:=by simpa using k11
 clear k3 k8 k11
 unfold markA at hW0
 unfold markV at HP ⊢
 subst hW0
 go_enter Tryz.func64,Tryz.ntmps64
 go_wp2_with (go_at_call 110; (with_reducible refine HP.out.mono ?_); rintro e w1 ⟨b,rfl,hs⟩; have HS:=Lib.hid hs; clear hs)
 go_ret
 exact HS.out
end Go.Proofs.YtoolenhnhlfhmaaGreatDoor
