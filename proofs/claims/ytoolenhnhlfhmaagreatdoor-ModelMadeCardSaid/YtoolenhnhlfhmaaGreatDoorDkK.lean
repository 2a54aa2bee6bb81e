/- Walks: a span is turned. -/
import Derived.Test.YtoolenhnhlfhmaaGreatDoorGM
import Derived.Laws.Closers25b
namespace Go.Proofs.YtoolenhnhlfhmaaGreatDoor
open Go.RowKit Go.Sort
set_option linter.unusedVariables false
set_option linter.unusedSimpArgs false
/-- What a span is behind a mark; none: it may not be. -/
noncomputable def turnO (h : HoldD) (x : MarkD) : Option HoldD :=
 if x.kind=3 then (if h.cls≠14∧h.swept=true∧h.holder=x.thread∧0≤x.n∧x.n < clsS h.cls∧h.alloc.testBit x.n.toNat=false then some { h with alloc:=(bits .or .u64 (h.alloc : Int) (IntKind.u64.wrap (2 ^ x.n.toNat))).toNat } else none)
 else if x.kind=8 then (if h.holder=x.thread∧h.swept=false∧(x.mask : Int)=bits .andNot .u64 (h.alloc : Int) (h.marks : Int) then some { h with alloc:=(bits .andNot .u64 (h.alloc : Int) (x.mask : Int)).toNat,marks:=0,swept:=true } else none)
 else if x.kind=11 then (if h.holder=-1∧h.claim=-1∧h.swept=true∧bits .andNot .u64 (x.mask : Int) (h.alloc : Int)=0 then some { h with marks:=x.mask } else none)
 else passH h x
theorem bits_nat (o : BinOp) (a b : Int) : ((bits o .u64 a b).toNat : Int)=bits o .u64 a b:=Int.toNat_of_nonneg (bits_lo_u64 o a b)
theorem cells8 {l : List HoldD} {i : Nat} {h' : HoldD} {F : Nat→Value} (hi : i < l.length) (hlo : ∀ k,k / 8≠i→F k=holdsV l k) (hin : ∀ r,r < 8→F (i * 8 + r)=holdC h' r) (k : Nat) : F k=holdsV (l.set i h') k:=by
 rw [holdsV_set hi]
 by_cases e : k / 8=i
 ·rw [if_pos e,← hin _ (Nat.mod_lt _ (by decide))]
  congr 1
  omega
 ·rw [if_neg e,hlo k e]
theorem own_put {w : World} {base g n c i : Nat} {l : List HoldD} {h' : HoldD} {F : Nat→Value} (hO : OwnS w base 51 8 (.slice (some ⟨g,0,none⟩) n c) n F) (hi : i < l.length) (hlo : ∀ k,k / 8≠i→F k=holdsV l k) (hin : ∀ r,r < 8→F (i * 8 + r)=holdC h' r) :
  OwnS w base 51 8 (.slice (some ⟨g,0,none⟩) n c) n (holdsV (l.set i h')):=hO.congr fun j _=>cells8 hi hlo hin j
set_option maxHeartbeats 8000000 in
set_option maxRecDepth 100000 in
theorem turns3_any (h : HoldD) (x : MarkD) (base g n c i : Nat) (l : List HoldD) (w : World) (hn : n=l.length) (hi : i < n) (hh : ix noHold l i=h) (hT : Tab w) (hk : x.kind=3) (hal : h.alloc < 18446744073709551616)
  (hO : OwnS w base 51 8 (.slice (some ⟨g,0,none⟩) n c) n (holdsV l)) :
  Calls Tryz.prog 64 #[.pointer (some ⟨g,i * 8,none⟩),markV x] w (SetP (turnO h x) base g n c i l w):=by
 subst hn
 obtain ⟨W0,hW0⟩ : ∃ W0,W0=w.alloc (.cells (markA x) 34):=⟨_,rfl⟩
 have hE0 : Ext w W0:=hW0▸(Ext.refl w).alloc _
 have hbx : Blk W0 w.heap.size 34 (markA x):=hW0▸Blk.new _ _ _ _ rfl
 have hO0:=hO.ext hE0
 have c2:=hO0.cellAt (j:=i * 8 + 2) (by omega)
 have c3:=hO0.cellAt (j:=i * 8 + 3) (by omega)
 have c5:=hO0.cellAt (j:=i * 8 + 5) (by omega)
 have c6:=hO0.cellAt (j:=i * 8 + 6) (by omega)
 have c7:=hO0.cellAt (j:=i * 8 + 7) (by omega)
 rw [holdsV_at _ _ _ (by omega),hh] at c2 c3 c5 c6 c7
 replace c2:=c2.trans (show some (holdC h 2)=some (.int .i64 h.cls) from rfl)
 replace c3:=c3.trans (show some (holdC h 3)=some (.int .i64 h.holder) from rfl)
 replace c5:=c5.trans (show some (holdC h 5)=some (.bool h.swept) from rfl)
 replace c6:=c6.trans (show some (holdC h 6)=some (.int .u64 (h.alloc : Int)) from rfl)
 replace c7:=c7.trans (show some (holdC h 7)=some (.int .u64 (h.marks : Int)) from rfl)
 have x0:=hbx.cell (i:=0) (v:=.int .i64 x.kind) rfl
 have x1:=hbx.cell (i:=1) (v:=.int .i64 x.thread) rfl
 have x4:=hbx.cell (i:=4) (v:=.int .i64 x.n) rfl
 have x5:=hbx.cell (i:=5) (v:=.int .u64 (x.mask : Int)) rfl
 have HFz : Hid (∀ W,Ext W0 W→∀ j,W.frozen? ⟨g,j,none⟩=false):=Lib.hid fun W hE j=>(hO0.ext hE).frozenAt j
 have HN : Hid (turnO h x=none→∀ W,Ext W0 W→SetP (turnO h x) base g l.length c i l w (.returned (.bool false)) W):=Lib.hid fun e W hE=>.inl ⟨rfl,e,hE0.trans hE⟩
 have HSl : Hid (∀ W,Ext W0 W→Calls Tryz.prog 80 #[.int .i64 h.cls] W fun e w'=>e=.returned (.int .i64 (clsS h.cls))∧Ext W w'):=Lib.hid fun W hE=>slots_c_any _ _ (hT.ext (hE0.trans hE))
 have HY : Hid (∀ k : Nat,x.n=(k : Int)→(h.cls≠14∧h.swept=true∧h.holder=x.thread∧(k : Int) < clsS h.cls∧h.alloc.testBit k=false)→∀ W,Ext W0 W→∀ W',Ext (W.setCell ⟨g,i * 8 + 6,none⟩ (.int .u64 (bits .or .u64 (h.alloc : Int) (IntKind.u64.wrap (2 ^ k))))) W'→SetP (turnO h x) base g l.length c i l w (.returned (.bool true)) W'):=Lib.hid fun k hxk hc W hE W' hE'=>by
  have ho : turnO h x=some { h with alloc:=(bits .or .u64 (h.alloc : Int) (IntKind.u64.wrap (2 ^ k))).toNat }:=by
   unfold turnO
   rw [if_pos hk,hxk,if_pos ⟨hc.1,hc.2.1,hc.2.2.1,by omega,hc.2.2.2.1,by simpa using hc.2.2.2.2⟩]
   simp
  have hV:=bits_nat .or (h.alloc : Int) (IntKind.u64.wrap (2 ^ k))
  generalize bits .or .u64 (h.alloc : Int) (IntKind.u64.wrap (2 ^ k))=z at hV ho hE'
  obtain ⟨V,rfl⟩ : ∃ V : Nat,z=(V : Int):=⟨_,hV.symm⟩
  rw [Int.toNat_natCast] at ho
  refine .inr ⟨rfl,_,ho,(own_put ((hO0.ext hE).set (i * 8 + 6) _) hi (fun q hq=>if_neg (by omega)) (fun r hr=>?_)).ext hE',(ext_grown (hE0.trans hE) _).trans ((grownBy_setC _ _ _ _).trans (ext_grown hE' _))⟩
  have hr8 : r=0∨r=1∨r=2∨r=3∨r=4∨r=5∨r=6∨r=7:=by omega
  rw [holdsV_at _ _ _ hr,hh]
  rcases hr8 with rfl | rfl | rfl | rfl | rfl | rfl | rfl | rfl <;> simp [holdC]
 clear hi hh hO hE0 hO0 hbx hT
 have y2:=fun d os=>cell_regrown c2 d os
 have y3:=fun d os=>cell_regrown c3 d os
 have y5:=fun d os=>cell_regrown c5 d os
 have y6:=fun d os=>cell_regrown c6 d os
 have z1:=fun d os=>cell_regrown x1 d os
 have z4:=fun d os=>cell_regrown x4 d os
 unfold markA at hW0
 unfold markV
 rw [hk] at x0 hW0 ⊢
 have hbd:=clsS_bdM h.cls
 have hcs : ((h.cls != 14)=false∧turnO h x=none)∨((h.cls != 14)=true∧h.swept=false∧turnO h x=none)∨((h.cls != 14)=true∧h.swept=true∧(h.holder == x.thread)=false∧turnO h x=none) ∨
   ((h.cls != 14)=true∧h.swept=true∧(h.holder == x.thread)=true∧decide (0≤x.n)=false∧turnO h x=none) ∨
   ((h.cls != 14)=true∧h.swept=true∧(h.holder == x.thread)=true∧∃ k : Nat,x.n=(k : Int) ∧
    ((decide ((k : Int) < clsS h.cls)=false∧turnO h x=none) ∨
     (decide ((k : Int) < clsS h.cls)=true∧k < 64∧h.alloc.testBit k=true∧turnO h x=none) ∨
     (decide ((k : Int) < clsS h.cls)=true∧k < 64∧h.alloc.testBit k=false∧(h.cls≠14∧h.swept=true∧h.holder=x.thread∧(k : Int) < clsS h.cls∧h.alloc.testBit k=false)))):=by
  unfold turnO
  rw [if_pos hk]
  simp only [bne_iff_ne,bne_eq_false_iff_eq,ne_eq,beq_iff_eq,beq_eq_false_iff_ne,decide_eq_true_eq,decide_eq_false_iff_not]
  by_cases q0 : h.cls=14
  ·exact .inl ⟨q0,by simp [q0]⟩
  refine .inr ?_
  cases q1 : h.swept
  ·exact .inl ⟨q0,rfl,by simp⟩
  refine .inr ?_
  by_cases q2 : h.holder=x.thread
  rotate_left
  ·exact .inl ⟨q0,rfl,q2,by simp [q2]⟩
  refine .inr ?_
  by_cases q3 : 0≤x.n
  rotate_left
  ·exact .inl ⟨q0,rfl,q2,q3,by simp [q3]⟩
  refine .inr ⟨q0,rfl,q2,x.n.toNat,(Int.toNat_of_nonneg q3).symm,?_⟩
  rw [Int.toNat_of_nonneg q3]
  by_cases q4 : x.n < clsS h.cls
  rotate_left
  ·exact .inl ⟨q4,by simp [q4]⟩
  refine .inr ?_
  cases q5 : h.alloc.testBit x.n.toNat
  ·exact .inr ⟨q4,by omega,rfl,q0,rfl,q2,q4,rfl⟩
  ·exact .inl ⟨q4,by omega,rfl,by simp⟩
 have hb:=fun k=>shr_and_one h.alloc k hal
 rcases hcs with ⟨e0,hx⟩ | ⟨e0,e1,hx⟩ | ⟨e0,e1,e2,hx⟩ | ⟨e0,e1,e2,e3,hx⟩ | ⟨e0,e1,e2,k,hxk,⟨e3,hx⟩ | ⟨e3,k64,e4,hx⟩ | ⟨e3,k64,e4,hx⟩⟩
 rotate_right 1
 ·rw [e1] at c5 y5
  rw [hxk] at x4 z4 hW0 ⊢
  replace hb:=hb k
  rw [e4] at hb
  simp only [if_false,Bool.false_eq_true] at hb
  have HX:=Lib.hid hx
  have HK:=Lib.hid hxk
  clear hx hxk e4
  subst hW0
  go_enter Tryz.func64,Tryz.ntmps64
  go_upto_region 5 with fail
  refine wp_region_quiet_below (by kernel_rfl) (by kernel_rfl) ?_
  repeat (go_big_quiet_step ((go_at_call 80; exact Calls.regrown_of (HSl.out _ (below_regrown _ _ _)))))
  refine wpQuiet_nil ?_
  intro _ hw'
  obtain ⟨⟨dq,osq⟩,hw''⟩:=hw'
  subst hw''
  obtain ⟨W3,hW3⟩ : ∃ W3,W3=(grow (redrawn (w.alloc (.cells #[.int .i64 3,.int .i64 x.thread,.int .i64 x.entry,.int .i64 x.page,.int .i64 (k : Int),.int .u64 (x.mask : Int)] 34)) dq) osq):=⟨_,rfl⟩
  have hE3 : Ext (w.alloc (.cells #[.int .i64 3,.int .i64 x.thread,.int .i64 x.entry,.int .i64 x.page,.int .i64 (k : Int),.int .u64 (x.mask : Int)] 34)) W3:=hW3▸below_regrown _ _ _
  rw [← hW3]
  have d6:=hE3.cell c6
  have d4:=hE3.cell x4
  have g6:=HFz.out W3 hE3 (i * 8 + 6)
  have HE3:=Lib.hid hE3
  clear hW3 hE3 c2 c3 c5 c6 c7 x0 x1 x4 x5 y2 y3 y5 y6 z1 z4
  go_wp2
  go_region
  go_wp2
  go_ret
  exact HY.out k HK.out HX.out W3 HE3.out _ (by first | exact Ext.refl _ | exact (Ext.refl _).drew _ | exact (Ext.refl _).drewN _)
 all_goals
  have HX:=Lib.hid hx
  clear hx
  first
   |(rw [hxk] at x4 z4 hW0 ⊢
     replace hb:=hb k
     try rw [e4] at hb
     clear hxk
     try simp only [if_true] at hb)
   | skip
  first
   | rw [e1] at c5 y5
   | skip
  subst hW0
  go_enter Tryz.func64,Tryz.ntmps64
  go_upto_region 5 with fail
  refine wp_region_quiet_below (by kernel_rfl) (by kernel_rfl) ?_
  repeat (go_big_quiet_step ((go_at_call 80; exact Calls.regrown_of (HSl.out _ (below_regrown _ _ _)))))
  refine wpQuiet_nil ?_
  intro _ hw'
  obtain ⟨⟨dq,osq⟩,hw''⟩:=hw'
  subst hw''
  go_wp2
  go_ret
  exact HN.out HX.out _ (below_regrown _ _ _)
end Go.Proofs.YtoolenhnhlfhmaaGreatDoor
