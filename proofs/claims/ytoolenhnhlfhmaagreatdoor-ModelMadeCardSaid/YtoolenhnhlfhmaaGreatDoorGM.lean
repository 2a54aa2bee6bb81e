/- Walks: the desk's cycle. Walks: a span passes from hand to hand. -/
import Derived.Test.YtoolenhnhlfhmaaGreatDoorDkH
namespace Go.Proofs.YtoolenhnhlfhmaaGreatDoor
open Go.RowKit Go.Sort
set_option linter.unusedVariables false
set_option linter.unusedSimpArgs false
theorem DeskR.putSpans {w w2 : World} {d base : Nat} {m : ModelD} {F H S G : Value} (h : DeskR w d base m F H S G) (hg : w.grownBy w2 S.ownBlock) (l : List HoldD) (hO : OwnS w2 base 51 8 S l.length (holdsV l)) : DeskR w2 d base { m with spans:=l } F H S G :=
 ⟨h.blk.grown hg (Ne.symm h.nes.2.2.1),⟨h.own.free.keepG h.own.spans hg (by decide),h.own.hands.keepG h.own.spans hg (by decide),hO,h.own.gone.keepG h.own.spans hg (by decide)⟩⟩
set_option maxHeartbeats 2000000 in
set_option maxRecDepth 100000 in
theorem cycle1_any (h : HoldD) (w : World) :
  Calls Tryz.prog 104 #[holdV h] w fun e w'=>e=.returned (.bool (B (¬ RestP h)))∧Ext w w':=by
 have HR : ∀ W,Calls Tryz.prog 105 #[holdV h] W fun e w'=>e=.returned (.bool (B (RestP h)))∧Ext W w':=fun W=>rests_any h W
 unfold holdV at HR ⊢
 by_cases hr : RestP h
 ·simp only [B_yes hr] at HR
  have hB : B (¬ RestP h)=false:=B_no (fun k=>k hr)
  have HX:=Lib.hid HR
  clear HR hr
  go_enter Tryz.func104,Tryz.ntmps104
  go_wp2_with (go_at_call 105; (with_reducible refine (HX.out _).mono ?_); rintro e w1 ⟨rfl,hE⟩)
  go_ret
  rw [hB]
  exact ⟨rfl,((Ext.refl _).alloc _).trans hE⟩
 ·simp only [B_no hr] at HR
  have hB : B (¬ RestP h)=true:=B_yes hr
  have HX:=Lib.hid HR
  clear HR hr
  go_enter Tryz.func104,Tryz.ntmps104
  go_wp2_with (go_at_call 105; (with_reducible refine (HX.out _).mono ?_); rintro e w1 ⟨rfl,hE⟩)
  go_ret
  rw [hB]
  exact ⟨rfl,((Ext.refl _).alloc _).trans hE⟩
def waits (h : HoldD) : HoldD:={ h with swept:=false }
def CycC (m : ModelD) : Prop:=m.hands.length=0∧∀ j,j < m.spans.length→RestP (ix noHold m.spans j)
def CycP (m : ModelD) (d base : Nat) (F H S G : Value) (w : World) (e : Ending) (w' : World) : Prop :=
 KeepD base d w w'∧w.heap.size≤w'.heap.size∧((e=.returned (.bool false)∧¬ CycC m∧DeskR w' d base m F H S G) ∨
  (e=.returned (.bool true)∧CycC m∧DeskR w' d base { m with spans:=m.spans.map waits } F H S G))
/-- The first k wait. -/
def waitV (l : List HoldD) (k j : Nat) : Value:=if j / 8 < k∧j % 8=5 then .bool false else holdsV l j
theorem waitV_end (l : List HoldD) (j : Nat) (hj : j < l.length * 8) : waitV l l.length j=holdsV (l.map waits) j:=by
 have h8 : j / 8 < l.length:=by omega
 rw [holdsV_row]
 unfold waitV rowV
 rw [holdsV_row]
 unfold rowV
 have e : ix noHold (l.map waits) (j / 8)=waits (ix noHold l (j / 8)):=by
  rw [ix_lt h8,ix_lt (by simpa using h8)]
  simp
 rw [e]
 have hr : j % 8 < 8:=Nat.mod_lt _ (by decide)
 rcases (by omega : j % 8=0∨j % 8=1∨j % 8=2∨j % 8=3∨j % 8=4∨j % 8=5∨j % 8=6∨j % 8=7) with h | h | h | h | h | h | h | h
 all_goals simp [h,h8,waits,holdC]
set_option maxHeartbeats 4000000 in
set_option maxRecDepth 100000 in
theorem cycle_any (m : ModelD) (d base : Nat) (F H S G : Value) (w : World) (hl : m.hands.length≤900000∧m.spans.length≤900000) (hD : DeskR w d base m F H S G) :
  Calls Tryz.prog 61 #[.pointer (some ⟨d,0,none⟩)] w (CycP m d base F H S G w):=by
 obtain ⟨HA,hc,rfl,hhc⟩:=hD.own.hands.ofSlice
 obtain ⟨SA,sc,rfl,hsc⟩:=hD.own.spans.ofSlice
 obtain ⟨l1,l2⟩:=hl
 have x2:=hD.blk.cell (i:=2) (v:=.slice HA m.hands.length hc) rfl
 have x3:=hD.blk.cell (i:=3) (v:=.slice SA m.spans.length sc) rfl
 have hc1 : ∀ W,Ext w W→Calls Tryz.prog 73 #[.slice SA m.spans.length sc,.func (.func 104) #[] #[]] W fun e w'=>e=.returned (.bool (B (∃ j,j < m.spans.length∧¬ RestP (ix noHold m.spans j))))∧Ext W w':=fun W hEW =>
  containsHold_any SA m.spans sc 104 #[] (fun j=>¬ RestP (ix noHold m.spans j)) W (by omega) (fun _ _=>rfl) (own_sl' (hD.ext hEW).own.spans) (fun j hj w' hw'=>cycle1_any _ w')
 have HD:=Lib.hid hD
 have hfalse : ∀ W,Ext w W→¬ CycC m→CycP m d base F (.slice HA m.hands.length hc) (.slice SA m.spans.length sc) G w (.returned (.bool false)) W:=fun W hE hno=>⟨KeepD.ext hE,hE.size,.inl ⟨rfl,hno,hD.ext hE⟩⟩
 have HFl:=Lib.hid hfalse
 clear hfalse hD
 by_cases hh : 0 < m.hands.length
 ·have hh' : (0 : Int) < (m.hands.length : Int):=by omega
  have HY:=Lib.hid (show ¬ CycC m from fun h=>by have:=h.1; omega)
  clear hc1
  go_enter Tryz.func61,Tryz.ntmps61
  go_wp2
  go_ret
  exact HFl.out _ (Ext.refl _) HY.out
 ·have hh0 : m.hands.length=0:=by omega
  have hh' : ¬ (0 : Int) < (m.hands.length : Int):=by omega
  by_cases hs : ∃ j,j < m.spans.length∧¬ RestP (ix noHold m.spans j)
  ·rw [B_yes hs] at hc1
   have HC1:=Lib.hid hc1
   have HY:=Lib.hid (show ¬ CycC m from fun h=>by obtain ⟨j,hj,hn⟩:=hs; exact hn (h.2 j hj))
   clear hc1 hs
   go_enter Tryz.func61,Tryz.ntmps61
   go_wp2_with (go_at_call 73; (with_reducible refine (HC1.out _ (Ext.refl _)).mono ?_); rintro e w1 ⟨rfl,hE1⟩; have HE1:=Lib.hid hE1; clear hE1)
   go_ret
   exact HFl.out _ HE1.out HY.out
  ·rw [B_no hs] at hc1
   have HC1:=Lib.hid hc1
   have HY:=Lib.hid (show CycC m from ⟨hh0,fun j hj=>Classical.byContradiction fun h=>hs ⟨j,hj,h⟩⟩)
   clear hc1 hs
   go_enter Tryz.func61,Tryz.ntmps61
   go_wp2_with (go_at_call 73; (with_reducible refine (HC1.out _ (Ext.refl _)).mono ?_); rintro e w1 ⟨rfl,hE1⟩; have y3:=hE1.cell x3; have HE1:=Lib.hid hE1; clear hE1)
   have hD1:=HD.out.ext HE1.out
   have h0 : OwnS w1 base 51 8 (.slice SA m.spans.length sc) m.spans.length (waitV m.spans 0):=hD1.own.spans.congr fun j hj=>by unfold waitV; rw [if_neg (by omega)]
   have H0:=Lib.hid h0
   clear h0 y3
   go_loopg [25] m.spans.length (fun q i wr=>∃ k : Nat,k≤m.spans.length∧q=m.spans.length - k∧i=.int .i64 (k : Int)∧OwnS wr base 51 8 (.slice SA m.spans.length sc) m.spans.length (waitV m.spans k)∧w1.grownBy wr (Value.slice SA m.spans.length sc).ownBlock)
   case atStart=>exact ⟨0,Nat.zero_le _,rfl,rfl,H0.out,ext_grown (Ext.refl _) _⟩
   case round =>
    obtain ⟨k,hk,rfl,rfl,hO,hG⟩:=hrel
    by_cases hlt : k < m.spans.length
    ·have hb:=hD1.blk.grown hG (Ne.symm hD1.nes.2.2.1)
     have y3:=hb.cell (i:=3) (v:=.slice SA m.spans.length sc) rfl
     obtain ⟨g,c',e1⟩:=hO.form' (by omega)
     injection e1 with e1 e2 e3
     subst e1 e3
     clear e2
     have z0:=hO.cellAt (j:=k * 8 + 5) (by omega)
     have z1:=hO.frozenAt (k * 8 + 5)
     have q0 : (0 : Int)≤(k : Int):=by omega
     have q1 : (k : Int) < (m.spans.length : Int):=by omega
     have HR:=Lib.hid (And.intro hO hG)
     clear hO hG hb
     go_wp2
     go_roundg (m.spans.length - (k + 1))
     case measure=>go_light; omega
     case rel =>
      refine ⟨k + 1,by omega,rfl,by go_num,(HR.out.1.set (k * 8 + 5) (.bool false)).congr fun j hj=>?_,HR.out.2.trans (grownBy_setC _ _ _ _)⟩
      unfold waitV
      by_cases e : j=k * 8 + 5
      ·rw [if_pos e,if_pos (by omega)]
      ·rw [if_neg e]
       by_cases e2 : j / 8 < k∧j % 8=5
       ·rw [if_pos e2,if_pos (by omega)]
       ·rw [if_neg e2,if_neg (by omega)]
    ·obtain rfl : k=m.spans.length:=by omega
     have HR:=Lib.hid (And.intro hO hG)
     clear hO hG
     go_wp2
     go_ret
     have hg : w1.grownBy wr (Value.slice SA m.spans.length sc).ownBlock:=HR.out.2
     refine ⟨(KeepD.ext HE1.out).trans (KeepD.grown hD1.own.spans hg),Nat.le_trans HE1.out.size hg.size,.inr ⟨rfl,HY.out,hD1.putSpans hg _ ?_⟩⟩
     have:=HR.out.1.congr (fun j hj=>waitV_end m.spans j hj)
     simpa using this
theorem holdsV_set {l : List HoldD} {i : Nat} (hi : i < l.length) (h : HoldD) (k : Nat) : holdsV (l.set i h) k=if k / 8=i then holdC h (k % 8) else holdsV l k:=by
 rw [show holdsV (l.set i h) k=holdC (ix noHold (l.set i h) (k / 8)) (k % 8) from rfl,ix_set hi]
 by_cases e : k / 8=i
 ·rw [if_pos e,if_pos e]
 ·rw [if_neg e,if_neg e]; rfl
/-- Who holds it, and who has claimed it, behind a mark; none: it may not be. -/
noncomputable def passO (h : HoldD) (x : MarkD) : Option (Int × Int) :=
 if x.kind=4 then (if h.claim=-1∧h.holder≠x.thread then some (h.holder,x.thread) else none)
 else if x.kind=5 then (if h.holder=-1∧(h.claim=-1∨h.claim=x.thread∨h.swept=false) then some (x.thread,if h.claim=x.thread then -1 else h.claim) else none)
 else if x.kind=6 then (if h.claim=x.thread∧h.holder≠-1∧h.holder≠x.thread then some (h.holder,-1) else none)
 else if x.kind=7 then (if h.holder=x.thread∧h.swept=true then some (-1,h.claim) else none)
 else if x.kind=16 then (if h.claim=-1∧h.swept=true∧h.holder≠-1 then some (x.thread,h.claim) else none)
 else none
/-- A part of a row is put anew, or not. -/
def SetP (o : Option HoldD) (base g n c i : Nat) (l : List HoldD) (w : World) (e : Ending) (w' : World) : Prop :=
 (e=.returned (.bool false)∧o=none∧Ext w w') ∨
 (e=.returned (.bool true)∧∃ h',o=some h'∧OwnS w' base 51 8 (.slice (some ⟨g,0,none⟩) n c) n (holdsV (l.set i h'))∧w.grownBy w' (some g))
noncomputable def passH (h : HoldD) (x : MarkD) : Option HoldD:=(passO h x).map fun v=>{ h with holder:=v.1,claim:=v.2 }
theorem pass_yes {h : HoldD} {x : MarkD} {base g n c i : Nat} {l : List HoldD} {w W : World} {a b : Int} (hv : passO h x=some (a,b)) (hn : n=l.length) (hi : i < n) (hh : ix noHold l i=h)
  (hO : OwnS w base 51 8 (.slice (some ⟨g,0,none⟩) n c) n (holdsV l)) (hE : Ext w W) :
  SetP (passH h x) base g n c i l w (.returned (.bool true)) ((W.setCell ⟨g,i * 8 + 3,none⟩ (.int .i64 a)).setCell ⟨g,i * 8 + 4,none⟩ (.int .i64 b)):=by
 refine .inr ⟨rfl,_,by unfold passH; rw [hv]; rfl,(((hO.ext hE).set (i * 8 + 3) (.int .i64 a)).set (i * 8 + 4) (.int .i64 b)).congr fun k hk=>?_,(ext_grown hE _).trans ((grownBy_setC _ _ _ _).trans (grownBy_setC _ _ _ _))⟩
 rw [holdsV_set (by omega)]
 by_cases e : k / 8=i
 ·rw [if_pos e]
  obtain ⟨r,hr⟩ : ∃ r,k % 8=r:=⟨_,rfl⟩
  have hk2 : k=i * 8 + r:=by omega
  have hr8 : r=0∨r=1∨r=2∨r=3∨r=4∨r=5∨r=6∨r=7:=by omega
  rw [show holdsV l k=holdC (ix noHold l (k / 8)) (k % 8) from rfl,e,hh,hr,hk2]
  rcases hr8 with rfl | rfl | rfl | rfl | rfl | rfl | rfl | rfl <;> simp [holdC]
 ·rw [if_neg e,if_neg (by omega),if_neg (by omega)]
set_option maxHeartbeats 8000000 in
set_option maxRecDepth 100000 in
theorem passes_any (h : HoldD) (x : MarkD) (base g n c i : Nat) (l : List HoldD) (w : World) (hn : n=l.length) (hi : i < n) (hh : ix noHold l i=h)
  (hO : OwnS w base 51 8 (.slice (some ⟨g,0,none⟩) n c) n (holdsV l)) :
  Calls Tryz.prog 110 #[.pointer (some ⟨g,i * 8,none⟩),markV x] w (SetP (passH h x) base g n c i l w):=by
 subst hn
 obtain ⟨W0,hW0⟩ : ∃ W0,W0=w.alloc (.cells (markA x) 34):=⟨_,rfl⟩
 have hE0 : Ext w W0:=hW0▸(Ext.refl w).alloc _
 have hbx : Blk W0 w.heap.size 34 (markA x):=hW0▸Blk.new _ _ _ _ rfl
 have hO0:=hO.ext hE0
 have c3:=hO0.cellAt (j:=i * 8 + 3) (by omega)
 have c4:=hO0.cellAt (j:=i * 8 + 4) (by omega)
 have c5:=hO0.cellAt (j:=i * 8 + 5) (by omega)
 rw [holdsV_at _ _ _ (by omega),hh] at c3 c4 c5
 replace c3:=c3.trans (show some (holdC h 3)=some (.int .i64 h.holder) from rfl)
 replace c4:=c4.trans (show some (holdC h 4)=some (.int .i64 h.claim) from rfl)
 replace c5:=c5.trans (show some (holdC h 5)=some (.bool h.swept) from rfl)
 have f3:=hO0.frozenAt (i * 8 + 3)
 have f4:=hO0.frozenAt (i * 8 + 4)
 have x0:=hbx.cell (i:=0) (v:=.int .i64 x.kind) rfl
 have x1:=hbx.cell (i:=1) (v:=.int .i64 x.thread) rfl
 have HP:=Lib.hid (And.intro hi (And.intro hh (And.intro hO hE0)))
 have HN : Hid (passO h x=none→∀ W,Ext W0 W→SetP (passH h x) base g l.length c i l w (.returned (.bool false)) W):=Lib.hid fun e W hE=>.inl ⟨rfl,by unfold passH; rw [e]; rfl,hE0.trans hE⟩
 have HY : Hid (∀ a b,passO h x=some (a,b)→∀ W,Ext W0 W→SetP (passH h x) base g l.length c i l w (.returned (.bool true)) ((W.setCell ⟨g,i * 8 + 3,none⟩ (.int .i64 a)).setCell ⟨g,i * 8 + 4,none⟩ (.int .i64 b))):=Lib.hid fun a b e W hE=>pass_yes e rfl hi hh hO (hE0.trans hE)
 clear hi hh hO hE0 hO0 hbx
 unfold markA at hW0
 unfold markV
 obtain ⟨kd,hkd⟩ : ∃ kd,kd=x.kind:=⟨_,rfl⟩
 obtain ⟨t,ht⟩ : ∃ t,t=x.thread:=⟨_,rfl⟩
 obtain ⟨ho,hho⟩ : ∃ ho,ho=h.holder:=⟨_,rfl⟩
 obtain ⟨cl,hcl⟩ : ∃ cl,cl=h.claim:=⟨_,rfl⟩
 obtain ⟨sw,hsw⟩ : ∃ sw,sw=h.swept:=⟨_,rfl⟩
 have hp : passO h x=if kd=4 then (if cl=-1∧ho≠t then some (ho,t) else none)
   else if kd=5 then (if ho=-1∧(cl=-1∨cl=t∨sw=false) then some (t,if cl=t then -1 else cl) else none)
   else if kd=6 then (if cl=t∧ho≠-1∧ho≠t then some (ho,-1) else none)
   else if kd=7 then (if ho=t∧sw=true then some (-1,cl) else none)
   else if kd=16 then (if cl=-1∧sw=true∧ho≠-1 then some (t,cl) else none)
   else none:=by subst hkd ht hho hcl hsw; rfl
 rw [← hkd,← ht] at hW0
 rw [← hkd] at x0
 rw [← ht] at x1
 rw [← hho] at c3
 rw [← hcl] at c4
 rw [← hsw] at c5
 rw [← hkd,← ht]
 have hne : ∀ (a b : Int) (v : Bool),(a == b)=v→(a != b)=!v:=fun a b v e=>by simp [bne,e]
 have HP2:=Lib.hid hp
 clear hkd ht hho hcl hsw hp
 subst hW0
 have hcs : (kd=4∨kd=5∨kd=6∨kd=7∨kd=16)∨((kd == 4)=false∧(kd == 5)=false∧(kd == 6)=false∧(kd == 7)=false∧(kd == 16)=false):=by
  simp only [beq_eq_false_iff_ne,ne_eq]; omega
 rcases hcs with (rfl | rfl | rfl | rfl | rfl) | ⟨k1,k2,k3,k4,k5⟩
 ·cases eB : (cl == -1) <;> cases eD : (ho == t)
  all_goals
   have nB:=hne _ _ _ eB
   have nD:=hne _ _ _ eD
   have HF:=Lib.hid (And.intro eB (eD))
   go_enter Tryz.func110,Tryz.ntmps110
   go_upto_region 2 with fail
   go_quiet (fail)
   go_wp2
   go_ret
   have hq:=HF.out
   simp only [beq_iff_eq,beq_eq_false_iff_ne,ne_eq] at hq
   first
    | exact HN.out (by rw [HP2.out]; simp [hq.1,hq.2]) _ ((Ext.refl _).drewN _)
    | exact HY.out _ _ (by rw [HP2.out]; simp [hq.1,hq.2]) _ ((Ext.refl _).drewN _)
 ·cases eA : (ho == -1) <;> cases eB : (cl == -1) <;> cases eC : (cl == t) <;> cases eS : sw
  all_goals
   have nA:=hne _ _ _ eA
   have nB:=hne _ _ _ eB
   have nC:=hne _ _ _ eC
   have HF:=Lib.hid (And.intro eA (And.intro eB (And.intro eC (eS))))
   go_enter Tryz.func110,Tryz.ntmps110
   go_upto_region 2 with fail
   go_quiet (fail)
   go_wp2
   go_ret
   have hq:=HF.out
   simp only [beq_iff_eq,beq_eq_false_iff_ne,ne_eq] at hq
   first
    | exact HN.out (by rw [HP2.out]; simp [hq.1,hq.2.1,hq.2.2.1,hq.2.2.2]) _ ((Ext.refl _).drewN _)
    | exact HY.out _ _ (by rw [HP2.out]; simp [hq.1,hq.2.1,hq.2.2.1,hq.2.2.2]) _ ((Ext.refl _).drewN _)
 ·cases eC : (cl == t) <;> cases eA : (ho == -1) <;> cases eD : (ho == t)
  all_goals
   have nC:=hne _ _ _ eC
   have nA:=hne _ _ _ eA
   have nD:=hne _ _ _ eD
   have HF:=Lib.hid (And.intro eC (And.intro eA (eD)))
   go_enter Tryz.func110,Tryz.ntmps110
   go_upto_region 2 with fail
   go_quiet (fail)
   go_wp2
   go_ret
   have hq:=HF.out
   simp only [beq_iff_eq,beq_eq_false_iff_ne,ne_eq] at hq
   first
    | exact HN.out (by rw [HP2.out]; simp [hq.1,hq.2.1,hq.2.2]) _ ((Ext.refl _).drewN _)
    | exact HY.out _ _ (by rw [HP2.out]; simp [hq.1,hq.2.1,hq.2.2]) _ ((Ext.refl _).drewN _)
 ·cases eD : (ho == t) <;> cases eS : sw
  all_goals
   have nD:=hne _ _ _ eD
   have HF:=Lib.hid (And.intro eD (eS))
   go_enter Tryz.func110,Tryz.ntmps110
   go_upto_region 2 with fail
   go_quiet (fail)
   go_wp2
   go_ret
   have hq:=HF.out
   simp only [beq_iff_eq,beq_eq_false_iff_ne,ne_eq] at hq
   first
    | exact HN.out (by rw [HP2.out]; simp [hq.1,hq.2]) _ ((Ext.refl _).drewN _)
    | exact HY.out _ _ (by rw [HP2.out]; simp [hq.1,hq.2]) _ ((Ext.refl _).drewN _)
 ·cases eB : (cl == -1) <;> cases eA : (ho == -1) <;> cases eS : sw
  all_goals
   have nB:=hne _ _ _ eB
   have nA:=hne _ _ _ eA
   have HF:=Lib.hid (And.intro eB (And.intro eA (eS)))
   go_enter Tryz.func110,Tryz.ntmps110
   go_upto_region 2 with fail
   go_quiet (fail)
   go_wp2
   go_ret
   have hq:=HF.out
   simp only [beq_iff_eq,beq_eq_false_iff_ne,ne_eq] at hq
   first
    | exact HN.out (by rw [HP2.out]; simp [hq.1,hq.2.1,hq.2.2]) _ ((Ext.refl _).drewN _)
    | exact HY.out _ _ (by rw [HP2.out]; simp [hq.1,hq.2.1,hq.2.2]) _ ((Ext.refl _).drewN _)
 ·have HF:=Lib.hid (And.intro k1 (And.intro k2 (And.intro k3 (And.intro k4 k5))))
  go_enter Tryz.func110,Tryz.ntmps110
  go_upto_region 2 with fail
  go_quiet (fail)
  go_wp2
  go_ret
  have hq:=HF.out
  simp only [beq_iff_eq,beq_eq_false_iff_ne,ne_eq] at hq
  exact HN.out (by rw [HP2.out]; simp [hq.1,hq.2.1,hq.2.2.1,hq.2.2.2.1,hq.2.2.2.2]) _ ((Ext.refl _).drewN _)
end Go.Proofs.YtoolenhnhlfhmaaGreatDoor
