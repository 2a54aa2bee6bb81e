/- Walks: the desk's get. Walks: the desk's back. -/
import Derived.Test.YtoolenhnhlfhmaaGreatDoorGJ
import Derived.Test.YtoolenhnhlfhmaaGreatDoorGB
import Derived.Deep.DeepCutAuto
namespace Go.Proofs.YtoolenhnhlfhmaaGreatDoor
open Go.RowKit Go.Sort
set_option linter.unusedVariables false
set_option linter.unusedSimpArgs false
/-- A mark. -/
structure MarkD where
 kind : Int
 thread : Int
 entry : Int
 page : Int
 n : Int
 mask : Nat
def markV (x : MarkD) : Value:=.agg #[.int .i64 x.kind,.int .i64 x.thread,.int .i64 x.entry,.int .i64 x.page,.int .i64 x.n,.int .u64 (x.mask : Int)]
def markA (x : MarkD) : Array Value:=#[.int .i64 x.kind,.int .i64 x.thread,.int .i64 x.entry,.int .i64 x.page,.int .i64 x.n,.int .u64 (x.mask : Int)]
/-- Numbers of a word's size. -/
structure MarkOk (x : MarkD) : Prop where
 page : -9223372036854775808≤x.page∧x.page≤9223372036854775807
 n : -9223372036854775808≤x.n∧x.n≤9223372036854775807
 mask : x.mask < 18446744073709551616
/-- Pages that a free run has. -/
def FitG (r : RunD) (x : MarkD) : Prop:=r.at_≤x.page∧1≤x.n∧x.page - r.at_ < r.n∧x.n≤r.n - (x.page - r.at_)
/-- What is left of it. -/
def leftA (r : RunD) (x : MarkD) : List RunD:=if 0 < x.page - r.at_ then [⟨r.at_,x.page - r.at_⟩] else []
def leftB (r : RunD) (x : MarkD) : List RunD:=if 0 < r.at_ + r.n - x.page - x.n then [⟨x.page + x.n,r.at_ + r.n - x.page - x.n⟩] else []
def leftR (r : RunD) (x : MarkD) : List RunD:=leftA r x ++ leftB r x
theorem leftA_len (r : RunD) (x : MarkD) : (leftA r x).length≤1:=by unfold leftA; split <;> simp
theorem leftR_len (r : RunD) (x : MarkD) : (leftR r x).length≤2:=by unfold leftR leftA leftB; split <;> split <;> simp
/-- A run appended to a list of the call's own. -/
def PushP (base : Nat) (l : List RunD) (r : RunD) (w : World) (v : Value) (w' : World) : Prop:=∃ A c,v=.slice A (l ++ [r]).length c∧OwnS w' base 54 2 (.slice A (l ++ [r]).length c) (l ++ [r]).length (runV (l ++ [r]))∧∀ w0,Ext w0 w→w0.heap.size≤base→Ext w0 w'
theorem runV_snoc_lo (l : List RunD) (r : RunD) (j : Nat) (hj : j < l.length * 2) : runV (l ++ [r]) j=runV l j:=by
 unfold runV
 rw [ix_app_lt noRun l r (by omega)]
theorem runV_snoc_hi (l : List RunD) (r : RunD) (j : Nat) (hj : j < 2) : runV (l ++ [r]) (l.length * 2 + j)=runX r j:=by
 have hj' : j=0∨j=1:=by omega
 rcases hj' with rfl | rfl
 ·rw [Nat.add_zero,runV0,ix_app_end]; rfl
 ·rw [runV1,ix_app_end]; rfl
theorem wpList_pushRun {w : World} {ops : Array Oper} {rest : List Oper} {o : Oper} {a : Act} {Q : Exit→Act→World→Prop} (hgd : o.guard=none) (s x : Operand)
  (ho : o.op=.call { callee:=.builtin .append,args:=#[s,x],argTypes:=#[25,25] }) (base : Nat) (l : List RunD) (r : RunD) (A : Option Addr) (c g c1 : Nat) (hs : a.eval s=.slice A l.length c)
  (hown : OwnS w base 54 2 (.slice A l.length c) l.length (runV l)) (hx : a.eval x=.slice (some ⟨g,0,none⟩) 1 c1) (h0 : w.cell? ⟨g,0,none⟩=some (.int .i64 r.at_)) (h1 : w.cell? ⟨g,1,none⟩=some (.int .i64 r.n))
  (hl : l.length≤1000000) (hbase : base≤w.heap.size)
  (h : ∀ A' c' w',OwnS w' base 54 2 (.slice A' (l.length + 1) c') (l.length + 1) (runV (l ++ [r]))→(∀ w0,Ext w0 w→w0.heap.size≤base→Ext w0 w')→wpList Tryz.prog ops Q rest (a.put o.dst (.slice A' (l.length + 1) c')) w') : wpList Tryz.prog ops Q (o :: rest) a w:=by
 obtain ⟨i0,hi0,hz0,hzs,hzb⟩:=info_parts Tryz.infoMRun
 refine wpList_push hgd s x 25 ho base 54 i0 (.agg #[.int .i64 0,.int .i64 0]) 2 16 Tryz.underlying25 hi0 hz0 hzs hzb rfl (by decide) _ l.length (runV l) hs hown ⟨g,0,none⟩ c1 (runX r) hx (fun j hj=>?_) (fun j hj=>?_) (by unfold maxLen; omega) (by omega) hbase _ rfl (runV (l ++ [r])) (fun j hj=>runV_snoc_lo l r j hj) (fun j hj=>runV_snoc_hi l r j hj) (fun g' cap w' k1 k2 k3 k4 k5=>h _ _ w' k1 k3)
 ·have hj' : j=0∨j=1:=by omega
  rcases hj' with rfl | rfl
  ·exact h0
  ·exact h1
 ·unfold runX; split <;> rfl
/-- The first. -/
theorem wpList_pushRun1 {w : World} {ops : Array Oper} {rest : List Oper} {o : Oper} {a : Act} {Q : Exit→Act→World→Prop} (hgd : o.guard=none) (s x : Operand)
  (ho : o.op=.call { callee:=.builtin .append,args:=#[s,x],argTypes:=#[25,25] }) (base : Nat) (r : RunD) (g c1 : Nat) (hs : a.eval s=.slice none 0 0)
  (hx : a.eval x=.slice (some ⟨g,0,none⟩) 1 c1) (h0 : w.cell? ⟨g,0,none⟩=some (.int .i64 r.at_)) (h1 : w.cell? ⟨g,1,none⟩=some (.int .i64 r.n)) (hbase : base≤w.heap.size)
  (h : ∀ A' c' w',Hid (OwnS w' base 54 2 (.slice A' 1 c') 1 (runV [r])∧(∀ w0,Ext w0 w→w0.heap.size≤base→Ext w0 w'))→wpList Tryz.prog ops Q rest (a.put o.dst (.slice A' 1 c')) w') : wpList Tryz.prog ops Q (o :: rest) a w :=
 wpList_pushRun hgd s x ho base [] r none 0 g c1 hs (OwnS.nil _ _ _ _ _) hx h0 h1 (by simp) hbase fun A' c' w' k1 k2=>h A' c' w' ⟨k1,k2⟩
/-- The second. -/
theorem wpList_pushRun2 {w : World} {ops : Array Oper} {rest : List Oper} {o : Oper} {a : Act} {Q : Exit→Act→World→Prop} (hgd : o.guard=none) (s x : Operand)
  (ho : o.op=.call { callee:=.builtin .append,args:=#[s,x],argTypes:=#[25,25] }) (base : Nat) (r0 r : RunD) (A : Option Addr) (c g c1 : Nat) (hs : a.eval s=.slice A 1 c)
  (hown : OwnS w base 54 2 (.slice A 1 c) 1 (runV [r0])) (hx : a.eval x=.slice (some ⟨g,0,none⟩) 1 c1) (h0 : w.cell? ⟨g,0,none⟩=some (.int .i64 r.at_)) (h1 : w.cell? ⟨g,1,none⟩=some (.int .i64 r.n)) (hbase : base≤w.heap.size)
  (h : ∀ A' c' w',Hid (OwnS w' base 54 2 (.slice A' 2 c') 2 (runV [r0,r])∧(∀ w0,Ext w0 w→w0.heap.size≤base→Ext w0 w'))→wpList Tryz.prog ops Q rest (a.put o.dst (.slice A' 2 c')) w') : wpList Tryz.prog ops Q (o :: rest) a w :=
 wpList_pushRun hgd s x ho base [r0] r A c g c1 hs hown hx h0 h1 (by simp) hbase fun A' c' w' k1 k2=>h A' c' w' ⟨k1,k2⟩
theorem cell_newg (w : World) (cs : Array Value) (t : TypeId) (g i : Nat) (v : Value) (hg : w.heap.size=g) (h : cs[i]?=some v) : (w.alloc (.cells cs t)).cell? ⟨g,i,none⟩=some v:=hg▸cell_new w cs t i v h
theorem VarR.ofOwn {w : World} {lb sz n c : Nat} {e : TypeId} {A B : Option Addr} {V : Nat→Value} (hO : OwnS w lb e sz (.slice B n c) n V) (hA : ∀ g,A.map (·.block)=some g→g < lb) : VarR w A B n c sz V:=by
 rcases hO.2 with ⟨h1,h2⟩ | ⟨g,cap,cur,h1,_⟩
 ·injection h1 with h1 h3 h4
  exact .inl ⟨h1,h2,h4⟩
 ·injection h1 with h1 h3 h4
  subst h1
  obtain ⟨cur,hr,hb,_,_,_,hcur⟩:=hO.row
  exact .inr ⟨g,e,cur,rfl,hr,fun h=>by have:=hA g h.symm; omega,hcur⟩
/-- What get has come to. -/
def GetP (m : ModelD) (d base : Nat) (F H S G : Value) (x : MarkD) (w : World) (e : Ending) (w' : World) : Prop :=
 KeepD base d w w'∧w.heap.size≤w'.heap.size∧((e=.returned (.bool false)∧(∀ i,i < m.free.length→¬ FitG (ix noRun m.free i) x)∧DeskR w' d base m F H S G) ∨
  (e=.returned (.bool true)∧∃ i k F' H',i < m.free.length∧FitG (ix noRun m.free i) x∧(∀ j,j < i→¬ FitG (ix noRun m.free j) x)∧PlaceH m.hands k x.page ∧
   DeskR w' d base { m with free:=cutIn m.free i (i + 1) (leftR (ix noRun m.free i) x),hands:=cutIn m.hands k k [⟨x.thread,x.page,x.n⟩] } F' H' S G))
set_option maxHeartbeats 4000000 in
set_option maxRecDepth 100000 in
theorem get_any (m : ModelD) (d base : Nat) (F H S G : Value) (x : MarkD) (w : World) (hl : m.free.length≤900000∧m.hands.length≤900000) (hx : MarkOk x)
  (hb : ∀ i,i < m.free.length→0≤(ix noRun m.free i).at_∧1≤(ix noRun m.free i).n∧(ix noRun m.free i).at_ + (ix noRun m.free i).n≤4096) (hs : Rises noHand m.hands handK) (hbase : base≤w.heap.size) (hD : DeskR w d base m F H S G) :
  Calls Tryz.prog 56 #[.pointer (some ⟨d,0,none⟩),markV x] w (GetP m d base F H S G x w):=by
 obtain ⟨A,c,rfl,hnc⟩:=hD.own.free.ofSlice
 obtain ⟨l1,l2⟩:=hl
 obtain ⟨⟨pg0,pg1⟩,⟨n0,n1⟩,hmk⟩:=hx
 obtain ⟨W0,hW0⟩ : ∃ W0,W0=w.alloc (.cells (markA x) 34):=⟨_,rfl⟩
 have hE0 : Ext w W0:=hW0▸(Ext.refl w).alloc _
 have hbx : Blk W0 w.heap.size 34 (markA x):=hW0▸Blk.new _ _ _ _ rfl
 have hdlt:=hD.blk.lt
 have hsl:=own_sl' hD.own.free
 have c1:=hD.blk.cell (i:=1) (v:=.slice A m.free.length c) rfl
 unfold markV
 unfold markA at hW0 hbx
 have HW:=Lib.hid hW0
 have HD:=Lib.hid (And.intro hD (And.intro hs (And.intro hb (And.intro hE0 (And.intro hbx hsl)))))
 clear hD hs hb hE0 hbx hW0 hsl
 go_enter Tryz.func56,Tryz.ntmps56
 go_wp2
 rw [← HW.out]
 clear c1
 go_loopg [16] m.free.length (fun q i wr=>∃ k,k≤m.free.length∧q=m.free.length - k∧i=.int .i64 (k : Int)∧Ext W0 wr∧∀ j,j < k→¬ FitG (ix noRun m.free j) x)
 case atStart=>exact ⟨0,Nat.zero_le _,rfl,rfl,Ext.refl _,fun j hj=>absurd hj (by omega)⟩
 case round =>
  obtain ⟨k,hk,rfl,rfl,hE,hno⟩:=hrel
  by_cases hlt : k < m.free.length
  ·obtain ⟨b,off,rfl,hcl⟩:=HD.out.2.2.2.2.2 (by omega)
   have hEw:=HD.out.2.2.2.1.trans hE
   have a0:=hEw.cell (hcl (k * 2 + 0) (by omega))
   have a1:=hEw.cell (hcl (k * 2 + 1) (by omega))
   rw [Nat.add_zero,runV0] at a0
   rw [runV1,← Nat.add_assoc] at a1
   obtain ⟨r0,r1,r2⟩:=HD.out.2.2.1 k hlt
   obtain ⟨r,hr⟩ : ∃ r,ix noRun m.free k=r:=⟨_,rfl⟩
   rw [hr] at a0 a1 r0 r1 r2
   have q0 : (0 : Int)≤(k : Int):=by omega
   have q1 : (k : Int) < (m.free.length : Int):=by omega
   have hbx:=HD.out.2.2.2.2.1.ext hE
   have x1:=hbx.cell (i:=1) (v:=.int .i64 x.thread) rfl
   have x3:=hbx.cell (i:=3) (v:=.int .i64 x.page) rfl
   have x4:=hbx.cell (i:=4) (v:=.int .i64 x.n) rfl
   have hwl : w.heap.size < wr.heap.size:=hbx.lt
   have hwn : ¬ w.heap.size=wr.heap.size:=by omega
   have HR:=Lib.hid (And.intro hE (And.intro hno (And.intro hr (And.intro hEw hbx))))
   clear hE hno hr hEw hbx hcl
   by_cases hfit : FitG r x
   ·obtain ⟨t0,t1,t2,t3⟩:=hfit
    have e0 : decide (x.page < r.at_)=false:=decide_eq_false (by omega)
    have e1 : decide (x.n < 1)=false:=decide_eq_false (by omega)
    have e2 : decide (r.n≤x.page - r.at_)=false:=decide_eq_false (by omega)
    have e3 : decide (r.n - (x.page - r.at_) < x.n)=false:=decide_eq_false (by omega)
    obtain ⟨W1,hW1⟩ : ∃ W1,W1=wr.alloc (.cells #[.int .i64 r.at_,.int .i64 r.n] 54):=⟨_,rfl⟩
    have hE1 : Ext wr W1:=hW1▸(Ext.refl wr).alloc _
    have hz1 : W1.heap.size=wr.heap.size + 1:=by rw [hW1]; simp
    have hrb : Blk W1 wr.heap.size 54 #[.int .i64 r.at_,.int .i64 r.n]:=hW1▸Blk.new _ _ _ _ rfl
    have hD1:=HD.out.1.ext (HR.out.2.2.2.1.trans hE1)
    have hx1:=HR.out.2.2.2.2.ext hE1
    have hbd : b < w.heap.size:=(World.ownsRow.lt HD.out.1.own.free b rfl).2
    have hfacts : ∀ wl,Ext W1 wl→(wl.cell? ⟨d,1,none⟩=some (.slice (some ⟨b,off,none⟩) m.free.length c)∧wl.cell? ⟨w.heap.size,1,none⟩=some (.int .i64 x.thread)∧wl.cell? ⟨w.heap.size,3,none⟩=some (.int .i64 x.page)∧wl.cell? ⟨w.heap.size,4,none⟩=some (.int .i64 x.n)∧wl.cell? ⟨wr.heap.size,0,none⟩=some (.int .i64 r.at_)∧wl.cell? ⟨wr.heap.size,1,none⟩=some (.int .i64 r.n)):=fun wl hE =>
     ⟨hE.cell (hD1.blk.cell (i:=1) rfl),hE.cell (hx1.cell (i:=1) rfl),hE.cell (hx1.cell (i:=3) rfl),hE.cell (hx1.cell (i:=4) rfl),hE.cell (hrb.cell (i:=0) rfl),hE.cell (hrb.cell (i:=1) rfl)⟩
    have hrep : ∀ wl B vc N,N=(leftR r x).length→Ext W1 wl→OwnS wl (wr.heap.size + 1) 54 2 (.slice B N vc) N (runV (leftR r x))→Calls Tryz.prog 83 #[.slice (some ⟨b,off,none⟩) m.free.length c,.int .i64 (k : Int),.int .i64 ((k : Int) + 1),.slice B N vc] wl fun e w' =>
      ∃ A' N' c' v,e=.returned (.slice A' N' c')∧w'.cell? ⟨d,1,none⟩=some v∧w'.frozen? ⟨d,1,none⟩=false∧w'.cell? ⟨w.heap.size,1,none⟩=some (.int .i64 x.thread)∧w'.cell? ⟨w.heap.size,3,none⟩=some (.int .i64 x.page)∧w'.cell? ⟨w.heap.size,4,none⟩=some (.int .i64 x.n)∧Hid (DeskR (w'.setCell ⟨d,1,none⟩ (.slice A' N' c')) d base { m with free:=cutIn m.free k (k + 1) (leftR r x) } (.slice A' N' c') H S G∧KeepD base d w (w'.setCell ⟨d,1,none⟩ (.slice A' N' c'))∧w.heap.size≤(w'.setCell ⟨d,1,none⟩ (.slice A' N' c')).heap.size):=fun wl B vc N hN hE hO=>by
     subst hN
     have hDl:=hD1.ext hE
     have hxl:=hx1.ext hE
     have hEl:=(HR.out.2.2.2.1.trans hE1).trans hE
     rw [show ((k : Int) + 1)=((k + 1 : Nat) : Int) by omega]
     refine (repRunL base c k (k + 1) vc (some ⟨b,off,none⟩) B m.free (leftR r x) wl (by omega) (by omega) (fun h=>by omega) (by have:=leftR_len r x; omega) (Nat.le_trans hbase hEl.size) hDl.own.free (VarR.ofOwn hO fun g hg=>?_)).mono fun e w' ⟨A',c',he,hO',hg⟩=>?_
     ·injection hg with hg
      have:=hEl.size
      have:=HR.out.2.2.2.1.size
      simp only at hg
      omega
     ·have hb2:=hDl.blk.grown hg (Ne.symm hDl.nes.1)
      have hx2:=hxl.grown hg (fun h=>own_ne_blk hDl.own.free hxl (by decide) h.symm)
      exact ⟨A',_,c',_,he,hb2.cell (i:=1) rfl,hb2.frozen 1,hx2.cell (i:=1) rfl,hx2.cell (i:=3) rfl,hx2.cell (i:=4) rfl,Lib.hid ⟨hDl.setFree hg _ hO',((KeepD.ext hEl).trans (KeepD.grown hDl.own.free hg)).trans (KeepD.set _ _),by simpa using Nat.le_trans hEl.size hg.size⟩⟩
    have hnd : ¬ d=w.heap.size:=by omega
    have hnd' : ¬ w.heap.size=d:=by omega
    have HA:=Lib.hid (And.intro hfacts (And.intro hrep (And.intro hz1 (Ext.refl W1))))
    have HW1:=Lib.hid hW1
    have HZ:=Lib.hid (show wr.heap.size + 1≤W1.heap.size by omega)
    have HX:=Lib.hid (show Ext W1 (wr.alloc (.cells #[.int .i64 r.at_,.int .i64 r.n] 54)) by rw [← hW1]; exact Ext.refl _)
    clear hfacts hrep hE1 hz1 hrb hD1 hx1 hW1 hbd
    have hgv : ∀ W B N c',DeskR W d base { m with free:=cutIn m.free k (k + 1) (leftR r x) } (.slice B N c') H S G∧KeepD base d w W∧w.heap.size≤W.heap.size→Calls Tryz.prog 84 #[.pointer (some ⟨d,0,none⟩),.int .i64 x.thread,.int .i64 x.page,.int .i64 x.n] W fun e w'=>e=.returned (.tuple #[])∧Hid (GetP m d base (.slice (some ⟨b,off,none⟩) m.free.length c) H S G x w (.returned (.bool true)) w'):=fun W B N c' ⟨hW,hk1,hk2⟩ =>
     (gives_any { m with free:=cutIn m.free k (k + 1) (leftR r x) } d base _ H S G x.thread x.page x.n W l2 HD.out.2.1 (Nat.le_trans hbase hk2) hW).mono fun e w' ⟨he,⟨i,H',hp,hDk⟩,hk3,hk4⟩ =>
      ⟨he,Lib.hid ⟨hk1.trans hk3,Nat.le_trans hk2 hk4,.inr ⟨rfl,k,i,_,H',hlt,HR.out.2.2.1▸⟨t0,t1,t2,t3⟩,HR.out.2.1,hp,by rw [HR.out.2.2.1]; exact hDk⟩⟩⟩
    have HG:=Lib.hid hgv
    clear hgv
    have hab : (decide (r.at_ < x.page)=true∧leftA r x=[⟨r.at_,x.page - r.at_⟩])∨(decide (r.at_ < x.page)=false∧leftA r x=[]):=by
     unfold leftA
     by_cases h : 0 < x.page - r.at_
     ·exact .inl ⟨decide_eq_true (by omega),by rw [if_pos h]⟩
     ·exact .inr ⟨decide_eq_false (by omega),by rw [if_neg h]⟩
    have hbb : (decide (x.n < r.at_ + r.n - x.page)=true∧leftB r x=[⟨x.page + x.n,r.at_ + r.n - x.page - x.n⟩])∨(decide (x.n < r.at_ + r.n - x.page)=false∧leftB r x=[]):=by
     unfold leftB
     by_cases h : 0 < r.at_ + r.n - x.page - x.n
     ·exact .inl ⟨decide_eq_true (by omega),by rw [if_pos h]⟩
     ·exact .inr ⟨decide_eq_false (by omega),by rw [if_neg h]⟩
    rcases hab with ⟨ea,la⟩ | ⟨ea,la⟩ <;> rcases hbb with ⟨eb,lb⟩ | ⟨eb,lb⟩
    ·have hL : leftR r x=[⟨r.at_,x.page - r.at_⟩,⟨x.page + x.n,r.at_ + r.n - x.page - x.n⟩]:=by unfold leftR; rw [la,lb]; rfl
     have HL:=Lib.hid (And.intro (show 2=(leftR r x).length by rw [hL]; rfl) hL)
     clear la lb hL
     obtain ⟨f1,f2,f3,f4,f5,f6⟩:=HA.out.1 _ HX.out
     go_wp2_with (first
      |(at_builtin; refine wpList_pushRun1 rfl _ _ rfl (wr.heap.size + 1) ⟨r.at_,x.page - r.at_⟩ (wr.heap.size + 1) 1 rfl rfl ?p0 ?p1 ?p2 ?_; (case p0=>exact cell_newg _ _ _ _ _ _ (by simp) rfl); (case p1=>exact cell_newg _ _ _ _ _ _ (by simp) rfl); (case p2=>simp); intro A1 c1 w1 HP1; have HY:=Lib.hid (HX.out.trans (HP1.out.2 _ ((Ext.refl _).alloc _) (by simp))); obtain ⟨g1,g2,g3,g4,g5,g6⟩:=HA.out.1 _ HY.out)
      |(at_builtin; refine wpList_pushRun2 rfl _ _ rfl (wr.heap.size + 1) ⟨r.at_,x.page - r.at_⟩ ⟨x.page + x.n,r.at_ + r.n - x.page - x.n⟩ A1 c1 w1.heap.size 1 rfl ?p3 rfl ?p0 ?p1 ?p2 ?_; (case p0=>exact cell_newg _ _ _ _ _ _ rfl rfl); (case p1=>exact cell_newg _ _ _ _ _ _ rfl rfl); (case p2=>exact Nat.le_trans HZ.out (Nat.le_trans HY.out.size (by simp))); (case p3=>exact HP1.out.1.ext ((Ext.refl _).alloc _)); intro A2 c2 w2 HP2; have HY2:=Lib.hid (HP2.out.2 _ (HY.out.alloc _) (Nat.le_of_eq HA.out.2.2.1)); obtain ⟨h1,h2,h3,h4,h5,h6⟩:=HA.out.1 _ HY2.out; have HO:=Lib.hid (show OwnS w2 (wr.heap.size + 1) 54 2 (.slice A2 2 c2) 2 (runV (leftR r x)) by rw [HL.out.2]; exact HP2.out.1))
      |(go_at_call 83; (with_reducible refine (HA.out.2.1 _ A2 c2 2 HL.out.1 HY2.out HO.out).mono ?_); rintro e w3 ⟨A',N',c',v,rfl,k1,k2,k3,k4,k5,HF⟩)
      |(go_at_call 84; (with_reducible refine (HG.out _ _ _ _ HF.out).mono ?_); rintro e w4 ⟨rfl,HP⟩))
     go_ret
     exact HP.out
    ·have hL : leftR r x=[⟨r.at_,x.page - r.at_⟩]:=by unfold leftR; rw [la,lb]; rfl
     have HL:=Lib.hid (And.intro (show 1=(leftR r x).length by rw [hL]; rfl) hL)
     clear la lb hL
     obtain ⟨f1,f2,f3,f4,f5,f6⟩:=HA.out.1 _ HX.out
     go_wp2_with (first
      |(at_builtin; refine wpList_pushRun1 rfl _ _ rfl (wr.heap.size + 1) ⟨r.at_,x.page - r.at_⟩ (wr.heap.size + 1) 1 rfl rfl ?p0 ?p1 ?p2 ?_; (case p0=>exact cell_newg _ _ _ _ _ _ (by simp) rfl); (case p1=>exact cell_newg _ _ _ _ _ _ (by simp) rfl); (case p2=>simp); intro A1 c1 w1 HP1; have HY:=Lib.hid (HX.out.trans (HP1.out.2 _ ((Ext.refl _).alloc _) (by simp))); obtain ⟨g1,g2,g3,g4,g5,g6⟩:=HA.out.1 _ HY.out; have HO:=Lib.hid (show OwnS w1 (wr.heap.size + 1) 54 2 (.slice A1 1 c1) 1 (runV (leftR r x)) by rw [HL.out.2]; exact HP1.out.1))
      |(go_at_call 83; (with_reducible refine (HA.out.2.1 _ A1 c1 1 HL.out.1 HY.out HO.out).mono ?_); rintro e w2 ⟨A',N',c',v,rfl,k1,k2,k3,k4,k5,HF⟩)
      |(go_at_call 84; (with_reducible refine (HG.out _ _ _ _ HF.out).mono ?_); rintro e w3 ⟨rfl,HP⟩))
     go_ret
     exact HP.out
    ·have hL : leftR r x=[⟨x.page + x.n,r.at_ + r.n - x.page - x.n⟩]:=by unfold leftR; rw [la,lb]; rfl
     have HL:=Lib.hid (And.intro (show 1=(leftR r x).length by rw [hL]; rfl) hL)
     clear la lb hL
     obtain ⟨f1,f2,f3,f4,f5,f6⟩:=HA.out.1 _ HX.out
     go_wp2_with (first
      |(at_builtin; refine wpList_pushRun1 rfl _ _ rfl (wr.heap.size + 1) ⟨x.page + x.n,r.at_ + r.n - x.page - x.n⟩ (wr.heap.size + 1) 1 rfl rfl ?p0 ?p1 ?p2 ?_; (case p0=>exact cell_newg _ _ _ _ _ _ (by simp) rfl); (case p1=>exact cell_newg _ _ _ _ _ _ (by simp) rfl); (case p2=>simp); intro A1 c1 w1 HP1; have HY:=Lib.hid (HX.out.trans (HP1.out.2 _ ((Ext.refl _).alloc _) (by simp))); obtain ⟨g1,g2,g3,g4,g5,g6⟩:=HA.out.1 _ HY.out; have HO:=Lib.hid (show OwnS w1 (wr.heap.size + 1) 54 2 (.slice A1 1 c1) 1 (runV (leftR r x)) by rw [HL.out.2]; exact HP1.out.1))
      |(go_at_call 83; (with_reducible refine (HA.out.2.1 _ A1 c1 1 HL.out.1 HY.out HO.out).mono ?_); rintro e w2 ⟨A',N',c',v,rfl,k1,k2,k3,k4,k5,HF⟩)
      |(go_at_call 84; (with_reducible refine (HG.out _ _ _ _ HF.out).mono ?_); rintro e w3 ⟨rfl,HP⟩))
     go_ret
     exact HP.out
    ·have hL : leftR r x=[]:=by unfold leftR; rw [la,lb]; rfl
     have HL:=Lib.hid (show (0=(leftR r x).length)∧∀ W,OwnS W (wr.heap.size + 1) 54 2 (.slice none 0 0) 0 (runV (leftR r x)) from ⟨by rw [hL]; rfl,fun W=>OwnS.nil _ _ _ _ _⟩)
     clear la lb hL
     obtain ⟨f1,f2,f3,f4,f5,f6⟩:=HA.out.1 _ HX.out
     go_wp2_with (first
      |(go_at_call 83; (with_reducible refine (HA.out.2.1 _ none 0 0 HL.out.1 HX.out (HL.out.2 _)).mono ?_); rintro e w2 ⟨A',N',c',v,rfl,k1,k2,k3,k4,k5,HF⟩)
      |(go_at_call 84; (with_reducible refine (HG.out _ _ _ _ HF.out).mono ?_); rintro e w3 ⟨rfl,HP⟩))
     go_ret
     exact HP.out
   ·have HF:=Lib.hid hfit
    have hds : decide (x.page < r.at_)=true∨(decide (x.page < r.at_)=false∧decide (x.n < 1)=true)∨(decide (x.page < r.at_)=false∧decide (x.n < 1)=false∧decide (r.n≤x.page - r.at_)=true∧r.at_≤x.page)∨(decide (x.page < r.at_)=false∧decide (x.n < 1)=false∧decide (r.n≤x.page - r.at_)=false∧decide (r.n - (x.page - r.at_) < x.n)=true∧r.at_≤x.page∧x.page - r.at_ < r.n):=by
     unfold FitG at hfit
     simp only [decide_eq_true_eq,decide_eq_false_iff_not]
     omega
    clear hfit
    rcases hds with d0 | ⟨d0,d1⟩ | ⟨d0,d1,d2,d3⟩ | ⟨d0,d1,d2,d3,d4,d5⟩
    all_goals
     go_wp2
     go_roundg (m.free.length - (k + 1))
     case measure=>go_light; omega
     case rel =>
      refine ⟨k + 1,by omega,rfl,by go_num,HR.out.1.alloc _,fun j hj=>?_⟩
      by_cases e : j=k
      ·rw [e,HR.out.2.2.1]; exact HF.out
      ·exact HR.out.2.1 j (by omega)
  ·obtain rfl : k=m.free.length:=by omega
   have HR:=Lib.hid (And.intro hE hno)
   clear hE hno
   go_wp2
   go_ret
   exact ⟨KeepD.ext (HD.out.2.2.2.1.trans HR.out.1),(HD.out.2.2.2.1.trans HR.out.1).size,.inl ⟨rfl,HR.out.2,HD.out.1.ext (HD.out.2.2.2.1.trans HR.out.1)⟩⟩
/-- Where a free run is put. -/
def PlaceR (l : List RunD) (i : Nat) (p : Int) : Prop:=i≤l.length∧(∀ k,k < i→runK (ix noRun l k) < p)∧∀ k,i≤k→k < l.length→p≤runK (ix noRun l k)
/-- Does a run end, or begin, beside the pages? -/
def JoinLo (l : List RunD) (k : Nat) (x : MarkD) : Prop:=0 < k∧(ix noRun l (k - 1)).at_ + (ix noRun l (k - 1)).n=x.page
def JoinHi (l : List RunD) (k : Nat) (x : MarkD) : Prop:=k < l.length∧x.page + x.n=(ix noRun l k).at_
noncomputable def backFrom (l : List RunD) (k : Nat) (x : MarkD) : Nat:=if B (JoinLo l k x) then k - 1 else k
noncomputable def backTo (l : List RunD) (k : Nat) (x : MarkD) : Nat:=if B (JoinHi l k x) then k + 1 else k
noncomputable def backRun (l : List RunD) (k : Nat) (x : MarkD) : RunD :=
 ⟨if B (JoinLo l k x) then (ix noRun l (k - 1)).at_ else x.page,x.n + (if B (JoinLo l k x) then (ix noRun l (k - 1)).n else 0) + (if B (JoinHi l k x) then (ix noRun l k).n else 0)⟩
noncomputable def loRun (l : List RunD) (k : Nat) (x : MarkD) : RunD:=⟨if B (JoinLo l k x) then (ix noRun l (k - 1)).at_ else x.page,x.n + (if B (JoinLo l k x) then (ix noRun l (k - 1)).n else 0)⟩
/-- What stands ahead of the last: the desk, the mark's block, the free runs, and the block of what is put. -/
structure BackW (m : ModelD) (d base b : Nat) (FA : Option Addr) (fc : Nat) (F H S G : Value) (xc : Array Value) (bx : Nat) (w : World) (r : RunD) (W : World) : Prop where
 desk : DeskR W d base m F H S G
 mark : Blk W bx 34 xc
 sl : SlR W FA m.free.length 2 (runV m.free)
 blk : Blk W b 54 #[.int .i64 r.at_,.int .i64 r.n]
 keep : KeepD base d w W
 size : w.heap.size≤W.heap.size
 far : base≤b∧d≠b
theorem DeskR.setBlk {w : World} {d base b : Nat} {m : ModelD} {F H S G : Value} (h : DeskR w d base m F H S G) (hd : d≠b) (n1 : F.ownBlock≠some b) (n2 : H.ownBlock≠some b) (n3 : S.ownBlock≠some b) (n4 : G.ownBlock≠some b) (i : Nat) (u : Value) : DeskR (w.setCell ⟨b,i,none⟩ u) d base m F H S G :=
 ⟨h.blk.far hd u,h.own.free.setOther n1 u,h.own.hands.setOther n2 u,h.own.spans.setOther n3 u,h.own.gone.setOther n4 u⟩
theorem SlR.setOther {w : World} {A : Option Addr} {n sz b i : Nat} {f : Nat→Value} (h : SlR w A n sz f) (hA : A.map (·.block)≠some b) (u : Value) : SlR (w.setCell ⟨b,i,none⟩ u) A n sz f:=by
 intro hn
 obtain ⟨g,off,hA2,hc⟩:=h hn
 refine ⟨g,off,hA2,fun j hj=>?_⟩
 rw [World.cell?_setCell_other _ _ _ _ (fun e=>hA (by rw [hA2]; simp only [Option.map_some]; injection e with e; rw [e]))]
 exact hc j hj
theorem KeepD.setFar {base d b : Nat} {a w : World} (h : KeepD base d a w) (hb : base≤b) (i : Nat) (u : Value) : KeepD base d a (w.setCell ⟨b,i,none⟩ u):=fun W0 h0 h1 h2=>(h W0 h0 h1 h2).setCell (Nat.le_trans h1 hb) u
section
variable {m : ModelD} {d base b : Nat} {FA : Option Addr} {fc : Nat} {H S G : Value} {xc : Array Value} {bx : Nat} {w : World} {r : RunD} {W : World}
theorem BackW.nes (h : BackW m d base b FA fc (.slice FA m.free.length fc) H S G xc bx w r W) : H.ownBlock≠some b∧S.ownBlock≠some b∧G.ownBlock≠some b∧bx≠b :=
 ⟨own_ne_blk h.desk.own.hands h.blk (by decide),own_ne_blk h.desk.own.spans h.blk (by decide),own_ne_blk h.desk.own.gone h.blk (by decide),fun e=>by
  have h1:=h.mark
  have h2:=h.blk
  unfold Blk at h1 h2
  rw [e,h2] at h1
  simp at h1⟩
theorem BackW.set0 (h : BackW m d base b FA fc (.slice FA m.free.length fc) H S G xc bx w r W) (hF : FA.map (·.block)≠some b) (a : Int) : BackW m d base b FA fc (.slice FA m.free.length fc) H S G xc bx w ⟨a,r.n⟩ (W.setCell ⟨b,0,none⟩ (.int .i64 a)):=by
 obtain ⟨n2,n3,n4,nb⟩:=h.nes
 exact ⟨h.desk.setBlk h.far.2 (by rw [own_blk]; exact hF) n2 n3 n4 _ _,h.mark.far nb _,h.sl.setOther hF _,h.blk.set 0 (.int .i64 a),h.keep.setFar h.far.1 _ _,by simpa using h.size,h.far⟩
theorem BackW.set1 (h : BackW m d base b FA fc (.slice FA m.free.length fc) H S G xc bx w r W) (hF : FA.map (·.block)≠some b) (a : Int) : BackW m d base b FA fc (.slice FA m.free.length fc) H S G xc bx w ⟨r.at_,a⟩ (W.setCell ⟨b,1,none⟩ (.int .i64 a)):=by
 obtain ⟨n2,n3,n4,nb⟩:=h.nes
 exact ⟨h.desk.setBlk h.far.2 (by rw [own_blk]; exact hF) n2 n3 n4 _ _,h.mark.far nb _,h.sl.setOther hF _,h.blk.set 1 (.int .i64 a),h.keep.setFar h.far.1 _ _,by simpa using h.size,h.far⟩
theorem BackW.ext {W' : World} (h : BackW m d base b FA fc (.slice FA m.free.length fc) H S G xc bx w r W) (hE : Ext W W') : BackW m d base b FA fc (.slice FA m.free.length fc) H S G xc bx w r W' :=
 ⟨h.desk.ext hE,h.mark.ext hE,h.sl.ext hE,h.blk.ext hE,h.keep.trans (KeepD.ext hE),Nat.le_trans h.size hE.size,h.far⟩
end
/-- A hand of a thread that begins with a page. -/
def HandP (m : ModelD) (x : MarkD) (j : Nat) : Prop:=(ix noHand m.hands j).t=x.thread∧(ix noHand m.hands j).at_=x.page
def BackP (m : ModelD) (d base : Nat) (F H S G : Value) (x : MarkD) (w : World) (e : Ending) (w' : World) : Prop :=
 KeepD base d w w'∧w.heap.size≤w'.heap.size∧((e=.returned (.bool false)∧(∀ j,j < m.hands.length→HandP m x j→(∀ q,q < j→¬ HandP m x q)→(ix noHand m.hands j).n≠x.n)∧DeskR w' d base m F H S G) ∨
  (e=.returned (.bool true)∧∃ j k F' H',j < m.hands.length∧HandP m x j∧(ix noHand m.hands j).n=x.n∧PlaceR m.free k x.page ∧
   DeskR w' d base { m with free:=cutIn m.free (backFrom m.free k x) (backTo m.free k x) [backRun m.free k x],hands:=cutIn m.hands j (j + 1) [] } F' H' S G))
set_option maxHeartbeats 4000000 in
set_option maxRecDepth 100000 in
theorem back_any (m : ModelD) (d base : Nat) (F H S G : Value) (x : MarkD) (w : World) (hl : m.free.length≤900000∧m.hands.length≤900000) (hx : MarkOk x)
  (hb : ∀ i,i < m.free.length→0≤(ix noRun m.free i).at_∧1≤(ix noRun m.free i).n∧(ix noRun m.free i).at_ + (ix noRun m.free i).n≤4096)
  (hh : ∀ i,i < m.hands.length→0≤(ix noHand m.hands i).at_∧1≤(ix noHand m.hands i).n∧(ix noHand m.hands i).at_ + (ix noHand m.hands i).n≤4096)
  (hs : Rises noRun m.free runK) (hbase : base≤w.heap.size) (hD : DeskR w d base m F H S G) :
  Calls Tryz.prog 60 #[.pointer (some ⟨d,0,none⟩),markV x] w (BackP m d base F H S G x w):=by
 obtain ⟨FA,fc,rfl,hfc⟩:=hD.own.free.ofSlice
 obtain ⟨HA,hc,rfl,hhc⟩:=hD.own.hands.ofSlice
 obtain ⟨l1,l2⟩:=hl
 obtain ⟨⟨pg0,pg1⟩,⟨n0,n1⟩,hmk⟩:=hx
 obtain ⟨W0,hW0⟩ : ∃ W0,W0=w.alloc (.cells (markA x) 34):=⟨_,rfl⟩
 have hE0 : Ext w W0:=hW0▸(Ext.refl w).alloc _
 have hbx : Blk W0 w.heap.size 34 (markA x):=hW0▸Blk.new _ _ _ _ rfl
 have hdlt:=hD.blk.lt
 have hhand : ∀ W,Ext w W→Calls Tryz.prog 91 #[.pointer (some ⟨d,0,none⟩),.int .i64 x.thread,.int .i64 x.page] W fun e w'=>∃ r,e=.returned (.tuple #[.int .i64 r,.bool (decide (0≤r))])∧Hid (FirstP m.hands.length (HandP m x) r∧Ext W w'):=fun W hE =>
  (hand_any m d base _ _ S G HA hc rfl x.thread x.page W (by omega) (hD.ext hE)).mono fun e w' ⟨r,he,hr,hE'⟩=>⟨r,he,Lib.hid ⟨hr,hE'⟩⟩
 unfold markV
 unfold markA at hW0 hbx
 have x1:=hbx.cell (i:=1) (v:=.int .i64 x.thread) rfl
 have x3:=hbx.cell (i:=3) (v:=.int .i64 x.page) rfl
 have HX:=Lib.hid (show Ext w (w.alloc (.cells #[.int .i64 x.kind,.int .i64 x.thread,.int .i64 x.entry,.int .i64 x.page,.int .i64 x.n,.int .u64 (x.mask : Int)] 34)) from (Ext.refl w).alloc _)
 rw [hW0] at x1 x3
 have HW:=Lib.hid hW0
 have HD:=Lib.hid (And.intro hD (And.intro hs (And.intro hb (And.intro hh (And.intro hE0 hbx)))))
 have HH:=Lib.hid hhand
 clear hD hs hb hh hE0 hbx hW0 hhand
 go_enter Tryz.func60,Tryz.ntmps60
 go_wp2_with (go_at_call 91; (with_reducible refine (HH.out _ HX.out).mono ?_); rintro e w1 ⟨r,rfl,HR⟩)
 clear x1 x3
 obtain ⟨hr,hE1⟩:=HR.out
 rcases hr with ⟨rfl,hno⟩ | ⟨j,hj,rfl,hp,hfirst⟩
 ·have e0 : decide ((0 : Int)≤-1)=false:=rfl
  simp only [e0]
  have HN:=Lib.hid (And.intro hno hE1)
  clear hno hE1 e0
  go_wp2_with fail
  go_quiet (fail)
  go_wp2
  go_ret
  exact ⟨KeepD.ext ((HX.out.trans HN.out.2).drewN _),((HX.out.trans HN.out.2).drewN _).size,.inl ⟨rfl,fun j hj h=>absurd h (HN.out.1 j hj),HD.out.1.ext ((HX.out.trans HN.out.2).drewN _)⟩⟩
 ·have e0 : decide ((0 : Int)≤(j : Int))=true:=decide_eq_true (by omega)
  simp only [e0]
  have hEw : Ext w w1:=HX.out.trans hE1
  have hD1:=HD.out.1.ext hEw
  obtain ⟨g,c',e1⟩:=hD1.own.hands.form' (by omega)
  injection e1 with e1 e2 e3
  subst e1 e3
  clear e2
  have hbx1:=(HW.out▸HD.out.2.2.2.2.2 : Blk (w.alloc (.cells #[.int .i64 x.kind,.int .i64 x.thread,.int .i64 x.entry,.int .i64 x.page,.int .i64 x.n,.int .u64 (x.mask : Int)] 34)) w.heap.size 34 _).ext hE1
  have x3:=hbx1.cell (i:=3) (v:=.int .i64 x.page) rfl
  have x4:=hbx1.cell (i:=4) (v:=.int .i64 x.n) rfl
  have d1:=hD1.blk.cell (i:=1) (v:=.slice FA m.free.length fc) rfl
  have d2:=hD1.blk.cell (i:=2) (v:=.slice (some ⟨g,0,none⟩) m.hands.length hc) rfl
  have dz2:=hD1.blk.frozen 2
  have hc2:=hD1.own.hands.cellAt (j:=j * 3 + 2) (by omega)
  rw [handV2] at hc2
  obtain ⟨b0,b1,b2⟩:=HD.out.2.2.2.1 j hj
  obtain ⟨h,hh⟩ : ∃ h,ix noHand m.hands j=h:=⟨_,rfl⟩
  unfold HandP at hp
  rw [hh] at hc2 b0 b1 b2 hp
  have q0 : (0 : Int)≤(j : Int):=by omega
  have q1 : (j : Int) < (m.hands.length : Int):=by omega
  have HP:=Lib.hid (And.intro hj (And.intro hp (And.intro hfirst (And.intro hh (And.intro hEw (And.intro hD1 hbx1))))))
  clear hj hp hfirst hh hEw hD1 hbx1 e0 hE1
  by_cases hn : h.n=x.n
  ·have en : (h.n == x.n)=true:=by simpa using hn
   have en2 : (h.n != x.n)=false:=by simpa using hn
   have HN:=Lib.hid hn
   clear hn
   have hdel : ∀ W,Ext w1 W→Calls Tryz.prog 95 #[.slice (some ⟨g,0,none⟩) m.hands.length hc,.int .i64 (j : Int),.int .i64 ((j : Int) + 1)] W fun e w'=>∃ A' N c' v,e=.returned (.slice A' N c')∧w'.cell? ⟨d,2,none⟩=some v∧w'.frozen? ⟨d,2,none⟩=false ∧
     Hid (DeskR (w'.setCell ⟨d,2,none⟩ (.slice A' N c')) d base { m with hands:=cutIn m.hands j (j + 1) [] } (.slice FA m.free.length fc) (.slice A' N c') S G∧Blk (w'.setCell ⟨d,2,none⟩ (.slice A' N c')) w.heap.size 34 #[.int .i64 x.kind,.int .i64 x.thread,.int .i64 x.entry,.int .i64 x.page,.int .i64 x.n,.int .u64 (x.mask : Int)]∧KeepD base d w (w'.setCell ⟨d,2,none⟩ (.slice A' N c'))∧w.heap.size≤(w'.setCell ⟨d,2,none⟩ (.slice A' N c')).heap.size):=fun W hE=>by
    obtain ⟨hj,hp,hfirst,hh,hEw,hD1,hbx1⟩:=HP.out
    have hDW:=hD1.ext hE
    refine (delHand1 base hc j (some ⟨g,0,none⟩) m.hands W hj hDW.own.hands).mono fun e w' ⟨he,hO,hg⟩=>?_
    have hb2:=hDW.blk.grown hg (Ne.symm hDW.nes.2.1)
    have hx2:=(hbx1.ext hE).grown hg (fun h=>own_ne_blk hDW.own.hands (hbx1.ext hE) (by decide) h.symm)
    refine ⟨_,_,_,_,he,hb2.cell (i:=2) rfl,hb2.frozen 2,Lib.hid ⟨hDW.setHands hg _ hO,hx2.far (by show w.heap.size≠d; omega) _,((KeepD.ext (hEw.trans hE)).trans (KeepD.grown hDW.own.hands hg)).trans (KeepD.set _ _),by simpa using Nat.le_trans (hEw.trans hE).size hg.size⟩⟩
   have HDl:=Lib.hid hdel
   clear hdel
   go_wp2_with fail
   go_quiet (fail)
   have HQ:=Lib.hid (show Ext w1 (w1.drewN nq) from (Ext.refl w1).drewN nq)
   go_wp2_with (go_at_call 95; (with_reducible refine (HDl.out _ HQ.out).mono ?_); rintro e w2 ⟨A',N,c',v,rfl,k1,k2,HF⟩)
   obtain ⟨W2,hW2⟩ : ∃ W2,W2=w2.setCell ⟨d,2,none⟩ (.slice A' N c'):=⟨_,rfl⟩
   have HF2:=HF.out
   rw [← hW2] at HF2
   rw [← hW2]
   obtain ⟨hD2,hx2,hK2,hz2⟩:=HF2
   clear hW2 k1 k2 HF x3 x4 d1 d2 dz2 hc2
   have d1:=hD2.blk.cell (i:=1) (v:=.slice FA m.free.length fc) rfl
   have x3:=hx2.cell (i:=3) (v:=.int .i64 x.page) rfl
   have H2:=Lib.hid (And.intro hD2 (And.intro hx2 (And.intro hK2 hz2)))
   clear hD2 hx2 hK2 hz2
   refine wp_region_loud 7 _ rfl rfl (by kernel_rfl) (by kernel_rfl) ?_
   simp only [List.take_succ_cons,List.take_zero]
   repeat (go_big_quiet_step (fail))
   refine wpQuiet_nil ?_
   intro mm
   refine wp_enter 102 #[.slice FA m.free.length fc,.int .i64 x.page,.func (.func 103) #[] #[]] (by kernel_rfl) ?_
   refine (searchR_any FA m.free fc x.page _ (by omega) ((own_sl' H2.out.1.own.free).ext ((Ext.refl _).drewN mm)) HD.out.2.1).mono ?_
   rintro e w3 ⟨k,hk,rfl,hlo,hhi,hE3⟩
   have HS:=Lib.hid (show PlaceR m.free k x.page∧Ext W2 w3 from ⟨⟨hk,hlo,hhi⟩,((Ext.refl W2).drewN mm).trans hE3⟩)
   clear hk hlo hhi hE3
   generalize B (k < m.free.length∧runK (ix noRun m.free k)=x.page)=bb
   refine ⟨_,rfl,fun w'=>∃ m,w'=w3.drewN m,⟨0,rfl⟩,?_⟩
   simp only [List.drop_succ_cons,List.drop_zero,Act.put,List.setIfInBounds_toArray,List.set_cons_succ,List.set_cons_zero]
   repeat (go_big_quiet_step (fail))
   refine wpQuiet_nil ?_
   rintro w' ⟨mm2,rfl⟩
   obtain ⟨W5,hW5⟩ : ∃ W5,W5=w3.drewN mm2:=⟨_,rfl⟩
   have hE5 : Ext W2 W5:=hW5▸HS.out.2.drewN mm2
   rw [← hW5]
   clear hW5 d1 x3
   have hD5:=H2.out.1.ext hE5
   have hsl:=own_sl' hD5.own.free
   obtain ⟨W6,hW6⟩ : ∃ W6,W6=W5.alloc (.cells #[.int .i64 x.page,.int .i64 x.n] 54):=⟨_,rfl⟩
   have hE6 : Ext W5 W6:=hW6▸(Ext.refl W5).alloc _
   have hrb : Blk W6 W5.heap.size 54 #[.int .i64 x.page,.int .i64 x.n]:=hW6▸Blk.new _ _ _ _ rfl
   have hx5:=H2.out.2.1.ext hE5
   have x3:=hx5.cell (i:=3) (v:=.int .i64 x.page) rfl
   have x4:=hx5.cell (i:=4) (v:=.int .i64 x.n) rfl
   have HW6:=Lib.hid hW6
   have H6:=Lib.hid (And.intro (hD5.ext hE6) (And.intro (hx5.ext hE6) (And.intro (hsl.ext hE6) (And.intro hrb (H2.out.2.2.1.trans (KeepD.ext (hE5.trans hE6)))))))
   have H5:=Lib.hid (And.intro (Nat.le_trans H2.out.2.2.2 (hE5.trans hE6).size) (Nat.le_trans H2.out.2.2.2 hE5.size))
   have HFb:=Lib.hid (show ∀ b off,FA=some ⟨b,off,none⟩→b < W5.heap.size from fun b off e=>(World.ownsRow.lt hD5.own.free b (by rw [e]; rfl)).2)
   clear hW6 hD5 hsl hE6 hrb hx5 hE5
   go_upto_region 7 with fail
   rw [← HW6.out]
   clear x3 x4
   have hpg : x.page=h.at_:=HP.out.2.1.2.symm
   have hnn : h.n=x.n:=HN.out
   have hpb : 0≤x.page∧1≤x.n∧x.page + x.n≤4096:=by omega
   obtain ⟨y0,y1,y2⟩:=hpb
   clear hpg hnn
   go_cut [95] (fun c wx=>c=.bool (B (JoinLo m.free k x))∧∃ n,wx=W6.drewN n)
   case first =>
    have hds : (k=0∧B (JoinLo m.free k x)=false)∨(0 < k∧(ix noRun m.free (k - 1)).at_ + (ix noRun m.free (k - 1)).n=x.page∧B (JoinLo m.free k x)=true)∨(0 < k∧(ix noRun m.free (k - 1)).at_ + (ix noRun m.free (k - 1)).n≠x.page∧B (JoinLo m.free k x)=false):=by
     by_cases h0 : 0 < k
     ·by_cases h1 : (ix noRun m.free (k - 1)).at_ + (ix noRun m.free (k - 1)).n=x.page
      ·exact .inr (.inl ⟨h0,h1,B_yes ⟨h0,h1⟩⟩)
      ·exact .inr (.inr ⟨h0,h1,B_no fun h=>h1 h.2⟩)
     ·exact .inl ⟨by omega,B_no fun h=>h0 h.1⟩
    rcases hds with ⟨h0,hB⟩ | ⟨h0,h1,hB⟩ | ⟨h0,h1,hB⟩
    ·have HB:=Lib.hid hB
     have e0 : decide ((0 : Int) < (k : Int))=false:=decide_eq_false (by omega)
     have e1 : decide (0 < k)=false:=decide_eq_false (by omega)
     clear h0 hB
     go_quiet (fail)
     go_wp2_with fail
     go_meet
     exact ⟨congrArg Value.bool HB.out.symm,_,rfl⟩
    all_goals
     have HB:=Lib.hid hB
     have hkl : k - 1 < m.free.length:=by have:=HS.out.1.1; omega
     have e0 : decide ((0 : Int) < (k : Int))=true:=decide_eq_true (by omega)
     have e1 : decide (0 < k)=true:=decide_eq_true (by omega)
     have q2 : (0 : Int)≤(k : Int) - 1:=by omega
     have q3 : (k : Int) - 1 < (m.free.length : Int):=by omega
     have q4 : ((k : Int) - 1).toNat=k - 1:=by omega
     have q5 : IntKind.i64.wrap ((k : Int) - 1)=(k : Int) - 1:=by rw [IntKind.wrap_i64]; omega
     obtain ⟨b,off,hFA,hcl⟩:=H6.out.2.2.1 (by omega)
     subst hFA
     have a0:=hcl ((k - 1) * 2 + 0) (by omega)
     have a1:=hcl ((k - 1) * 2 + 1) (by omega)
     rw [Nat.add_zero,runV0] at a0
     rw [runV1,← Nat.add_assoc] at a1
     have d1:=H6.out.1.blk.cell (i:=1) (v:=.slice (some ⟨b,off,none⟩) m.free.length fc) rfl
     have x3:=H6.out.2.1.cell (i:=3) (v:=.int .i64 x.page) rfl
     obtain ⟨t0,t1,t2⟩:=HD.out.2.2.1 (k - 1) hkl
     obtain ⟨r,hr⟩ : ∃ r,ix noRun m.free (k - 1)=r:=⟨_,rfl⟩
     rw [hr] at a0 a1 t0 t1 t2 h1
     have q6 : IntKind.i64.wrap (r.at_ + r.n)=r.at_ + r.n:=by rw [IntKind.wrap_i64]; omega
     have hbl : b < W6.heap.size:=by
      have:=World.block_lt_of_cell? _ _ a0
      exact this
     have HR:=Lib.hid hr
     clear hcl hr hB h0
    ·have e2 : (r.at_ + r.n == x.page)=true:=by simpa using h1
     clear h1
     go_quiet (fail)
     go_wp2_with fail
     go_meet
     exact ⟨congrArg Value.bool HB.out.symm,_,rfl⟩
    ·have e2 : (r.at_ + r.n == x.page)=false:=by simpa using h1
     clear h1
     go_quiet (fail)
     go_wp2_with fail
     go_meet
     exact ⟨congrArg Value.bool HB.out.symm,_,rfl⟩
   case rest =>
    obtain ⟨rfl,nd,rfl⟩:=hcut
    have hEd : Ext W6 (W6.drewN nd):=(Ext.refl W6).drewN nd
    have hBW : BackW { m with hands:=cutIn m.hands j (j + 1) [] } d base W5.heap.size FA fc (.slice FA m.free.length fc) (.slice A' N c') S G #[.int .i64 x.kind,.int .i64 x.thread,.int .i64 x.entry,.int .i64 x.page,.int .i64 x.n,.int .u64 (x.mask : Int)] w.heap.size w ⟨x.page,x.n⟩ (W6.drewN nd):=⟨H6.out.1.ext hEd,H6.out.2.1.ext hEd,H6.out.2.2.1.ext hEd,H6.out.2.2.2.1.ext hEd,H6.out.2.2.2.2.trans (KeepD.ext hEd),Nat.le_trans H5.out.1 hEd.size,Nat.le_trans hbase H5.out.2,by have:=H5.out.2; omega⟩
    obtain ⟨W7,hW7⟩ : ∃ W7,W7=W6.drewN nd:=⟨_,rfl⟩
    rw [← hW7] at hBW ⊢
    have HBW:=Lib.hid hBW
    clear hEd hBW hW7
    go_upto_if 95 with fail
    go_cut [10] (fun s wx=>s=.int .i64 ((backFrom m.free k x : Nat) : Int)∧Hid (BackW { m with hands:=cutIn m.hands j (j + 1) [] } d base W5.heap.size FA fc (.slice FA m.free.length fc) (.slice A' N c') S G #[.int .i64 x.kind,.int .i64 x.thread,.int .i64 x.entry,.int .i64 x.page,.int .i64 x.n,.int .u64 (x.mask : Int)] w.heap.size w (loRun m.free k x) wx))
    case first =>
     rcases hB : B (JoinLo m.free k x) with _ | _
     ·go_wp2_with fail
      go_meet
      have e1 : backFrom m.free k x=k:=by unfold backFrom; rw [hB]; rfl
      have e2 : loRun m.free k x=⟨x.page,x.n⟩:=by unfold loRun; rw [hB]; simp
      rw [e1,e2]
      exact ⟨rfl,HBW⟩
     ·obtain ⟨h0,h1⟩:=B_iff.1 hB
      have hkl : k - 1 < m.free.length:=by have:=HS.out.1.1; omega
      have q2 : (0 : Int)≤(k : Int) - 1:=by omega
      have q7 : (1 : Int)≤(k : Int):=by omega
      have q3 : (k : Int) - 1 < (m.free.length : Int):=by omega
      have q4 : ((k : Int) - 1).toNat=k - 1:=by omega
      have q5 : IntKind.i64.wrap ((k : Int) - 1)=(k : Int) - 1:=by rw [IntKind.wrap_i64]; omega
      obtain ⟨b,off,hFA,hcl⟩:=HBW.out.sl (by show 0 < m.free.length; omega)
      subst hFA
      have a0:=hcl ((k - 1) * 2 + 0) (by show _ < m.free.length * 2; omega)
      have a1:=hcl ((k - 1) * 2 + 1) (by show _ < m.free.length * 2; omega)
      rw [Nat.add_zero,runV0] at a0
      rw [runV1,← Nat.add_assoc] at a1
      have d1:=HBW.out.desk.blk.cell (i:=1) (v:=.slice (some ⟨b,off,none⟩) m.free.length fc) rfl
      have w0:=HBW.out.blk.cell (i:=0) (v:=.int .i64 x.page) rfl
      have w1':=HBW.out.blk.cell (i:=1) (v:=.int .i64 x.n) rfl
      have wz0:=HBW.out.blk.frozen 0
      have wz1:=HBW.out.blk.frozen 1
      obtain ⟨t0,t1,t2⟩:=HD.out.2.2.1 (k - 1) hkl
      obtain ⟨r,hr⟩ : ∃ r,ix noRun m.free (k - 1)=r:=⟨_,rfl⟩
      rw [hr] at a0 a1 t0 t1 t2 h1
      have q6 : IntKind.i64.wrap (x.n + r.n)=x.n + r.n:=by rw [IntKind.wrap_i64]; omega
      have hbl : ¬ b=W5.heap.size:=by have:=HFb.out b off rfl; omega
      have hbl' : ¬ W5.heap.size=b:=fun e=>hbl e.symm
      have HR:=Lib.hid (And.intro hr (And.intro h0 (And.intro h1 hB)))
      clear hcl hr hB h0 h1
      go_wp2_with fail
      go_region
      go_wp2_with fail
      go_meet
      have hF : (some (⟨b,off,none⟩ : Addr)).map (·.block)≠some W5.heap.size:=fun e=>by injection e with e; exact hbl e
      have e1 : ((backFrom m.free k x : Nat) : Int)=(k : Int) - 1:=by unfold backFrom; rw [HR.out.2.2.2,if_pos rfl]; omega
      have e2 : loRun m.free k x=⟨r.at_,x.n + r.n⟩:=by unfold loRun; rw [HR.out.2.2.2,if_pos rfl,if_pos rfl,HR.out.1]
      rw [e1,e2]
      exact ⟨rfl,Lib.hid (((HBW.out.set0 hF r.at_).set1 hF (x.n + r.n)).ext ((Ext.refl _).drew))⟩
    case rest =>
     obtain ⟨rfl,HB2⟩:=hcut
     clear HBW
     generalize hr0 : loRun m.free k x=rl at HB2
     have HR0:=Lib.hid hr0
     clear hr0
     have w1n : IntKind.i64.wrap (x.page + x.n)=x.page + x.n:=by rw [IntKind.wrap_i64]; omega
     go_upto_region 9 with fail
     go_cut [147] (fun c wx=>c=.bool (B (JoinHi m.free k x))∧∃ n,wx=wc.drewN n)
     case first =>
      have d1:=HB2.out.desk.blk.cell (i:=1) (v:=.slice FA m.free.length fc) rfl
      have x3:=HB2.out.mark.cell (i:=3) (v:=.int .i64 x.page) rfl
      have x4:=HB2.out.mark.cell (i:=4) (v:=.int .i64 x.n) rfl
      have hds : (k=m.free.length∧B (JoinHi m.free k x)=false)∨(k < m.free.length∧x.page + x.n=(ix noRun m.free k).at_∧B (JoinHi m.free k x)=true)∨(k < m.free.length∧x.page + x.n≠(ix noRun m.free k).at_∧B (JoinHi m.free k x)=false):=by
       by_cases h0 : k < m.free.length
       ·by_cases h1 : x.page + x.n=(ix noRun m.free k).at_
        ·exact .inr (.inl ⟨h0,h1,B_yes ⟨h0,h1⟩⟩)
        ·exact .inr (.inr ⟨h0,h1,B_no fun h=>h1 h.2⟩)
       ·exact .inl ⟨by have:=HS.out.1.1; omega,B_no fun h=>h0 h.1⟩
      rcases hds with ⟨h0,hB⟩ | ⟨h0,h1,hB⟩ | ⟨h0,h1,hB⟩
      ·have HB:=Lib.hid hB
       have e0 : decide ((k : Int) < (m.free.length : Int))=false:=decide_eq_false (by omega)
       have e1 : decide (k < m.free.length)=false:=decide_eq_false (by omega)
       clear h0 hB
       go_quiet (fail)
       go_wp2_with fail
       go_meet
       exact ⟨congrArg Value.bool HB.out.symm,_,rfl⟩
      all_goals
       have HB:=Lib.hid hB
       have e0 : decide ((k : Int) < (m.free.length : Int))=true:=decide_eq_true (by omega)
       have e1 : decide (k < m.free.length)=true:=decide_eq_true (by omega)
       have q2 : (0 : Int)≤(k : Int):=by omega
       have q3 : (k : Int) < (m.free.length : Int):=by omega
       obtain ⟨b,off,hFA,hcl⟩:=HB2.out.sl (by show 0 < m.free.length; omega)
       subst hFA
       have a0:=hcl (k * 2 + 0) (by show _ < m.free.length * 2; omega)
       rw [Nat.add_zero,runV0] at a0
       obtain ⟨r,hr⟩ : ∃ r,ix noRun m.free k=r:=⟨_,rfl⟩
       rw [hr] at h1
       have a0' : wc.cell? ⟨b,off + k * 2,none⟩=some (.int .i64 r.at_):=by rw [← hr]; exact a0
       clear hcl hr hB h0 a0
      ·have e2 : (x.page + x.n == r.at_)=true:=by simpa using h1
       clear h1
       go_quiet (fail)
       go_wp2_with fail
       go_meet
       exact ⟨congrArg Value.bool HB.out.symm,_,rfl⟩
      ·have e2 : (x.page + x.n == r.at_)=false:=by simpa using h1
       clear h1
       go_quiet (fail)
       go_wp2_with fail
       go_meet
       exact ⟨congrArg Value.bool HB.out.symm,_,rfl⟩
     case rest =>
      obtain ⟨rfl,nd2,rfl⟩:=hcut
      obtain ⟨W8,hW8⟩ : ∃ W8,W8=wc.drewN nd2:=⟨_,rfl⟩
      have HB3:=Lib.hid (hW8▸HB2.out.ext ((Ext.refl wc).drewN nd2) : BackW { m with hands:=cutIn m.hands j (j + 1) [] } d base W5.heap.size FA fc (.slice FA m.free.length fc) (.slice A' N c') S G #[.int .i64 x.kind,.int .i64 x.thread,.int .i64 x.entry,.int .i64 x.page,.int .i64 x.n,.int .u64 (x.mask : Int)] w.heap.size w rl W8)
      rw [← hW8]
      clear hW8 HB2
      go_upto_if 147 with fail
      go_cut [11] (fun s wx=>s=.int .i64 ((backTo m.free k x : Nat) : Int)∧Hid (BackW { m with hands:=cutIn m.hands j (j + 1) [] } d base W5.heap.size FA fc (.slice FA m.free.length fc) (.slice A' N c') S G #[.int .i64 x.kind,.int .i64 x.thread,.int .i64 x.entry,.int .i64 x.page,.int .i64 x.n,.int .u64 (x.mask : Int)] w.heap.size w (backRun m.free k x) wx))
      case first =>
       have hbr : backRun m.free k x=⟨rl.at_,rl.n + (if B (JoinHi m.free k x) then (ix noRun m.free k).n else 0)⟩:=by rw [← HR0.out]; rfl
       have hrn : 1≤rl.n∧rl.n≤8192:=by
        rw [← HR0.out]
        unfold loRun
        dsimp only
        split
        ·rename_i h
         have h1:=B_iff.1 h
         have:=HD.out.2.2.1 (k - 1) (by have:=HS.out.1.1; have:=h1.1; omega)
         omega
        ·omega
       rcases hB : B (JoinHi m.free k x) with _ | _
       ·go_wp2_with fail
        go_meet
        have e1 : backTo m.free k x=k:=by unfold backTo; rw [hB]; rfl
        have e2 : backRun m.free k x=rl:=by rw [hbr,hB]; simp
        rw [e1,e2]
        exact ⟨rfl,HB3⟩
       ·obtain ⟨h0,h1⟩:=B_iff.1 hB
        have q2 : (0 : Int)≤(k : Int):=by omega
        have q3 : (k : Int) < (m.free.length : Int):=by omega
        obtain ⟨b,off,hFA,hcl⟩:=HB3.out.sl (by show 0 < m.free.length; omega)
        subst hFA
        have a1:=hcl (k * 2 + 1) (by show _ < m.free.length * 2; omega)
        rw [runV1,← Nat.add_assoc] at a1
        have d1:=HB3.out.desk.blk.cell (i:=1) (v:=.slice (some ⟨b,off,none⟩) m.free.length fc) rfl
        have w1':=HB3.out.blk.cell (i:=1) (v:=.int .i64 rl.n) rfl
        have wz1:=HB3.out.blk.frozen 1
        obtain ⟨t0,t1,t2⟩:=HD.out.2.2.1 k h0
        obtain ⟨r,hr⟩ : ∃ r,ix noRun m.free k=r:=⟨_,rfl⟩
        rw [hr] at t0 t1 t2
        have a1' : W8.cell? ⟨b,off + k * 2 + 1,none⟩=some (.int .i64 r.n):=by rw [← hr]; exact a1
        have q6 : IntKind.i64.wrap (rl.n + r.n)=rl.n + r.n:=by rw [IntKind.wrap_i64]; omega
        have hbl : ¬ b=W5.heap.size:=by have:=HFb.out b off rfl; omega
        have hbl' : ¬ W5.heap.size=b:=fun e=>hbl e.symm
        have HR:=Lib.hid (And.intro hr (And.intro hB hbr))
        clear hcl hr hB h0 h1 hbr a1
        go_wp2_with fail
        go_region
        go_wp2_with fail
        go_meet
        have hF : (some (⟨b,off,none⟩ : Addr)).map (·.block)≠some W5.heap.size:=fun e=>by injection e with e; exact hbl e
        have e1 : ((backTo m.free k x : Nat) : Int)=(k : Int) + 1:=by unfold backTo; rw [HR.out.2.1,if_pos rfl]; omega
        have e2 : backRun m.free k x=⟨rl.at_,rl.n + r.n⟩:=by rw [HR.out.2.2,HR.out.2.1,if_pos rfl,HR.out.1]
        rw [e1,e2]
        exact ⟨rfl,Lib.hid ((HB3.out.set1 hF (rl.n + r.n)).ext ((Ext.refl _).drew))⟩
      case rest =>
       obtain ⟨rfl,HB4⟩:=hcut
       clear HB3
       have hfk : backFrom m.free k x≤k:=by unfold backFrom; split <;> omega
       have hkt : k≤backTo m.free k x∧backTo m.free k x≤m.free.length:=by
        have:=HS.out.1.1
        unfold backTo
        split
        ·rename_i h
         have:=(B_iff.1 h).1
         omega
        ·omega
       have hrep : ∀ W,Ext wc W→RowW W wc.heap.size 54 [.int .i64 (backRun m.free k x).at_,.int .i64 (backRun m.free k x).n]→Calls Tryz.prog 83 #[.slice FA m.free.length fc,.int .i64 ((backFrom m.free k x : Nat) : Int),.int .i64 ((backTo m.free k x : Nat) : Int),.slice (some ⟨wc.heap.size,0,none⟩) 1 1] W fun e w' =>
         ∃ A'' N'' c'' v,e=.returned (.slice A'' N'' c'')∧w'.cell? ⟨d,1,none⟩=some v∧w'.frozen? ⟨d,1,none⟩=false∧Hid (BackP m d base (.slice FA m.free.length fc) (.slice (some ⟨g,0,none⟩) m.hands.length hc) S G x w (.returned (.bool true)) (w'.setCell ⟨d,1,none⟩ (.slice A'' N'' c''))):=fun W hE hRow=>by
        have hBW:=HB4.out.ext hE
        refine (repRunL base fc (backFrom m.free k x) (backTo m.free k x) 1 FA (some ⟨wc.heap.size,0,none⟩) m.free [backRun m.free k x] W (by omega) hkt.2 (fun _=>by simp) (by simp; omega) (Nat.le_trans hbase hBW.size) hBW.desk.own.free (.inr ⟨wc.heap.size,_,_,rfl,hRow,fun h=>?_,fun i hi=>?_⟩)).mono fun e w' ⟨A'',c'',he,hO,hg⟩=>?_
        ·have h1:=(World.ownsRow.lt HB4.out.desk.own.free wc.heap.size (by rw [own_blk]; exact h.symm)).2
         omega
        ·have hi' : i=0∨i=1:=by simp at hi; omega
         rcases hi' with rfl | rfl <;> rfl
        ·have hg' : W.grownBy w' (Value.slice FA m.free.length fc).ownBlock:=by rw [own_blk]; exact hg
         have hb2:=hBW.desk.blk.grown hg' (Ne.symm hBW.desk.nes.1)
         exact ⟨A'',_,c'',_,he,hb2.cell (i:=1) rfl,hb2.frozen 1,Lib.hid ⟨((hBW.keep.trans (KeepD.grown hBW.desk.own.free hg')).trans (KeepD.set _ _)),by simpa using Nat.le_trans hBW.size hg.size,.inr ⟨rfl,j,k,_,_,HP.out.1,by rw [show HandP m x j↔_ from Iff.rfl]; unfold HandP; rw [HP.out.2.2.2.1]; exact HP.out.2.1,by rw [HP.out.2.2.2.1]; exact HN.out,HS.out.1,hBW.desk.setFree hg' _ hO⟩⟩⟩
       have HRp:=Lib.hid hrep
       have HEX:=Lib.hid (show Ext wc (wc.alloc (.cells #[.int .i64 (backRun m.free k x).at_,.int .i64 (backRun m.free k x).n] 54)).drew from ((Ext.refl wc).alloc _).drew)
       have HRW:=Lib.hid (show RowW (wc.alloc (.cells #[.int .i64 (backRun m.free k x).at_,.int .i64 (backRun m.free k x).n] 54)).drew wc.heap.size 54 [.int .i64 (backRun m.free k x).at_,.int .i64 (backRun m.free k x).n] from (Blk.new wc _ _ _ rfl))
       have d1:=HB4.out.desk.blk.cell (i:=1) (v:=.slice FA m.free.length fc) rfl
       have w0:=HB4.out.blk.cell (i:=0) (v:=.int .i64 (backRun m.free k x).at_) rfl
       have w1':=HB4.out.blk.cell (i:=1) (v:=.int .i64 (backRun m.free k x).n) rfl
       have hdc : d < wc.heap.size:=HB4.out.desk.blk.lt
       have hbc : W5.heap.size < wc.heap.size:=HB4.out.blk.lt
       clear hrep hfk hkt
       go_wp2_with fail
       go_region_law? (go_simp; go_at_call 83; (with_reducible refine (HRp.out _ HEX.out HRW.out).mono ?_); rintro e w9 ⟨A'',N'',c'',v,rfl,k1,k2,HP9⟩)
       all_goals
        go_wp2
        go_ret
        exact HP9.out
  ·have en : (h.n == x.n)=false:=by simpa using hn
   have en2 : (h.n != x.n)=true:=by simpa using hn
   have HN:=Lib.hid hn
   clear hn
   go_wp2_with fail
   go_quiet (fail)
   go_wp2
   go_ret
   have hEq:=HP.out.2.2.2.2.1.drewN nq
   refine ⟨KeepD.ext hEq,hEq.size,.inl ⟨rfl,fun i hi h1 h2=>?_,HD.out.1.ext hEq⟩⟩
   have hij : i=j:=by
    rcases Nat.lt_trichotomy i j with h3 | h3 | h3
    ·exact absurd h1 (HP.out.2.2.1 i h3)
    ·exact h3
    ·refine absurd ?_ (h2 j h3)
     unfold HandP
     rw [HP.out.2.2.2.1]
     exact HP.out.2.1
   rw [hij,HP.out.2.2.2.1]
   exact HN.out
end Go.Proofs.YtoolenhnhlfhmaaGreatDoor
