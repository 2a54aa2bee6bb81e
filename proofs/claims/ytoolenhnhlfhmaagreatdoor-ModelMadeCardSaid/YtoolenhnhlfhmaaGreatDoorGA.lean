/- Plain words for memory and bits, used by every walk of this claim. No program is named here. More plain words: append of a whole slice, in a list of operations. Blocks that are known whole. Slices of the call's own, kept behind writes to others; lists that grow. -/
import Derived.WalkKit
import Derived.WalkSpells
import Derived.WalkLawsBesides
import Derived.Deep.OwnRows
import Derived.Lib.Hide
import Derived.BigGuard
import Derived.Deep.LoopGhost
import Derived.Deep.Light
import Derived.Deep.AppendLies
import Derived.StillTailTactics
import Derived.Deep.RegionHeld3
import Derived.Deep.RegionWith
import Derived.BigRegion
import Derived.BigQuiet
import Derived.Deep.QuietTactic
import Derived.Deep.RegionLaw
import Derived.Laws.OwnMore
namespace Go.Proofs.YtoolenhnhlfhmaaGreatDoor
open Go.RowKit
set_option linter.unusedVariables false
set_option linter.unusedSimpArgs false
/-- A slice of n elements of sz cells each, at address A, reads as f (cell by cell). -/
def SlR (w : World) (A : Option Addr) (n sz : Nat) (f : Nat→Value) : Prop :=
 0 < n→∃ b off,A=some ⟨b,off,none⟩∧∀ j,j < n * sz→w.cell? ⟨b,off + j,none⟩=some (f j)
theorem SlR.keep {w w' : World} {A : Option Addr} {n sz : Nat} {f : Nat→Value} (h : SlR w A n sz f) 
  (hk : ∀ p : Addr,p.block < w.heap.size→w'.cell? p=w.cell? p) : SlR w' A n sz f:=by
 intro hn
 obtain ⟨b,off,hA,hc⟩:=h hn
 exact ⟨b,off,hA,fun j hj=>(hk _ (World.block_lt_of_cell? _ _ (hc j hj))).trans (hc j hj)⟩
theorem SlR.below {w w' : World} {A : Option Addr} {n sz : Nat} {f : Nat→Value} (h : SlR w A n sz f)
  (hb : Below w.heap.size w w') : SlR w' A n sz f:=by
 intro hn
 obtain ⟨b,off,hA,hc⟩:=h hn
 exact ⟨b,off,hA,fun j hj=>(hb.cell (World.block_lt_of_cell? _ _ (hc j hj))).trans (hc j hj)⟩
theorem SlR.nil {w : World} {A : Option Addr} {sz : Nat} {f : Nat→Value} : SlR w A 0 sz f:=fun h=>absurd h (by omega)
theorem SlR.congr {w : World} {A : Option Addr} {n sz : Nat} {f g : Nat→Value} (h : SlR w A n sz f) (e : ∀ j,j < n * sz→f j=g j) : SlR w A n sz g:=by
 intro hn
 obtain ⟨b,off,hA,hc⟩:=h hn
 exact ⟨b,off,hA,fun j hj=>by rw [hc j hj,e j hj]⟩
/-- Cells of a block just laid. -/
theorem cell_new (w : World) (cs : Array Value) (t : TypeId) (i : Nat) (v : Value) (h : cs[i]?=some v) : (w.alloc (.cells cs t)).cell? ⟨w.heap.size,i,none⟩=some v:=by
 have hb:=Deep.blk_alloc_new w (.cells cs t)
 simp only [World.cell?,hb]
 exact h
theorem frozen_new (w : World) (cs : Array Value) (t : TypeId) (i : Nat) : (w.alloc (.cells cs t)).frozen? ⟨w.heap.size,i,none⟩=false:=by
 have hb:=Deep.blk_alloc_new w (.cells cs t)
 simp only [World.frozen?,hb]
 simp
/-- The world has grown: what was there is as it was. -/
def Ext (w w' : World) : Prop:=Below w.heap.size w w'
theorem Ext.refl (w : World) : Ext w w:=Below.refl _ _
theorem Ext.trans {a b c : World} (h : Ext a b) (k : Ext b c) : Ext a c:=Below.trans h (Below.mono k h.size)
theorem Ext.alloc {a w : World} (h : Ext a w) (o : Obj) : Ext a (w.alloc o):=Below.alloc h h.size o
theorem Ext.drew {a w : World} (h : Ext a w) : Ext a w.drew:=Below.drew h
theorem Ext.drewN {a w : World} (h : Ext a w) (n : Nat) : Ext a (w.drewN n):=⟨h.os,h.tape,h.output,h.size,h.block⟩
theorem Ext.setCell {a w : World} (h : Ext a w) {p : Addr} (hp : a.heap.size≤p.block) (u : Value) : Ext a (w.setCell p u):=Below.setCell h hp u
theorem Ext.cell {a w : World} (h : Ext a w) {p : Addr} {v : Value} (hc : a.cell? p=some v) : w.cell? p=some v:=(Below.cell h (World.block_lt_of_cell? _ _ hc)).trans hc
theorem Ext.frozen {a w : World} (h : Ext a w) {p : Addr} (hp : p.block < a.heap.size) : w.frozen? p=a.frozen? p:=Below.frozen h hp
theorem Ext.rowIs {a w : World} (h : Ext a w) {b t n : Nat} {f : Nat→Value} (hr : a.rowIs b t n f) : w.rowIs b t n f:=hr.of_block (h.block b hr.lt)
/-- For the walk: cells that were there. -/
theorem Ext.bcell {W w1 : World} (hb : Ext W w1) : (∀ b o,b < W.heap.size→w1.cell? ⟨b,o,none⟩=W.cell? ⟨b,o,none⟩)∧(∀ b o,b < W.heap.size→w1.frozen? ⟨b,o,none⟩=W.frozen? ⟨b,o,none⟩) :=
 ⟨fun b o h=>Below.cell (p:=⟨b,o,none⟩) hb h,fun b o h=>Below.frozen (p:=⟨b,o,none⟩) hb h⟩
theorem SlR.ext {w w' : World} {A : Option Addr} {n sz : Nat} {f : Nat→Value} (h : SlR w A n sz f) (hb : Ext w w') : SlR w' A n sz f:=h.below hb
/-- A slice of the call's own, n elements of size cells, cell j holding F j. -/
def OwnS (w : World) (base : Nat) (e : TypeId) (size : Nat) (v : Value) (n : Nat) (F : Nat→Value) : Prop:=w.ownsRow base e size v n ((List.range (n * size)).map F)
theorem OwnS.nil (w : World) (base : Nat) (e : TypeId) (size : Nat) (F : Nat→Value) : OwnS w base e size (.slice none 0 0) 0 F:=by
 unfold OwnS; simpa using World.ownsRow_nil w base e size
theorem OwnS.congr {w : World} {base : Nat} {e : TypeId} {size : Nat} {v : Value} {n : Nat} {F G : Nat→Value} (h : OwnS w base e size v n F) (hF : ∀ j,j < n * size→F j=G j) : OwnS w base e size v n G:=by
 unfold OwnS at *
 rwa [List.map_congr_left (fun j hj=>hF j (List.mem_range.1 hj))] at h
theorem OwnS.form {w : World} {base : Nat} {e : TypeId} {size : Nat} {v : Value} {n : Nat} {F : Nat→Value} (h : OwnS w base e size v n F) : ∃ A c,v=.slice A n c∧n≤c∧SlR w A n size F:=by
 rcases h.2 with ⟨rfl,rfl⟩ | ⟨g,cap,cur,rfl,hg,hh,hn,hc,hsz,hcur⟩
 ·exact ⟨none,0,rfl,Nat.le_refl _,SlR.nil⟩
 ·refine ⟨_,_,rfl,hn,fun _=>⟨g,0,rfl,fun j hj=>?_⟩⟩
  have h2:=World.ownsRow.cellAt h j hj
  rw [Nat.zero_add,h2,List.getElem?_map,List.getElem?_range hj]
  rfl
theorem OwnS.ext {w w' : World} {base : Nat} {e : TypeId} {size : Nat} {v : Value} {n : Nat} {F : Nat→Value} (h : OwnS w base e size v n F) (hE : Ext w w') : OwnS w' base e size v n F:=by
 refine ⟨h.1,?_⟩
 rcases h.2 with h2 | ⟨g,cap,cur,hv,hg,hh,r⟩
 ·exact .inl h2
 ·exact .inr ⟨g,cap,cur,hv,hg,(hE.block g (Array.getElem?_eq_some_iff.1 hh).1).trans hh,r⟩
theorem OwnS.mono {w : World} {base base' : Nat} {e : TypeId} {size : Nat} {v : Value} {n : Nat} {F : Nat→Value} (h : OwnS w base e size v n F) (hb : base'≤base) : OwnS w base' e size v n F:=by
 refine ⟨h.1,?_⟩
 rcases h.2 with h2 | ⟨g,cap,cur,hv,hg,r⟩
 ·exact .inl h2
 ·exact .inr ⟨g,cap,cur,hv,by omega,r⟩
/-- append of one element to a slice of the call's own. -/
theorem wp_push {P : Program} {w : World} {o : Oper} {a : Act} {K : Act→World→Prop} {Q : Exit→Act→World→Prop} (s x : Operand) (t : TypeId)
  (ho : o.op=.call { callee:=.builtin .append,args:=#[s,x],argTypes:=#[t,t] })
  (base : Nat) (e : TypeId) (i : TypeInfo) (z : Value) (size bytes : Nat) (ht : P.underlying t=some (.slice e)) (hi : P.info? e=some i) (hz : i.zero=some z)
  (hsize : i.size=size) (hby : i.bytes=bytes) (hzs : z.cells.size=size) (hsz : 0 < size)
  (v : Value) (n : Nat) (F : Nat→Value) (hs : a.eval s=v) (hown : OwnS w base e size v n F)
  (ad : Addr) (c : Nat) (G : Nat→Value) (hx : a.eval x=.slice (some ad) 1 c) (hnews : ∀ j,j < size→w.cell? (ad.add j)=some (G j)) (h1 : ∀ j,j < size→(G j).oneCell'=true)
  (h63 : n + 1≤maxLen) (hbytes : (n + 1) * bytes≤140737488355328) (hbase : base≤w.heap.size) (H : Nat) (hH : w.heap.size=H)
  (F' : Nat→Value) (hF1 : ∀ j,j < n * size→F' j=F j) (hF2 : ∀ j,j < size→F' (n * size + j)=G j)
  (h : ∀ g cap w',OwnS w' base e size (.slice (some ⟨g,0,none⟩) (n + 1) cap) (n + 1) F'→w.grownBy w' v.ownBlock→(∀ w0,Ext w0 w→w0.heap.size≤base→Ext w0 w')→(v.ownBlock=some g∨g=H)→g < w'.heap.size→K (a.put o.dst (.slice (some ⟨g,0,none⟩) (n + 1) cap)) w') : o.wp P a w K Q:=by
 have hl : ((List.range size).map G).length=1 * size:=by simp
 refine wp_append_lies _ s x t ho base e i z size bytes ht hi hz hsize hby hzs hsz v n _ hs hown ad 1 c ((List.range size).map G) hx hl (fun j u hu=>?_) (fun u hu=>?_) (by omega) h63 hbytes hbase H hH (fun g cap w' ho' hg hor hlt=>?_)
 ·rw [List.getElem?_map] at hu
  by_cases hj : j < size
  ·rw [List.getElem?_range hj] at hu
   simp at hu
   subst hu
   exact hnews j hj
  ·rw [List.getElem?_eq_none (by simp; omega)] at hu
   cases hu
 ·obtain ⟨j,hj,rfl⟩:=List.mem_map.1 hu
  exact h1 j (List.mem_range.1 hj)
 ·refine h g cap w' ?_ hg (fun w0 hE hb=>?_) hor hlt
  ·have e1 : (List.range (n * size)).map F ++ (List.range size).map G=(List.range ((n + 1) * size)).map F':=by
    rw [Nat.succ_mul,List.range_add,List.map_append,List.map_map]
    congr 1
    ·exact (List.map_congr_left (fun j hj=>hF1 j (List.mem_range.1 hj))).symm
    ·exact (List.map_congr_left (fun j hj=>hF2 j (List.mem_range.1 hj))).symm
   unfold OwnS
   rw [← e1]
   exact ho'
  ·exact Below.grown hE hg hE.size (fun k hk=>Nat.le_trans hb (World.ownsRow.lt hown k hk).1)
/-- append of one element to a slice of the call's own. -/
theorem wpList_push {P : Program} {w : World} {ops : Array Oper} {rest : List Oper} {o : Oper} {a : Act} {Q : Exit→Act→World→Prop} (hgd : o.guard=none) (s x : Operand) (t : TypeId)
  (ho : o.op=.call { callee:=.builtin .append,args:=#[s,x],argTypes:=#[t,t] })
  (base : Nat) (e : TypeId) (i : TypeInfo) (z : Value) (size bytes : Nat) (ht : P.underlying t=some (.slice e)) (hi : P.info? e=some i) (hz : i.zero=some z)
  (hsize : i.size=size) (hby : i.bytes=bytes) (hzs : z.cells.size=size) (hsz : 0 < size)
  (v : Value) (n : Nat) (F : Nat→Value) (hs : a.eval s=v) (hown : OwnS w base e size v n F)
  (ad : Addr) (c : Nat) (G : Nat→Value) (hx : a.eval x=.slice (some ad) 1 c) (hnews : ∀ j,j < size→w.cell? (ad.add j)=some (G j)) (h1 : ∀ j,j < size→(G j).oneCell'=true)
  (h63 : n + 1≤maxLen) (hbytes : (n + 1) * bytes≤140737488355328) (hbase : base≤w.heap.size) (H : Nat) (hH : w.heap.size=H)
  (F' : Nat→Value) (hF1 : ∀ j,j < n * size→F' j=F j) (hF2 : ∀ j,j < size→F' (n * size + j)=G j)
  (h : ∀ g cap w',OwnS w' base e size (.slice (some ⟨g,0,none⟩) (n + 1) cap) (n + 1) F'→w.grownBy w' v.ownBlock→(∀ w0,Ext w0 w→w0.heap.size≤base→Ext w0 w')→(v.ownBlock=some g∨g=H)→g < w'.heap.size→wpList P ops Q rest (a.put o.dst (.slice (some ⟨g,0,none⟩) (n + 1) cap)) w') : wpList P ops Q (o :: rest) a w :=
 wpList_plain hgd fun _ hK=>wp_push s x t ho base e i z size bytes ht hi hz hsize hby hzs hsz v n F hs hown ad c G hx hnews h1 h63 hbytes hbase H hH F' hF1 hF2 fun g cap w' h1 h2 h3 h4 h5=>hK _ _ (h g cap w' h1 h2 h3 h4 h5)
/-- The same, as a step of a region that draws its order. -/
theorem step_push {P : Program} {w : World} {ops : Array Oper} {o : Oper} {a : Act} {K : Act→World→Prop} {Q : Exit→Act→World→Prop} {E : Prop} (hgd : o.guard=none) (s x : Operand) (t : TypeId)
  (ho : o.op=.call { callee:=.builtin .append,args:=#[s,x],argTypes:=#[t,t] })
  (base : Nat) (e : TypeId) (i : TypeInfo) (z : Value) (size bytes : Nat) (ht : P.underlying t=some (.slice e)) (hi : P.info? e=some i) (hz : i.zero=some z)
  (hsize : i.size=size) (hby : i.bytes=bytes) (hzs : z.cells.size=size) (hsz : 0 < size)
  (v : Value) (n : Nat) (F : Nat→Value) (hs : a.eval s=v) (hown : OwnS w base e size v n F)
  (ad : Addr) (c : Nat) (G : Nat→Value) (hx : a.eval x=.slice (some ad) 1 c) (hnews : ∀ j,j < size→w.cell? (ad.add j)=some (G j)) (h1 : ∀ j,j < size→(G j).oneCell'=true)
  (h63 : n + 1≤maxLen) (hbytes : (n + 1) * bytes≤140737488355328) (hbase : base≤w.heap.size) (H : Nat) (hH : w.heap.size=H)
  (F' : Nat→Value) (hF1 : ∀ j,j < n * size→F' j=F j) (hF2 : ∀ j,j < size→F' (n * size + j)=G j)
  (h : ∀ g cap w',OwnS w' base e size (.slice (some ⟨g,0,none⟩) (n + 1) cap) (n + 1) F'→w.grownBy w' v.ownBlock→(∀ w0,Ext w0 w→w0.heap.size≤base→Ext w0 w')→(v.ownBlock=some g∨g=H)→g < w'.heap.size→K (a.put o.dst (.slice (some ⟨g,0,none⟩) (n + 1) cap)) w') : if Region.wanted o (yielded ops a.tmps)=true then Oper.wp P o a w K Q else E:=by
 have hw : Region.wanted o (yielded ops a.tmps)=true:=by simp [Region.wanted,hgd]
 rw [if_pos hw]
 exact wp_push s x t ho base e i z size bytes ht hi hz hsize hby hzs hsz v n F hs hown ad c G hx hnews h1 h63 hbytes hbase H hH F' hF1 hF2 h
/-- append of a whole slice to a slice of the call's own. -/
theorem wp_pushAll {P : Program} {w : World} {o : Oper} {a : Act} {K : Act→World→Prop} {Q : Exit→Act→World→Prop} (s x : Operand) (t : TypeId)
  (ho : o.op=.call { callee:=.builtin .append,args:=#[s,x],argTypes:=#[t,t] })
  (base : Nat) (e : TypeId) (i : TypeInfo) (z : Value) (size bytes : Nat) (ht : P.underlying t=some (.slice e)) (hi : P.info? e=some i) (hz : i.zero=some z)
  (hsize : i.size=size) (hby : i.bytes=bytes) (hzs : z.cells.size=size) (hsz : 0 < size)
  (v : Value) (n : Nat) (F : Nat→Value) (hs : a.eval s=v) (hown : OwnS w base e size v n F)
  (A : Option Addr) (m c : Nat) (G : Nat→Value) (hx : a.eval x=.slice A m c) (hr : SlR w A m size G) (h1 : ∀ j,j < m * size→(G j).oneCell'=true)
  (h63 : n + m≤maxLen) (hbytes : (n + m) * bytes≤140737488355328) (hbase : base≤w.heap.size)
  (F' : Nat→Value) (hF1 : ∀ j,j < n * size→F' j=F j) (hF2 : ∀ j,j < m * size→F' (n * size + j)=G j)
  (h : ∀ v' w',OwnS w' base e size v' (n + m) F'→w.grownBy w' v.ownBlock→(∀ w0,Ext w0 w→w0.heap.size≤base→Ext w0 w')→(v'.ownBlock=v.ownBlock∨v'.ownBlock=some w.heap.size)→K (a.put o.dst v') w') : o.wp P a w K Q:=by
 have key : ∃ v' w',(Builtin.append_ #[t,t] o.type #[v,.slice A m c]).run P w=.ok v' w'∧OwnS w' base e size v' (n + m) F'∧w.grownBy w' v.ownBlock∧(v'.ownBlock=v.ownBlock∨v'.ownBlock=some w.heap.size):=by
  rcases A with _ | ad
  ·have hm : m=0:=by
    rcases Nat.eq_zero_or_pos m with h0 | h0
    ·exact h0
    ·obtain ⟨b,off,hA,_⟩:=hr h0
     cases hA
   subst hm
   refine ⟨v,w,?_,hown.congr (fun j hj=>(hF1 j hj).symm),World.grownBy.refl w _,.inl rfl⟩
   rcases hown.2 with ⟨rfl,rfl⟩ | ⟨g,cap,cur,rfl,_,_,hnc,_⟩
   ·simp [Builtin.append_,run_underlying ht,sizeOf,typeInfo,hi,Builtin.lenOf,Builtin.firstCells]
   ·simp [Builtin.append_,run_underlying ht,sizeOf,typeInfo,hi,Builtin.lenOf,Builtin.firstCells,hnc,storeCells]
  ·have hl : ((List.range (m * size)).map G).length=m * size:=by simp
   obtain ⟨v',w',hrun,h2,h3,_,h5⟩:=run_append_own_at (P:=P) w base t o.type e i z size bytes ht hi hz hsize hby hzs hsz v n _ hown ad m c ((List.range (m * size)).map G) hl (fun j u hu=>by
    rw [List.getElem?_map] at hu
    by_cases hj : j < m * size
    ·rw [List.getElem?_range hj] at hu
     simp at hu
     subst hu
     have hm : 0 < m:=by
      rcases Nat.eq_zero_or_pos m with h0 | h0
      ·subst h0; omega
      ·exact h0
     obtain ⟨b,off,hA,hc⟩:=hr hm
     injection hA with hA
     subst hA
     have:=hc j hj
     unfold Addr.add
     split
     ·subst_vars; exact this
     ·exact this
    ·rw [List.getElem?_eq_none (by simp; omega)] at hu
     cases hu) (fun u hu=>by
    obtain ⟨j,hj,rfl⟩:=List.mem_map.1 hu
    exact h1 j (List.mem_range.1 hj)) h63 hbytes hbase
   refine ⟨v',w',hrun,?_,h3,h5⟩
   have e1 : (List.range (n * size)).map F ++ (List.range (m * size)).map G=(List.range ((n + m) * size)).map F':=by
    rw [Nat.add_mul,List.range_add,List.map_append,List.map_map]
    congr 1
    ·exact (List.map_congr_left (fun j hj=>hF1 j (List.mem_range.1 hj))).symm
    ·exact (List.map_congr_left (fun j hj=>hF2 j (List.mem_range.1 hj))).symm
   unfold OwnS
   rw [← e1]
   exact h2
 obtain ⟨v',w',hrun,h2,h3,h4⟩:=key
 unfold Oper.wp execOp
 simp only [ho,resolve,invoke,builtin,Sem.run_bind,Sem.run_pure,Result.andThen_ok,List.map_toArray,List.map_cons,List.map_nil,hs,hx,hrun]
 exact h v' w' h2 h3 (fun w0 hE hb=>Below.grown hE h3 hE.size (fun k hk=>Nat.le_trans hb (World.ownsRow.lt hown k hk).1)) h4
theorem OwnS.cellAt {w : World} {base : Nat} {e : TypeId} {size g n cap : Nat} {F : Nat→Value} (h : OwnS w base e size (.slice (some ⟨g,0,none⟩) n cap) n F) {j : Nat} (hj : j < n * size) : w.cell? ⟨g,j,none⟩=some (F j):=by
 have h2:=World.ownsRow.cellAt h j hj
 rw [h2,List.getElem?_map,List.getElem?_range hj]
 rfl
theorem OwnS.frozenAt {w : World} {base : Nat} {e : TypeId} {size g n cap : Nat} {F : Nat→Value} (h : OwnS w base e size (.slice (some ⟨g,0,none⟩) n cap) n F) (j : Nat) : w.frozen? ⟨g,j,none⟩=false:=World.ownsRow.frozenAt h j
theorem OwnS.base_le {w : World} {base : Nat} {e : TypeId} {size g n cap : Nat} {F : Nat→Value} (h : OwnS w base e size (.slice (some ⟨g,0,none⟩) n cap) n F) : base≤g:=(World.ownsRow.lt h g rfl).1
theorem OwnS.set {w : World} {base : Nat} {e : TypeId} {size g n cap : Nat} {F : Nat→Value} (h : OwnS w base e size (.slice (some ⟨g,0,none⟩) n cap) n F) (j : Nat) (u : Value) :
  OwnS (w.setCell ⟨g,j,none⟩ u) base e size (.slice (some ⟨g,0,none⟩) n cap) n (fun k=>if k=j then u else F k):=by
 have h2:=(World.ownsRow.stored h j u).1
 unfold OwnS
 have e : ((List.range (n * size)).map F).set j u=(List.range (n * size)).map (fun k=>if k=j then u else F k):=by
  apply List.ext_getElem?
  intro k
  rw [List.getElem?_set,List.getElem?_map,List.getElem?_map]
  by_cases hk : k < n * size
  ·rw [List.getElem?_range hk]
   by_cases e : j=k
   ·subst e; simp [hk]
   ·rw [if_neg e]; simp [Ne.symm e]
  ·rw [List.getElem?_eq_none (l:=List.range (n * size)) (by simp; omega)]
   by_cases e : j=k
   ·subst e; simp [hk]
   ·rw [if_neg e]; rfl
 rw [← e]
 exact h2
theorem OwnS.form' {w : World} {base : Nat} {e : TypeId} {size : Nat} {v : Value} {n : Nat} {F : Nat→Value} (h : OwnS w base e size v n F) (hn : 0 < n) : ∃ g c,v=.slice (some ⟨g,0,none⟩) n c:=by
 rcases h.2 with ⟨rfl,rfl⟩ | ⟨g,cap,cur,rfl,hg,hh,hnc,hc,hsz,hcur⟩
 ·omega
 ·exact ⟨g,cap,rfl⟩
/-! bits -/
theorem and_one_u64 (x : Nat) (hx : x < 18446744073709551616) : bits .and .u64 (x : Int) 1=((x % 2 : Nat) : Int):=by
 have:=u64_and_nat x 1 hx (by omega)
 rw [nat_mask1] at this
 exact this
theorem shr_and_one (x t : Nat) (hx : x < 18446744073709551616) : bits .and .u64 ((x : Int) / 2 ^ t) 1=if x.testBit t then 1 else 0:=by
 have e : ((x : Int) / 2 ^ t)=((x / 2 ^ t : Nat) : Int):=by simp
 rw [e,and_one_u64 _ (Nat.lt_of_le_of_lt (Nat.div_le_self _ _) hx)]
 simp only [Nat.testBit_eq_decide_div_mod_eq]
 have h2:=Nat.mod_two_eq_zero_or_one (x / 2 ^ t)
 rcases h2 with h | h <;> simp [h]
/-! truth values of plain sentences -/
noncomputable def B (p : Prop) : Bool:=@decide p (Classical.propDecidable p)
theorem B_iff {p : Prop} : B p=true↔p:=@decide_eq_true_iff p (Classical.propDecidable p)
theorem B_false {p : Prop} : B p=false↔¬ p:=@decide_eq_false_iff_not p (Classical.propDecidable p)
theorem B_of {p : Prop} {x : Bool} (h : x=true↔p) : x=B p:=by rw [Bool.eq_iff_iff,h,B_iff]
theorem B_congr {p q : Prop} (h : p↔q) : B p=B q:=by rw [Bool.eq_iff_iff,B_iff,B_iff,h]
theorem B_yes {p : Prop} (h : p) : B p=true:=B_iff.2 h
theorem B_no {p : Prop} (h : ¬ p) : B p=false:=B_false.2 h
theorem B_not {p : Prop} : (!B p)=B (¬ p):=by rw [Bool.eq_iff_iff,B_iff,Bool.not_eq_true',B_false]
theorem ret_bool {a b : Bool} (h : a=b) : Ending.returned (.bool a)=Ending.returned (.bool b):=by rw [h]
theorem ret_B {x : Bool} {p : Prop} (h : x=true↔p) : Ending.returned (.bool x)=Ending.returned (.bool (B p)):=by rw [B_of h]
theorem ret_int {k : IntKind} {a b : Int} (h : a=b) : Ending.returned (.int k a)=Ending.returned (.int k b):=by rw [h]
/-- The i-th of a list; behind its end: d. Simp looks not into it. -/
def ix {α : Type} (d : α) (xs : List α) (i : Nat) : α:=xs.getD i d
theorem ix_eq {α : Type} (d : α) (xs : List α) (i : Nat) : ix d xs i=xs.getD i d:=rfl
theorem ix_lt {α : Type} {d : α} {xs : List α} {i : Nat} (h : i < xs.length) : ix d xs i=xs[i]:=by simp [ix,h]
theorem ix_mem {α : Type} {d : α} {xs : List α} {i : Nat} (h : i < xs.length) : ix d xs i ∈ xs:=by rw [ix_lt h]; exact List.getElem_mem h
theorem mem_ix {α : Type} {d : α} {xs : List α} {P : α→Prop} : (∀ x ∈ xs,P x)↔∀ i,i < xs.length→P (ix d xs i):=by
 constructor
 ·intro h i hi; exact h _ (ix_mem hi)
 ·intro h x hx
  obtain ⟨i,hi,rfl⟩:=List.mem_iff_getElem.1 hx
  have:=h i hi
  rwa [ix_lt hi] at this
theorem mem_ix' {α : Type} {d : α} {xs : List α} {P : α→Prop} : (∃ x ∈ xs,P x)↔∃ i,i < xs.length∧P (ix d xs i):=by
 constructor
 ·rintro ⟨x,hx,hp⟩
  obtain ⟨i,hi,rfl⟩:=List.mem_iff_getElem.1 hx
  exact ⟨i,hi,by rwa [ix_lt hi]⟩
 ·rintro ⟨i,hi,hp⟩
  exact ⟨_,ix_mem hi,hp⟩
/-- A slice of ints. -/
def IntsR (w : World) (A : Option Addr) (xs : List Int) : Prop:=SlR w A xs.length 1 (fun j=>.int .i64 (ix 0 xs j))
/-- A call of a script. -/
structure CallD where
 kind : Int
 a : Int
 l : List Int
def noCall : CallD:=⟨0,0,[]⟩
def callv (cs : List CallD) (LA : Nat→Option Addr) (LC : Nat→Nat) (j : Nat) : Value :=
 if j % 3=0 then .int .i64 (ix noCall cs (j / 3)).kind else if j % 3=1 then .int .i64 (ix noCall cs (j / 3)).a else .slice (LA (j / 3)) (ix noCall cs (j / 3)).l.length (LC (j / 3))
theorem callv0 (cs : List CallD) (LA : Nat→Option Addr) (LC : Nat→Nat) (i : Nat) : callv cs LA LC (i * 3)=.int .i64 (ix noCall cs i).kind:=by simp [callv]
theorem callv1 (cs : List CallD) (LA : Nat→Option Addr) (LC : Nat→Nat) (i : Nat) : callv cs LA LC (i * 3 + 1)=.int .i64 (ix noCall cs i).a:=by
 simp [callv,show (i * 3 + 1) % 3=1 by omega,show (i * 3 + 1) / 3=i by omega]
theorem callv2 (cs : List CallD) (LA : Nat→Option Addr) (LC : Nat→Nat) (i : Nat) : callv cs LA LC (i * 3 + 2)=.slice (LA i) (ix noCall cs i).l.length (LC i):=by
 simp [callv,show (i * 3 + 2) % 3=2 by omega,show (i * 3 + 2) / 3=i by omega]
/-- A slice of calls. -/
def CallsR (w : World) (A : Option Addr) (cs : List CallD) : Prop :=
 ∃ (LA : Nat→Option Addr) (LC : Nat→Nat),SlR w A cs.length 3 (callv cs LA LC)∧∀ i,i < cs.length→IntsR w (LA i) (ix noCall cs i).l∧(ix noCall cs i).l.length≤maxLen
/-- A slice of slices of calls. -/
def CallssR (w : World) (A : Option Addr) (css : List (List CallD)) : Prop :=
 ∃ (LA : Nat→Option Addr) (LC : Nat→Nat),
  SlR w A css.length 1 (fun j=>.slice (LA j) (ix [] css j).length (LC j))∧∀ i,i < css.length→CallsR w (LA i) (ix [] css i)∧(ix [] css i).length≤maxLen
theorem IntsR.ext {w w' : World} {A : Option Addr} {xs : List Int} (h : IntsR w A xs) (hb : Ext w w') : IntsR w' A xs:=SlR.ext h hb
theorem CallsR.ext {w w' : World} {A : Option Addr} {xs : List CallD} (h : CallsR w A xs) (hb : Ext w w') : CallsR w' A xs:=by
 obtain ⟨LA,LC,h1,h2⟩:=h
 exact ⟨LA,LC,h1.ext hb,fun i hi=>⟨(h2 i hi).1.ext hb,(h2 i hi).2⟩⟩
theorem CallssR.ext {w w' : World} {A : Option Addr} {xs : List (List CallD)} (h : CallssR w A xs) (hb : Ext w w') : CallssR w' A xs:=by
 obtain ⟨LA,LC,h1,h2⟩:=h
 exact ⟨LA,LC,h1.ext hb,fun i hi=>⟨(h2 i hi).1.ext hb,(h2 i hi).2⟩⟩
theorem OwnS.lit0 (w : World) (e : TypeId) (size : Nat) (F : Nat→Value) : OwnS (w.alloc (.cells #[] e)) w.heap.size e size (.slice (some ⟨w.heap.size,0,none⟩) 0 0) 0 F:=by
 have:=World.ownsRow_lit (base:=w.heap.size) (e:=e) (size:=size) w #[] 0 (Nat.le_refl _) (by unfold maxLen; omega) (by simp)
 unfold OwnS
 simpa using this
theorem wpList_pushAll {P : Program} {w : World} {ops : Array Oper} {rest : List Oper} {o : Oper} {a : Act} {Q : Exit→Act→World→Prop} (hgd : o.guard=none) (s x : Operand) (t : TypeId)
  (ho : o.op=.call { callee:=.builtin .append,args:=#[s,x],argTypes:=#[t,t] })
  (base : Nat) (e : TypeId) (i : TypeInfo) (z : Value) (size bytes : Nat) (ht : P.underlying t=some (.slice e)) (hi : P.info? e=some i) (hz : i.zero=some z)
  (hsize : i.size=size) (hby : i.bytes=bytes) (hzs : z.cells.size=size) (hsz : 0 < size)
  (v : Value) (n : Nat) (F : Nat→Value) (hs : a.eval s=v) (hown : OwnS w base e size v n F)
  (A : Option Addr) (m c : Nat) (G : Nat→Value) (hx : a.eval x=.slice A m c) (hr : SlR w A m size G) (h1 : ∀ j,j < m * size→(G j).oneCell'=true)
  (h63 : n + m≤maxLen) (hbytes : (n + m) * bytes≤140737488355328) (hbase : base≤w.heap.size)
  (F' : Nat→Value) (hF1 : ∀ j,j < n * size→F' j=F j) (hF2 : ∀ j,j < m * size→F' (n * size + j)=G j) (N : Nat) (hN : n + m=N)
  (h : ∀ A' c' w',OwnS w' base e size (.slice A' N c') N F'→w.grownBy w' v.ownBlock→(∀ w0,Ext w0 w→w0.heap.size≤base→Ext w0 w')→((Value.slice A' N c').ownBlock=v.ownBlock∨(Value.slice A' N c').ownBlock=some w.heap.size)→wpList P ops Q rest (a.put o.dst (.slice A' N c')) w') : wpList P ops Q (o :: rest) a w:=by
 subst hN
 refine wpList_plain hgd fun _ hK=>wp_pushAll s x t ho base e i z size bytes ht hi hz hsize hby hzs hsz v n F hs hown A m c G hx hr h1 h63 hbytes hbase F' hF1 hF2 fun v' w' h1 h2 h3 h4=>?_
 obtain ⟨A',c',rfl,_,_⟩:=h1.form
 exact hK _ _ (h A' c' w' h1 h2 h3 h4)
/-- x[a:b] -/
theorem SlR.cut {w : World} {A : Option Addr} {n sz : Nat} {F : Nat→Value} (h : SlR w A n sz F) {a b c : Nat} (hab : a≤b) (hbn : b≤n) (hc : n≤c) (G : Nat→Value) (hG : ∀ j,F (a * sz + j)=G j) :
  SlR w (if c=a then A else A.map (·.add (a * sz))) (b - a) sz G:=by
 intro hn
 obtain ⟨bl,off,rfl,hcell⟩:=h (by omega)
 rw [if_neg (by omega)]
 refine ⟨bl,off + a * sz,?_,fun j hj=>?_⟩
 ·simp only [Option.map_some,Option.some.injEq]
  unfold Addr.add
  split
  ·rename_i e; simp [e]
  ·rfl
 ·rw [← hG j,Nat.add_assoc]
  refine hcell _ ?_
  have : (a + (b - a)) * sz≤n * sz:=Nat.mul_le_mul_right _ (by omega)
  rw [Nat.add_mul] at this
  omega
theorem SlR.cut' {w : World} {A : Option Addr} {n sz : Nat} {F : Nat→Value} (h : SlR w A n sz F) {a d c : Nat} (hbn : a + d≤n) (hc : n≤c) (hca : ¬ c=a) (G : Nat→Value) (hG : ∀ j,F (a * sz + j)=G j) :
  SlR w (A.map (fun x=>x.add (a * sz))) d sz G:=by
 have:=h.cut (a:=a) (b:=a + d) (c:=c) (by omega) hbn hc G hG
 rw [if_neg hca,Nat.add_sub_cancel_left] at this
 exact this
/-- Block g is just the cells cs, of element type t, none frozen. -/
def Blk (w : World) (g : Nat) (t : TypeId) (cs : Array Value) : Prop:=w.heap[g]?=some (.cells cs t (0,0))
section
variable {w w' : World} {g : Nat} {t : TypeId} {cs : Array Value}
theorem Blk.lt (h : Blk w g t cs) : g < w.heap.size:=(Array.getElem?_eq_some_iff.1 h).1
theorem Blk.cell (h : Blk w g t cs) {i : Nat} {v : Value} (hi : cs[i]?=some v) : w.cell? ⟨g,i,none⟩=some v:=by
 unfold Blk at h
 simp only [World.cell?,h]
 exact hi
theorem Blk.frozen (h : Blk w g t cs) (i : Nat) : w.frozen? ⟨g,i,none⟩=false:=by
 unfold Blk at h
 simp only [World.frozen?,h]
 simp
theorem Blk.new (w : World) (t : TypeId) (cs : Array Value) (g : Nat) (hg : w.heap.size=g) : Blk (w.alloc (.cells cs t)) g t cs:=by
 subst hg; exact Deep.blk_alloc_new w _
theorem Blk.of_block (h : Blk w g t cs) (e : w'.heap[g]?=w.heap[g]?) : Blk w' g t cs:=e.trans h
theorem Blk.ext (h : Blk w g t cs) (hE : Ext w w') : Blk w' g t cs:=(hE.block g h.lt).trans h
theorem Blk.drew (h : Blk w g t cs) : Blk w.drew g t cs:=h
theorem Blk.alloc (h : Blk w g t cs) (o : Obj) : Blk (w.alloc o) g t cs:=(Below.heap_alloc w o g h.lt).trans h
theorem Blk.grown {row : Option Nat} (h : Blk w g t cs) (hg : w.grownBy w' row) (hne : some g≠row) : Blk w' g t cs:=(hg.block g h.lt hne).trans h
theorem Blk.far (h : Blk w g t cs) {p : Addr} (hp : g≠p.block) (u : Value) : Blk (w.setCell p u) g t cs:=(Below.heap_setCell w p u g hp).trans h
theorem Blk.set (h : Blk w g t cs) (i : Nat) (u : Value) : Blk (w.setCell ⟨g,i,none⟩ u) g t (cs.setIfInBounds i u):=by
 unfold Blk at h ⊢
 simp [World.setCell,Array.getElem?_modify,h]
end
theorem OwnS.far {w : World} {base : Nat} {e : TypeId} {size : Nat} {v : Value} {n : Nat} {F : Nat→Value} (h : OwnS w base e size v n F) {p : Addr} (hp : p.block < base) (u : Value) : OwnS (w.setCell p u) base e size v n F :=
 ownsRow_setCell_below h hp u
theorem own_ne {w : World} {base : Nat} {e : TypeId} {size : Nat} {v : Value} {n : Nat} {F : Nat→Value} (h : OwnS w base e size v n F) {g : Nat} (hg : g < base) : some g≠v.ownBlock:=fun e=>by
 have:=(World.ownsRow.lt h g e.symm).1
 omega
theorem Blk.c5 {w : World} {g : Nat} {t : TypeId} {a0 a1 a2 a3 a4 : Value} (h : Blk w g t #[a0,a1,a2,a3,a4]) : w.cell? ⟨g,0,none⟩=some a0∧w.cell? ⟨g,1,none⟩=some a1∧w.cell? ⟨g,2,none⟩=some a2∧w.cell? ⟨g,3,none⟩=some a3∧w.cell? ⟨g,4,none⟩=some a4:=⟨h.cell rfl,h.cell rfl,h.cell rfl,h.cell rfl,h.cell rfl⟩
theorem Blk.c6 {w : World} {g : Nat} {t : TypeId} {a0 a1 a2 a3 a4 a5 : Value} (h : Blk w g t #[a0,a1,a2,a3,a4,a5]) : w.cell? ⟨g,0,none⟩=some a0∧w.cell? ⟨g,1,none⟩=some a1∧w.cell? ⟨g,2,none⟩=some a2∧w.cell? ⟨g,3,none⟩=some a3∧w.cell? ⟨g,4,none⟩=some a4∧w.cell? ⟨g,5,none⟩=some a5:=⟨h.cell rfl,h.cell rfl,h.cell rfl,h.cell rfl,h.cell rfl,h.cell rfl⟩
theorem Blk.c8 {w : World} {g : Nat} {t : TypeId} {a0 a1 a2 a3 a4 a5 a6 a7 : Value} (h : Blk w g t #[a0,a1,a2,a3,a4,a5,a6,a7]) : w.cell? ⟨g,0,none⟩=some a0∧w.cell? ⟨g,1,none⟩=some a1∧w.cell? ⟨g,2,none⟩=some a2∧w.cell? ⟨g,3,none⟩=some a3∧w.cell? ⟨g,4,none⟩=some a4∧w.cell? ⟨g,5,none⟩=some a5∧w.cell? ⟨g,6,none⟩=some a6∧w.cell? ⟨g,7,none⟩=some a7:=⟨h.cell rfl,h.cell rfl,h.cell rfl,h.cell rfl,h.cell rfl,h.cell rfl,h.cell rfl,h.cell rfl⟩
theorem Blk.f5 {w : World} {g : Nat} {t : TypeId} {a0 a1 a2 a3 a4 : Value} (h : Blk w g t #[a0,a1,a2,a3,a4]) : (w.cell? ⟨g,0,none⟩=some a0∧w.cell? ⟨g,1,none⟩=some a1∧w.cell? ⟨g,2,none⟩=some a2∧w.cell? ⟨g,3,none⟩=some a3∧w.cell? ⟨g,4,none⟩=some a4)∧w.frozen? ⟨g,0,none⟩=false∧w.frozen? ⟨g,1,none⟩=false∧w.frozen? ⟨g,2,none⟩=false∧w.frozen? ⟨g,3,none⟩=false∧w.frozen? ⟨g,4,none⟩=false:=⟨⟨h.cell rfl,h.cell rfl,h.cell rfl,h.cell rfl,h.cell rfl⟩,h.frozen 0,h.frozen 1,h.frozen 2,h.frozen 3,h.frozen 4⟩
theorem OwnS.grown {w w' : World} {base : Nat} {e : TypeId} {size : Nat} {v : Value} {n : Nat} {F : Nat→Value} {row : Option Nat} (h : OwnS w base e size v n F) (hg : w.grownBy w' row) (hne : v.ownBlock=none∨v.ownBlock≠row) : OwnS w' base e size v n F :=
 World.ownsRow.kept h hg hne
theorem own_types {w : World} {b1 b2 : Nat} {e1 e2 : TypeId} {s1 s2 : Nat} {v1 v2 : Value} {n1 n2 : Nat} {F1 F2 : Nat→Value} (h1 : OwnS w b1 e1 s1 v1 n1 F1) (h2 : OwnS w b2 e2 s2 v2 n2 F2) (he : e1≠e2) : v1.ownBlock=none∨v1.ownBlock≠v2.ownBlock:=by
 rcases h1.2 with ⟨rfl,rfl⟩ | ⟨g,cap,cur,rfl,hg,hh,r⟩
 ·exact .inl rfl
 ·refine .inr fun e=>?_
  rcases h2.2 with ⟨rfl,rfl⟩ | ⟨g',cap',cur',rfl,hg',hh',r'⟩
  ·cases e
  ·simp only [Value.ownBlock,Option.some.injEq] at e
   subst e
   rw [hh] at hh'
   simp at hh'
   exact he hh'.2
theorem OwnS.setOther {w : World} {base : Nat} {e : TypeId} {size : Nat} {v : Value} {n : Nat} {F : Nat→Value} (h : OwnS w base e size v n F) {p : Addr} (hp : v.ownBlock≠some p.block) (u : Value) : OwnS (w.setCell p u) base e size v n F:=by
 refine ⟨h.1,?_⟩
 rcases h.2 with h2 | ⟨g,cap,cur,rfl,hg,hh,r⟩
 ·exact .inl h2
 ·exact .inr ⟨g,cap,cur,rfl,hg,(Below.heap_setCell w p u g (fun e=>hp (by simp [Value.ownBlock,e]))).trans hh,r⟩
theorem ix_app_lt {α : Type} (d : α) (xs : List α) (x : α) {i : Nat} (h : i < xs.length) : ix d (xs ++ [x]) i=ix d xs i:=by
 rw [ix_lt (by simp; omega),ix_lt h,List.getElem_append_left h]
theorem ix_app_end {α : Type} (d : α) (xs : List α) (x : α) : ix d (xs ++ [x]) xs.length=x:=by
 rw [ix_lt (by simp)]; simp
end Go.Proofs.YtoolenhnhlfhmaaGreatDoor
