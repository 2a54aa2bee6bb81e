/- Rows known whole: copy, clear, append in place, of elements of any number of cells. No program is named here. -/
import Derived.Test.YtoolenhnhlfhmaaGreatDoorGA
import Derived.Laws.CopyOwn
import Derived.Lib.AppendZerosOnto
import Derived.Lib.Overlaps
namespace Go.Proofs.YtoolenhnhlfhmaaGreatDoor
open Go.RowKit
set_option linter.unusedVariables false
set_option linter.unusedSimpArgs false
/-- Block g is a row of just these cells, none frozen. -/
def RowW (w : World) (g : Nat) (e : TypeId) (L : List Value) : Prop:=w.heap[g]?=some (.cells L.toArray e (0,0))
theorem RowW.lt {w : World} {g : Nat} {e : TypeId} {L : List Value} (h : RowW w g e L) : g < w.heap.size:=(Array.getElem?_eq_some_iff.1 h).1
theorem RowW.drew {w : World} {g : Nat} {e : TypeId} {L : List Value} (h : RowW w g e L) : RowW w.drew g e L:=h
theorem RowW.drewN {w : World} {g : Nat} {e : TypeId} {L : List Value} (h : RowW w g e L) (n : Nat) : RowW (w.drewN n) g e L:=h
theorem RowW.set {w : World} {g : Nat} {e : TypeId} {L L' : List Value} (h : RowW w g e L) : RowW (w.setRow g L'.toArray) g e L':=setRow_heap w g _ _ e _ h
theorem RowW.cell {w : World} {g : Nat} {e : TypeId} {L : List Value} (h : RowW w g e L) {j : Nat} {v : Value} (hj : L[j]?=some v) : w.cell? ⟨g,j,none⟩=some v:=by
 unfold RowW at h
 simp only [World.cell?,h]
 simpa using hj
theorem RowW.frozen {w : World} {g : Nat} {e : TypeId} {L : List Value} (h : RowW w g e L) (j : Nat) : w.frozen? ⟨g,j,none⟩=false:=by
 unfold RowW at h
 simp only [World.frozen?,h]
 simp
theorem RowW.shape {w : World} {g : Nat} {e : TypeId} {L : List Value} (h : RowW w g e L) : w.shape? g=some (e,L.length):=by
 unfold RowW at h
 simp [World.shape?,h]
theorem RowW.ext {w w' : World} {g : Nat} {e : TypeId} {L : List Value} (h : RowW w g e L) (hE : Ext w w') : RowW w' g e L:=(hE.block g h.lt).trans h
theorem RowW.grown {w w' : World} {g : Nat} {e : TypeId} {L : List Value} {row : Option Nat} (h : RowW w g e L) (hg : w.grownBy w' row) (hne : some g≠row) : RowW w' g e L:=(hg.block g h.lt hne).trans h
theorem grownBy_setRow (w : World) (g : Nat) (cs : Array Value) : w.grownBy (w.setRow g cs) (some g) :=
 ⟨rfl,rfl,rfl,by simp [World.setRow],fun k _ hne=>setRow_other w g k cs (fun e=>hne (by rw [e]))⟩
theorem grownBy_drew (w : World) (row : Option Nat) : w.grownBy w.drew row:=⟨rfl,rfl,rfl,Nat.le_refl _,fun _ _ _=>rfl⟩
theorem cell_setRow_other (w : World) (g : Nat) (cs : Array Value) {p : Addr} (h : p.block≠g) : (w.setRow g cs).cell? p=w.cell? p :=
 World.cell?_of_block (setRow_other w g p.block cs h)
theorem own_blk (A : Option Addr) (n c : Nat) : (Value.slice A n c).ownBlock=A.map (·.block):=by cases A <;> rfl
theorem splice_get {α : Type} {L : List α} {off : Nat} {cs : List α} (h : off + cs.length≤L.length) (j : Nat) : (splice L off cs)[j]?=if off≤j∧j < off + cs.length then cs[j - off]? else L[j]?:=by
 unfold splice
 by_cases h1 : j < off
 ·rw [List.getElem?_append_left (by simp; omega),List.getElem?_take,if_pos h1,if_neg (by omega)]
 ·rw [List.getElem?_append_right (by simp; omega)]
  have e : (List.take off L).length=off:=by simp; omega
  rw [e]
  by_cases h2 : j < off + cs.length
  ·rw [List.getElem?_append_left (by omega),if_pos (by omega)]
  ·rw [List.getElem?_append_right (by omega),List.getElem?_drop,if_neg (by omega)]
   congr 1
   omega
theorem splice_nil {α : Type} (L : List α) (off : Nat) : splice L off []=L:=by simp [splice]
/-- Cells of a function. -/
def cellsF (k : Nat) (F : Nat→Value) : List Value:=(List.range k).map F
theorem cellsF_length (k : Nat) (F : Nat→Value) : (cellsF k F).length=k:=by simp [cellsF]
theorem cellsF_get {k : Nat} {F : Nat→Value} {j : Nat} (h : j < k) : (cellsF k F)[j]?=some (F j):=by simp [cellsF,h]
theorem cellsF_inv {k : Nat} {F : Nat→Value} {j : Nat} {v : Value} (h : (cellsF k F)[j]?=some v) : j < k∧F j=v:=by
 by_cases hj : j < k
 ·rw [cellsF_get hj] at h
  exact ⟨hj,by injection h⟩
 ·rw [List.getElem?_eq_none (by rw [cellsF_length]; omega)] at h
  cases h
theorem cellsF_one {k : Nat} {F : Nat→Value} (h : ∀ j,j < k→(F j).oneCell'=true) : ∀ v ∈ cellsF k F,v.oneCell'=true:=by
 intro v hv
 obtain ⟨j,hj,rfl⟩:=List.mem_map.1 hv
 exact h j (List.mem_range.1 hj)
/-- A slice of the call's own, its row. -/
theorem OwnS.row {w : World} {base : Nat} {e : TypeId} {size g n cap : Nat} {F : Nat→Value} (h : OwnS w base e size (.slice (some ⟨g,0,none⟩) n cap) n F) :
  ∃ cur : List Value,RowW w g e cur∧base≤g∧n≤cap∧cap≤maxLen∧cur.length=cap * size∧∀ j,j < n * size→cur[j]?=some (F j):=by
 rcases h.2 with ⟨h1,_⟩ | ⟨g',cap',cur,hv,hb,hh,hn,hc,hs,ht⟩
 ·cases h1
 ·injection hv with h1 h2 h3
  injection h1 with h1
  injection h1 with h1
  subst h1 h3
  refine ⟨cur.toList,by unfold RowW; rw [Array.toArray_toList]; exact hh,hb,hn,hc,by simpa using hs,fun j hj=>?_⟩
  have:=cellsF_get (k:=n * size) (F:=F) hj
  unfold cellsF at this
  rw [← ht,List.getElem?_take,if_pos hj] at this
  exact this
theorem OwnS.ofRow {w : World} {base : Nat} {e : TypeId} {size g n cap : Nat} {F : Nat→Value} {cur : List Value} (hr : RowW w g e cur) (hb : base≤g) (hn : n≤cap) (hc : cap≤maxLen) (hl : cur.length=cap * size) (hF : ∀ j,j < n * size→cur[j]?=some (F j)) :
  OwnS w base e size (.slice (some ⟨g,0,none⟩) n cap) n F:=by
 have hle : n * size≤cap * size:=Nat.mul_le_mul_right _ hn
 refine ⟨by simp,.inr ⟨g,cap,cur.toArray,rfl,hb,hr,hn,hc,by simpa using hl,?_⟩⟩
 apply List.ext_getElem?
 intro j
 by_cases hj : j < n * size
 ·rw [List.getElem?_take,if_pos hj,List.getElem?_map,List.getElem?_range hj]
  simpa using hF j hj
 ·rw [List.getElem?_eq_none (by simp; omega),List.getElem?_eq_none (by simp; omega)]
theorem zeroCells_F (c : Array Value) (n : Nat) : (Builtin.zeroCells c n).toList=cellsF (n * c.size) (fun i=>c[i % c.size]!):=by
 simp [Builtin.zeroCells,cellsF,Array.toList_range]
theorem zeroCells_one {c : Array Value} (h : ∀ v ∈ c,v.oneCell'=true) (n : Nat) : ∀ v ∈ (Builtin.zeroCells c n).toList,v.oneCell'=true:=by
 rw [zeroCells_F]
 refine cellsF_one fun j hj=>?_
 have h0 : 0 < c.size:=by
  rcases Nat.eq_zero_or_pos c.size with e | e
  ·rw [e] at hj; omega
  ·exact e
 have hlt:=Nat.mod_lt j h0
 rw [getElem!_pos c _ hlt]
 exact h _ (Array.getElem_mem hlt)
variable {P : Program}
/-- copy: all is read ahead of the first that is written. -/
theorem run_copyS (w : World) (dT sT ty elem : TypeId) (sz : Nat) (g off dLen dCap : Nat) (sp : Addr) (sLen sCap : Nat) (cur : List Value) (t : TypeId) (cs : List Value) (n : Nat)
  (hu : P.underlying dT=some (.slice elem)) (hs : (P.info? elem).map (·.size)=some sz) (hg : RowW w g t cur) (hn : Nat.min sLen dLen=n) (hl : cs.length=n * sz)
  (hsrc : ∀ j v,cs[j]?=some v→w.cell? (sp.add j)=some v) (hfit : off + cs.length≤cur.length) (h1 : ∀ v ∈ cs,v.oneCell'=true) :
  (Builtin.copy_ #[dT,sT] ty #[.slice (some ⟨g,off,none⟩) dLen dCap,.slice (some sp) sLen sCap]).run P w=.ok (goInt n) (w.setRow g (splice cur off cs).toArray):=by
 have hld:=run_loadCells_list (P:=P) w sp cs hsrc
 have hst:=run_storeCells_at P g off t cs 0 cur.toArray w hg (by simpa using hfit) h1
 cases hq : P.info? elem with
 | none=>simp [hq] at hs
 | some i =>
  have hi : i.size=sz:=by simpa [hq] using hs
  rw [hl] at hld
  simp [Builtin.copy_,run_underlying hu,Builtin.lenOf,Builtin.firstCells,sizeOf,typeInfo,hq,hi,hn,hld,hst,splice]
/-- clear of a part of a row. -/
theorem run_clearS (w : World) (t e ty : TypeId) (i : TypeInfo) (z : Value) (ht : P.underlying t=some (.slice e)) (hi : P.info? e=some i) (hz : i.zero=some z) (h1 : ∀ v ∈ z.cells,v.oneCell'=true)
  (g off n c : Nat) (cur : List Value) (T : TypeId) (hg : RowW w g T cur) (hfit : off + n * z.cells.size≤cur.length) :
  (Builtin.clear_ #[t] ty #[.slice (some ⟨g,off,none⟩) n c]).run P w=.ok (.tuple #[]) (w.setRow g (splice cur off (Builtin.zeroCells z.cells n).toList).toArray):=by
 rcases Nat.eq_zero_or_pos n with rfl | hn
 ·have e : (Builtin.zeroCells z.cells 0).toList=[]:=by rw [zeroCells_F]; simp [cellsF]
  rw [e,splice_nil,setRow_self w g _ T _ hg]
  simp [Builtin.clear_,run_underlying ht]
 ·have hst:=run_storeCells_at P g off T (Builtin.zeroCells z.cells n).toList 0 cur.toArray w hg (by rw [zeroCells_F,cellsF_length]; simpa using hfit) (zeroCells_one h1 n)
  obtain ⟨m,rfl⟩ : ∃ m,n=m + 1:=⟨n - 1,by omega⟩
  simp only [Nat.add_zero] at hst
  simp [Builtin.clear_,run_underlying ht,zeroValue,typeInfo,hi,hz,hst,splice]
/-- append where there is room. -/
theorem run_appendS (w : World) (t tx ty e : TypeId) (i : TypeInfo) (ht : P.underlying t=some (.slice e)) (hi : P.info? e=some i) (g n c : Nat) (cur : List Value) (hg : RowW w g e cur) (x : Value) (m : Nat) (cs : List Value) (hs : Src P i.size tx x m cs w)
  (hroom : n + m≤c) (hfit : n * i.size + cs.length≤cur.length) :
  (Builtin.append_ #[t,tx] ty #[.slice (some ⟨g,0,none⟩) n c,x]).run P w=.ok (.slice (some ⟨g,0,none⟩) (n + m) c) (w.setRow g (splice cur (n * i.size) cs).toArray):=by
 have hst:=run_storeCells_at P g (n * i.size) e cs 0 cur.toArray w hg (by simpa using hfit) hs.one
 simp only [Nat.add_zero] at hst
 rcases hs.kind with ⟨e',hk⟩ | hk <;> simp [Builtin.append_,run_underlying ht,run_underlying hk,sizeOf,typeInfo,hi,hs.len,hroom,hs.cells,Addr.add_lit,hst,splice]
/-! the three builtins for the walk, where their run is known by an equation -/
theorem wp_copyI (w : World) {o : Oper} {a : Act} {K : Act→World→Prop} {Q : Exit→Act→World→Prop} (d s : Operand) (t t' : TypeId)
  (ho : o.op=.call { callee:=.builtin .copy,args:=#[d,s],argTypes:=#[t,t'] }) (v u : Value) (hd : a.eval d=v) (hs : a.eval s=u) {v' : Value} {w' : World}
  (hr : (Builtin.copy_ #[t,t'] o.type #[v,u]).run P w=.ok v' w') (h : K (a.put o.dst v') w') : o.wp P a w K Q:=by
 unfold Oper.wp execOp
 simp only [ho,resolve,invoke,builtin,Sem.run_bind,Sem.run_pure,Result.andThen_ok,List.map_toArray,List.map_cons,List.map_nil,hd,hs,hr]
 exact h
theorem wpList_copyI (w : World) {ops : Array Oper} {rest : List Oper} {o : Oper} {a : Act} {Q : Exit→Act→World→Prop} (hgd : o.guard=none) (d s : Operand) (t t' : TypeId)
  (ho : o.op=.call { callee:=.builtin .copy,args:=#[d,s],argTypes:=#[t,t'] }) (v u : Value) (hd : a.eval d=v) (hs : a.eval s=u) {v' : Value} {w' : World}
  (hr : (Builtin.copy_ #[t,t'] o.type #[v,u]).run P w=.ok v' w') (h : wpList P ops Q rest (a.put o.dst v') w') : wpList P ops Q (o :: rest) a w :=
 wpList_plain hgd fun _ hK=>wp_copyI w d s t t' ho v u hd hs hr (hK _ _ h)
theorem step_copyI {ops : Array Oper} {o : Oper} {a : Act} {w : World} {K : Act→World→Prop} {Q : Exit→Act→World→Prop} {E : Prop}
  (hg : o.guard=none) (d x : Operand) (dT sT : TypeId) (hop : o.op=Op.call { callee:=Callee.builtin Builtin.copy,args:=#[d,x],argTypes:=#[dT,sT] })
  (v u : Value) (hd : a.eval d=v) (hx : a.eval x=u) {v' : Value} {w' : World} (hr : (Builtin.copy_ #[dT,sT] o.type #[v,u]).run P w=.ok v' w') (hK : K (a.put o.dst v') w') :
  if Region.wanted o (yielded ops a.tmps)=true then Oper.wp P o a w K Q else E:=by
 have hw : Region.wanted o (yielded ops a.tmps)=true:=by simp [Region.wanted,hg]
 rw [if_pos hw]
 exact wp_copyI w d x dT sT hop v u hd hx hr hK
theorem wp_clearI (w : World) {o : Oper} {a : Act} {K : Act→World→Prop} {Q : Exit→Act→World→Prop} (s : Operand) (t : TypeId)
  (ho : o.op=.call { callee:=.builtin .clear,args:=#[s],argTypes:=#[t] }) (u : Value) (hs : a.eval s=u) {v' : Value} {w' : World}
  (hr : (Builtin.clear_ #[t] o.type #[u]).run P w=.ok v' w') (h : K (a.put o.dst v') w') : o.wp P a w K Q:=by
 unfold Oper.wp execOp
 simp only [ho,resolve,invoke,builtin,Sem.run_bind,Sem.run_pure,Result.andThen_ok,List.map_toArray,List.map_cons,List.map_nil,hs,hr]
 exact h
theorem wpList_clearI (w : World) {ops : Array Oper} {rest : List Oper} {o : Oper} {a : Act} {Q : Exit→Act→World→Prop} (hgd : o.guard=none) (s : Operand) (t : TypeId)
  (ho : o.op=.call { callee:=.builtin .clear,args:=#[s],argTypes:=#[t] }) (u : Value) (hs : a.eval s=u) {v' : Value} {w' : World}
  (hr : (Builtin.clear_ #[t] o.type #[u]).run P w=.ok v' w') (h : wpList P ops Q rest (a.put o.dst v') w') : wpList P ops Q (o :: rest) a w :=
 wpList_plain hgd fun _ hK=>wp_clearI w s t ho u hs hr (hK _ _ h)
theorem step_clearI {ops : Array Oper} {o : Oper} {a : Act} {w : World} {K : Act→World→Prop} {Q : Exit→Act→World→Prop} {E : Prop}
  (hg : o.guard=none) (s : Operand) (t : TypeId) (ho : o.op=.call { callee:=.builtin .clear,args:=#[s],argTypes:=#[t] }) (u : Value) (hs : a.eval s=u) {v' : Value} {w' : World}
  (hr : (Builtin.clear_ #[t] o.type #[u]).run P w=.ok v' w') (hK : K (a.put o.dst v') w') :
  if Region.wanted o (yielded ops a.tmps)=true then Oper.wp P o a w K Q else E:=by
 have hw : Region.wanted o (yielded ops a.tmps)=true:=by simp [Region.wanted,hg]
 rw [if_pos hw]
 exact wp_clearI w s t ho u hs hr hK
theorem step_appendI {ops : Array Oper} {o : Oper} {a : Act} {w : World} {K : Act→World→Prop} {Q : Exit→Act→World→Prop} {E : Prop}
  (hg : o.guard=none) (s x : Operand) (t tn : TypeId) (ho : o.op=.call { callee:=.builtin .append,args:=#[s,x],argTypes:=#[t,tn] }) (vs vx : Value) (hs : a.eval s=vs) (hx : a.eval x=vx)
  {v' : Value} {w' : World} (hr : (Builtin.append_ #[t,tn] o.type #[vs,vx]).run P w=.ok v' w') (hK : K (a.put o.dst v') w') :
  if Region.wanted o (yielded ops a.tmps)=true then Oper.wp P o a w K Q else E:=by
 have hw : Region.wanted o (yielded ops a.tmps)=true:=by simp [Region.wanted,hg]
 rw [if_pos hw]
 exact Lib.wp_append_run w s x t tn ho vs vx hs hx v' w' hr hK
end Go.Proofs.YtoolenhnhlfhmaaGreatDoor
