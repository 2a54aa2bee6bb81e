/- Arguments opened: slices of structs, of slices; as the walks want them. Arguments opened: slices of numbers, and of structs of numbers; how long they are. What the rows' premise on the two tables gives. -/
import Derived.Test.YtoolenhnhlfhmaaGreatDoorGA
import Derived.Deep.Slices
import Derived.Deep.Fields
import Derived.ChangeSame
import Derived.ChangeSlices
import Derived.OpenShut
import Derived.Test.YtoolenhnhlfhmaaGreatDoorGQ
import Derived.SizedLaws
import Derived.Test.YtoolenhnhlfhmaaGreatDoorRows
import Derived.Test.YtoolenhnhlfhmaaGreatDoorGC
import Derived.Test.YtoolenhnhlfhmaaGreatDoorGK
import Derived.LaidLaws
namespace Go.Proofs.YtoolenhnhlfhmaaGreatDoor
open Go.RowKit Go.ChangeShapes Go.WideShapes Go.Deep
set_option linter.unusedVariables false
set_option linter.unusedSimpArgs false
section
variable {H : Type} {enc : TypeId × Value→H} {P : Program} {w : World} {base : Nat} {spare : Nat→Bool} {held : Bool}
theorem addr_plain {a : Addr} {v : Value} (h : w.cell? (a.add 0)=some v) : ∃ b off,a=⟨b,off,none⟩:=by
 obtain ⟨b,off,spot⟩:=a
 have hspot : spot=none:=by simpa [Addr.add] using World.cell?_spot h
 subst hspot
 exact ⟨b,off,rfl⟩
theorem cells_plain {a : Addr} {sz : Nat} {cs : List Value} (h : w.cells? base (a.add (0 * sz)) sz=some cs) (hsz : 0 < sz) : ∃ b off,a=⟨b,off,none⟩:=by
 obtain ⟨_,hcl,hat⟩:=World.cells?_some h
 have h0:=hat 0 hsz
 rw [Nat.zero_mul,List.getElem?_eq_getElem (by omega),Go.Deep.add_add] at h0
 exact addr_plain h0
/-- A slice of structs of one-cell fields, element by element, field by field. -/
theorem open_rows {t e : TypeId} {fs : Array Field} {fuel : Nat} {cs : List Value} {x : DataW H × List MemPlace} (ht : P.underlying t=some (.slice e)) (he : P.underlying e=some (.struct fs))
  (hone : oneCellFields P fs=true) (hC : P.cellsOf e=fs.size) (h : DataW.trod enc P w base (fun _=>true) held fuel t cs=some x) :
  ∃ (A : Option Addr) (len cap : Nat),cs=[.slice A len cap]∧len≤cap∧cap≤maxLen ∧
   ∀ i,i < len→∃ n,∀ (j : Nat) (f : Field),fs[j]?=some f→∃ b off v y,A=some ⟨b,off,none⟩∧w.cell? ⟨b,off + (i * fs.size + j),none⟩=some v∧DataW.trod enc P w base (fun _=>true) held n f.type [v]=some y:=by
 rcases open_slice ht h with ⟨h0,_⟩ | ⟨a,len,cap,m,n,D,Pl,hcs,hb,hl,hm,hmm,hx,hi⟩
 ·exact ⟨none,0,0,h0,Nat.le_refl _,by simp [maxLen],fun i hi=>absurd hi (by omega)⟩
 ·refine ⟨some a,len,cap,hcs,hl,hm,fun i hil=>?_⟩
  have him : i < m:=by rw [hmm]; simp; omega
  obtain ⟨cs',hc,ht'⟩:=hi i him
  rw [hC] at hc
  obtain ⟨ys,n',hn',hy,hlen,hyl,hf⟩:=DataW.trod_struct he ht'
  obtain ⟨_,hcl,hat⟩:=World.cells?_some hc
  refine ⟨n',fun j f hj=>?_⟩
  obtain ⟨ho,hk⟩:=hone_of hone j f hj
  have hjl : j < fs.size:=(Array.getElem?_eq_some_iff.1 hj).1
  have hcell:=hat j hjl
  have h1:=hf j f hj
  rw [ho,hk] at h1
  have hone' : (cs'.drop j).take 1=[cs'[j]'(by omega)]:=by
   rw [List.drop_eq_getElem_cons (by omega)]
   rfl
  rw [hone'] at h1
  have hys : ys[j]?=some (ys[j]'(by omega)):=List.getElem?_eq_getElem (by omega)
  have hv : cs'[j]?=some (cs'[j]'(by omega)):=List.getElem?_eq_getElem (by omega)
  rw [hv,Go.Deep.add_add] at hcell
  obtain ⟨cs0,hc0,_⟩:=hi 0 (by omega)
  rw [hC] at hc0
  obtain ⟨b,off,rfl⟩:=cells_plain hc0 (by omega)
  refine ⟨b,off,_,_,rfl,?_,h1.trans hys⟩
  rw [← Go.WideShapes.add_plain]
  exact hcell
theorem open_elems {t e : TypeId} {fuel : Nat} {cs : List Value} {x : DataW H × List MemPlace} (ht : P.underlying t=some (.slice e)) (hC : P.cellsOf e=1) (h : DataW.trod enc P w base (fun _=>true) held fuel t cs=some x) :
  ∃ (A : Option Addr) (len cap : Nat),cs=[.slice A len cap]∧len≤cap∧cap≤maxLen ∧
   ∀ i,i < len→∃ n b off v y,A=some ⟨b,off,none⟩∧w.cell? ⟨b,off + i,none⟩=some v∧DataW.trod enc P w base (fun _=>true) held n e [v]=some y:=by
 rcases open_slice1 ht hC h with ⟨h0,_⟩ | ⟨a,len,cap,m,n,V,D,Pl,hcs,hb,hl,hm,hmm,hx,hi⟩
 ·exact ⟨none,0,0,h0,Nat.le_refl _,by simp [maxLen],fun i hi=>absurd hi (by omega)⟩
 ·refine ⟨some a,len,cap,hcs,hl,hm,fun i hil=>?_⟩
  have him : i < m:=by rw [hmm]; simp; omega
  obtain ⟨hc,ht'⟩:=hi i him
  obtain ⟨hc0,_⟩:=hi 0 (by omega)
  obtain ⟨b,off,rfl⟩:=addr_plain hc0
  rw [Go.WideShapes.add_plain] at hc
  exact ⟨n,b,off,_,_,rfl,hc,ht'⟩
theorem open_intl {t e : TypeId} {fuel : Nat} {cs : List Value} {x : DataW H × List MemPlace} (ht : P.underlying t=some (.slice e)) (he : P.underlying e=some (.int .i64)) (hC : P.cellsOf e=1)
  (h : DataW.trod enc P w base (fun _=>true) held fuel t cs=some x) : ∃ (A : Option Addr) (l : List Int) (cap : Nat),cs=[.slice A l.length cap]∧l.length≤maxLen∧IntsR w A l:=by
 obtain ⟨A,len,cap,hcs,hl,hm,hi⟩:=open_elems ht hC h
 obtain ⟨N,hN⟩:=choose_lt (α:=Int) (p:=fun i z=>∃ b off,A=some ⟨b,off,none⟩∧w.cell? ⟨b,off + i,none⟩=some (.int .i64 z)) (fun i hil=>by
  obtain ⟨n,b,off,v,y,hA,hc,ht'⟩:=hi i hil
  obtain ⟨z,hz,_⟩:=DataW.trod_int he ht'
  injection hz with hz
  subst hz
  exact ⟨z,b,off,hA,hc⟩)
 refine ⟨A,(List.range len).map N,cap,by simpa using hcs,by simp; omega,?_⟩
 intro hn
 rw [List.length_map,List.length_range] at hn ⊢
 obtain ⟨b,off,hA,_⟩:=hN 0 hn
 refine ⟨b,off,hA,fun j hj=>?_⟩
 obtain ⟨b',off',hA',hc⟩:=hN j (by omega)
 rw [hA] at hA'
 cases hA'
 rw [hc]
 dsimp only
 congr 2
 unfold ix
 rw [List.getD_eq_getElem?_getD,List.getElem?_map,List.getElem?_range (by omega)]
 rfl
instance : Inhabited CallD:=⟨noCall⟩
theorem ix_map_range {α : Type} (d : α) (F : Nat→α) (n i : Nat) (h : i < n) : ix d ((List.range n).map F) i=F i:=by
 unfold ix
 rw [List.getD_eq_getElem?_getD,List.getElem?_map,List.getElem?_range h]
 rfl
theorem open_calls {t e ti tl : TypeId} {f0 f1 f2 : Field} {fuel : Nat} {cs : List Value} {x : DataW H × List MemPlace} (ht : P.underlying t=some (.slice e)) (he : P.underlying e=some (.struct #[f0,f1,f2]))
  (hone : oneCellFields P #[f0,f1,f2]=true) (hC : P.cellsOf e=3) (h0 : P.underlying f0.type=some (.int .i64)) (h1 : P.underlying f1.type=some (.int .i64)) (h2 : P.underlying f2.type=some (.slice ti))
  (hi0 : P.underlying ti=some (.int .i64)) (hiC : P.cellsOf ti=1)
  (h : DataW.trod enc P w base (fun _=>true) held fuel t cs=some x) : ∃ (A : Option Addr) (l : List CallD) (cap : Nat),cs=[.slice A l.length cap]∧l.length≤maxLen∧CallsR w A l:=by
 obtain ⟨A,len,cap,hcs,hl,hm,hi⟩:=open_rows ht he hone hC h
 obtain ⟨N,hN⟩:=choose_lt (α:=CallD × Option Addr × Nat) (p:=fun i z=>∃ b off,A=some ⟨b,off,none⟩∧w.cell? ⟨b,off + i * 3,none⟩=some (.int .i64 z.1.kind)∧w.cell? ⟨b,off + (i * 3 + 1),none⟩=some (.int .i64 z.1.a) ∧
   w.cell? ⟨b,off + (i * 3 + 2),none⟩=some (.slice z.2.1 z.1.l.length z.2.2)∧IntsR w z.2.1 z.1.l∧z.1.l.length≤maxLen) (fun i hil=>by
  obtain ⟨n,hf⟩:=hi i hil
  obtain ⟨b,off,v0,y0,hA,hc0,ht0⟩:=hf 0 f0 rfl
  obtain ⟨b1,off1,v1,y1,hA1,hc1,ht1⟩:=hf 1 f1 rfl
  obtain ⟨b2,off2,v2,y2,hA2,hc2,ht2⟩:=hf 2 f2 rfl
  rw [hA] at hA1 hA2
  cases hA1
  cases hA2
  obtain ⟨k,hk,_⟩:=DataW.trod_int h0 ht0
  obtain ⟨a,ha,_⟩:=DataW.trod_int h1 ht1
  obtain ⟨LA,l,lc,hll,hlm,hlr⟩:=open_intl h2 hi0 hiC ht2
  injection hk with hk
  injection ha with ha
  injection hll with hll
  subst hk ha hll
  exact ⟨(⟨k,a,l⟩,LA,lc),b,off,hA,hc0,hc1,hc2,hlr,hlm⟩)
 refine ⟨A,(List.range len).map (fun i=>(N i).1),cap,by simpa using hcs,by simp; omega,fun i=>(N i).2.1,fun i=>(N i).2.2,?_,?_⟩
 ·intro hn
  rw [List.length_map,List.length_range] at hn ⊢
  obtain ⟨b,off,hA,_⟩:=hN 0 hn
  refine ⟨b,off,hA,fun j hj=>?_⟩
  obtain ⟨b',off',hA',hc0,hc1,hc2,_⟩:=hN (j / 3) (by omega)
  rw [hA] at hA'
  cases hA'
  unfold callv
  rw [ix_map_range _ _ _ _ (by omega)]
  have h3 : j % 3=0∨j % 3=1∨j % 3=2:=by omega
  rcases h3 with h3 | h3 | h3
  ·rw [if_pos h3]
   have e : j=j / 3 * 3:=by omega
   rw [← hc0]
   congr 3
  ·rw [if_neg (by omega),if_pos h3]
   have e : j=j / 3 * 3 + 1:=by omega
   rw [← hc1]
   congr 3
  ·rw [if_neg (by omega),if_neg (by omega)]
   have e : j=j / 3 * 3 + 2:=by omega
   rw [← hc2]
   congr 3
 ·intro i hil
  rw [List.length_map,List.length_range] at hil
  obtain ⟨_,_,_,_,_,_,hr,hm2⟩:=hN i hil
  rw [ix_map_range _ _ _ _ hil]
  exact ⟨hr,hm2⟩
theorem open_callss {t e e2 ti : TypeId} {f0 f1 f2 : Field} {fuel : Nat} {cs : List Value} {x : DataW H × List MemPlace} (htt : P.underlying t=some (.slice e)) (htC : P.cellsOf e=1) (ht : P.underlying e=some (.slice e2)) (he : P.underlying e2=some (.struct #[f0,f1,f2]))
  (hone : oneCellFields P #[f0,f1,f2]=true) (hC : P.cellsOf e2=3) (h0 : P.underlying f0.type=some (.int .i64)) (h1 : P.underlying f1.type=some (.int .i64)) (h2 : P.underlying f2.type=some (.slice ti))
  (hi0 : P.underlying ti=some (.int .i64)) (hiC : P.cellsOf ti=1)
  (h : DataW.trod enc P w base (fun _=>true) held fuel t cs=some x) : ∃ (A : Option Addr) (l : List (List CallD)) (cap : Nat),cs=[.slice A l.length cap]∧l.length≤maxLen∧CallssR w A l:=by
 obtain ⟨A,len,cap,hcs,hl,hm,hi⟩:=open_elems htt htC h
 obtain ⟨N,hN⟩:=choose_lt (α:=List CallD × Option Addr × Nat) (p:=fun i z=>∃ b off,A=some ⟨b,off,none⟩∧w.cell? ⟨b,off + i,none⟩=some (.slice z.2.1 z.1.length z.2.2)∧CallsR w z.2.1 z.1∧z.1.length≤maxLen) (fun i hil=>by
  obtain ⟨n,b,off,v,y,hA,hc,ht'⟩:=hi i hil
  obtain ⟨LA,l,lc,hll,hlm,hlr⟩:=open_calls (tl:=t) ht he hone hC h0 h1 h2 hi0 hiC ht'
  injection hll with hll
  subst hll
  exact ⟨(l,LA,lc),b,off,hA,hc,hlr,hlm⟩)
 refine ⟨A,(List.range len).map (fun i=>(N i).1),cap,by simpa using hcs,by simp; omega,fun i=>(N i).2.1,fun i=>(N i).2.2,?_,?_⟩
 ·intro hn
  rw [List.length_map,List.length_range] at hn ⊢
  obtain ⟨b,off,hA,_⟩:=hN 0 hn
  refine ⟨b,off,hA,fun j hj=>?_⟩
  obtain ⟨b',off',hA',hc0,_⟩:=hN j (by omega)
  rw [hA] at hA'
  cases hA'
  dsimp only
  rw [ix_map_range _ _ _ _ (by omega),hc0]
 ·intro i hil
  rw [List.length_map,List.length_range] at hil
  obtain ⟨_,_,_,_,hr,hm2⟩:=hN i hil
  rw [ix_map_range _ _ _ _ hil]
  exact ⟨hr,hm2⟩
end
section
variable {H : Type} {enc : TypeId × Value→H} {P : Program} {w : World} {base : Nat} {held : Bool}
theorem open_len {t e : TypeId} {fuel : Nat} {A : Option Addr} {len cap : Nat} {x : DataW H × List MemPlace} (ht : P.underlying t=some (.slice e)) (h : DataW.trod enc P w base (fun _=>true) held fuel t [.slice A len cap]=some x) :
  (len=0∧x.1=.nil)∨∃ es sp,x.1=.slice es sp∧es.length=len:=by
 rcases open_slice ht h with ⟨h0,h1⟩ | ⟨a,l,c,m,n,D,Pl,hcs,_,_,_,_,hx,_⟩
 ·left
  simp at h0
  exact ⟨h0.2.1,by rw [h1]⟩
 ·right
  simp at hcs
  obtain ⟨_,rfl,_⟩:=hcs
  exact ⟨_,_,by rw [hx],by simp⟩
theorem open_nums {t e : TypeId} {fs : Array Field} {ks : Nat→IntKind} {fuel : Nat} {cs : List Value} {x : DataW H × List MemPlace} (ht : P.underlying t=some (.slice e)) (he : P.underlying e=some (.struct fs))
  (hone : oneCellFields P fs=true) (hC : P.cellsOf e=fs.size) (hk : ∀ j f,fs[j]?=some f→P.underlying f.type=some (.int (ks j))) (hpos : 0 < fs.size)
  (h : DataW.trod enc P w base (fun _=>true) held fuel t cs=some x) :
  ∃ (A : Option Addr) (len cap : Nat) (Z : Nat→Nat→Int),cs=[.slice A len cap]∧len≤maxLen∧SlR w A len fs.size (fun j=>.int (ks (j % fs.size)) (Z (j / fs.size) (j % fs.size)))∧(∀ i,i < len→∀ j,j < fs.size→(Lit.int (ks j) (Z i j)).wf=true) ∧
   ((len=0∧x.1=.nil)∨∃ es sp,x.1=.slice es sp∧es.length=len):=by
 obtain ⟨A,len,cap,hcs,hl,hm,hi⟩:=open_rows ht he hone hC h
 have hlen:=open_len ht (hcs▸h)
 obtain ⟨Z,hZ⟩:=choose_lt (α:=Nat→Int) (p:=fun i z=>∀ j,j < fs.size→(∃ b off,A=some ⟨b,off,none⟩∧w.cell? ⟨b,off + (i * fs.size + j),none⟩=some (.int (ks j) (z j)))∧(Lit.int (ks j) (z j)).wf=true) (fun i hil=>by
  obtain ⟨n,hf⟩:=hi i hil
  obtain ⟨z,hz⟩:=choose_lt (α:=Int) (n:=fs.size) (p:=fun j z=>(∃ b off,A=some ⟨b,off,none⟩∧w.cell? ⟨b,off + (i * fs.size + j),none⟩=some (.int (ks j) z))∧(Lit.int (ks j) z).wf=true) (fun j hj=>by
   obtain ⟨b,off,v,y,hA,hc,ht'⟩:=hf j fs[j] (by simp [hj])
   obtain ⟨k,hk',hwf⟩:=DataW.trod_int (hk j fs[j] (by simp [hj])) ht'
   injection hk' with hk'
   subst hk'
   exact ⟨k,⟨b,off,hA,hc⟩,hwf.2⟩)
  exact ⟨z,hz⟩)
 refine ⟨A,len,cap,Z,hcs,by omega,fun hn=>?_,fun i hil j hj=>(hZ i hil j hj).2,hlen⟩
 obtain ⟨⟨b,off,hA,_⟩,_⟩:=hZ 0 hn 0 hpos
 refine ⟨b,off,hA,fun j hj=>?_⟩
 have hq : j / fs.size < len:=Nat.div_lt_of_lt_mul (by rwa [Nat.mul_comm])
 obtain ⟨⟨b',off',hA',hc⟩,_⟩:=hZ (j / fs.size) hq (j % fs.size) (Nat.mod_lt _ hpos)
 rw [hA] at hA'
 cases hA'
 have e : j / fs.size * fs.size + j % fs.size=j:=by rw [Nat.mul_comm]; exact Nat.div_add_mod j fs.size
 rw [e] at hc
 exact hc
/-- A slice of numbers. -/
theorem open_nats {t e : TypeId} {k : IntKind} {fuel : Nat} {cs : List Value} {x : DataW H × List MemPlace} (ht : P.underlying t=some (.slice e)) (he : P.underlying e=some (.int k)) (hC : P.cellsOf e=1)
  (hk : ∀ z,(Lit.int k z).wf=true→0≤z)
  (h : DataW.trod enc P w base (fun _=>true) held fuel t cs=some x) :
  ∃ (A : Option Addr) (l : List Nat) (cap : Nat),cs=[.slice A l.length cap]∧SlR w A l.length 1 (fun j=>.int k ((ix (0 : Nat) l j : Nat) : Int))∧(∀ j,j < l.length→(Lit.int k ((ix (0 : Nat) l j : Nat) : Int)).wf=true) ∧
   ((l.length=0∧x.1=.nil)∨∃ es sp,x.1=.slice es sp∧es.length=l.length):=by
 obtain ⟨A,len,cap,hcs,hl,hm,hi⟩:=open_elems ht hC h
 have hlen:=open_len ht (hcs▸h)
 obtain ⟨N,hN⟩:=choose_lt (α:=Nat) (p:=fun i z=>(∃ b off,A=some ⟨b,off,none⟩∧w.cell? ⟨b,off + i,none⟩=some (.int k (z : Int)))∧(Lit.int k (z : Int)).wf=true) (fun i hil=>by
  obtain ⟨n,b,off,v,y,hA,hc,ht'⟩:=hi i hil
  obtain ⟨z,hz,_,hwf⟩:=DataW.trod_int he ht'
  injection hz with hz
  subst hz
  have e : ((z.toNat : Nat) : Int)=z:=Int.toNat_of_nonneg (hk z hwf)
  exact ⟨z.toNat,⟨b,off,hA,by rw [e]; exact hc⟩,by rw [e]; exact hwf⟩)
 have hll : ((List.range len).map N).length=len:=by simp
 refine ⟨A,(List.range len).map N,cap,by rw [hll]; exact hcs,?_,fun j hj=>?_,by rw [hll]; exact hlen⟩
 ·rw [hll]
  intro hn
  obtain ⟨⟨b,off,hA,_⟩,_⟩:=hN 0 hn
  refine ⟨b,off,hA,fun j hj=>?_⟩
  obtain ⟨⟨b',off',hA',hc⟩,_⟩:=hN j (by omega)
  rw [hA] at hA'
  cases hA'
  rw [hc]
  dsimp only
  rw [ix_map_range _ _ _ _ (by omega)]
 ·rw [hll] at hj
  rw [ix_map_range _ _ _ _ hj]
  exact (hN j hj).2
/-- The form's reach bounds a slice's length. -/
theorem len_le1 {ts : List TypeId} {ds : List (DataW H)} (h : (DataW.weightsEach P ts ds).all (·≤reachBytes)=true) {j : Nat} {t e : TypeId} {d : DataW H} {len b : Nat} (ht : ts[j]?=some t) (hd : ds[j]?=some d) (hu : P.underlying t=some (.slice e))
  (hb : P.bytesOf e=b) (hb1 : 1≤b) (hl : (len=0∧d=.nil)∨∃ es sp,d=.slice es sp∧es.length=len) : len≤4611686018427387904:=by
 rcases hl with ⟨rfl,_⟩ | ⟨es,sp,rfl,rfl⟩
 ·omega
 ·have h1:=sized_slice h ht hd hu
  rw [hb] at h1
  have h2:=reachBytes_lt
  have h3 : es.length * 1≤(es.length + sp.length) * b:=Nat.mul_le_mul (by omega) hb1
  omega
theorem wf_nn8 (z : Int) (h : (Lit.int .u8 z).wf=true) : 0≤z:=by
 have hx : 0≤z∧z≤255:=by simpa [Lit.wf,IntKind.min,IntKind.max,IntKind.signed,IntKind.bits] using h
 exact hx.1
theorem wf_lt8 {z : Nat} (h : (Lit.int .u8 (z : Int)).wf=true) : z < 256:=by
 have hx : (0 : Int)≤z∧(z : Int)≤255:=by simpa [Lit.wf,IntKind.min,IntKind.max,IntKind.signed,IntKind.bits] using h
 omega
theorem wf_nn64 (z : Int) (h : (Lit.int .u64 z).wf=true) : 0≤z:=(bounds_u64 h).1
theorem wf_lt64 {z : Nat} (h : (Lit.int .u64 (z : Int)).wf=true) : z < 18446744073709551616:=by
 have:=bounds_u64 h
 omega
def kMark : Nat→IntKind:=fun j=>if j < 5 then .i64 else .u64
theorem marks_of {A : Option Addr} {len : Nat} {Z : Nat→Nat→Int} (h : SlR w A len 6 (fun j=>.int (kMark (j % 6)) (Z (j / 6) (j % 6)))) (hw : ∀ i,i < len→∀ j,j < 6→(Lit.int (kMark j) (Z i j)).wf=true) :
  ∃ l : List MarkD,l.length=len∧SlR w A l.length 6 (marksV l)∧∀ i,i < l.length→MarkOk (ix noMark l i):=by
 have hb : ∀ i,i < len→0≤Z i 5∧Z i 5≤18446744073709551615:=fun i hi=>bounds_u64 (hw i hi 5 (by omega))
 have hll : ((List.range len).map fun i=>(⟨Z i 0,Z i 1,Z i 2,Z i 3,Z i 4,(Z i 5).toNat⟩ : MarkD)).length=len:=by simp
 refine ⟨(List.range len).map fun i=>⟨Z i 0,Z i 1,Z i 2,Z i 3,Z i 4,(Z i 5).toNat⟩,hll,?_,?_⟩
 ·rw [hll]
  refine h.congr (fun j hj=>?_)
  have t5 : ((Z (j / 6) 5).toNat : Int)=Z (j / 6) 5:=Int.toNat_of_nonneg (hb (j / 6) (by omega)).1
  unfold marksV rowV kMark
  rw [ix_map_range _ _ _ _ (by omega)]
  rcases (by omega : j % 6=0∨j % 6=1∨j % 6=2∨j % 6=3∨j % 6=4∨j % 6=5) with e | e | e | e | e | e <;> simp [e,t5]
 ·intro i hi
  rw [hll] at hi
  rw [ix_map_range _ _ _ _ hi]
  exact ⟨bounds_i64 (hw i hi 3 (by omega)),bounds_i64 (hw i hi 4 (by omega)),by have:=hb i hi; show (Z i 5).toNat < _; omega⟩
end
end Go.Proofs.YtoolenhnhlfhmaaGreatDoor
namespace Go.Proofs.YtoolenhnhlfhmaaGreatDoor
open Go.RowKit
set_option linter.unusedVariables false
set_option linter.unusedSimpArgs false
theorem int_of_trod {H : Type} {enc : TypeId × Value→H} {P : Program} {w : World} {base : Nat} {sp : Nat→Bool} {held : Bool} {fuel : Nat} {t : TypeId} {k : IntKind} {c : Value} {y : DataW H × List MemPlace}
  (ht : P.underlying t=some (.int k)) (h : DataW.trod enc P w base sp held fuel t [c]=some y) : ∃ n,c=.int k n∧y=(.lit (.int k n),[]):=by
 cases fuel with
 | zero=>simp [DataW.trod] at h
 | succ fuel =>
  cases c <;> simp [DataW.trod,ht] at h
  rename_i k' n
  obtain ⟨⟨rfl,_⟩,rfl⟩:=h
  exact ⟨n,rfl,rfl⟩
theorem one_of_drop {cs : List Value} {i : Nat} (hi : i < cs.length) : (cs.drop i).take 1=[cs[i]]:=by
 rw [List.drop_eq_getElem_cons hi]
 rfl
/-- An array of numbers. -/
theorem ints_of_array {H : Type} {enc : TypeId × Value→H} {P : Program} {w : World} {base : Nat} {sp : Nat→Bool} {held : Bool} {fuel n : Nat} {t e : TypeId} {k : IntKind} {cs : List Value} {ds : List (DataW H)} {p : List MemPlace}
  (ht : P.underlying t=some (.array n e)) (he : P.underlying e=some (.int k)) (h1 : P.cellsOf e=1) (h2 : P.cellsOf t=n) (h : DataW.trod enc P w base sp held fuel t cs=some (.agg ds,p)) :
  ∀ i,i < n→∃ m,cs[i]?=some (.int k m)∧ds[i]?=some (.lit (.int k m)):=by
 obtain ⟨xs,m,rfl,hx,hl,hxl,hi⟩:=DataW.trod_array ht h
 intro i hin
 have h3:=hi i hin
 rw [h1,Nat.mul_one,one_of_drop (by omega)] at h3
 rw [List.getElem?_eq_getElem (by omega)] at h3
 obtain ⟨z,hz,hy⟩:=int_of_trod he h3
 refine ⟨z,by rw [List.getElem?_eq_getElem (by omega),hz],?_⟩
 injection hx with hx1 hx2
 injection hx1 with hx1
 rw [hx1,List.getElem?_map,List.getElem?_eq_getElem (by omega),hy]
 rfl
/-- An array of pairs of numbers. -/
theorem pairs_of_array {H : Type} {enc : TypeId × Value→H} {P : Program} {w : World} {base : Nat} {sp : Nat→Bool} {held : Bool} {fuel n : Nat} {t e : TypeId} {k : IntKind} {fs : Array Field} {f0 f1 : Field} {cs : List Value} {ds : List (DataW H)} {p : List MemPlace}
  (ht : P.underlying t=some (.array n e)) (he : P.underlying e=some (.struct fs)) (hf0 : fs[0]?=some f0) (hf1 : fs[1]?=some f1) (hfs : fs.size=2) (o0 : f0.offset=0) (o1 : f1.offset=1)
  (ha : P.underlying f0.type=some (.int k)) (hb : P.underlying f1.type=some (.int k)) (ca : P.cellsOf f0.type=1) (cb : P.cellsOf f1.type=1) (h1 : P.cellsOf e=2) (h2 : P.cellsOf t=n * 2) (h : DataW.trod enc P w base sp held fuel t cs=some (.agg ds,p)) :
  ∀ i,i < n→∃ x y,cs[i * 2]?=some (.int k x)∧cs[i * 2 + 1]?=some (.int k y)∧ds[i]?=some (.agg [.lit (.int k x),.lit (.int k y)]):=by
 obtain ⟨xs,m,rfl,hx,hl,hxl,hi⟩:=DataW.trod_array ht h
 intro i hin
 have h3:=hi i hin
 rw [h1,List.getElem?_eq_getElem (by omega)] at h3
 obtain ⟨ys,m',rfl,hy,hl',hyl,hj⟩:=DataW.trod_struct he h3
 have g0:=hj 0 f0 hf0
 have g1:=hj 1 f1 hf1
 have hdl : ((cs.drop (i * 2)).take 2).length=2:=by rw [List.length_take,List.length_drop]; omega
 rw [o0,ca,one_of_drop (by omega),List.getElem?_eq_getElem (by omega)] at g0
 rw [o1,cb,one_of_drop (by omega),List.getElem?_eq_getElem (by omega)] at g1
 obtain ⟨x,ex,ey0⟩:=int_of_trod ha g0
 obtain ⟨y,ey,ey1⟩:=int_of_trod hb g1
 rw [List.getElem_take,List.getElem_drop] at ex ey
 refine ⟨x,y,by rw [List.getElem?_eq_getElem (by omega)]; exact congrArg some ex,by rw [List.getElem?_eq_getElem (by omega)]; exact congrArg some ey,?_⟩
 injection hx with hx1 hx2
 injection hx1 with hx1
 rw [hx1,List.getElem?_map,List.getElem?_eq_getElem (by omega),hy]
 have e2 : ys=[ys[0],ys[1]]:=by
  apply List.ext_getElem
  ·simp; omega
  ·intro q q1 q2
   have : q < 2:=by omega
   rcases (by omega : q=0∨q=1) with rfl | rfl <;> rfl
 rw [e2]
 simp only [Option.map_some,List.map_cons,List.map_nil]
 rw [ey0,ey1]
theorem gTab : Tryz.prog.globalNamed "dustpan/class.table"=some 0:=by kernel_rfl
theorem gTabT : (Tryz.prog.globals[0]?).map (·.type)=some 133:=by kernel_rfl
theorem gBru : Tryz.prog.globalNamed "math/bits.deBruijn64tab"=some 1:=by kernel_rfl
theorem gBruT : (Tryz.prog.globals[1]?).map (·.type)=some 148:=by kernel_rfl
def tabRow (c : Nat) : DataW Unit:=.agg [.lit (.int .i64 (clsB c)),.lit (.int .i64 (clsP c))]
theorem rows_tab : (Rows.laid_dustpan_class_table : DataW Unit)=.agg ((List.range 14).map tabRow):=by rfl
theorem cells70 : Tryz.prog.cellsOf 133=28:=by kernel_rfl
theorem cells69 : Tryz.prog.cellsOf 132=2:=by kernel_rfl
theorem cells3 : Tryz.prog.cellsOf 3=1:=by kernel_rfl
theorem cells92 : Tryz.prog.cellsOf 148=64:=by kernel_rfl
theorem cells5 : Tryz.prog.cellsOf 5=1:=by kernel_rfl
theorem rows_bru : (Rows.laid_math_bits_deBruijn64tab : DataW Unit)=.agg ((List.range 64).map fun j=>.lit (.int .u8 (Lib.deBruijn64tab.getD j 0 : Nat))):=by rfl
def laidBoth : List (String × DataW Unit):=[("dustpan/class.table",Rows.laid_dustpan_class_table),("math/bits.deBruijn64tab",Rows.laid_math_bits_deBruijn64tab)]
theorem tabs_of_laid {W : World} (h : laidMetH Tryz.prog laidBoth W) : Tab W∧TabB W:=by
 have h' : laidMet Tryz.prog laidBoth W:=h
 obtain ⟨ps,⟨g,t,cs,fuel,p,q,hg,ht,hvar,hd,⟨g2,t2,cs2,fuel2,p2,q2,hg2,ht2,hvar2,hd2,_,_⟩,_⟩,_⟩:=h'
 obtain rfl:=Option.some.inj (gTab.symm.trans hg)
 obtain rfl:=Option.some.inj (gTabT.symm.trans ht)
 obtain rfl:=Option.some.inj (gBru.symm.trans hg2)
 obtain rfl:=Option.some.inj (gBruT.symm.trans ht2)
 rw [rows_tab] at hd
 rw [rows_bru] at hd2
 refine ⟨fun c hc=>?_,fun j hj=>?_⟩
 ·obtain ⟨x,y,e1,e2,e3⟩:=pairs_of_array Tryz.underlying133 Tryz.underlying132 rfl rfl rfl rfl rfl Tryz.underlying3 Tryz.underlying3 cells3 cells3 cells69 cells70 hd c hc
  have e4 : ((List.range 14).map tabRow)[c]?=some (tabRow c):=by simp [hc]
  rw [e4] at e3
  injection e3 with e3
  unfold tabRow at e3
  simp only [DataW.agg.injEq,List.cons.injEq,DataW.lit.injEq,Lit.int.injEq,true_and,and_true] at e3
  rw [World.var?_cell gTab hvar (c * 2),World.var?_cell gTab hvar (c * 2 + 1)]
  rw [← Array.getElem?_toList,← Array.getElem?_toList,e1,e2,e3.1,e3.2]
  exact ⟨rfl,rfl⟩
 ·have hj' : j < 64:=hj
  obtain ⟨x,e1,e3⟩:=ints_of_array Tryz.underlying148 Tryz.underlying5 cells5 cells92 hd2 j hj'
  have e4 : ((List.range 64).map fun j=>(DataW.lit (.int .u8 (Lib.deBruijn64tab.getD j 0 : Nat)) : DataW Unit))[j]?=some (.lit (.int .u8 (Lib.deBruijn64tab.getD j 0 : Nat))):=by simp [hj']
  rw [e4] at e3
  injection e3 with e3
  simp only [DataW.lit.injEq,Lit.int.injEq,true_and] at e3
  rw [World.var?_cell gBru hvar2 j,← Array.getElem?_toList,e1,e3]
end Go.Proofs.YtoolenhnhlfhmaaGreatDoor
