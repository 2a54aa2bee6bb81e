/- Arguments opened: a model, a mark, by value. -/
import Derived.Test.YtoolenhnhlfhmaaGreatDoorHG
import Derived.Test.YtoolenhnhlfhmaaGreatDoorRaA
import Derived.Lib.SmallJoins
namespace Go.Proofs.YtoolenhnhlfhmaaGreatDoor
open Go.RowKit Go.ChangeShapes Go.WideShapes Go.Deep
set_option linter.unusedVariables false
set_option linter.unusedSimpArgs false
instance : Inhabited HoldD:=⟨noHold⟩
section
variable {H : Type} {enc : TypeId × Value→H} {P : Program} {w : World} {base : Nat} {spare : Nat→Bool} {held : Bool}
theorem array5 {α : Type} {cs : Array α} (h : cs.size=5) : ∃ c0 c1 c2 c3 c4,cs=#[c0,c1,c2,c3,c4]:=by
 obtain ⟨l⟩:=cs
 match l,h with
 | [c0,c1,c2,c3,c4],_=>exact ⟨c0,c1,c2,c3,c4,rfl⟩
theorem trod_struct5 {t : TypeId} {f0 f1 f2 f3 f4 : Field} {fuel : Nat} {cs : List Value} {x : DataW H × List MemPlace} (ht : P.underlying t=some (.struct #[f0,f1,f2,f3,f4])) (h : DataW.trod enc P w base spare held fuel t cs=some x) :
  ∃ (y0 y1 y2 y3 y4 : DataW H × List MemPlace) (n : Nat),x.1=.agg [y0.1,y1.1,y2.1,y3.1,y4.1]∧DataW.trod enc P w base spare held n f0.type ((cs.drop f0.offset).take (P.cellsOf f0.type))=some y0∧DataW.trod enc P w base spare held n f1.type ((cs.drop f1.offset).take (P.cellsOf f1.type))=some y1∧DataW.trod enc P w base spare held n f2.type ((cs.drop f2.offset).take (P.cellsOf f2.type))=some y2∧DataW.trod enc P w base spare held n f3.type ((cs.drop f3.offset).take (P.cellsOf f3.type))=some y3∧DataW.trod enc P w base spare held n f4.type ((cs.drop f4.offset).take (P.cellsOf f4.type))=some y4:=by
 obtain ⟨xs,n,_,rfl,hl,hlen,hf⟩:=DataW.trod_struct ht h
 match xs,hlen with
 | [y0,y1,y2,y3,y4],_=>exact ⟨y0,y1,y2,y3,y4,n,by simp,by simpa using hf 0 f0 rfl,by simpa using hf 1 f1 rfl,by simpa using hf 2 f2 rfl,by simpa using hf 3 f3 rfl,by simpa using hf 4 f4 rfl⟩
theorem open_agg5 {r : Reach} {b0 : Nat} {t : TypeId} {f0 f1 f2 f3 f4 : Field} {v : Value} {d : DataW H} {p : List MemPlace} (hs : P.underlying t=some (.struct #[f0,f1,f2,f3,f4])) (hone : oneCellFields P #[f0,f1,f2,f3,f4]=true) (hC : P.cellsOf t=5)
  (hv : Value.okWide P w r b0 t v) (h : DataW.Trod enc P w base spare held t v d p) :
  ∃ (v0 v1 v2 v3 v4 : Value) (y0 y1 y2 y3 y4 : DataW H × List MemPlace) (n : Nat),v=.agg #[v0,v1,v2,v3,v4]∧d=.agg [y0.1,y1.1,y2.1,y3.1,y4.1]∧DataW.trod enc P w base spare held n f0.type [v0]=some y0∧DataW.trod enc P w base spare held n f1.type [v1]=some y1∧DataW.trod enc P w base spare held n f2.type [v2]=some y2∧DataW.trod enc P w base spare held n f3.type [v3]=some y3∧DataW.trod enc P w base spare held n f4.type [v4]=some y4:=by
 obtain ⟨cs,rfl,hsz⟩:=okWide_struct hs hv
 obtain ⟨c0,c1,c2,c3,c4,rfl⟩:=array5 (hsz.trans hC)
 obtain ⟨fuel,hf⟩:=h
 obtain ⟨y0,y1,y2,y3,y4,n,hx,h0,h1,h2,h3,h4⟩:=trod_struct5 hs hf
 obtain ⟨o0,k0⟩:=hone_of hone 0 f0 rfl
 obtain ⟨o1,k1⟩:=hone_of hone 1 f1 rfl
 obtain ⟨o2,k2⟩:=hone_of hone 2 f2 rfl
 obtain ⟨o3,k3⟩:=hone_of hone 3 f3 rfl
 obtain ⟨o4,k4⟩:=hone_of hone 4 f4 rfl
 exact ⟨c0,c1,c2,c3,c4,y0,y1,y2,y3,y4,n,rfl,hx,by simpa [Value.cells,o0,k0] using h0,by simpa [Value.cells,o1,k1] using h1,by simpa [Value.cells,o2,k2] using h2,by simpa [Value.cells,o3,k3] using h3,by simpa [Value.cells,o4,k4] using h4⟩
theorem array6 {α : Type} {cs : Array α} (h : cs.size=6) : ∃ c0 c1 c2 c3 c4 c5,cs=#[c0,c1,c2,c3,c4,c5]:=by
 obtain ⟨l⟩:=cs
 match l,h with
 | [c0,c1,c2,c3,c4,c5],_=>exact ⟨c0,c1,c2,c3,c4,c5,rfl⟩
theorem trod_struct6 {t : TypeId} {f0 f1 f2 f3 f4 f5 : Field} {fuel : Nat} {cs : List Value} {x : DataW H × List MemPlace} (ht : P.underlying t=some (.struct #[f0,f1,f2,f3,f4,f5])) (h : DataW.trod enc P w base spare held fuel t cs=some x) :
  ∃ (y0 y1 y2 y3 y4 y5 : DataW H × List MemPlace) (n : Nat),x.1=.agg [y0.1,y1.1,y2.1,y3.1,y4.1,y5.1]∧DataW.trod enc P w base spare held n f0.type ((cs.drop f0.offset).take (P.cellsOf f0.type))=some y0∧DataW.trod enc P w base spare held n f1.type ((cs.drop f1.offset).take (P.cellsOf f1.type))=some y1∧DataW.trod enc P w base spare held n f2.type ((cs.drop f2.offset).take (P.cellsOf f2.type))=some y2∧DataW.trod enc P w base spare held n f3.type ((cs.drop f3.offset).take (P.cellsOf f3.type))=some y3∧DataW.trod enc P w base spare held n f4.type ((cs.drop f4.offset).take (P.cellsOf f4.type))=some y4∧DataW.trod enc P w base spare held n f5.type ((cs.drop f5.offset).take (P.cellsOf f5.type))=some y5:=by
 obtain ⟨xs,n,_,rfl,hl,hlen,hf⟩:=DataW.trod_struct ht h
 match xs,hlen with
 | [y0,y1,y2,y3,y4,y5],_=>exact ⟨y0,y1,y2,y3,y4,y5,n,by simp,by simpa using hf 0 f0 rfl,by simpa using hf 1 f1 rfl,by simpa using hf 2 f2 rfl,by simpa using hf 3 f3 rfl,by simpa using hf 4 f4 rfl,by simpa using hf 5 f5 rfl⟩
theorem open_agg6 {r : Reach} {b0 : Nat} {t : TypeId} {f0 f1 f2 f3 f4 f5 : Field} {v : Value} {d : DataW H} {p : List MemPlace} (hs : P.underlying t=some (.struct #[f0,f1,f2,f3,f4,f5])) (hone : oneCellFields P #[f0,f1,f2,f3,f4,f5]=true) (hC : P.cellsOf t=6)
  (hv : Value.okWide P w r b0 t v) (h : DataW.Trod enc P w base spare held t v d p) :
  ∃ (v0 v1 v2 v3 v4 v5 : Value) (y0 y1 y2 y3 y4 y5 : DataW H × List MemPlace) (n : Nat),v=.agg #[v0,v1,v2,v3,v4,v5]∧d=.agg [y0.1,y1.1,y2.1,y3.1,y4.1,y5.1]∧DataW.trod enc P w base spare held n f0.type [v0]=some y0∧DataW.trod enc P w base spare held n f1.type [v1]=some y1∧DataW.trod enc P w base spare held n f2.type [v2]=some y2∧DataW.trod enc P w base spare held n f3.type [v3]=some y3∧DataW.trod enc P w base spare held n f4.type [v4]=some y4∧DataW.trod enc P w base spare held n f5.type [v5]=some y5:=by
 obtain ⟨cs,rfl,hsz⟩:=okWide_struct hs hv
 obtain ⟨c0,c1,c2,c3,c4,c5,rfl⟩:=array6 (hsz.trans hC)
 obtain ⟨fuel,hf⟩:=h
 obtain ⟨y0,y1,y2,y3,y4,y5,n,hx,h0,h1,h2,h3,h4,h5⟩:=trod_struct6 hs hf
 obtain ⟨o0,k0⟩:=hone_of hone 0 f0 rfl
 obtain ⟨o1,k1⟩:=hone_of hone 1 f1 rfl
 obtain ⟨o2,k2⟩:=hone_of hone 2 f2 rfl
 obtain ⟨o3,k3⟩:=hone_of hone 3 f3 rfl
 obtain ⟨o4,k4⟩:=hone_of hone 4 f4 rfl
 obtain ⟨o5,k5⟩:=hone_of hone 5 f5 rfl
 exact ⟨c0,c1,c2,c3,c4,c5,y0,y1,y2,y3,y4,y5,n,rfl,hx,by simpa [Value.cells,o0,k0] using h0,by simpa [Value.cells,o1,k1] using h1,by simpa [Value.cells,o2,k2] using h2,by simpa [Value.cells,o3,k3] using h3,by simpa [Value.cells,o4,k4] using h4,by simpa [Value.cells,o5,k5] using h5⟩
def LenPart (n : Nat) (d : DataW H) : Prop:=(n=0∧d=.nil)∨∃ es sp,d=.slice es sp∧es.length=n
theorem sized_agg {ts : List TypeId} {ds : List (DataW H)} (h : (DataW.weightsEach P ts ds).all (·≤reachBytes)=true) {j : Nat} {t : TypeId} {parts : List (DataW H)} {fs : Array Field} (ht : ts[j]?=some t) (hd : ds[j]?=some (.agg parts)) (hu : P.underlying t=some (.struct fs)) :
  (DataW.weightsEach P (fs.toList.map (·.type)) parts).all (·≤reachBytes)=true:=by
 rw [List.all_eq_true]
 intro n hn
 exact List.all_eq_true.1 h n (DataW.weights_mem_each ht hd n (by simpa [DataW.weights,hu] using hn))
theorem len_le2 {ts : List TypeId} {ds : List (DataW H)} (h : (DataW.weightsEach P ts ds).all (·≤reachBytes)=true) {j : Nat} {t e : TypeId} {d : DataW H} {len b : Nat} (ht : ts[j]?=some t) (hd : ds[j]?=some d) (hu : P.underlying t=some (.slice e))
  (hb : P.bytesOf e=b) (hb1 : 1≤b) (hl : LenPart len d) : len≤1152921504606846976:=by
 rcases hl with ⟨rfl,_⟩ | ⟨es,sp,rfl,rfl⟩
 ·omega
 ·have h1:=sized_slice h ht hd hu
  rw [hb] at h1
  have h2:=reachBytes_lt
  have h3 : es.length * 1≤(es.length + sp.length) * b:=Nat.mul_le_mul (by omega) hb1
  omega
theorem open_zs {t e : TypeId} {k : IntKind} {fuel : Nat} {cs : List Value} {x : DataW H × List MemPlace} (ht : P.underlying t=some (.slice e)) (he : P.underlying e=some (.int k)) (hC : P.cellsOf e=1)
  (h : DataW.trod enc P w base (fun _=>true) held fuel t cs=some x) :
  ∃ (A : Option Addr) (l : List Int) (cap : Nat),cs=[.slice A l.length cap]∧SlR w A l.length 1 (fun j=>.int k (ix 0 l j))∧(∀ j,j < l.length→(Lit.int k (ix 0 l j)).wf=true)∧LenPart l.length x.1:=by
 obtain ⟨A,len,cap,hcs,hl,hm,hi⟩:=open_elems ht hC h
 have hlen:=open_len ht (hcs▸h)
 obtain ⟨N,hN⟩:=choose_lt (α:=Int) (p:=fun i z=>(∃ b off,A=some ⟨b,off,none⟩∧w.cell? ⟨b,off + i,none⟩=some (.int k z))∧(Lit.int k z).wf=true) (fun i hil=>by
  obtain ⟨n,b,off,v,y,hA,hc,ht'⟩:=hi i hil
  obtain ⟨z,hz,_,hwf⟩:=DataW.trod_int he ht'
  injection hz with hz
  subst hz
  exact ⟨z,⟨b,off,hA,hc⟩,hwf⟩)
 have hll : ((List.range len).map N).length=len:=by simp
 refine ⟨A,(List.range len).map N,cap,by rw [hll]; exact hcs,?_,fun j hj=>?_,by rw [hll]; exact hlen⟩
 ·rw [hll]
  intro hn
  obtain ⟨⟨b,off,hA,_⟩,_⟩:=hN 0 hn
  refine ⟨b,off,hA,fun j hj=>?_⟩
  obtain ⟨⟨b',off',hA',hc⟩,_⟩:=hN j (by omega)
  rw [hA] at hA'
  cases hA'
  rw [hc]
  dsimp only
  rw [ix_map_range _ _ _ _ (by omega)]
 ·rw [hll] at hj
  rw [ix_map_range _ _ _ _ hj]
  exact (hN j hj).2
theorem runs_of {A : Option Addr} {len : Nat} {Z : Nat→Nat→Int} (h : SlR w A len 2 (fun j=>.int .i64 (Z (j / 2) (j % 2)))) : ∃ l : List RunD,l.length=len∧SlR w A l.length 2 (runV l):=by
 have hll : ((List.range len).map fun i=>(⟨Z i 0,Z i 1⟩ : RunD)).length=len:=by simp
 refine ⟨(List.range len).map fun i=>⟨Z i 0,Z i 1⟩,hll,?_⟩
 rw [hll]
 refine h.congr (fun j hj=>?_)
 unfold runV
 rw [ix_map_range _ _ _ _ (by omega)]
 rcases (by omega : j % 2=0∨j % 2=1) with e | e <;> simp [e]
theorem hands_of {A : Option Addr} {len : Nat} {Z : Nat→Nat→Int} (h : SlR w A len 3 (fun j=>.int .i64 (Z (j / 3) (j % 3)))) : ∃ l : List HandD,l.length=len∧SlR w A l.length 3 (handV l):=by
 have hll : ((List.range len).map fun i=>(⟨Z i 0,Z i 1,Z i 2⟩ : HandD)).length=len:=by simp
 refine ⟨(List.range len).map fun i=>⟨Z i 0,Z i 1,Z i 2⟩,hll,?_⟩
 rw [hll]
 refine h.congr (fun j hj=>?_)
 unfold handV
 rw [ix_map_range _ _ _ _ (by omega)]
 rcases (by omega : j % 3=0∨j % 3=1∨j % 3=2) with e | e | e <;> simp [e]
theorem open_holds {t e : TypeId} {f0 f1 f2 f3 f4 f5 f6 f7 : Field} {fuel : Nat} {cs : List Value} {x : DataW H × List MemPlace} (ht : P.underlying t=some (.slice e)) (he : P.underlying e=some (.struct #[f0,f1,f2,f3,f4,f5,f6,f7])) (hone : oneCellFields P #[f0,f1,f2,f3,f4,f5,f6,f7]=true) (hC : P.cellsOf e=8)
  (k0 : P.underlying f0.type=some (.int .i64)) (k1 : P.underlying f1.type=some (.int .i64)) (k2 : P.underlying f2.type=some (.int .i64)) (k3 : P.underlying f3.type=some (.int .i64)) (k4 : P.underlying f4.type=some (.int .i64)) (k5 : P.underlying f5.type=some .bool) (k6 : P.underlying f6.type=some (.int .u64)) (k7 : P.underlying f7.type=some (.int .u64))
  (h : DataW.trod enc P w base (fun _=>true) held fuel t cs=some x) :
  ∃ (A : Option Addr) (l : List HoldD) (cap : Nat),cs=[.slice A l.length cap]∧SlR w A l.length 8 (holdsV l)∧(∀ s,s ∈ l→s.marks < 18446744073709551616)∧LenPart l.length x.1:=by
 obtain ⟨A,len,cap,hcs,hl,hm,hi⟩:=open_rows ht he hone hC h
 have hlen:=open_len ht (hcs▸h)
 obtain ⟨Z,hZ⟩:=choose_lt (α:=HoldD) (p:=fun i z=>(∀ j,j < 8→∃ b off,A=some ⟨b,off,none⟩∧w.cell? ⟨b,off + (i * 8 + j),none⟩=some (holdC z j))∧z.marks < 18446744073709551616) (fun i hil=>by
  obtain ⟨n,hf⟩:=hi i hil
  obtain ⟨b0,o0,u0,y0,a0,c0,r0⟩:=hf 0 f0 rfl
  obtain ⟨z0,q0,_,w0⟩:=DataW.trod_int k0 r0
  injection q0 with q0
  subst q0
  obtain ⟨b1,o1,u1,y1,a1,c1,r1⟩:=hf 1 f1 rfl
  obtain ⟨z1,q1,_,w1⟩:=DataW.trod_int k1 r1
  injection q1 with q1
  subst q1
  obtain ⟨b2,o2,u2,y2,a2,c2,r2⟩:=hf 2 f2 rfl
  obtain ⟨z2,q2,_,w2⟩:=DataW.trod_int k2 r2
  injection q2 with q2
  subst q2
  obtain ⟨b3,o3,u3,y3,a3,c3,r3⟩:=hf 3 f3 rfl
  obtain ⟨z3,q3,_,w3⟩:=DataW.trod_int k3 r3
  injection q3 with q3
  subst q3
  obtain ⟨b4,o4,u4,y4,a4,c4,r4⟩:=hf 4 f4 rfl
  obtain ⟨z4,q4,_,w4⟩:=DataW.trod_int k4 r4
  injection q4 with q4
  subst q4
  obtain ⟨b5,o5,u5,y5,a5,c5,r5⟩:=hf 5 f5 rfl
  obtain ⟨z5,q5,_⟩:=DataW.trod_bool k5 r5
  injection q5 with q5
  subst q5
  obtain ⟨b6,o6,u6,y6,a6,c6,r6⟩:=hf 6 f6 rfl
  obtain ⟨z6,q6,_,w6⟩:=DataW.trod_int k6 r6
  injection q6 with q6
  subst q6
  obtain ⟨b7,o7,u7,y7,a7,c7,r7⟩:=hf 7 f7 rfl
  obtain ⟨z7,q7,_,w7⟩:=DataW.trod_int k7 r7
  injection q7 with q7
  subst q7
  have m6:=bounds_u64 w6
  have m7:=bounds_u64 w7
  have e6 : ((z6.toNat : Nat) : Int)=z6:=Int.toNat_of_nonneg m6.1
  have e7 : ((z7.toNat : Nat) : Int)=z7:=Int.toNat_of_nonneg m7.1
  rw [← e6] at c6
  rw [← e7] at c7
  refine ⟨⟨z0,z1,z2,z3,z4,z5,z6.toNat,z7.toNat⟩,fun j hj=>?_,by show z7.toNat < _; omega⟩
  rcases (by omega : j=0∨j=1∨j=2∨j=3∨j=4∨j=5∨j=6∨j=7) with rfl | rfl | rfl | rfl | rfl | rfl | rfl | rfl
  ·exact ⟨b0,o0,a0,c0⟩
  ·exact ⟨b1,o1,a1,c1⟩
  ·exact ⟨b2,o2,a2,c2⟩
  ·exact ⟨b3,o3,a3,c3⟩
  ·exact ⟨b4,o4,a4,c4⟩
  ·exact ⟨b5,o5,a5,c5⟩
  ·exact ⟨b6,o6,a6,c6⟩
  ·exact ⟨b7,o7,a7,c7⟩)
 have hll : ((List.range len).map Z).length=len:=by simp
 refine ⟨A,(List.range len).map Z,cap,by rw [hll]; exact hcs,?_,fun s hs=>?_,by rw [hll]; exact hlen⟩
 ·rw [hll]
  intro hn
  obtain ⟨b,off,hA,_⟩:=(hZ 0 hn).1 0 (by omega)
  refine ⟨b,off,hA,fun j hj=>?_⟩
  obtain ⟨b',off',hA',hc⟩:=(hZ (j / 8) (by omega)).1 (j % 8) (Nat.mod_lt _ (by decide))
  rw [hA] at hA'
  cases hA'
  rw [show j / 8 * 8 + j % 8=j by omega] at hc
  rw [hc]
  unfold holdsV
  rw [ix_map_range _ _ _ _ (by omega)]
 ·obtain ⟨i,hi2,rfl⟩:=List.mem_map.1 hs
  exact (hZ i (List.mem_range.1 hi2)).2
end
section
variable {H : Type} {enc : TypeId × Value→H} {W : World} {b0 : Nat} {v : Value} {d : DataW H} {p : List MemPlace}
set_option maxRecDepth 100000 in
theorem in_markU (hv : Value.okWide Tryz.prog W .any b0 34 v) (h : DataW.Trod enc Tryz.prog W 0 (fun _=>true) true 34 v d p) : ∃ x : MarkD,v=markV x∧MarkOk x:=by
 obtain ⟨v0,v1,v2,v3,v4,v5,y0,y1,y2,y3,y4,y5,n,rfl,_,h0,h1,h2,h3,h4,h5⟩:=open_agg6 Tryz.underlying34 (by kernel_rfl) (by kernel_rfl) hv h
 obtain ⟨k0,e0,_,w0⟩:=DataW.trod_int Tryz.underlying3 h0
 injection e0 with e0
 subst e0
 obtain ⟨k1,e1,_,w1⟩:=DataW.trod_int Tryz.underlying3 h1
 injection e1 with e1
 subst e1
 obtain ⟨k2,e2,_,w2⟩:=DataW.trod_int Tryz.underlying3 h2
 injection e2 with e2
 subst e2
 obtain ⟨k3,e3,_,w3⟩:=DataW.trod_int Tryz.underlying3 h3
 injection e3 with e3
 subst e3
 obtain ⟨k4,e4,_,w4⟩:=DataW.trod_int Tryz.underlying3 h4
 injection e4 with e4
 subst e4
 obtain ⟨k5,e5,_,w5⟩:=DataW.trod_int Tryz.underlying32 h5
 injection e5 with e5
 subst e5
 have m5:=bounds_u64 w5
 have e5 : ((k5.toNat : Nat) : Int)=k5:=Int.toNat_of_nonneg m5.1
 refine ⟨⟨k0,k1,k2,k3,k4,k5.toNat⟩,?_,bounds_i64 w3,bounds_i64 w4,by show k5.toNat < _; omega⟩
 unfold markV
 dsimp only
 rw [e5]
set_option maxRecDepth 100000 in
theorem in_modelU (hv : Value.okWide Tryz.prog W .any b0 30 v) (h : DataW.Trod enc Tryz.prog W 0 (fun _=>true) true 30 v d p) :
  ∃ (m : ModelD) (F Hh S G : Option Addr) (fc hc sc gc : Nat) (e0 e1 e2 e3 e4 : DataW H),v=modelV m F Hh S G fc hc sc gc∧d=.agg [e0,e1,e2,e3,e4]∧ModelR W m F Hh S G∧MarksOk m∧(∀ i,i < m.gone.length→ix 0 m.gone i≤9223372036854775807) ∧
   LenPart m.free.length e1∧LenPart m.hands.length e2∧LenPart m.spans.length e3∧LenPart m.gone.length e4:=by
 obtain ⟨v0,v1,v2,v3,v4,y0,y1,y2,y3,y4,n,rfl,rfl,h0,h1,h2,h3,h4⟩:=open_agg5 Tryz.underlying30 (by kernel_rfl) (by kernel_rfl) hv h
 obtain ⟨k0,e0,_⟩:=DataW.trod_int Tryz.underlying3 h0
 injection e0 with e0
 subst e0
 obtain ⟨F,fn,fc,Zf,ef,_,hF,_,lf⟩:=open_nums (ks:=fun _=>.i64) Tryz.underlying25 Tryz.underlying54 (by kernel_rfl) (by kernel_rfl) (fun j f hj=>by
  rcases j with _ | _ | j
  all_goals simp at hj
  all_goals (subst hj; exact Tryz.underlying3)) (by decide) h1
 injection ef with ef
 subst ef
 obtain ⟨lF,rfl,hF2⟩:=runs_of hF
 obtain ⟨Hh,hn,hc,Zh,eh,_,hH,_,lh⟩:=open_nums (ks:=fun _=>.i64) Tryz.underlying26 Tryz.underlying56 (by kernel_rfl) (by kernel_rfl) (fun j f hj=>by
  rcases j with _ | _ | _ | j
  all_goals simp at hj
  all_goals (subst hj; exact Tryz.underlying3)) (by decide) h2
 injection eh with eh
 subst eh
 obtain ⟨lH,rfl,hH2⟩:=hands_of hH
 obtain ⟨S,lS,sc,es,hS,hMk,ls⟩:=open_holds Tryz.underlying27 Tryz.underlying51 (by kernel_rfl) (by kernel_rfl) Tryz.underlying3 Tryz.underlying3 Tryz.underlying3 Tryz.underlying3 Tryz.underlying3 Tryz.underlying4 Tryz.underlying32 Tryz.underlying32 h3
 injection es with es
 subst es
 obtain ⟨G,lG,gc,eg,hG,hgw,lg⟩:=open_zs Tryz.underlying28 Tryz.underlying3 (by kernel_rfl) h4
 injection eg with eg
 subst eg
 exact ⟨⟨k0,lF,lH,lS,lG⟩,F,Hh,S,G,fc,hc,sc,gc,y0.1,y1.1,y2.1,y3.1,y4.1,rfl,rfl,⟨hF2,hH2,hS,hG⟩,hMk,fun i hi=>(bounds_i64 (hgw i hi)).2,lf,lh,ls,lg⟩
end
end Go.Proofs.YtoolenhnhlfhmaaGreatDoor
