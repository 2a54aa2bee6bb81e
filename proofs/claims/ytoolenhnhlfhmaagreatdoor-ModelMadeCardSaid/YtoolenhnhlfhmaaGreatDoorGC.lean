/- The model, plainly: when it may be. No program is named here. Walks: the model's cover: pieces laid one behind the other. Walks: dustpanref1.row, Pages. Walks: the document's Slots, Size, Begin; class.small, Slots, Size; slot.there, Begin. Walks: the model's spans, one by one. -/
import Derived.Test.YtoolenhnhlfhmaaGreatDoorGA
import Derived.Test.YtoolenhnhlfhmaaGreatDoorRows
import Derived.Lib.QuietBelow
namespace Go.Proofs.YtoolenhnhlfhmaaGreatDoor
set_option linter.unusedVariables false
set_option linter.unusedSimpArgs false
structure RunD where
 at_ : Int
 n : Int
structure HandD where
 t : Int
 at_ : Int
 n : Int
structure HoldD where
 page : Int
 pages : Int
 cls : Int
 holder : Int
 claim : Int
 swept : Bool
 alloc : Nat
 marks : Nat
structure ModelD where
 pages : Int
 free : List RunD
 hands : List HandD
 spans : List HoldD
 gone : List Int
def noRun : RunD:=⟨0,0⟩
def noHand : HandD:=⟨0,0,0⟩
def noHold : HoldD:=⟨0,0,0,0,0,false,0,0⟩
/-- A piece: where it begins, and of how many pages it is. -/
def InP (x : Int × Int) (p : Int) : Prop:=x.1≤p∧p < x.1 + x.2
def FitP (P : Int) (x : Int × Int) : Prop:=0≤x.1∧1≤x.2∧x.1 < P∧x.2≤P - x.1
theorem FitP.inP {P : Int} {x : Int × Int} (h : FitP P x) : InP x x.1:=⟨Int.le_refl _,by have:=h.2.1; omega⟩
theorem FitP.lt {P : Int} {x : Int × Int} (h : FitP P x) {p : Int} (hp : InP x p) : 0≤p∧p < P:=by
 obtain ⟨h1,h2,h3,h4⟩:=h
 obtain ⟨k1,k2⟩:=hp
 omega
/-- The first k pieces lie in the pages, apart from one another. -/
def LaidTo (P : Int) (l : List (Int × Int)) (k : Nat) : Prop:=∀ i,i < k→FitP P (ix (0,0) l i)∧∀ j,j < i→∀ p,InP (ix (0,0) l i) p→¬ InP (ix (0,0) l j) p
def CoverTo (P : Int) (l : List (Int × Int)) (k : Nat) : Prop:=∀ p,0≤p→p < P→∃ i,i < k∧InP (ix (0,0) l i) p
noncomputable def cntTo (l : List (Int × Int)) : Nat→Int→Nat
 | 0,_=>0
 | k + 1,p=>cntTo l k p + if B (InP (ix (0,0) l k) p) then 1 else 0
theorem cntTo_in {l : List (Int × Int)} {p : Int} : ∀ {k i : Nat},i < k→InP (ix (0,0) l i) p→1≤cntTo l k p
 | 0,i,h,_=>absurd h (by omega)
 | k + 1,i,h,hp=>by
  unfold cntTo
  by_cases e : i=k
  ·subst e
   rw [if_pos (B_yes hp)]
   omega
  ·have:=cntTo_in (k:=k) (i:=i) (by omega) hp
   omega
theorem cntTo_two {l : List (Int × Int)} {p : Int} : ∀ {k i j : Nat},i < k→j < i→InP (ix (0,0) l i) p→InP (ix (0,0) l j) p→2≤cntTo l k p
 | 0,i,j,h,_,_,_=>absurd h (by omega)
 | k + 1,i,j,h,hj,hi,hp=>by
  unfold cntTo
  by_cases e : i=k
  ·subst e
   rw [if_pos (B_yes hi)]
   have:=cntTo_in hj hp
   omega
  ·have:=cntTo_two (k:=k) (i:=i) (by omega) hj hi hp
   omega
theorem cntTo_no {l : List (Int × Int)} {p : Int} : ∀ {k : Nat},(∀ i,i < k→¬ InP (ix (0,0) l i) p)→cntTo l k p=0
 | 0,_=>rfl
 | k + 1,h=>by
  unfold cntTo
  rw [cntTo_no (k:=k) (fun i hi=>h i (by omega)),if_neg (by rw [B_no (h k (by omega))]; simp)]
theorem cntTo_le {P : Int} {l : List (Int × Int)} {p : Int} : ∀ {k : Nat},LaidTo P l k→cntTo l k p≤1
 | 0,_=>Nat.zero_le _
 | k + 1,h=>by
  unfold cntTo
  by_cases e : InP (ix (0,0) l k) p
  ·rw [if_pos (B_yes e),cntTo_no (fun i hi=>(h k (by omega)).2 i hi p e)]
   omega
  ·rw [if_neg (by rw [B_no e]; simp)]
   exact cntTo_le (k:=k) (fun i hi=>h i (by omega))
/-- Counted: each page is of just one piece. -/
theorem laid_iff {P : Int} {l : List (Int × Int)} {k : Nat} : ((∀ i,i < k→FitP P (ix (0,0) l i))∧∀ p,0≤p→p < P→cntTo l k p=1)↔LaidTo P l k∧CoverTo P l k:=by
 constructor
 ·rintro ⟨h1,h2⟩
  refine ⟨fun i hi=>⟨h1 i hi,fun j hj p hp hq=>?_⟩,fun p h0 hP=>?_⟩
  ·obtain ⟨k0,k1⟩:=(h1 i hi).lt hp
   have:=cntTo_two hi hj hp hq
   have:=h2 p k0 k1
   omega
  ·rcases Classical.em (∃ i,i < k∧InP (ix (0,0) l i) p) with h | h
   ·exact h
   ·have:=cntTo_no (l:=l) (p:=p) (k:=k) (fun i hi hp=>h ⟨i,hi,hp⟩)
    have:=h2 p h0 hP
    omega
 ·rintro ⟨h1,h2⟩
  refine ⟨fun i hi=>(h1 i hi).1,fun p h0 hP=>?_⟩
  obtain ⟨i,hi,hp⟩:=h2 p h0 hP
  have a:=cntTo_in hi hp
  have b:=cntTo_le (p:=p) h1
  omega
/-- How many pieces begin ahead of a page. -/
noncomputable def begTo (l : List (Int × Int)) : Nat→Int→Nat
 | 0,_=>0
 | k + 1,p=>begTo l k p + if B ((ix (0,0) l k).1 < p) then 1 else 0
theorem begTo_all {P : Int} {l : List (Int × Int)} : ∀ {k : Nat},LaidTo P l k→begTo l k P=k
 | 0,_=>rfl
 | k + 1,h=>by
  unfold begTo
  rw [begTo_all (k:=k) (fun i hi=>h i (by omega)),if_pos (B_yes (h k (by omega)).1.2.2.1)]
theorem begTo_none {P : Int} {l : List (Int × Int)} : ∀ {k : Nat},LaidTo P l k→begTo l k 0=0
 | 0,_=>rfl
 | k + 1,h=>by
  unfold begTo
  have h0:=(h k (by omega)).1.1
  rw [begTo_none (k:=k) (fun i hi=>h i (by omega)),if_neg (by rw [B_no (by omega)]; simp)]
theorem begTo_eq {l : List (Int × Int)} {p : Int} : ∀ {k : Nat},(∀ i,i < k→(ix (0,0) l i).1≠p)→begTo l k (p + 1)=begTo l k p
 | 0,_=>rfl
 | k + 1,h=>by
  unfold begTo
  rw [begTo_eq (k:=k) (fun i hi=>h i (by omega))]
  have hk:=h k (by omega)
  have e : B ((ix (0,0) l k).1 < p + 1)=B ((ix (0,0) l k).1 < p):=B_congr (by omega)
  rw [e]
theorem begTo_step {P : Int} {l : List (Int × Int)} {p : Int} : ∀ {k : Nat},LaidTo P l k→begTo l k (p + 1)≤begTo l k p + 1
 | 0,_=>by unfold begTo; omega
 | k + 1,h=>by
  unfold begTo
  by_cases e : (ix (0,0) l k).1=p
  ·rw [begTo_eq (k:=k) (fun i hi e2=>?_),if_pos (B_yes (by omega)),if_neg (by rw [B_no (by omega)]; simp)]
   ·omega
   ·have h1:=(h k (by omega)).2 i hi p (by have:=(h k (by omega)).1.inP; rwa [e] at this)
    have h2:=(h i (by omega)).1.inP
    rw [e2] at h2
    exact h1 h2
  ·have e1 : B ((ix (0,0) l k).1 < p + 1)=B ((ix (0,0) l k).1 < p):=B_congr (by omega)
   rw [e1]
   have:=begTo_step (p:=p) (k:=k) (fun i hi=>h i (by omega))
   omega
theorem begTo_le {P : Int} {l : List (Int × Int)} {k : Nat} (h : LaidTo P l k) : ∀ q : Nat,begTo l k (q : Int)≤q
 | 0=>by
  have:=begTo_none h
  exact Nat.le_of_eq this
 | q + 1=>by
  have a:=begTo_le h q
  have b:=begTo_step (p:=(q : Int)) h
  have e : ((q + 1 : Nat) : Int)=(q : Int) + 1:=by omega
  rw [e]
  omega
/-- No more pieces than pages. -/
theorem laid_len {P : Int} {l : List (Int × Int)} {k : Nat} (hP : 0≤P) (h : LaidTo P l k) : (k : Int)≤P:=by
 have a:=begTo_all h
 have b:=begTo_le h P.toNat
 have e : ((P.toNat : Nat) : Int)=P:=Int.toNat_of_nonneg hP
 rw [e] at b
 omega
/-- Numbers that rise, each a page: no more of them than pages. -/
def RiseTo (P : Int) (l : List Int) (k : Nat) : Prop:=∀ i,i < k→(0≤ix 0 l i∧ix 0 l i < P)∧(0 < i→ix 0 l (i - 1) < ix 0 l i)
theorem rise_ge {P : Int} {l : List Int} {k : Nat} (h : RiseTo P l k) : ∀ i : Nat,i < k→(i : Int)≤ix 0 l i
 | 0,hi=>(h 0 hi).1.1
 | i + 1,hi=>by
  have a:=rise_ge h i (by omega)
  have b:=(h (i + 1) hi).2 (by omega)
  rw [Nat.add_sub_cancel] at b
  omega
theorem rise_len {P : Int} {l : List Int} {k : Nat} (hP : 0≤P) (h : RiseTo P l k) : (k : Int)≤P:=by
 rcases Nat.eq_zero_or_pos k with rfl | h0
 ·exact hP
 ·have a:=rise_ge h (k - 1) (by omega)
  have b:=(h (k - 1) (by omega)).1.2
  omega
/-- The pieces of a model. -/
def pcs (m : ModelD) : List (Int × Int):=m.free.map (fun x=>(x.at_,x.n)) ++ (m.hands.map (fun x=>(x.at_,x.n)) ++ m.spans.map (fun x=>(x.page,x.pages)))
theorem pcs_length (m : ModelD) : (pcs m).length=m.free.length + (m.hands.length + m.spans.length):=by simp [pcs]
theorem pcs_free {m : ModelD} {i : Nat} (h : i < m.free.length) : ix (0,0) (pcs m) i=((ix noRun m.free i).at_,(ix noRun m.free i).n):=by
 rw [ix_lt (by rw [pcs_length]; omega),ix_lt h]
 simp [pcs,List.getElem_append_left,h]
theorem pcs_hand {m : ModelD} {i : Nat} (h : i < m.hands.length) : ix (0,0) (pcs m) (m.free.length + i)=((ix noHand m.hands i).at_,(ix noHand m.hands i).n):=by
 rw [ix_lt (by rw [pcs_length]; omega),ix_lt h]
 simp [pcs,List.getElem_append_right,List.getElem_append_left,h]
theorem pcs_span {m : ModelD} {i : Nat} (h : i < m.spans.length) : ix (0,0) (pcs m) (m.free.length + (m.hands.length + i))=((ix noHold m.spans i).page,(ix noHold m.spans i).pages):=by
 rw [ix_lt (by rw [pcs_length]; omega),ix_lt h]
 simp [pcs,List.getElem_append_right,h]
def ThreadP (t : Int) : Prop:=0≤t∧t < 64
/-- A model may be; okH: of a span, but for its pages' place. -/
structure MayS (okH : HoldD→Prop) (m : ModelD) : Prop where
 pages : 1≤m.pages∧m.pages≤4096
 laid : LaidTo m.pages (pcs m) (pcs m).length
 cover : CoverTo m.pages (pcs m) (pcs m).length
 free : ∀ i,i < m.free.length→0 < i→(ix noRun m.free (i - 1)).at_ + (ix noRun m.free (i - 1)).n < (ix noRun m.free i).at_
 hand : ∀ i,i < m.hands.length→ThreadP (ix noHand m.hands i).t∧(0 < i→(ix noHand m.hands (i - 1)).at_ < (ix noHand m.hands i).at_)
 span : ∀ i,i < m.spans.length→okH (ix noHold m.spans i)∧(0 < i→(ix noHold m.spans (i - 1)).page < (ix noHold m.spans i).page)
 gone : RiseTo m.pages m.gone m.gone.length
 apart : ∀ i,i < m.gone.length→∀ j,j < m.spans.length→¬ InP ((ix noHold m.spans j).page,(ix noHold m.spans j).pages) (ix 0 m.gone i)
theorem MayS.len {okH : HoldD→Prop} {m : ModelD} (h : MayS okH m) : ((m.free.length + (m.hands.length + m.spans.length) : Nat) : Int)≤m.pages∧(m.gone.length : Int)≤m.pages:=by
 have h0:=h.pages.1
 refine ⟨?_,rise_len (by omega) h.gone⟩
 have:=laid_len (by omega) h.laid
 rwa [pcs_length] at this
end Go.Proofs.YtoolenhnhlfhmaaGreatDoor
namespace Go.Proofs.YtoolenhnhlfhmaaGreatDoor
open Go.RowKit
set_option linter.unusedVariables false
set_option linter.unusedSimpArgs false
set_option maxHeartbeats 400000 in
theorem anybody_any (t : Int) (w : World) : Calls Tryz.prog 55 #[.int .i64 t] w fun e w'=>e=.returned (.bool (B (ThreadP t)))∧w=w':=by
 go_enter Tryz.func55,Tryz.ntmps55
 go_wp2
 all_goals go_ret
 all_goals exact ⟨ret_B (by unfold ThreadP; simp; omega),rfl⟩
/-- Nobody, or a thread. -/
def WhoP (t : Int) : Prop:=t=-1∨ThreadP t
set_option maxHeartbeats 400000 in
theorem who_any (t : Int) (w : World) : Calls Tryz.prog 111 #[.int .i64 t] w fun e w'=>e=.returned (.bool (B (WhoP t)))∧w=w':=by
 go_enter Tryz.func111,Tryz.ntmps111
 go_wp2_with (go_at_call 55; refine (anybody_any _ _).mono ?_; rintro e w1 ⟨rfl,rfl⟩)
 all_goals go_ret
 all_goals exact ⟨ret_B (by unfold WhoP; simp [B_iff, *]),rfl⟩
theorem grownBy_setC (w : World) (b i : Nat) (v : Value) : w.grownBy (w.setCell ⟨b,i,none⟩ v) (some b) :=
 ⟨rfl,rfl,rfl,by simp,fun k _ hne=>Below.heap_setCell w _ v k (fun e=>hne (by rw [e]))⟩
theorem Ext.grownG {W0 w w' : World} {g : Nat} (h : Ext W0 w) (hg : w.grownBy w' (some g)) (hb : W0.heap.size≤g) : Ext W0 w' :=
 Below.grown h hg h.size (fun k hk=>by cases hk; exact hb)
/-- What stands of a piece that may be laid. -/
def LayOk (L : Nat) (C : Nat→Int) (last a n : Int) : Prop:=0≤a∧1≤n∧last < a∧a < L∧n≤L - a∧∀ p : Nat,InP (a,n) p→C p=0
noncomputable def layC (C : Nat→Int) (kind a n : Int) (p : Nat) : Int:=if B (InP (a,n) p) then kind else C p
set_option maxHeartbeats 2000000 in
set_option maxRecDepth 100000 in
theorem lay_any (g L : Nat) (C : Nat→Int) (kind last a n : Int) (base : Nat) (c : Nat) (w : World) (hL : L≤4096) (hk : kind≠0)
  (hO : OwnS w base 3 1 (.slice (some ⟨g,0,none⟩) L c) L (fun j=>.int .i64 (C j))) :
  Calls Tryz.prog 69 #[.slice (some ⟨g,0,none⟩) L c,.int .i64 kind,.int .i64 last,.int .i64 a,.int .i64 n] w fun e w' =>
   ∃ C' : Nat→Int,e=.returned (.bool (B (LayOk L C last a n)))∧OwnS w' base 3 1 (.slice (some ⟨g,0,none⟩) L c) L (fun j=>.int .i64 (C' j))∧(LayOk L C last a n→∀ p,p < L→C' p=layC C kind a n p)∧w.grownBy w' (some g):=by
 by_cases h0 : 0≤a∧1≤n∧last < a∧a < L∧n≤L - a
 ·obtain ⟨q0,q1,q2,q3,q4⟩:=h0
  have e0 : decide (a < 0)=false:=decide_eq_false (by omega)
  have e1 : decide (n < 1)=false:=decide_eq_false (by omega)
  have e2 : decide (a≤last)=false:=decide_eq_false (by omega)
  have e3 : decide ((L : Int)≤a)=false:=decide_eq_false (by omega)
  have e4 : decide ((L : Int) - a < n)=false:=decide_eq_false (by omega)
  obtain ⟨A,rfl⟩ : ∃ A : Nat,a=(A : Int):=⟨a.toNat,by omega⟩
  obtain ⟨N,rfl⟩ : ∃ N : Nat,n=(N : Int):=⟨n.toNat,by omega⟩
  have HO:=Lib.hid (And.intro hO (And.intro q2 (And.intro q3 q4)))
  clear hO
  go_enter Tryz.func69,Tryz.ntmps69
  go_wp2
  go_loopg [11] N (fun q i wr=>∃ j : Nat,j≤N∧q=N - j∧i=.int .i64 ((A : Int) + (j : Int))∧OwnS wr base 3 1 (.slice (some ⟨g,0,none⟩) L c) L (fun p=>.int .i64 (if A≤p∧p < A + j then kind else C p))∧(∀ p,A≤p→p < A + j→C p=0)∧w.grownBy wr (some g))
  case atStart =>
   refine ⟨0,Nat.zero_le _,rfl,by simp,HO.out.1.congr fun p hp=>?_,fun p h1 h2=>absurd h1 (by omega),World.grownBy.refl _ _⟩
   rw [if_neg (by omega)]
  case round =>
   obtain ⟨j,hj,rfl,rfl,hO,hz,hE⟩:=hrel
   by_cases hlt : j < N
   ·have c0:=hO.cellAt (j:=A + j) (by omega)
    have f0:=hO.frozenAt (A + j)
    rw [if_neg (by omega)] at c0
    have r0 : (0 : Int)≤(A : Int) + (j : Int):=by omega
    have r1 : (A : Int) + (j : Int) < (L : Int):=by omega
    have r2 : (A : Int) + (j : Int) < (A : Int) + (N : Int):=by omega
    have r3 : ((A : Int) + (j : Int)).toNat=A + j:=by omega
    have HR:=Lib.hid (And.intro hO (And.intro hz hE))
    clear hO hz hE
    by_cases hc : C (A + j)=0
    ·have HC:=Lib.hid hc
     rw [hc] at c0
     clear hc
     go_wp2
     go_roundg (N - (j + 1))
     case measure=>go_light; omega
     case rel =>
      refine ⟨j + 1,by omega,rfl,by go_num,(HR.out.1.set (A + j) (.int .i64 kind)).congr fun p hp=>?_,fun p h1 h2=>?_,HR.out.2.2.trans (grownBy_setC _ _ _ _)⟩
      ·by_cases e : p=A + j
       ·rw [if_pos e,if_pos (by omega)]
       ·rw [if_neg e]
        congr 2
        apply propext
        omega
      ·by_cases e : p=A + j
       ·rw [e]; exact HC.out
       ·exact HR.out.2.1 p h1 (by omega)
    ·have b0 : (C (A + j) == 0)=false:=by simpa using hc
     have b1 : (C (A + j) != 0)=true:=by simpa using hc
     go_wp2
     go_ret
     refine ⟨_,ret_bool (B_no fun h=>hc (h.2.2.2.2.2 (A + j) ⟨by show (A : Int)≤((A + j : Nat) : Int); omega,by show ((A + j : Nat) : Int) < (A : Int) + (N : Int); omega⟩)).symm,HR.out.1,fun h=>absurd (h.2.2.2.2.2 (A + j) ⟨by show (A : Int)≤((A + j : Nat) : Int); omega,by show ((A + j : Nat) : Int) < (A : Int) + (N : Int); omega⟩) hc,HR.out.2.2⟩
   ·obtain rfl : j=N:=by omega
    have r2 : ¬ (A : Int) + (j : Int) < (A : Int) + (j : Int):=by omega
    have HR:=Lib.hid (And.intro hO (And.intro hz hE))
    clear hO hz hE
    go_wp2
    go_ret
    refine ⟨ret_bool (B_yes ⟨q0,q1,HO.out.2.1,HO.out.2.2.1,HO.out.2.2.2,fun p hp=>HR.out.2.1 p (by have:=hp.1; dsimp only at this; omega) (by have:=hp.2; dsimp only at this; omega)⟩).symm,_,HR.out.1,fun h p hp=>?_,HR.out.2.2⟩
    unfold layC
    by_cases e : InP ((A : Int),(j : Int)) (p : Int)
    ·rw [if_pos (B_yes e),if_pos (by have h1:=e.1; have h2:=e.2; dsimp only at h1 h2; omega)]
    ·have eB : ¬ (B (InP ((A : Int),(j : Int)) (p : Int))=true):=by rw [B_no e]; simp
     have eA : ¬ (A≤p∧p < A + j):=fun h1=>e ⟨by show (A : Int)≤(p : Int); omega,by show (p : Int) < (A : Int) + (j : Int); omega⟩
     rw [if_neg eB,if_neg eA]
 ·have h1 : ¬ LayOk L C last a n:=fun h=>h0 ⟨h.1,h.2.1,h.2.2.1,h.2.2.2.1,h.2.2.2.2.1⟩
  have HO:=Lib.hid (And.intro hO h1)
  clear hO h1
  have hds : decide (a < 0)=true∨(decide (a < 0)=false∧decide (n < 1)=true)∨(decide (a < 0)=false∧decide (n < 1)=false∧decide (a≤last)=true)∨(decide (a < 0)=false∧decide (n < 1)=false∧decide (a≤last)=false∧decide ((L : Int)≤a)=true)∨(decide (a < 0)=false∧decide (n < 1)=false∧decide (a≤last)=false∧decide ((L : Int)≤a)=false∧decide ((L : Int) - a < n)=true∧0≤a∧a < (L : Int)):=by
   simp only [decide_eq_true_eq,decide_eq_false_iff_not]
   omega
  clear h0
  rcases hds with d0 | ⟨d0,d1⟩ | ⟨d0,d1,d2⟩ | ⟨d0,d1,d2,d3⟩ | ⟨d0,d1,d2,d3,d4,d5,d6⟩
  all_goals
   go_enter Tryz.func69,Tryz.ntmps69
   go_wp2
   go_ret
   exact ⟨C,ret_bool (B_no HO.out.2).symm,HO.out.1,fun h=>absurd h HO.out.2,World.grownBy.refl _ _⟩
def clsT : List (Int × Int × Int):=[(128,1,64),(192,1,42),(256,1,32),(384,1,21),(512,1,16),(768,1,10),(1024,1,8),(1536,3,16),(2048,1,4),(3072,3,8),(4096,1,2),(6144,3,4),(8192,2,2),(12288,3,2),(0,0,1)]
def clsB (c : Int) : Int:=if 0≤c then (clsT.getD c.toNat (0,0,0)).1 else 0
def clsP (c : Int) : Int:=if 0≤c then (clsT.getD c.toNat (0,0,0)).2.1 else 0
def clsS (c : Int) : Int:=if 0≤c then (clsT.getD c.toNat (0,0,0)).2.2 else 0
theorem cls_cases {c : Int} (h0 : 0≤c) (h1 : c < 15) : c=0∨c=1∨c=2∨c=3∨c=4∨c=5∨c=6∨c=7∨c=8∨c=9∨c=10∨c=11∨c=12∨c=13∨c=14:=by omega
theorem cls_out {c : Int} (h : c < 0∨15≤c) : clsB c=0∧clsP c=0∧clsS c=0:=by
 unfold clsB clsP clsS
 rcases h with h | h
 ·rw [if_neg (by omega),if_neg (by omega),if_neg (by omega)]; exact ⟨rfl,rfl,rfl⟩
 ·rw [if_pos (by omega),if_pos (by omega),if_pos (by omega)]
  have : clsT.getD c.toNat (0,0,0)=(0,0,0):=by
   rw [List.getD_eq_getElem?_getD,List.getElem?_eq_none (by simp [clsT]; omega)]; rfl
  rw [this]; exact ⟨rfl,rfl,rfl⟩
theorem clsP_bd {c : Int} (h0 : 0≤c) (h1 : c < 14) : 1≤clsP c∧clsP c≤3:=by
 have h:=cls_cases h0 (by omega)
 rcases h with rfl | rfl | rfl | rfl | rfl | rfl | rfl | rfl | rfl | rfl | rfl | rfl | rfl | rfl | rfl <;> first | decide | omega
theorem clsS_bd (c : Int) : 0≤clsS c∧clsS c≤64:=by
 by_cases h : 0≤c∧c < 15
 ·rcases cls_cases h.1 h.2 with rfl | rfl | rfl | rfl | rfl | rfl | rfl | rfl | rfl | rfl | rfl | rfl | rfl | rfl | rfl <;> decide
 ·rw [(cls_out (by omega)).2.2]; omega
theorem clsB_bd (c : Int) : 0≤clsB c∧clsB c≤12288:=by
 by_cases h : 0≤c∧c < 15
 ·rcases cls_cases h.1 h.2 with rfl | rfl | rfl | rfl | rfl | rfl | rfl | rfl | rfl | rfl | rfl | rfl | rfl | rfl | rfl <;> decide
 ·rw [(cls_out (by omega)).1]; omega
theorem row_res : Tryz.f49.results=#[.cell 2 84]:=by kernel_rfl
theorem Tryz.infoArr3 : (Tryz.prog.info? 84).map (fun i=>i.size)=some 3:=by kernel_rfl
theorem row_end {w : World} {a b c : Int} {act : Act} {o : Obj} (hd : act.defers=[]:=by rfl) (h2 : act.tmps[2]?=some (.pointer (some ⟨w.heap.size,0,none⟩)):=by rfl) :
  bodyPost Tryz.prog Tryz.f49 (fun e w'=>e=.returned (.agg #[.int .i64 a,.int .i64 b,.int .i64 c])∧Ext w w') Exit.ret act ((w.alloc (.cells #[.int .i64 a,.int .i64 b,.int .i64 c] 84)).alloc o):=by
 have r0:=((Ext.refl _).alloc o).cell (cell_new w #[.int .i64 a,.int .i64 b,.int .i64 c] 84 0 _ rfl)
 have r1:=((Ext.refl _).alloc o).cell (cell_new w #[.int .i64 a,.int .i64 b,.int .i64 c] 84 1 _ rfl)
 have r2:=((Ext.refl _).alloc o).cell (cell_new w #[.int .i64 a,.int .i64 b,.int .i64 c] 84 2 _ rfl)
 refine bodyPost_ret (v:=.agg #[.int .i64 a,.int .i64 b,.int .i64 c]) ?_ hd ⟨rfl,((Ext.refl _).alloc _).alloc _⟩
 obtain ⟨i,hi,hi3⟩:=Option.map_eq_some_iff.1 Tryz.infoArr3
 simp at r0 r1 r2
 simp [results,row_res,Array.getD_eq_getD_getElem?,h2,isAgg,run_underlying Tryz.underlying84,sizeOf,typeInfo,hi,hi3,loadCellsFrom,Addr.add,r0,r1,r2,go_sem]
theorem row_end2 {w W : World} {a b c : Int} {act : Act} (hB : Blk W w.heap.size 84 #[.int .i64 0,.int .i64 0,.int .i64 0]) (hE : Ext w W) (hd : act.defers=[]:=by rfl) (h2 : act.tmps[2]?=some (.pointer (some ⟨w.heap.size,0,none⟩)):=by rfl) :
  bodyPost Tryz.prog Tryz.f49 (fun e w'=>e=.returned (.agg #[.int .i64 a,.int .i64 b,.int .i64 c])∧Ext w w') Exit.ret act (((W.setCell ⟨w.heap.size,0,none⟩ (.int .i64 a)).setCell ⟨w.heap.size,1,none⟩ (.int .i64 b)).setCell ⟨w.heap.size,2,none⟩ (.int .i64 c)):=by
 have hB':=((hB.set 0 (.int .i64 a)).set 1 (.int .i64 b)).set 2 (.int .i64 c)
 have r0:=hB'.cell (i:=0) (v:=.int .i64 a) rfl
 have r1:=hB'.cell (i:=1) (v:=.int .i64 b) rfl
 have r2:=hB'.cell (i:=2) (v:=.int .i64 c) rfl
 refine bodyPost_ret (v:=.agg #[.int .i64 a,.int .i64 b,.int .i64 c]) ?_ hd ⟨rfl,((hE.setCell (p:=⟨w.heap.size,0,none⟩) (Nat.le_refl _) _).setCell (p:=⟨w.heap.size,1,none⟩) (Nat.le_refl _) _).setCell (p:=⟨w.heap.size,2,none⟩) (Nat.le_refl _) _⟩
 obtain ⟨i,hi,hi3⟩:=Option.map_eq_some_iff.1 Tryz.infoArr3
 simp [results,row_res,Array.getD_eq_getD_getElem?,h2,isAgg,run_underlying Tryz.underlying84,sizeOf,typeInfo,hi,hi3,loadCellsFrom,Addr.add,r0,r1,r2,go_sem]
def clsCells : List Value:=Value.int .i64 128 :: Value.int .i64 1 :: Value.int .i64 64 :: Value.int .i64 192 :: Value.int .i64 1 :: Value.int .i64 42 :: Value.int .i64 256 :: Value.int .i64 1 :: Value.int .i64 32 :: Value.int .i64 384 :: Value.int .i64 1 :: Value.int .i64 21 :: Value.int .i64 512 :: Value.int .i64 1 :: Value.int .i64 16 :: Value.int .i64 768 :: Value.int .i64 1 :: Value.int .i64 10 :: Value.int .i64 1024 :: Value.int .i64 1 :: Value.int .i64 8 :: Value.int .i64 1536 :: Value.int .i64 3 :: Value.int .i64 16 :: Value.int .i64 2048 :: Value.int .i64 1 :: Value.int .i64 4 :: Value.int .i64 3072 :: Value.int .i64 3 :: Value.int .i64 8 :: Value.int .i64 4096 :: Value.int .i64 1 :: Value.int .i64 2 :: Value.int .i64 6144 :: Value.int .i64 3 :: Value.int .i64 4 :: Value.int .i64 8192 :: Value.int .i64 2 :: Value.int .i64 2 :: Value.int .i64 12288 :: Value.int .i64 3 :: Value.int .i64 2 :: Value.int .i64 0 :: Value.int .i64 0 :: Value.int .i64 1 :: []
theorem cls_at (k : Nat) (h : k < 15) : clsCells[k * 3]?=some (.int .i64 (clsB k))∧clsCells[k * 3 + 1]?=some (.int .i64 (clsP k))∧clsCells[k * 3 + 2]?=some (.int .i64 (clsS k)):=by
 have e : k=0∨k=1∨k=2∨k=3∨k=4∨k=5∨k=6∨k=7∨k=8∨k=9∨k=10∨k=11∨k=12∨k=13∨k=14:=by omega
 rcases e with rfl | rfl | rfl | rfl | rfl | rfl | rfl | rfl | rfl | rfl | rfl | rfl | rfl | rfl | rfl <;> exact ⟨rfl,rfl,rfl⟩
set_option maxHeartbeats 4000000 in
set_option maxRecDepth 100000 in
theorem row_any (c : Int) (w : World) : Calls Tryz.prog 49 #[.int .i64 c] w fun e w'=>e=.returned (.agg #[.int .i64 (clsB c),.int .i64 (clsP c),.int .i64 (clsS c)])∧Ext w w':=by
 by_cases h : 0≤c∧c < 15
 ·obtain ⟨k,rfl⟩:=Int.eq_ofNat_of_zero_le h.1
  have h15 : k < 15:=by omega
  clear h
  have HK:=Lib.hid (cls_at k h15)
  go_enter Tryz.func49,Tryz.ntmps49
  have h0 : decide ((k : Int) < 0)=false:=by simp
  have h1 : decide ((15 : Int)≤(k : Int))=false:=by simp; omega
  go_upto_region 4 with (fail)
  have HB:=Lib.hid (Blk.new (w.alloc (.cells #[.int .i64 0,.int .i64 0,.int .i64 0] 84)) 84 clsCells.toArray (w.heap.size + 1) (by simp))
  have hB0:=(Blk.new w 84 #[.int .i64 0,.int .i64 0,.int .i64 0] w.heap.size rfl).alloc (.cells clsCells.toArray 84)
  have hE:=((Ext.refl w).alloc (.cells #[.int .i64 0,.int .i64 0,.int .i64 0] 84)).alloc (.cells clsCells.toArray 84)
  obtain ⟨W,hW⟩ : ∃ W,(w.alloc (.cells #[.int .i64 0,.int .i64 0,.int .i64 0] 84)).alloc (.cells clsCells.toArray 84)=W:=⟨_,rfl⟩
  rw [hW] at HB hB0 hE
  simp only [clsCells] at hW
  rw [hW]
  have c0:=HB.out.cell (i:=k * 3) (by rw [List.getElem?_toArray]; exact HK.out.1)
  have c1:=HB.out.cell (i:=k * 3 + 1) (by rw [List.getElem?_toArray]; exact HK.out.2.1)
  have c2:=HB.out.cell (i:=k * 3 + 2) (by rw [List.getElem?_toArray]; exact HK.out.2.2)
  have d0:=hB0.cell (i:=0) rfl
  have d1:=hB0.cell (i:=1) rfl
  have d2:=hB0.cell (i:=2) rfl
  have f0:=hB0.frozen 0
  have f1:=hB0.frozen 1
  have f2:=hB0.frozen 2
  clear HB hW
  go_wp2
  exact row_end2 hB0 hE
 ·obtain ⟨e1,e2,e3⟩:=cls_out (c:=c) (by omega)
  rw [e1,e2,e3]
  clear e1 e2 e3
  by_cases h0 : c < 0
  ·have d0 : decide (c < 0)=true:=by simpa using h0
   go_enter Tryz.func49,Tryz.ntmps49
   go_wp2
   exact row_end
  ·have d0 : decide (c < 0)=false:=by simpa using h0
   have d1 : decide (15≤c)=true:=by simp; omega
   go_enter Tryz.func49,Tryz.ntmps49
   go_wp2
   exact row_end
theorem ix3_0 (a b c : Int) : ∀ w,(Instr.index 84 (.agg #[.int .i64 a,.int .i64 b,.int .i64 c]) (.int .i64 0)).run Tryz.prog w=.ok (.int .i64 a) w:=fun _=>by kernel_rfl
theorem ix3_2 (a b c : Int) : ∀ w,(Instr.index 84 (.agg #[.int .i64 a,.int .i64 b,.int .i64 c]) (.int .i64 2)).run Tryz.prog w=.ok (.int .i64 c) w:=fun _=>by kernel_rfl
set_option maxHeartbeats 400000 in
theorem slots1_any (c : Int) (w : World) : Calls Tryz.prog 25 #[.int .i64 c] w fun e w'=>e=.returned (.int .i64 (clsS c))∧Ext w w':=by
 have h3:=ix3_2 (clsB c) (clsP c) (clsS c)
 go_enter Tryz.func25,Tryz.ntmps25
 go_wp2_with (go_at_call 49; refine (row_any _ _).mono ?_; rintro e w' ⟨rfl,hE⟩)
 go_ret
 exact ⟨rfl,hE⟩
set_option maxHeartbeats 400000 in
theorem size1_any (c : Int) (w : World) : Calls Tryz.prog 82 #[.int .i64 c] w fun e w'=>e=.returned (.int .i64 (clsB c))∧Ext w w':=by
 have h3:=ix3_0 (clsB c) (clsP c) (clsS c)
 go_enter Tryz.func82,Tryz.ntmps82
 go_wp2_with (go_at_call 49; refine (row_any _ _).mono ?_; rintro e w' ⟨rfl,hE⟩)
 go_ret
 exact ⟨rfl,hE⟩
/-- 5.1: where a slot begins. -/
def BegP (p c i : Int) : Prop:=0≤p∧p < 4096∧0≤c∧c≤14∧0≤i∧i < clsS c
noncomputable def begC (p c i : Int) : Int:=if B (BegP p c i) then p * 8192 + i * clsB c else 0
theorem mul_bd' {a b A B : Int} (h1 : 0≤a) (h2 : a≤A) (h3 : 0≤b) (h4 : b≤B) : 0≤a * b∧a * b≤A * B :=
 ⟨Int.mul_nonneg h1 h3,Int.mul_le_mul h2 h4 h3 (Int.le_trans h1 h2)⟩
theorem BegP.bd {p c i : Int} (h : BegP p c i) : 0≤i * clsB c∧i * clsB c≤64 * 12288:=by
 obtain ⟨h1,h2,h3,h4,h5,h6⟩:=h
 have:=clsS_bd c
 have hb:=clsB_bd c
 exact mul_bd' h5 (by omega) hb.1 hb.2
set_option maxHeartbeats 1000000 in
theorem begin1_any (p c i : Int) (w : World) : Calls Tryz.prog 48 #[.int .i64 p,.int .i64 c,.int .i64 i] w fun e w' =>
  e=.returned (.tuple #[.int .i64 (begC p c i),.bool (B (BegP p c i))])∧Ext w w':=by
 by_cases h : 0≤p∧p < 4096∧0≤c∧c≤14∧0≤i
 ·obtain ⟨h1,h2,h3,h4,h5⟩:=h
  have hS:=clsS_bd c
  by_cases h6 : i < clsS c
  ·have hB : BegP p c i:=⟨h1,h2,h3,h4,h5,h6⟩
   have e : begC p c i=p * 8192 + i * clsB c:=if_pos (B_yes hB)
   have HE:=Lib.hid (And.intro e (B_yes hB))
   obtain ⟨b1,b2⟩:=hB.bd
   have d6 : decide (clsS c≤i)=false:=by simp; omega
   clear e hB
   go_enter Tryz.func48,Tryz.ntmps48
   go_wp2_with (first | (go_at_call 25; refine (slots1_any _ _).mono ?_; rintro e w1 ⟨rfl,hE1⟩) | (go_at_call 82; refine (size1_any _ _).mono ?_; rintro e w2 ⟨rfl,hE2⟩))
   go_ret2
   exact ⟨by rw [HE.out.1,HE.out.2]; rfl,hE1.trans hE2⟩
  ·have HN:=Lib.hid (show B (BegP p c i)=false from B_no (fun hh=>h6 hh.2.2.2.2.2))
   have e : begC p c i=0:=if_neg (by rw [HN.out]; simp)
   have HE:=Lib.hid e
   have d6 : decide (clsS c≤i)=true:=by simp; omega
   clear e
   go_enter Tryz.func48,Tryz.ntmps48
   go_wp2_with (first | (go_at_call 25; refine (slots1_any _ _).mono ?_; rintro e w1 ⟨rfl,hE1⟩))
   go_ret2
   exact ⟨by rw [HE.out,HN.out]; rfl,hE1⟩
 ·have HN:=Lib.hid (show B (BegP p c i)=false from B_no (fun hh=>h ⟨hh.1,hh.2.1,hh.2.2.1,hh.2.2.2.1,hh.2.2.2.2.1⟩))
  have e : begC p c i=0:=if_neg (by rw [HN.out]; simp)
  have HE:=Lib.hid e
  clear e
  have hc : p < 0∨(0≤p∧4096≤p)∨(0≤p∧p < 4096∧c < 0)∨(0≤p∧p < 4096∧0≤c∧14 < c)∨(0≤p∧p < 4096∧0≤c∧c≤14∧i < 0):=by omega
  clear h
  rcases hc with hc | ⟨g1,hc⟩ | ⟨g1,g2,hc⟩ | ⟨g1,g2,g3,hc⟩ | ⟨g1,g2,g3,g4,hc⟩
  all_goals
   go_enter Tryz.func48,Tryz.ntmps48
   go_wp2_with fail
   go_ret2
   exact ⟨by rw [HE.out,HN.out]; rfl,Ext.refl _⟩
/-- The table of classes. -/
def Tab (w : World) : Prop:=∀ c : Nat,c < 14→w.cell? ⟨0,c * 2,none⟩=some (.int .i64 (clsB c))∧w.cell? ⟨0,c * 2 + 1,none⟩=some (.int .i64 (clsP c))
theorem Tab.ext {w w' : World} (h : Tab w) (hE : Ext w w') : Tab w':=fun c hc=>⟨hE.cell (h c hc).1,hE.cell (h c hc).2⟩
theorem cls_quo {c : Int} (h0 : 0≤c) (h1 : c < 14) : 1≤clsB c∧clsP c * 8192 / clsB c=clsS c:=by
 have h:=cls_cases h0 (by omega)
 rcases h with rfl | rfl | rfl | rfl | rfl | rfl | rfl | rfl | rfl | rfl | rfl | rfl | rfl | rfl | rfl <;> first | decide | omega
theorem clsP_bd2 {c : Int} (h0 : 0≤c) (h1 : c < 14) : 1≤clsP c∧clsP c≤3:=clsP_bd h0 h1
def SmallP (c : Int) : Prop:=0≤c∧c < 14
def sizC (c : Int) : Int:=if 0≤c∧c < 14 then clsB c else 0
set_option maxHeartbeats 400000 in
theorem small_any (c : Int) (w : World) : Calls Tryz.prog 118 #[.int .i64 c] w fun e w'=>e=.returned (.bool (B (SmallP c)))∧w=w':=by
 go_enter Tryz.func118,Tryz.ntmps118
 go_wp2
 all_goals go_ret
 all_goals exact ⟨ret_B (by unfold SmallP; (try simp) <;> omega),rfl⟩
set_option maxHeartbeats 1000000 in
theorem size_c_any (c : Int) (w : World) (hT : Tab w) : Calls Tryz.prog 81 #[.int .i64 c] w fun e w'=>e=.returned (.int .i64 (sizC c))∧w=w':=by
 by_cases h : 0≤c∧c < 14
 ·have hB:=B_yes (show SmallP c from h)
  have HI:=Lib.hid (show sizC c=clsB c from if_pos h)
  obtain ⟨h0,h1⟩:=h
  obtain ⟨k,rfl⟩:=Int.eq_ofNat_of_zero_le h0
  have hc:=(hT k (by omega)).1
  go_enter Tryz.func81,Tryz.ntmps81
  go_wp2_with (go_at_call 118; refine (small_any _ _).mono ?_; rintro e w' ⟨rfl,rfl⟩)
  go_ret
  exact ⟨by rw [HI.out]; rfl,rfl⟩
 ·have hB:=B_no (show ¬ SmallP c from h)
  have HI:=Lib.hid (show sizC c=0 from if_neg h)
  clear h
  go_enter Tryz.func81,Tryz.ntmps81
  go_wp2_with (go_at_call 118; refine (small_any _ _).mono ?_; rintro e w' ⟨rfl,rfl⟩)
  go_ret
  exact ⟨by rw [HI.out]; rfl,rfl⟩
set_option maxHeartbeats 1000000 in
theorem slots_c_any (c : Int) (w : World) (hT : Tab w) : Calls Tryz.prog 80 #[.int .i64 c] w fun e w'=>e=.returned (.int .i64 (clsS c))∧Ext w w':=by
 by_cases h14 : c=14
 ·subst h14
  go_enter Tryz.func80,Tryz.ntmps80
  go_wp2
  go_ret
  exact ⟨rfl,Ext.refl _⟩
 have e14 : (c == 14)=false:=by simpa using h14
 by_cases h : 0≤c∧c < 14
 ·have hB:=B_yes (show SmallP c from h)
  obtain ⟨h0,h1⟩:=h
  have hq:=cls_quo h0 h1
  have hp:=clsP_bd2 h0 h1
  obtain ⟨k,rfl⟩:=Int.eq_ofNat_of_zero_le h0
  have hc0:=(hT k (by omega)).1
  have hc1:=(hT k (by omega)).2
  have HQ:=Lib.hid hq.2
  have hq1:=hq.1
  clear hq h14
  have W1 : IntKind.i64.wrap (clsP k * 8192)=clsP k * 8192:=IntWalk.i64_in _ (by omega)
  have g0 : (0 : Int)≤(k : Int):=by omega
  have n0 : ¬ clsB k=0:=by omega
  have n1 : (clsB k == 0)=false:=by simp; omega
  have n2 : 0≤clsP k * 8192:=by omega
  go_enter Tryz.func80,Tryz.ntmps80
  go_wp2_with (go_at_call 118; refine (small_any _ _).mono ?_; rintro e w' ⟨rfl,rfl⟩)
  go_quiet (fail)
  go_wp2
  go_ret
  exact ⟨by rw [← HQ.out]; rfl,(Ext.refl _).drewN _⟩
 ·have hB:=B_no (show ¬ SmallP c from h)
  have e:=(cls_out (c:=c) (by omega)).2.2
  have HE:=Lib.hid e
  clear h e h14
  go_enter Tryz.func80,Tryz.ntmps80
  go_wp2_with (go_at_call 118; refine (small_any _ _).mono ?_; rintro e w' ⟨rfl,rfl⟩)
  go_ret
  exact ⟨by rw [HE.out]; rfl,Ext.refl _⟩
def ThereP (p c : Int) : Prop:=0≤p∧p < 4096∧0≤c∧c≤14
set_option maxHeartbeats 400000 in
theorem there_any (p c : Int) (w : World) : Calls Tryz.prog 79 #[.int .i64 p,.int .i64 c] w fun e w'=>e=.returned (.bool (B (ThereP p c)))∧w=w':=by
 go_enter Tryz.func79,Tryz.ntmps79
 go_wp2
 all_goals go_ret
 all_goals exact ⟨ret_B (by unfold ThereP; (try simp) <;> omega),rfl⟩
theorem sizC_14 {c : Int} (h0 : 0≤c) (h1 : c≤14) : sizC c=clsB c:=by
 unfold sizC
 by_cases h : c < 14
 ·rw [if_pos ⟨h0,h⟩]
 ·obtain rfl : c=14:=by omega
  rw [if_neg (by omega)]; rfl
set_option maxHeartbeats 1000000 in
theorem begin_s_any (p c i : Int) (w : World) (hT : Tab w) : Calls Tryz.prog 46 #[.int .i64 p,.int .i64 c,.int .i64 i] w fun e w' =>
  e=.returned (.tuple #[.int .i64 (begC p c i),.bool (B (BegP p c i))])∧Ext w w':=by
 have HT:=Lib.hid hT
 clear hT
 by_cases h : ThereP p c
 ·have hB1:=B_yes h
  obtain ⟨h1,h2,h3,h4⟩:=h
  have hS:=clsS_bd c
  have hz:=sizC_14 h3 h4
  by_cases h5 : i < 0
  ·have HN:=Lib.hid (show B (BegP p c i)=false from B_no (fun hh=>by have:=hh.2.2.2.2.1; omega))
   have e : begC p c i=0:=if_neg (by rw [HN.out]; simp)
   have HE:=Lib.hid e
   have d5 : decide (i < 0)=true:=by simpa using h5
   clear e hz
   go_enter Tryz.func46,Tryz.ntmps46
   go_wp2_with (first | (go_at_call 79; refine (there_any _ _ _).mono ?_; rintro e w1 ⟨rfl,rfl⟩))
   go_ret2
   exact ⟨by rw [HE.out,HN.out]; rfl,Ext.refl _⟩
  have d5 : decide (i < 0)=false:=by simpa using h5
  by_cases h6 : i < clsS c
  ·have hB : BegP p c i:=⟨h1,h2,h3,h4,by omega,h6⟩
   have e : begC p c i=p * 8192 + i * clsB c:=if_pos (B_yes hB)
   have HE:=Lib.hid (And.intro e (B_yes hB))
   obtain ⟨b1,b2⟩:=hB.bd
   have d6 : decide (clsS c≤i)=false:=by simp; omega
   have HZ:=Lib.hid hz
   clear e hB hz
   go_enter Tryz.func46,Tryz.ntmps46
   go_wp2_with (first | (go_at_call 79; refine (there_any _ _ _).mono ?_; rintro e w1 ⟨rfl,rfl⟩) | (go_at_call 80; refine (slots_c_any _ _ HT.out).mono ?_; rintro e w1 ⟨rfl,hE1⟩) | (go_at_call 81; refine (size_c_any _ _ (HT.out.ext hE1)).mono ?_; rintro e w2 ⟨rfl,rfl⟩; rw [HZ.out]))
   go_ret2
   exact ⟨by rw [HE.out.1,HE.out.2]; rfl,hE1⟩
  ·have HN:=Lib.hid (show B (BegP p c i)=false from B_no (fun hh=>h6 hh.2.2.2.2.2))
   have e : begC p c i=0:=if_neg (by rw [HN.out]; simp)
   have HE:=Lib.hid e
   have d6 : decide (clsS c≤i)=true:=by simp; omega
   clear e hz
   go_enter Tryz.func46,Tryz.ntmps46
   go_wp2_with (first | (go_at_call 79; refine (there_any _ _ _).mono ?_; rintro e w1 ⟨rfl,rfl⟩) | (go_at_call 80; refine (slots_c_any _ _ HT.out).mono ?_; rintro e w1 ⟨rfl,hE1⟩))
   go_ret2
   exact ⟨by rw [HE.out,HN.out]; rfl,hE1⟩
 ·have hB1:=B_no h
  have HN:=Lib.hid (show B (BegP p c i)=false from B_no (fun hh=>h ⟨hh.1,hh.2.1,hh.2.2.1,hh.2.2.2.1⟩))
  have e : begC p c i=0:=if_neg (by rw [HN.out]; simp)
  have HE:=Lib.hid e
  clear e h
  go_enter Tryz.func46,Tryz.ntmps46
  go_wp2_with (first | (go_at_call 79; refine (there_any _ _ _).mono ?_; rintro e w1 ⟨rfl,rfl⟩))
  go_ret2
  exact ⟨by rw [HE.out,HN.out]; rfl,Ext.refl _⟩
end Go.Proofs.YtoolenhnhlfhmaaGreatDoor
namespace Go.Proofs.YtoolenhnhlfhmaaGreatDoor
open Go.RowKit Go.Sort
set_option linter.unusedVariables false
set_option linter.unusedSimpArgs false
theorem ones_valM (n : Nat) (hn : n≤64) : IntKind.u64.wrap (IntKind.u64.wrap ((2 : Int) ^ n) - 1)=((2 ^ n - 1 : Nat) : Int):=by
 have h1 : 2 ^ n≤2 ^ 64:=Nat.pow_le_pow_right (by decide) hn
 have h2 : 0 < 2 ^ n:=Nat.two_pow_pos n
 have e : ((2 : Int) ^ n)=((2 ^ n : Nat) : Int):=by simp
 rw [e,IntKind.wrap_u64,IntKind.wrap_u64]
 generalize 2 ^ n=q at h1 h2
 omega
set_option maxHeartbeats 1000000 in
theorem onesM_any (n : Nat) (w : World) (hn : n≤64) : Calls Tryz.prog 136 #[.int .i64 n] w fun e w'=>e=.returned (.int .u64 ((2 ^ n - 1 : Nat) : Int))∧w=w':=by
 go_enter Tryz.func136,Tryz.ntmps136
 go_wp2
 go_ret
 exact ⟨congrArg (fun v=>Ending.returned (Value.int .u64 v)) (ones_valM n hn),rfl⟩
/-- How many slots, as a natural number. -/
def slN (c : Int) : Nat:=(clsS c).toNat
theorem clsS_bdM (c : Int) : 0≤clsS c∧clsS c≤64:=by
 by_cases h : 0≤c∧c < 15
 ·rcases cls_cases h.1 h.2 with rfl | rfl | rfl | rfl | rfl | rfl | rfl | rfl | rfl | rfl | rfl | rfl | rfl | rfl | rfl <;> decide
 ·have:=(cls_out (c:=c) (by omega)).2.2
  omega
theorem slN_eq (c : Int) : clsS c=(slN c : Int):=(Int.toNat_of_nonneg (clsS_bdM c).1).symm
theorem slN_le (c : Int) : slN c≤64:=by have:=(clsS_bdM c).2; unfold slN; omega
set_option maxHeartbeats 1000000 in
theorem allM_any (c : Int) (w : World) (hT : Tab w) : Calls Tryz.prog 112 #[.int .i64 c] w fun e w'=>e=.returned (.int .u64 ((2 ^ slN c - 1 : Nat) : Int))∧Ext w w':=by
 go_enter Tryz.func112,Tryz.ntmps112
 go_wp2_with (first
  |(go_at_call 80; refine (slots_c_any c _ hT).mono ?_; rintro e w1 ⟨rfl,hE1⟩; rw [slN_eq c])
  |(go_at_call 136; refine (onesM_any (slN c) _ (slN_le c)).mono ?_; rintro e w2 ⟨rfl,rfl⟩))
 go_ret
 exact ⟨rfl,hE1⟩
def pagC (c : Int) : Int:=if 0≤c∧c < 14 then clsP c else 0
set_option maxHeartbeats 1000000 in
theorem pages_c_any (c : Int) (w : World) (hT : Tab w) : Calls Tryz.prog 92 #[.int .i64 c] w fun e w'=>e=.returned (.int .i64 (pagC c))∧w=w':=by
 by_cases h : 0≤c∧c < 14
 ·have hB:=B_yes (show SmallP c from h)
  have HI:=Lib.hid (show pagC c=clsP c from if_pos h)
  obtain ⟨h0,h1⟩:=h
  obtain ⟨k,rfl⟩:=Int.eq_ofNat_of_zero_le h0
  have hc:=(hT k (by omega)).2
  go_enter Tryz.func92,Tryz.ntmps92
  go_wp2_with (go_at_call 118; refine (small_any _ _).mono ?_; rintro e w' ⟨rfl,rfl⟩)
  go_ret
  exact ⟨by rw [HI.out]; rfl,rfl⟩
 ·have hB:=B_no (show ¬ SmallP c from h)
  have HI:=Lib.hid (show pagC c=0 from if_neg h)
  clear h
  go_enter Tryz.func92,Tryz.ntmps92
  go_wp2_with (go_at_call 118; refine (small_any _ _).mono ?_; rintro e w' ⟨rfl,rfl⟩)
  go_ret
  exact ⟨by rw [HI.out]; rfl,rfl⟩
def holdV (h : HoldD) : Value:=.agg #[.int .i64 h.page,.int .i64 h.pages,.int .i64 h.cls,.int .i64 h.holder,.int .i64 h.claim,.bool h.swept,.int .u64 (h.alloc : Int),.int .u64 (h.marks : Int)]
/-- A span may be, but for its pages' place. -/
def HoldOk (h : HoldD) : Prop:=(0≤h.cls∧h.cls≤14∧WhoP h.holder∧WhoP h.claim)∧(h.cls≠14→h.pages=pagC h.cls)∧(h.alloc≤2 ^ slN h.cls - 1∧bits .andNot .u64 (h.marks : Int) (h.alloc : Int)=0)
set_option maxHeartbeats 2000000 in
set_option maxRecDepth 100000 in
theorem spanM_any (h : HoldD) (w : World) (hT : Tab w) : Calls Tryz.prog 70 #[holdV h] w fun e w'=>e=.returned (.bool (B (HoldOk h)))∧Ext w w':=by
 obtain ⟨pg,n,c,ho,cl,sw,al,mk⟩:=h
 unfold holdV
 dsimp only
 by_cases h1 : 0≤c∧c≤14∧WhoP ho∧WhoP cl
 ·obtain ⟨q0,q1,q2,q3⟩:=h1
  have d0 : decide (c < 0)=false:=decide_eq_false (by omega)
  have d1 : decide (14 < c)=false:=decide_eq_false (by omega)
  have d2:=B_yes q2
  have d3:=B_yes q3
  have HQ:=Lib.hid (And.intro q0 (And.intro q1 (And.intro q2 q3)))
  clear q2 q3
  have hT1 : Tab (w.alloc (.cells #[.int .i64 pg,.int .i64 n,.int .i64 c,.int .i64 ho,.int .i64 cl,.bool sw,.int .u64 (al : Int),.int .u64 (mk : Int)] 51)):=hT.ext ((Ext.refl _).alloc _)
  have b0 : Blk (w.alloc (.cells #[.int .i64 pg,.int .i64 n,.int .i64 c,.int .i64 ho,.int .i64 cl,.bool sw,.int .u64 (al : Int),.int .u64 (mk : Int)] 51)) w.heap.size 51 #[.int .i64 pg,.int .i64 n,.int .i64 c,.int .i64 ho,.int .i64 cl,.bool sw,.int .u64 (al : Int),.int .u64 (mk : Int)]:=Blk.new _ _ _ _ rfl
  have hE0 : Ext w (w.alloc (.cells #[.int .i64 pg,.int .i64 n,.int .i64 c,.int .i64 ho,.int .i64 cl,.bool sw,.int .u64 (al : Int),.int .u64 (mk : Int)] 51)):=(Ext.refl _).alloc _
  have hcs : ((c == 14)=true∧(c != 14)=false)∨((c == 14)=false∧(c != 14)=true∧(n == pagC c)=true∧(n != pagC c)=false)∨((c == 14)=false∧(c != 14)=true∧(n == pagC c)=false∧(n != pagC c)=true):=by
   by_cases k0 : c=14
   ·exact .inl ⟨by simpa using k0,by simpa using k0⟩
   ·by_cases k1 : n=pagC c
    ·exact .inr (.inl ⟨by simpa using k0,by simpa using k0,by simpa using k1,by simpa using k1⟩)
    ·exact .inr (.inr ⟨by simpa using k0,by simpa using k0,by simpa using k1,by simpa using k1⟩)
  go_enter Tryz.func70,Tryz.ntmps70
  go_wp2_with (go_at_call 111; refine (who_any _ _).mono ?_; rintro e w1 ⟨rfl,rfl⟩)
  generalize hW : w.alloc (.cells #[.int .i64 pg,.int .i64 n,.int .i64 c,.int .i64 ho,.int .i64 cl,.bool sw,.int .u64 (al : Int),.int .u64 (mk : Int)] 51)=W at hT1 b0 hE0 ⊢
  have x1:=fun d os=>cell_regrown (b0.cell (i:=1) (v:=.int .i64 n) rfl) d os
  have x2:=fun d os=>cell_regrown (b0.cell (i:=2) (v:=.int .i64 c) rfl) d os
  have HT:=Lib.hid (And.intro hT1 (And.intro b0 hE0))
  clear hT1 b0 hE0 hW hT
  rcases hcs with ⟨e0,e1⟩ | ⟨e0,e1,e2,e3⟩ | ⟨e0,e1,e2,e3⟩
  all_goals
   refine wp_region_quiet_below (by kernel_rfl) (by kernel_rfl) ?_
   repeat (go_big_quiet_step ((go_at_call 92; exact Calls.regrown_of ((pages_c_any c _ (HT.out.1.ext (below_regrown _ _ _))).mono fun _ _ ⟨h1,h2⟩=>⟨h1,h2▸Ext.refl _⟩))))
   refine wpQuiet_nil ?_
   intro _ hw'
   obtain ⟨⟨dq,osq⟩,hw''⟩:=hw'
   subst hw''
   go_wp2
  rotate_left 2
  ·go_ret
   have hno : ¬ HoldOk ⟨pg,n,c,ho,cl,sw,al,mk⟩:=fun hh=>by
    have h3:=hh.2.1
    dsimp only at h3
    simp only [beq_eq_false_iff_ne,ne_eq] at e0 e2
    exact e2 (h3 e0)
   exact ⟨ret_bool (B_no hno).symm,HT.out.2.2.trans (below_regrown W dq osq)⟩
  all_goals
   have hE2 : Ext W (grow (redrawn W dq) osq):=below_regrown _ _ _
   have hpg : c≠14→n=pagC c:=by
    intro h14
    first
    |(simp only [beq_iff_eq] at e2; exact e2)
    |(simp only [beq_iff_eq] at e0; exact absurd e0 h14)
   generalize grow (redrawn W dq) osq=W2 at hE2 ⊢
   have b2:=HT.out.2.1.ext hE2
   have y2:=fun d os=>cell_regrown (b2.cell (i:=2) (v:=.int .i64 c) rfl) d os
   have y6:=fun d os=>cell_regrown (b2.cell (i:=6) (v:=.int .u64 (al : Int)) rfl) d os
   have y7:=fun d os=>cell_regrown (b2.cell (i:=7) (v:=.int .u64 (mk : Int)) rfl) d os
   have HT2:=Lib.hid (And.intro (HT.out.1.ext hE2) (And.intro (HT.out.2.2.trans hE2) hpg))
   clear b2 x1 x2 hE2 hpg
   by_cases k1 : (al : Int)≤((2 ^ slN c - 1 : Nat) : Int)
   ·have f1 : decide ((al : Int)≤((2 ^ slN c - 1 : Nat) : Int))=true:=decide_eq_true k1
    refine wp_region_quiet_below (by kernel_rfl) (by kernel_rfl) ?_
    repeat (go_big_quiet_step ((go_at_call 112; exact Calls.regrown_of (allM_any c _ (HT2.out.1.ext (below_regrown _ _ _))))))
    refine wpQuiet_nil ?_
    intro _ hw'
    obtain ⟨⟨dq,osq⟩,hw''⟩:=hw'
    subst hw''
    go_wp2
    go_ret
    refine ⟨ret_B ?_,HT2.out.2.1.trans (below_regrown _ _ _)⟩
    unfold HoldOk
    dsimp only
    simp only [beq_iff_eq]
    exact ⟨fun h=>⟨⟨q0,q1,HQ.out.2.2.1,HQ.out.2.2.2⟩,HT2.out.2.2,by omega,h⟩,fun h=>h.2.2.2⟩
   ·have f1 : decide ((al : Int)≤((2 ^ slN c - 1 : Nat) : Int))=false:=decide_eq_false k1
    refine wp_region_quiet_below (by kernel_rfl) (by kernel_rfl) ?_
    repeat (go_big_quiet_step ((go_at_call 112; exact Calls.regrown_of (allM_any c _ (HT2.out.1.ext (below_regrown _ _ _))))))
    refine wpQuiet_nil ?_
    intro _ hw'
    obtain ⟨⟨dq,osq⟩,hw''⟩:=hw'
    subst hw''
    go_wp2
    go_ret
    exact ⟨ret_bool (B_no fun h=>by have:=h.2.2.1; dsimp only at this; omega).symm,HT2.out.2.1.trans (below_regrown _ _ _)⟩
 ·have hno : ¬ HoldOk ⟨pg,n,c,ho,cl,sw,al,mk⟩:=fun hh=>h1 hh.1
  have HN:=Lib.hid hno
  have hds : decide (c < 0)=true∨(decide (c < 0)=false∧decide (14 < c)=true)∨(decide (c < 0)=false∧decide (14 < c)=false∧B (WhoP ho)=false)∨(decide (c < 0)=false∧decide (14 < c)=false∧B (WhoP ho)=true∧B (WhoP cl)=false):=by
   simp only [decide_eq_true_eq,decide_eq_false_iff_not,B_iff,B_false]
   by_cases k0 : c < 0
   ·exact .inl k0
   ·by_cases k1 : 14 < c
    ·exact .inr (.inl ⟨k0,k1⟩)
    ·by_cases k2 : WhoP ho
     ·exact .inr (.inr (.inr ⟨k0,k1,k2,fun k3=>h1 ⟨by omega,by omega,k2,k3⟩⟩))
     ·exact .inr (.inr (.inl ⟨k0,k1,k2⟩))
  clear h1 hno
  rcases hds with d0 | ⟨d0,d1⟩ | ⟨d0,d1,d2⟩ | ⟨d0,d1,d2,d3⟩
  all_goals
   go_enter Tryz.func70,Tryz.ntmps70
   go_wp2_with (go_at_call 111; refine (who_any _ _).mono ?_; rintro e w1 ⟨rfl,rfl⟩)
   go_ret
   exact ⟨ret_bool (B_no HN.out).symm,(Ext.refl _).alloc _⟩
end Go.Proofs.YtoolenhnhlfhmaaGreatDoor
