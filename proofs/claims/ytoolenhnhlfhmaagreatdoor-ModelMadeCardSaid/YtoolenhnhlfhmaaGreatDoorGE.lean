/- Walks: how many pieces each page is of (the document's). Walks: whether a page is free, or in a hand (the document's). The model's cover, plainly. No program is named here but by the layer's words. Walks: slices.Index and slices.Contains, of numbers. -/
import Derived.Test.YtoolenhnhlfhmaaGreatDoorGD
namespace Go.Proofs.YtoolenhnhlfhmaaGreatDoor
open Go.RowKit Go.Sort
set_option linter.unusedVariables false
set_option linter.unusedSimpArgs false
def runV (l : List RunD) (j : Nat) : Value:=if j % 2=0 then .int .i64 (ix noRun l (j / 2)).at_ else .int .i64 (ix noRun l (j / 2)).n
def handV (l : List HandD) (j : Nat) : Value:=if j % 3=0 then .int .i64 (ix noHand l (j / 3)).t else if j % 3=1 then .int .i64 (ix noHand l (j / 3)).at_ else .int .i64 (ix noHand l (j / 3)).n
def holdC (h : HoldD) (k : Nat) : Value:=if k=0 then .int .i64 h.page else if k=1 then .int .i64 h.pages else if k=2 then .int .i64 h.cls else if k=3 then .int .i64 h.holder else if k=4 then .int .i64 h.claim else if k=5 then .bool h.swept else if k=6 then .int .u64 (h.alloc : Int) else .int .u64 (h.marks : Int)
def holdsV (l : List HoldD) (j : Nat) : Value:=holdC (ix noHold l (j / 8)) (j % 8)
def RunsR (w : World) (A : Option Addr) (l : List RunD) : Prop:=SlR w A l.length 2 (runV l)
def HandsR (w : World) (A : Option Addr) (l : List HandD) : Prop:=SlR w A l.length 3 (handV l)
def HoldsR (w : World) (A : Option Addr) (l : List HoldD) : Prop:=SlR w A l.length 8 (holdsV l)
def GonesR (w : World) (A : Option Addr) (l : List Int) : Prop:=SlR w A l.length 1 (fun j=>.int .i64 (ix 0 l j))
theorem runV0 (l : List RunD) (i : Nat) : runV l (i * 2)=.int .i64 (ix noRun l i).at_:=by simp [runV]
theorem runV1 (l : List RunD) (i : Nat) : runV l (i * 2 + 1)=.int .i64 (ix noRun l i).n:=by
 simp [runV,show (i * 2 + 1) % 2=1 by omega,show (i * 2 + 1) / 2=i by omega]
theorem handV0 (l : List HandD) (i : Nat) : handV l (i * 3)=.int .i64 (ix noHand l i).t:=by simp [handV]
theorem handV1 (l : List HandD) (i : Nat) : handV l (i * 3 + 1)=.int .i64 (ix noHand l i).at_:=by
 simp [handV,show (i * 3 + 1) % 3=1 by omega,show (i * 3 + 1) / 3=i by omega]
theorem handV2 (l : List HandD) (i : Nat) : handV l (i * 3 + 2)=.int .i64 (ix noHand l i).n:=by
 simp [handV,show (i * 3 + 2) % 3=2 by omega,show (i * 3 + 2) / 3=i by omega]
theorem holdsV_at (l : List HoldD) (i k : Nat) (hk : k < 8) : holdsV l (i * 8 + k)=holdC (ix noHold l i) k:=by
 unfold holdsV
 rw [show (i * 8 + k) / 8=i by omega,show (i * 8 + k) % 8=k by omega]
theorem pcs_span2 {m : ModelD} {i : Nat} (h : i < m.spans.length) : ix (0,0) (pcs m) (m.free.length + m.hands.length + i)=((ix noHold m.spans i).page,(ix noHold m.spans i).pages):=by
 rw [Nat.add_assoc]; exact pcs_span h
/-- A model that is read: its five parts. -/
structure ModelR (w : World) (m : ModelD) (F H S G : Option Addr) : Prop where
 free : RunsR w F m.free
 hands : HandsR w H m.hands
 spans : HoldsR w S m.spans
 gone : GonesR w G m.gone
theorem ModelR.ext {w w' : World} {m : ModelD} {F H S G : Option Addr} (h : ModelR w m F H S G) (hE : Ext w w') : ModelR w' m F H S G:=⟨SlR.ext h.free hE,SlR.ext h.hands hE,SlR.ext h.spans hE,SlR.ext h.gone hE⟩
def modelV (m : ModelD) (F H S G : Option Addr) (fc hc sc gc : Nat) : Value:=.agg #[.int .i64 m.pages,.slice F m.free.length fc,.slice H m.hands.length hc,.slice S m.spans.length sc,.slice G m.gone.length gc]
theorem Tryz.infoIntE : (Tryz.prog.info? 3).map (fun i=>(i.zero,i.size,i.bytes))=some (some (.int .i64 0),1,8):=by kernel_rfl
/-- What a count of pieces has come to, behind k of them. -/
def CntTo (P : Nat) (l : List (Int × Int)) (k : Nat) (ok : Bool) (C : Nat→Int) : Prop :=
 (ok=true↔∀ i,i < k→FitP P (ix (0,0) l i))∧(∀ p,0≤C p∧C p≤k)∧(ok=true→∀ p : Nat,p < P→C p=cntTo l k p)
theorem CntTo.nil (P : Nat) (l : List (Int × Int)) : CntTo P l 0 true (fun _=>0):=⟨⟨fun _ i hi=>absurd hi (by omega),fun _=>rfl⟩,fun p=>⟨Int.le_refl _,Int.le_refl _⟩,fun _ p _=>rfl⟩
theorem CntTo.step {P : Nat} {l : List (Int × Int)} {k : Nat} {ok : Bool} {C : Nat→Int} (h : CntTo P l k ok C) {a n : Int} (hx : ix (0,0) l k=(a,n)) : CntTo P l (k + 1) (B (FitP P (a,n)) && ok) (cntC P C a n):=by
 refine ⟨?_,fun p=>?_,fun hok p hp=>?_⟩
 ·rw [Bool.and_eq_true,B_iff,h.1]
  constructor
  ·rintro ⟨h1,h2⟩ i hi
   by_cases e : i=k
   ·rw [e,hx]; exact h1
   ·exact h2 i (by omega)
  ·intro h1
   exact ⟨by have:=h1 k (by omega); rwa [hx] at this,fun i hi=>h1 i (by omega)⟩
 ·have:=h.2.1 p
  unfold cntC
  split <;> omega
 ·rw [Bool.and_eq_true,B_iff] at hok
  have h2:=h.2.2 hok.2 p hp
  unfold cntC cntTo
  rw [hx,h2]
  by_cases e : InP (a,n) (p : Int)
  ·rw [if_pos (B_yes ⟨hok.1,e⟩),if_pos (B_yes e)]
   omega
  ·have eB : ¬ (B (FitP P (a,n)∧InP (a,n) (p : Int))=true):=by rw [B_iff]; exact fun hh=>e hh.2
   have eC : ¬ (B (InP (a,n) (p : Int))=true):=by rw [B_no e]; simp
   rw [if_neg eB,if_neg eC]
   omega
theorem own_made (w : World) (T : Nat) (hT : T≤maxLen) (e : TypeId) (z : Value) (g : Nat) (hg : w.heap.size=g) : OwnS (w.alloc (.cells (madeCells #[z] T) e)) g e 1 (.slice (some ⟨g,0,none⟩) T T) T (fun _=>z):=by
 subst hg
 refine ⟨by simp,.inr ⟨w.heap.size,T,_,rfl,Nat.le_refl _,Deep.blk_alloc_new w _,Nat.le_refl _,hT,?_,?_⟩⟩
 ·rw [size_madeCells]; simp
 ·rw [toList_madeCells_one,Nat.mul_one,List.take_of_length_le (by simp)]; apply List.ext_getElem? ; intro k; by_cases hk : k < T <;> simp [hk]
set_option maxHeartbeats 4000000 in
set_option maxRecDepth 100000 in
theorem pieces_any (m : ModelD) (P : Nat) (F H S G : Option Addr) (fc hc sc gc : Nat) (w : World) (hP : m.pages=(P : Int)) (h1 : 1≤P) (h2 : P≤4096) (hlen : m.free.length + (m.hands.length + m.spans.length)≤P) (hm : ModelR w m F H S G) :
  Calls Tryz.prog 39 #[modelV m F H S G fc hc sc gc] w fun e w' =>
   (∃ g C ok,e=.returned (.tuple #[.slice (some ⟨g,0,none⟩) P P,.bool ok])∧OwnS w' w.heap.size 3 1 (.slice (some ⟨g,0,none⟩) P P) P (fun j=>.int .i64 (C j))∧CntTo P (pcs m) (pcs m).length ok C)∧Ext w w':=by
 unfold modelV
 rw [hP]
 have HM:=Lib.hid hm
 have hmk:=run_make_row' (P:=Tryz.prog) 28 3 (.int .i64 0) 8 Tryz.underlying28 Tryz.infoIntE rfl .i64 .i64 P (by omega) (by omega)
 have b0 : Blk (w.alloc (.cells #[.int .i64 (P : Int),.slice F m.free.length fc,.slice H m.hands.length hc,.slice S m.spans.length sc,.slice G m.gone.length gc] 30)) w.heap.size 30 #[.int .i64 (P : Int),.slice F m.free.length fc,.slice H m.hands.length hc,.slice S m.spans.length sc,.slice G m.gone.length gc]:=Blk.new _ _ _ _ rfl
 clear hm
 obtain ⟨Wb,hWb⟩ : ∃ Wb,w.alloc (.cells #[.int .i64 (P : Int),.slice F m.free.length fc,.slice H m.hands.length hc,.slice S m.spans.length sc,.slice G m.gone.length gc] 30)=Wb:=⟨_,rfl⟩
 have hEb : Ext w Wb:=hWb▸(Ext.refl _).alloc _
 have hsz : Wb.heap.size=w.heap.size + 1:=by rw [← hWb]; simp
 have hO0:=own_made Wb P (by unfold maxLen; omega) 3 (.int .i64 0) (w.heap.size + 1) hsz
 have hEm : Ext Wb (Wb.alloc (.cells (madeCells #[.int .i64 0] P) 3)):=(Ext.refl _).alloc _
 rw [hWb] at b0
 have HB:=Lib.hid (And.intro b0 (And.intro hEb (And.intro hO0 (And.intro hEm (And.intro HM.out hsz)))))
 have HWb:=Lib.hid hWb
 clear b0 hEb hO0 hEm hsz hWb
 go_enter Tryz.func39,Tryz.ntmps39
 go_wp2
 rw [HWb.out]
 go_loopg [5,6] m.free.length (fun q okv i wr=>∃ k ok C,k≤m.free.length∧q=m.free.length - k∧okv=.bool ok∧i=.int .i64 (k : Int)∧Ext Wb wr∧OwnS wr (w.heap.size + 1) 3 1 (.slice (some ⟨w.heap.size + 1,0,none⟩) P P) P (fun j=>.int .i64 (C j))∧CntTo P (pcs m) (k) ok C)
 case atStart=>exact ⟨0,true,fun _=>0,Nat.zero_le _,rfl,rfl,rfl,HB.out.2.2.2.1,HB.out.2.2.1,CntTo.nil _ _⟩
 case round =>
  obtain ⟨k,ok,C,hk,rfl,rfl,rfl,hE,hO,hC⟩:=hrel
  have bx:=HB.out.1.ext hE
  have cx:=bx.cell (i:=1) (v:=.slice F m.free.length fc) rfl
  by_cases hlt : k < m.free.length
  ·obtain ⟨b,off,rfl,hcl⟩:=HB.out.2.2.2.2.1.free (by omega)
   have a0:=(HB.out.2.1.trans hE).cell (hcl (k * 2 + 0) (by omega))
   have a1:=(HB.out.2.1.trans hE).cell (hcl (k * 2 + 1) (by omega))
   rw [Nat.add_zero,runV0] at a0
   rw [runV1,← Nat.add_assoc] at a1
   have hpc:=pcs_free hlt
   generalize ix noRun m.free k=r at a0 a1 hpc
   have q0 : (0 : Int)≤(k : Int):=by omega
   have q1 : (k : Int) < (m.free.length : Int):=by omega
   have HR:=Lib.hid (And.intro hE (And.intro hO (And.intro hC hpc)))
   clear hE hO hC hpc bx hcl
   have hfb : B (FitP P (r.at_,r.n))=true∨B (FitP P (r.at_,r.n))=false:=by cases B (FitP P (r.at_,r.n)) <;> simp
   rcases hfb with hf | hf
   all_goals
    go_wp2
    go_still_tail 13,(by kernel_rfl)
    change wpList _ _ _ _ _ wr.drew
    go_wp2_with (go_at_call 72; refine (count_any (w.heap.size + 1) P C (r.at_) (r.n) (w.heap.size + 1) P _ h2 ?g1 (HR.out.2.1.ext ((Ext.refl _).drew))).mono ?_; (case g1=>exact fun p=>⟨(HR.out.2.2.1.2.1 p).1,by have:=(HR.out.2.2.1.2.1 p).2; omega⟩); rintro e w3 ⟨rfl,hO3,hE3⟩)
    have HR3:=Lib.hid (And.intro hO3 (hE3 Wb (HR.out.1.drew) (by have:=HB.out.2.2.2.2.2; omega)))
    clear hO3 hE3
    go_roundg (m.free.length - (k + 1))
    case measure=>go_light; omega
    case rel=>exact ⟨k + 1,_,_,by omega,rfl,by rw [hf]; rfl,by go_num,HR3.out.2,HR3.out.1,HR.out.2.2.1.step HR.out.2.2.2⟩
  ·obtain rfl : k=m.free.length:=by omega
   have HX1:=Lib.hid (And.intro hE (And.intro hO hC))
   clear hE hO hC bx
   go_wp2
   go_loopg [5,7] m.hands.length (fun q okv i wr=>∃ k ok C,k≤m.hands.length∧q=m.hands.length - k∧okv=.bool ok∧i=.int .i64 (k : Int)∧Ext Wb wr∧OwnS wr (w.heap.size + 1) 3 1 (.slice (some ⟨w.heap.size + 1,0,none⟩) P P) P (fun j=>.int .i64 (C j))∧CntTo P (pcs m) (m.free.length + k) ok C)
   case atStart=>exact ⟨0,ok,C,Nat.zero_le _,rfl,rfl,rfl,HX1.out.1,HX1.out.2.1,HX1.out.2.2⟩
   case round =>
    obtain ⟨k,ok,C,hk,rfl,rfl,rfl,hE,hO,hC⟩:=hrel
    have bx:=HB.out.1.ext hE
    have cx:=bx.cell (i:=2) (v:=.slice H m.hands.length hc) rfl
    by_cases hlt : k < m.hands.length
    ·obtain ⟨b,off,rfl,hcl⟩:=HB.out.2.2.2.2.1.hands (by omega)
     have a0:=(HB.out.2.1.trans hE).cell (hcl (k * 3 + 1) (by omega))
     have a1:=(HB.out.2.1.trans hE).cell (hcl (k * 3 + 2) (by omega))
     rw [handV1,← Nat.add_assoc] at a0
     rw [handV2,← Nat.add_assoc] at a1
     have hpc:=pcs_hand hlt
     generalize ix noHand m.hands k=r at a0 a1 hpc
     have q0 : (0 : Int)≤(k : Int):=by omega
     have q1 : (k : Int) < (m.hands.length : Int):=by omega
     have HR:=Lib.hid (And.intro hE (And.intro hO (And.intro hC hpc)))
     clear hE hO hC hpc bx hcl
     have hfb : B (FitP P (r.at_,r.n))=true∨B (FitP P (r.at_,r.n))=false:=by cases B (FitP P (r.at_,r.n)) <;> simp
     rcases hfb with hf | hf
     all_goals
      go_wp2
      go_still_tail 13,(by kernel_rfl)
      change wpList _ _ _ _ _ wr.drew
      go_wp2_with (go_at_call 72; refine (count_any (w.heap.size + 1) P C (r.at_) (r.n) (w.heap.size + 1) P _ h2 ?g1 (HR.out.2.1.ext ((Ext.refl _).drew))).mono ?_; (case g1=>exact fun p=>⟨(HR.out.2.2.1.2.1 p).1,by have:=(HR.out.2.2.1.2.1 p).2; omega⟩); rintro e w3 ⟨rfl,hO3,hE3⟩)
      have HR3:=Lib.hid (And.intro hO3 (hE3 Wb (HR.out.1.drew) (by have:=HB.out.2.2.2.2.2; omega)))
      clear hO3 hE3
      go_roundg (m.hands.length - (k + 1))
      case measure=>go_light; omega
      case rel=>exact ⟨k + 1,_,_,by omega,rfl,by rw [hf]; rfl,by go_num,HR3.out.2,HR3.out.1,HR.out.2.2.1.step HR.out.2.2.2⟩
    ·obtain rfl : k=m.hands.length:=by omega
     have HX2:=Lib.hid (And.intro hE (And.intro hO hC))
     clear hE hO hC bx
     go_wp2
     go_loopg [5,8] m.spans.length (fun q okv i wr=>∃ k ok C,k≤m.spans.length∧q=m.spans.length - k∧okv=.bool ok∧i=.int .i64 (k : Int)∧Ext Wb wr∧OwnS wr (w.heap.size + 1) 3 1 (.slice (some ⟨w.heap.size + 1,0,none⟩) P P) P (fun j=>.int .i64 (C j))∧CntTo P (pcs m) (m.free.length + m.hands.length + k) ok C)
     case atStart=>exact ⟨0,ok,C,Nat.zero_le _,rfl,rfl,rfl,HX2.out.1,HX2.out.2.1,HX2.out.2.2⟩
     case round =>
      obtain ⟨k,ok,C,hk,rfl,rfl,rfl,hE,hO,hC⟩:=hrel
      have bx:=HB.out.1.ext hE
      have cx:=bx.cell (i:=3) (v:=.slice S m.spans.length sc) rfl
      by_cases hlt : k < m.spans.length
      ·obtain ⟨b,off,rfl,hcl⟩:=HB.out.2.2.2.2.1.spans (by omega)
       have a0:=(HB.out.2.1.trans hE).cell (hcl (k * 8 + 0) (by omega))
       have a1:=(HB.out.2.1.trans hE).cell (hcl (k * 8 + 1) (by omega))
       rw [holdsV_at _ _ 0 (by omega),Nat.add_zero] at a0
       rw [holdsV_at _ _ 1 (by omega),← Nat.add_assoc] at a1
       have hpc:=pcs_span2 hlt
       generalize ix noHold m.spans k=r at a0 a1 hpc
       rw [show holdC r 0=.int .i64 r.page from rfl] at a0
       rw [show holdC r 1=.int .i64 r.pages from rfl] at a1
       have q0 : (0 : Int)≤(k : Int):=by omega
       have q1 : (k : Int) < (m.spans.length : Int):=by omega
       have HR:=Lib.hid (And.intro hE (And.intro hO (And.intro hC hpc)))
       clear hE hO hC hpc bx hcl
       have hfb : B (FitP P (r.page,r.pages))=true∨B (FitP P (r.page,r.pages))=false:=by cases B (FitP P (r.page,r.pages)) <;> simp
       rcases hfb with hf | hf
       all_goals
        go_wp2
        go_still_tail 13,(by kernel_rfl)
        change wpList _ _ _ _ _ wr.drew
        go_wp2_with (go_at_call 72; refine (count_any (w.heap.size + 1) P C (r.page) (r.pages) (w.heap.size + 1) P _ h2 ?g1 (HR.out.2.1.ext ((Ext.refl _).drew))).mono ?_; (case g1=>exact fun p=>⟨(HR.out.2.2.1.2.1 p).1,by have:=(HR.out.2.2.1.2.1 p).2; omega⟩); rintro e w3 ⟨rfl,hO3,hE3⟩)
        have HR3:=Lib.hid (And.intro hO3 (hE3 Wb (HR.out.1.drew) (by have:=HB.out.2.2.2.2.2; omega)))
        clear hO3 hE3
        go_roundg (m.spans.length - (k + 1))
        case measure=>go_light; omega
        case rel=>exact ⟨k + 1,_,_,by omega,rfl,by rw [hf]; rfl,by go_num,HR3.out.2,HR3.out.1,HR.out.2.2.1.step HR.out.2.2.2⟩
      ·obtain rfl : k=m.spans.length:=by omega
       clear bx
       have HX3:=Lib.hid (And.intro hE (And.intro hO hC))
       clear hE hO hC
       go_wp2
       go_ret2
       exact ⟨⟨w.heap.size + 1,C,ok,rfl,HX3.out.2.1.mono (Nat.le_succ _),by rw [pcs_length,← Nat.add_assoc]; exact HX3.out.2.2⟩,HB.out.2.1.trans HX3.out.1⟩
/-- A page is in a free run. -/
def InFree (m : ModelD) (p : Int) : Prop:=∃ i,i < m.free.length∧InP ((ix noRun m.free i).at_,(ix noRun m.free i).n) p
set_option maxHeartbeats 4000000 in
set_option maxRecDepth 100000 in
theorem free28_any (m : ModelD) (F H S G : Option Addr) (fc hc sc gc : Nat) (p : Int) (w : World) (hm : ModelR w m F H S G) (hfit : ∀ i,i < m.free.length→FitP 4096 ((ix noRun m.free i).at_,(ix noRun m.free i).n)) (hp : p≤9223372036854775807) (hlen : m.free.length≤4096) :
  Calls Tryz.prog 41 #[modelV m F H S G fc hc sc gc,.int .i64 p] w fun e w'=>e=.returned (.bool (B (InFree m p)))∧Ext w w':=by
 unfold modelV
 obtain ⟨Wb,hWb⟩ : ∃ Wb,w.alloc (.cells #[.int .i64 m.pages,.slice F m.free.length fc,.slice H m.hands.length hc,.slice S m.spans.length sc,.slice G m.gone.length gc] 30)=Wb:=⟨_,rfl⟩
 have hEb : Ext w Wb:=hWb▸(Ext.refl _).alloc _
 have b0 : Blk Wb w.heap.size 30 #[.int .i64 m.pages,.slice F m.free.length fc,.slice H m.hands.length hc,.slice S m.spans.length sc,.slice G m.gone.length gc]:=hWb▸Blk.new _ _ _ _ rfl
 have HB:=Lib.hid (And.intro b0 (And.intro hEb (And.intro hm hfit)))
 have HWb:=Lib.hid hWb
 clear b0 hEb hm hWb hfit
 go_enter Tryz.func41,Tryz.ntmps41
 go_wp2
 rw [HWb.out]
 go_loopg [5] m.free.length (fun q i wr=>∃ k,k≤m.free.length∧q=m.free.length - k∧i=.int .i64 (k : Int)∧Ext Wb wr∧∀ j,j < k→¬ InP ((ix noRun m.free j).at_,(ix noRun m.free j).n) p)
 case atStart=>exact ⟨0,Nat.zero_le _,rfl,rfl,Ext.refl _,fun j hj=>absurd hj (by omega)⟩
 case round =>
  obtain ⟨k,hk,rfl,rfl,hE,hno⟩:=hrel
  have bx:=HB.out.1.ext hE
  have cx:=bx.cell (i:=1) (v:=.slice F m.free.length fc) rfl
  have HN:=Lib.hid (And.intro hE hno)
  clear hno
  by_cases hlt : k < m.free.length
  ·obtain ⟨b,off,rfl,hcl⟩:=HB.out.2.2.1.free (by omega)
   have a0:=(HB.out.2.1.trans hE).cell (hcl (k * 2 + 0) (by omega))
   have a1:=(HB.out.2.1.trans hE).cell (hcl (k * 2 + 1) (by omega))
   rw [Nat.add_zero,runV0] at a0
   rw [runV1,← Nat.add_assoc] at a1
   have hft:=HB.out.2.2.2 k hlt
   obtain ⟨r,hr⟩ : ∃ r,ix noRun m.free k=r:=⟨_,rfl⟩
   rw [hr] at a0 a1 hft
   have HR:=Lib.hid hr
   obtain ⟨f0,f1,f2,f3⟩:=hft
   dsimp only at f0 f1 f2 f3
   have q0 : (0 : Int)≤(k : Int):=by omega
   have q1 : (k : Int) < (m.free.length : Int):=by omega
   clear hr hE bx hcl
   have hcs : decide (r.at_≤p)=false∨(decide (r.at_≤p)=true∧r.at_≤p∧decide (p - r.at_ < r.n)=true)∨(decide (r.at_≤p)=true∧r.at_≤p∧decide (p - r.at_ < r.n)=false):=by
    simp only [decide_eq_true_eq,decide_eq_false_iff_not]
    omega
   rcases hcs with g0 | ⟨g0,g2,g1⟩ | ⟨g0,g2,g1⟩
   ·go_wp2
    go_quiet (fail)
    go_wp2
    go_roundg (m.free.length - (k + 1))
    case measure=>go_light; omega
    case rel =>
     refine ⟨k + 1,by omega,rfl,by go_num,HN.out.1.drewN _,fun j hj=>?_⟩
     by_cases e : j=k
     ·rw [e,HR.out]
      intro hh
      have:=hh.1
      simp only [decide_eq_false_iff_not] at g0
      exact g0 this
     ·exact HN.out.2 j (by omega)
   ·go_wp2
    go_quiet (fail)
    go_wp2
    go_ret
    refine ⟨ret_bool (B_yes ⟨k,hlt,?_⟩).symm,HB.out.2.1.trans (HN.out.1.drewN _)⟩
    rw [HR.out]
    simp only [decide_eq_true_eq] at g1
    exact ⟨g2,by show p < r.at_ + r.n; omega⟩
   ·go_wp2
    go_quiet (fail)
    go_wp2
    go_roundg (m.free.length - (k + 1))
    case measure=>go_light; omega
    case rel =>
     refine ⟨k + 1,by omega,rfl,by go_num,HN.out.1.drewN _,fun j hj=>?_⟩
     by_cases e : j=k
     ·rw [e,HR.out]
      intro hh
      have h2:=hh.2
      dsimp only at h2
      simp only [decide_eq_false_iff_not] at g1
      omega
     ·exact HN.out.2 j (by omega)
  ·obtain rfl : k=m.free.length:=by omega
   clear bx
   go_wp2
   go_ret
   exact ⟨ret_bool (B_no fun ⟨j,hj,hh⟩=>HN.out.2 j hj hh).symm,HB.out.2.1.trans hE⟩
/-- A page is in a thread's hand (of less than 0: of any). -/
def InHandP (m : ModelD) (p t : Int) : Prop:=∃ i,i < m.hands.length∧InP ((ix noHand m.hands i).at_,(ix noHand m.hands i).n) p∧(t < 0∨(ix noHand m.hands i).t=t)
set_option maxHeartbeats 4000000 in
set_option maxRecDepth 100000 in
theorem inHand28_any (m : ModelD) (F H S G : Option Addr) (fc hc sc gc : Nat) (p t : Int) (w : World) (hm : ModelR w m F H S G) (hfit : ∀ i,i < m.hands.length→FitP 4096 ((ix noHand m.hands i).at_,(ix noHand m.hands i).n)) (hp : p≤9223372036854775807) (hlen : m.hands.length≤4096) :
  Calls Tryz.prog 42 #[modelV m F H S G fc hc sc gc,.int .i64 p,.int .i64 t] w fun e w'=>e=.returned (.bool (B (InHandP m p t)))∧Ext w w':=by
 unfold modelV
 obtain ⟨Wb,hWb⟩ : ∃ Wb,w.alloc (.cells #[.int .i64 m.pages,.slice F m.free.length fc,.slice H m.hands.length hc,.slice S m.spans.length sc,.slice G m.gone.length gc] 30)=Wb:=⟨_,rfl⟩
 have hEb : Ext w Wb:=hWb▸(Ext.refl _).alloc _
 have b0 : Blk Wb w.heap.size 30 #[.int .i64 m.pages,.slice F m.free.length fc,.slice H m.hands.length hc,.slice S m.spans.length sc,.slice G m.gone.length gc]:=hWb▸Blk.new _ _ _ _ rfl
 have HB:=Lib.hid (And.intro b0 (And.intro hEb (And.intro hm hfit)))
 have HWb:=Lib.hid hWb
 clear b0 hEb hm hWb hfit
 go_enter Tryz.func42,Tryz.ntmps42
 go_wp2
 rw [HWb.out]
 go_loopg [7] m.hands.length (fun q i wr=>∃ k,k≤m.hands.length∧q=m.hands.length - k∧i=.int .i64 (k : Int)∧Ext Wb wr∧∀ j,j < k→¬ (InP ((ix noHand m.hands j).at_,(ix noHand m.hands j).n) p∧(t < 0∨(ix noHand m.hands j).t=t)))
 case atStart=>exact ⟨0,Nat.zero_le _,rfl,rfl,Ext.refl _,fun j hj=>absurd hj (by omega)⟩
 case round =>
  obtain ⟨k,hk,rfl,rfl,hE,hno⟩:=hrel
  have bx:=HB.out.1.ext hE
  have cx:=bx.cell (i:=2) (v:=.slice H m.hands.length hc) rfl
  have HN:=Lib.hid (And.intro hE hno)
  clear hno
  by_cases hlt : k < m.hands.length
  ·obtain ⟨b,off,rfl,hcl⟩:=HB.out.2.2.1.hands (by omega)
   have a0:=(HB.out.2.1.trans hE).cell (hcl (k * 3 + 0) (by omega))
   have a1:=(HB.out.2.1.trans hE).cell (hcl (k * 3 + 1) (by omega))
   have a2:=(HB.out.2.1.trans hE).cell (hcl (k * 3 + 2) (by omega))
   rw [Nat.add_zero,handV0] at a0
   rw [handV1,← Nat.add_assoc] at a1
   rw [handV2,← Nat.add_assoc] at a2
   have hft:=HB.out.2.2.2 k hlt
   obtain ⟨r,hr⟩ : ∃ r,ix noHand m.hands k=r:=⟨_,rfl⟩
   rw [hr] at a0 a1 a2 hft
   have HR:=Lib.hid hr
   obtain ⟨f0,f1,f2,f3⟩:=hft
   dsimp only at f0 f1 f2 f3
   have q0 : (0 : Int)≤(k : Int):=by omega
   have q1 : (k : Int) < (m.hands.length : Int):=by omega
   clear hr hE bx hcl
   have hcs : (decide (r.at_≤p)=false)∨(decide (r.at_≤p)=true∧r.at_≤p∧decide (p - r.at_ < r.n)=false)∨(decide (r.at_≤p)=true∧r.at_≤p∧decide (p - r.at_ < r.n)=true∧decide (t < 0)=true)∨(decide (r.at_≤p)=true∧r.at_≤p∧decide (p - r.at_ < r.n)=true∧decide (t < 0)=false∧(r.t == t)=true)∨(decide (r.at_≤p)=true∧r.at_≤p∧decide (p - r.at_ < r.n)=true∧decide (t < 0)=false∧(r.t == t)=false):=by
    simp only [decide_eq_true_eq,decide_eq_false_iff_not,beq_iff_eq,beq_eq_false_iff_ne,ne_eq]
    omega
   rcases hcs with g0 | ⟨g0,g2,g1⟩ | ⟨g0,g2,g1,g3⟩ | ⟨g0,g2,g1,g3,g4⟩ | ⟨g0,g2,g1,g3,g4⟩
   all_goals
    go_wp2
    first
    |(go_roundg (m.hands.length - (k + 1))
      case measure=>go_light; omega
      case rel =>
       refine ⟨k + 1,by omega,rfl,by go_num,HN.out.1.alloc _,fun j hj=>?_⟩
       by_cases e : j=k
       ·rw [e,HR.out]
        rintro ⟨⟨h1,h2⟩,h3⟩
        dsimp only at h1 h2
        simp only [decide_eq_true_eq,decide_eq_false_iff_not,beq_iff_eq,beq_eq_false_iff_ne,ne_eq] at *
        omega
       ·exact HN.out.2 j (by omega))
    |(go_ret
      refine ⟨ret_bool (B_yes ⟨k,hlt,?_⟩).symm,HB.out.2.1.trans (HN.out.1.alloc _)⟩
      rw [HR.out]
      simp only [decide_eq_true_eq,decide_eq_false_iff_not,beq_iff_eq,beq_eq_false_iff_ne,ne_eq] at *
      exact ⟨⟨g2,by show p < r.at_ + r.n; omega⟩,by omega⟩)
  ·obtain rfl : k=m.hands.length:=by omega
   clear bx
   go_wp2
   go_ret
   exact ⟨ret_bool (B_no fun ⟨j,hj,hh⟩=>HN.out.2 j hj hh).symm,HB.out.2.1.trans hE⟩
end Go.Proofs.YtoolenhnhlfhmaaGreatDoor
namespace Go.Proofs.YtoolenhnhlfhmaaGreatDoor
open Go.RowKit
set_option linter.unusedVariables false
set_option linter.unusedSimpArgs false
/-- The first k pieces lie in the cover. -/
structure CovK (m : ModelD) (k : Nat) (C : Nat→Int) : Prop where
 laid : LaidTo m.pages (pcs m) k
 zero : ∀ p : Nat,(p : Int) < m.pages→(C p=0↔∀ i,i < k→¬ InP (ix (0,0) (pcs m) i) p)
 three : ∀ p : Nat,(p : Int) < m.pages→(C p=3↔∃ i,i < k∧m.free.length + m.hands.length≤i∧InP (ix (0,0) (pcs m) i) p)
theorem CovK.nil (m : ModelD) : CovK m 0 (fun _=>0):=⟨fun i hi=>absurd hi (by omega),fun p _=>⟨fun _ i hi=>absurd hi (by omega),fun _=>rfl⟩,fun p _=>⟨fun h=>absurd h (by omega),fun ⟨i,hi,_⟩=>absurd hi (by omega)⟩⟩
theorem CovK.step {m : ModelD} {k : Nat} {C C' : Nat→Int} (h : CovK m k C) {L : Nat} {a n kind last : Int} (hP : m.pages=(L : Int)) (hx : ix (0,0) (pcs m) k=(a,n)) (hok : LayOk L C last a n)
  (hC' : ∀ p,p < L→C' p=layC C kind a n p) (hk0 : kind≠0) (hk3 : kind=3↔m.free.length + m.hands.length≤k) : CovK m (k + 1) C':=by
 obtain ⟨o1,o2,o3,o4,o5,o6⟩:=hok
 have hfit : FitP m.pages (ix (0,0) (pcs m) k):=by rw [hx,hP]; exact ⟨o1,o2,o4,o5⟩
 refine ⟨fun i hi=>?_,fun p hp=>?_,fun p hp=>?_⟩
 ·by_cases e : i=k
  ·subst e
   refine ⟨hfit,fun j hj p hp hq=>?_⟩
   obtain ⟨p0,p1⟩:=hfit.lt hp
   obtain ⟨q,rfl⟩ : ∃ q : Nat,p=(q : Int):=⟨p.toNat,by omega⟩
   have hz:=o6 q (by rw [← hx]; exact hp)
   exact (h.zero q p1).1 hz j hj hq
  ·exact h.laid i (by omega)
 ·rw [hC' p (by omega)]
  unfold layC
  by_cases e : InP (a,n) (p : Int)
  ·rw [if_pos (B_yes e)]
   exact ⟨fun hh=>absurd hh hk0,fun hh=>absurd (hx▸e) (hh k (by omega))⟩
  ·rw [if_neg (by rw [B_no e]; simp),h.zero p hp]
   constructor
   ·intro hh i hi
    by_cases e2 : i=k
    ·rw [e2,hx]; exact e
    ·exact hh i (by omega)
   ·exact fun hh i hi=>hh i (by omega)
 ·rw [hC' p (by omega)]
  unfold layC
  by_cases e : InP (a,n) (p : Int)
  ·rw [if_pos (B_yes e)]
   constructor
   ·exact fun hh=>⟨k,by omega,hk3.1 hh,hx▸e⟩
   ·rintro ⟨i,hi,hi2,hi3⟩
    by_cases e2 : i=k
    ·subst e2; exact hk3.2 hi2
    ·have hz:=(h.zero p hp).1 (o6 p e) i (by omega)
     exact absurd hi3 hz
  ·rw [if_neg (by rw [B_no e]; simp),h.three p hp]
   constructor
   ·rintro ⟨i,hi,hh⟩
    exact ⟨i,by omega,hh⟩
   ·rintro ⟨i,hi,hi2,hi3⟩
    refine ⟨i,?_,hi2,hi3⟩
    by_cases e2 : i=k
    ·subst e2; rw [hx] at hi3; exact absurd hi3 e
    ·omega
theorem CovK.ok {m : ModelD} {k : Nat} {C : Nat→Int} (h : CovK m k C) {L : Nat} {a n last : Int} (hP : m.pages=(L : Int)) (hx : ix (0,0) (pcs m) k=(a,n)) (hl : LaidTo m.pages (pcs m) (k + 1)) (hlast : last < a) : LayOk L C last a n:=by
 obtain ⟨⟨f1,f2,f3,f4⟩,hd⟩:=hl k (by omega)
 rw [hx,hP] at f3 f4
 rw [hx] at f1 f2 hd
 refine ⟨f1,f2,hlast,f3,f4,fun p hp=>?_⟩
 have hlt : (p : Int) < m.pages:=by
  have:=hp.2
  dsimp only at this f4
  rw [hP]
  omega
 exact (h.zero p hlt).2 fun i hi hq=>hd i hi p hp hq
/-- What covered tells. -/
structure CovOk (okH : HoldD→Prop) (m : ModelD) : Prop where
 laid : LaidTo m.pages (pcs m) (pcs m).length
 cover : CoverTo m.pages (pcs m) (pcs m).length
 free : ∀ i,i < m.free.length→0 < i→(ix noRun m.free (i - 1)).at_ + (ix noRun m.free (i - 1)).n < (ix noRun m.free i).at_
 hand : ∀ i,i < m.hands.length→ThreadP (ix noHand m.hands i).t∧(0 < i→(ix noHand m.hands (i - 1)).at_ < (ix noHand m.hands i).at_)
 span : ∀ i,i < m.spans.length→okH (ix noHold m.spans i)∧(0 < i→(ix noHold m.spans (i - 1)).page < (ix noHold m.spans i).page)
theorem LaidTo.le {P : Int} {l : List (Int × Int)} {k k' : Nat} (h : LaidTo P l k) (hk : k'≤k) : LaidTo P l k':=fun i hi=>h i (by omega)
/-- The first k of the free runs, the hands, the spans. -/
def FreeTo (m : ModelD) (k : Nat) : Prop:=∀ i,i < k→0 < i→(ix noRun m.free (i - 1)).at_ + (ix noRun m.free (i - 1)).n < (ix noRun m.free i).at_
def HandTo (m : ModelD) (k : Nat) : Prop:=∀ i,i < k→ThreadP (ix noHand m.hands i).t∧(0 < i→(ix noHand m.hands (i - 1)).at_ < (ix noHand m.hands i).at_)
def SpanTo (okH : HoldD→Prop) (m : ModelD) (k : Nat) : Prop:=∀ i,i < k→okH (ix noHold m.spans i)∧(0 < i→(ix noHold m.spans (i - 1)).page < (ix noHold m.spans i).page)
/-- Where the piece ahead begins. -/
def lastR (m : ModelD) (k : Nat) : Int:=if k=0 then -1 else (ix noRun m.free (k - 1)).at_
def lastH (m : ModelD) (k : Nat) : Int:=if k=0 then -1 else (ix noHand m.hands (k - 1)).at_
def lastS (m : ModelD) (k : Nat) : Int:=if k=0 then -1 else (ix noHold m.spans (k - 1)).page
theorem lastR_s (m : ModelD) (k : Nat) : lastR m (k + 1)=(ix noRun m.free k).at_:=by simp [lastR]
theorem lastH_s (m : ModelD) (k : Nat) : lastH m (k + 1)=(ix noHand m.hands k).at_:=by simp [lastH]
theorem lastS_s (m : ModelD) (k : Nat) : lastS m (k + 1)=(ix noHold m.spans k).page:=by simp [lastS]
/-- A free run that follows one: neither ahead of it, nor at its end. -/
theorem CovK.free_step {m : ModelD} {k : Nat} {C : Nat→Int} (h : CovK m k C) (hf : FreeTo m k) (hlt : k < m.free.length) {L : Nat} {C' : Nat→Int} (hok : LayOk L C (lastR m k) (ix noRun m.free k).at_ (ix noRun m.free k).n) (hP : m.pages=(L : Int))
  (hne : 0 < k→(ix noRun m.free (k - 1)).at_ + (ix noRun m.free (k - 1)).n≠(ix noRun m.free k).at_) : FreeTo m (k + 1):=by
 intro i hi h0
 by_cases e : i=k
 ·subst e
  have h1:=hne h0
  obtain ⟨o1,o2,o3,o4,o5,o6⟩:=hok
  rw [show lastR m i=(ix noRun m.free (i - 1)).at_ by simp [lastR]; omega] at o3
  obtain ⟨p,hp⟩ : ∃ p : Nat,(ix noRun m.free i).at_=(p : Int):=⟨_,(Int.toNat_of_nonneg o1).symm⟩
  have hz:=o6 p (by rw [← hp]; exact ⟨by show (ix noRun m.free i).at_≤_; omega,by show _ < (ix noRun m.free i).at_ + _; omega⟩)
  have hn:=(h.zero p (by omega)).1 hz (i - 1) (by omega)
  rw [pcs_free (by omega)] at hn
  rcases Int.lt_or_le (ix noRun m.free i).at_ ((ix noRun m.free (i - 1)).at_ + (ix noRun m.free (i - 1)).n) with hq | hq
  ·exact absurd ⟨by show (ix noRun m.free (i - 1)).at_≤(p : Int); omega,by show (p : Int) < (ix noRun m.free (i - 1)).at_ + (ix noRun m.free (i - 1)).n; omega⟩ hn
  ·omega
 ·exact hf i (by omega) h0
theorem CovOk.lastR {okH : HoldD→Prop} {m : ModelD} (h : CovOk okH m) {k : Nat} (hlt : k < m.free.length) : lastR m k < (ix noRun m.free k).at_:=by
 unfold Go.Proofs.YtoolenhnhlfhmaaGreatDoor.lastR
 have hk:=(h.laid k (by rw [pcs_length]; omega)).1
 rw [pcs_free hlt] at hk
 have h0:=hk.1
 dsimp only at h0
 split
 ·omega
 ·have h1:=h.free k hlt (by omega)
  have h2:=(h.laid (k - 1) (by rw [pcs_length]; omega)).1
  rw [pcs_free (by omega)] at h2
  have h3:=h2.2.1
  dsimp only at h3
  omega
theorem CovOk.lastH {okH : HoldD→Prop} {m : ModelD} (h : CovOk okH m) {k : Nat} (hlt : k < m.hands.length) : lastH m k < (ix noHand m.hands k).at_:=by
 unfold Go.Proofs.YtoolenhnhlfhmaaGreatDoor.lastH
 have hk:=(h.laid (m.free.length + k) (by rw [pcs_length]; omega)).1
 rw [pcs_hand hlt] at hk
 have h0:=hk.1
 dsimp only at h0
 split
 ·omega
 ·exact (h.hand k hlt).2 (by omega)
theorem CovOk.lastS {okH : HoldD→Prop} {m : ModelD} (h : CovOk okH m) {k : Nat} (hlt : k < m.spans.length) : lastS m k < (ix noHold m.spans k).page:=by
 unfold Go.Proofs.YtoolenhnhlfhmaaGreatDoor.lastS
 have hk:=(h.laid (m.free.length + (m.hands.length + k)) (by rw [pcs_length]; omega)).1
 rw [pcs_span hlt] at hk
 have h0:=hk.1
 dsimp only at h0
 split
 ·omega
 ·exact (h.span k hlt).2 (by omega)
theorem HandTo.step {m : ModelD} {k : Nat} (h : HandTo m k) (h1 : ThreadP (ix noHand m.hands k).t) (h2 : lastH m k < (ix noHand m.hands k).at_) : HandTo m (k + 1):=by
 intro i hi
 by_cases e : i=k
 ·subst e
  refine ⟨h1,fun h0=>?_⟩
  rw [show lastH m i=(ix noHand m.hands (i - 1)).at_ by unfold lastH; rw [if_neg (by omega)]] at h2
  exact h2
 ·exact h i (by omega)
theorem SpanTo.step {okH : HoldD→Prop} {m : ModelD} {k : Nat} (h : SpanTo okH m k) (h1 : okH (ix noHold m.spans k)) (h2 : lastS m k < (ix noHold m.spans k).page) : SpanTo okH m (k + 1):=by
 intro i hi
 by_cases e : i=k
 ·subst e
  refine ⟨h1,fun h0=>?_⟩
  rw [show lastS m i=(ix noHold m.spans (i - 1)).page by unfold lastS; rw [if_neg (by omega)]] at h2
  exact h2
 ·exact h i (by omega)
/-- The whole cover, each page of a piece. -/
theorem CovK.all {okH : HoldD→Prop} {m : ModelD} {k : Nat} {C : Nat→Int} (h : CovK m k C) (hk : k=(pcs m).length) {L : Nat} (hP : m.pages=(L : Int)) (hf : FreeTo m m.free.length) (hh : HandTo m m.hands.length) (hs : SpanTo okH m m.spans.length) :
  CovOk okH m↔∀ p : Nat,p < L→C p≠0:=by
 subst hk
 constructor
 ·intro hc p hp hz
  obtain ⟨i,hi,hi2⟩:=hc.cover p (by omega) (by omega)
  exact (h.zero p (by omega)).1 hz i hi hi2
 ·intro hz
  refine ⟨h.laid,fun p h0 h1=>?_,hf,hh,hs⟩
  obtain ⟨q,rfl⟩ : ∃ q : Nat,p=(q : Int):=⟨p.toNat,by omega⟩
  rcases Classical.em (∃ i,i < (pcs m).length∧InP (ix (0,0) (pcs m) i) q) with he | he
  ·exact he
  ·exact absurd ((h.zero q h1).2 fun i hi hq=>he ⟨i,hi,hq⟩) (hz q (by omega))
/-- The first place of a number, or -1. -/
def FirstAt (L : Nat) (C : Nat→Int) (x r : Int) : Prop:=(r=-1∧∀ p,p < L→C p≠x)∨∃ p : Nat,p < L∧r=(p : Int)∧C p=x∧∀ q,q < p→C q≠x
set_option maxHeartbeats 2000000 in
set_option maxRecDepth 100000 in
theorem indexC_any (A : Option Addr) (L c : Nat) (C : Nat→Int) (x : Int) (w : World) (hL : L≤1000000) (hR : SlR w A L 1 (fun j=>.int .i64 (C j))) :
  Calls Tryz.prog 113 #[.slice A L c,.int .i64 x] w fun e w'=>∃ r,e=.returned (.int .i64 r)∧FirstAt L C x r∧w=w':=by
 have HS:=Lib.hid hR
 clear hR
 go_enter Tryz.func113,Tryz.ntmps113
 go_wp2
 go_loopg [8] L (fun q i wr=>∃ k : Nat,k≤L∧q=L - k∧i=.int .i64 (k : Int)∧wr=w∧∀ p,p < k→C p≠x)
 case atStart=>exact ⟨0,Nat.zero_le _,rfl,rfl,rfl,fun p hp=>absurd hp (by omega)⟩
 case round =>
  obtain ⟨k,hk,rfl,rfl,rfl,hz⟩:=hrel
  have HZ:=Lib.hid hz
  clear hz
  by_cases hlt : k < L
  ·obtain ⟨b,off,rfl,hcl⟩:=HS.out (by omega)
   have c0:=hcl k (by omega)
   have q0 : (0 : Int)≤(k : Int):=by omega
   have q1 : (k : Int) < (L : Int):=by omega
   clear hcl
   by_cases hx : C k=x
   ·have b0 : (x == C k)=true:=by simp [hx]
    have HX:=Lib.hid hx
    clear hx
    go_wp2
    go_ret
    exact ⟨_,rfl,.inr ⟨k,hlt,rfl,HX.out,HZ.out⟩,rfl⟩
   ·have b0 : (x == C k)=false:=by simpa using fun h=>hx h.symm
    have HX:=Lib.hid hx
    clear hx
    go_wp2
    go_roundg (L - (k + 1))
    case measure=>go_light; omega
    case rel =>
     refine ⟨k + 1,by omega,rfl,by go_num,rfl,fun p hp=>?_⟩
     by_cases e : p=k
     ·rw [e]; exact HX.out
     ·exact HZ.out p (by omega)
  ·obtain rfl : k=L:=by omega
   go_wp2
   go_ret
   exact ⟨_,rfl,.inl ⟨rfl,HZ.out⟩,rfl⟩
set_option maxHeartbeats 400000 in
theorem containsC_any (A : Option Addr) (L c : Nat) (C : Nat→Int) (x : Int) (w : World) (hL : L≤1000000) (hR : SlR w A L 1 (fun j=>.int .i64 (C j))) :
  Calls Tryz.prog 71 #[.slice A L c,.int .i64 x] w fun e w'=>e=.returned (.bool (B (∃ p,p < L∧C p=x)))∧w=w':=by
 go_enter Tryz.func71,Tryz.ntmps71
 go_wp2_with (go_at_call 113; refine (indexC_any A L c C x _ hL hR).mono ?_; rintro e w1 ⟨r,rfl,hr,rfl⟩)
 go_ret
 refine ⟨ret_B ?_,rfl⟩
 rcases hr with ⟨rfl,hn⟩ | ⟨p,hp,rfl,hc,_⟩
 ·simp only [decide_eq_true_eq]
  exact ⟨fun h=>absurd h (by omega),fun ⟨p,hp,hc⟩=>absurd hc (hn p hp)⟩
 ·simp only [decide_eq_true_eq]
  exact ⟨fun _=>⟨p,hp,hc⟩,fun _=>by omega⟩
set_option maxHeartbeats 2000000 in
set_option maxRecDepth 100000 in
theorem indexI_any (A : Option Addr) (L c : Nat) (C : Nat→Int) (x : Int) (w : World) (hL : L≤1000000) (hR : SlR w A L 1 (fun j=>.int .i64 (C j))) :
  Calls Tryz.prog 126 #[.slice A L c,.int .i64 x] w fun e w'=>∃ r,e=.returned (.int .i64 r)∧FirstAt L C x r∧w=w':=by
 have HS:=Lib.hid hR
 clear hR
 go_enter Tryz.func126,Tryz.ntmps126
 go_wp2
 go_loopg [8] L (fun q i wr=>∃ k : Nat,k≤L∧q=L - k∧i=.int .i64 (k : Int)∧wr=w∧∀ p,p < k→C p≠x)
 case atStart=>exact ⟨0,Nat.zero_le _,rfl,rfl,rfl,fun p hp=>absurd hp (by omega)⟩
 case round =>
  obtain ⟨k,hk,rfl,rfl,rfl,hz⟩:=hrel
  have HZ:=Lib.hid hz
  clear hz
  by_cases hlt : k < L
  ·obtain ⟨b,off,rfl,hcl⟩:=HS.out (by omega)
   have c0:=hcl k (by omega)
   have q0 : (0 : Int)≤(k : Int):=by omega
   have q1 : (k : Int) < (L : Int):=by omega
   clear hcl
   by_cases hx : C k=x
   ·have b0 : (x == C k)=true:=by simp [hx]
    have HX:=Lib.hid hx
    clear hx
    go_wp2
    go_ret
    exact ⟨_,rfl,.inr ⟨k,hlt,rfl,HX.out,HZ.out⟩,rfl⟩
   ·have b0 : (x == C k)=false:=by simpa using fun h=>hx h.symm
    have HX:=Lib.hid hx
    clear hx
    go_wp2
    go_roundg (L - (k + 1))
    case measure=>go_light; omega
    case rel =>
     refine ⟨k + 1,by omega,rfl,by go_num,rfl,fun p hp=>?_⟩
     by_cases e : p=k
     ·rw [e]; exact HX.out
     ·exact HZ.out p (by omega)
  ·obtain rfl : k=L:=by omega
   go_wp2
   go_ret
   exact ⟨_,rfl,.inl ⟨rfl,HZ.out⟩,rfl⟩
set_option maxHeartbeats 400000 in
theorem containsI_any (A : Option Addr) (L c : Nat) (C : Nat→Int) (x : Int) (w : World) (hL : L≤1000000) (hR : SlR w A L 1 (fun j=>.int .i64 (C j))) :
  Calls Tryz.prog 87 #[.slice A L c,.int .i64 x] w fun e w'=>e=.returned (.bool (B (∃ p,p < L∧C p=x)))∧w=w':=by
 go_enter Tryz.func87,Tryz.ntmps87
 go_wp2_with (go_at_call 126; refine (indexI_any A L c C x _ hL hR).mono ?_; rintro e w1 ⟨r,rfl,hr,rfl⟩)
 go_ret
 refine ⟨ret_B ?_,rfl⟩
 rcases hr with ⟨rfl,hn⟩ | ⟨p,hp,rfl,hc,_⟩
 ·simp only [decide_eq_true_eq]
  exact ⟨fun h=>absurd h (by omega),fun ⟨p,hp,hc⟩=>absurd hc (hn p hp)⟩
 ·simp only [decide_eq_true_eq]
  exact ⟨fun _=>⟨p,hp,hc⟩,fun _=>by omega⟩
end Go.Proofs.YtoolenhnhlfhmaaGreatDoor
