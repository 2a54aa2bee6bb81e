/- Walks: slices.DeleteFunc, of spans and of numbers (printed by gen_dkd.py). -/
import Derived.Test.YtoolenhnhlfhmaaGreatDoorDkC
namespace Go.Proofs.YtoolenhnhlfhmaaGreatDoor
open Go.RowKit Go.Sort
set_option linter.unusedVariables false
set_option linter.unusedSimpArgs false
/-- Those that stay. -/
noncomputable def stayL {α : Type} (P : α→Prop) (l : List α) : List α:=l.filter (fun x=>!(B (P x)))
theorem stayL_snoc {α : Type} {P : α→Prop} {d : α} {l : List α} {j : Nat} (hj : j < l.length) : stayL P (l.take (j + 1))=stayL P (l.take j) ++ (if B (P (ix d l j)) then [] else [ix d l j]):=by
 unfold stayL
 rw [List.take_succ_eq_append_getElem hj,List.filter_append,ix_lt hj]
 congr 1
 rcases hB : B (P l[j]) with _ | _ <;> simp [hB]
theorem stayL_all {α : Type} {P : α→Prop} {d : α} {l : List α} (h : ∀ i,i < l.length→¬ P (ix d l i)) : stayL P l=l:=by
 unfold stayL
 rw [List.filter_eq_self]
 intro x hx
 obtain ⟨i,hi,rfl⟩:=List.mem_iff_getElem.1 hx
 have:=h i hi
 rw [ix_lt hi] at this
 rw [B_no this]
 rfl
theorem stayL_first {α : Type} {P : α→Prop} {d : α} {l : List α} {i : Nat} (hi : i < l.length) (hp : P (ix d l i)) (h : ∀ q,q < i→¬ P (ix d l q)) : stayL P (l.take (i + 1))=l.take i:=by
 rw [stayL_snoc (d:=d) hi,B_yes hp,if_pos rfl,List.append_nil]
 refine stayL_all (d:=d) fun q hq=>?_
 have hq' : q < i:=by simp at hq; omega
 have e : ix d (l.take i) q=ix d l q:=by rw [ix_lt hq,ix_lt (by omega)]; simp
 rw [e]
 exact h q hq'
theorem stayL_len {α : Type} (P : α→Prop) (l : List α) : (stayL P l).length≤l.length:=List.length_filter_le _ _
theorem ext_grown {a b : World} (h : Ext a b) (row : Option Nat) : a.grownBy b row:=⟨h.os,h.tape,h.output,h.size,fun k hk _=>h.block k hk⟩
/-- Behind some rounds: what has been kept lies ahead, what is to be asked as it was. -/
structure DelI {α : Type} (d : α) (P : α→Prop) (l M : List α) (i j : Nat) : Prop where
 len : M.length=l.length
 at_ : i=(stayL P (l.take j)).length
 lo : ∀ k,k < i→ix d M k=ix d (stayL P (l.take j)) k
 hi : ∀ k,j≤k→ix d M k=ix d l k
 lt : i < j
theorem ix_set {α : Type} {d : α} {M : List α} {i : Nat} (hi : i < M.length) (v : α) (q : Nat) : ix d (M.set i v) q=if q=i then v else ix d M q:=by
 unfold ix
 rw [List.getD_eq_getElem?_getD,List.getD_eq_getElem?_getD,List.getElem?_set]
 by_cases ek : i=q
 ·subst ek
  simp [hi]
 ·rw [if_neg ek,if_neg (Ne.symm ek)]
theorem DelI.skip {α : Type} {d : α} {P : α→Prop} {l M : List α} {i j : Nat} (h : DelI d P l M i j) (hj : j < l.length) (hp : P (ix d l j)) : DelI d P l M i (j + 1):=by
 have e : stayL P (l.take (j + 1))=stayL P (l.take j):=by rw [stayL_snoc (d:=d) hj,B_yes hp,if_pos rfl,List.append_nil]
 exact ⟨h.len,by rw [e]; exact h.at_,by rw [e]; exact h.lo,fun k hk=>h.hi k (by omega),by have:=h.lt; omega⟩
theorem DelI.keep {α : Type} {d : α} {P : α→Prop} {l M : List α} {i j : Nat} (h : DelI d P l M i j) (hj : j < l.length) (hp : ¬ P (ix d l j)) : DelI d P l (M.set i (ix d l j)) (i + 1) (j + 1):=by
 have e : stayL P (l.take (j + 1))=stayL P (l.take j) ++ [ix d l j]:=by rw [stayL_snoc (d:=d) hj,B_no hp]; rfl
 have hlt:=h.lt
 have hset : ∀ k,ix d (M.set i (ix d l j)) k=if k=i then ix d l j else ix d M k:=fun k=>by
  unfold ix
  rw [List.getD_eq_getElem?_getD,List.getD_eq_getElem?_getD,List.getElem?_set]
  by_cases ek : i=k
  ·subst ek
   have : i < M.length:=by rw [h.len]; omega
   simp [this]
  ·rw [if_neg ek,if_neg (Ne.symm ek),List.getD_eq_getElem?_getD]
 refine ⟨by simp [h.len],by rw [e]; simp [← h.at_],fun k hk=>?_,fun k hk=>?_,by omega⟩
 ·rw [hset,e]
  by_cases ek : k=i
  ·rw [if_pos ek,ek,h.at_,ix_app_end]
  ·rw [if_neg ek,ix_app_lt d _ _ (by rw [← h.at_]; omega)]
   exact h.lo k (by omega)
 ·rw [hset,if_neg (by omega)]
  exact h.hi k (by omega)
theorem holdV_agg (v : HoldD) : holdV v=.agg #[.int .i64 v.page,.int .i64 v.pages,.int .i64 v.cls,.int .i64 v.holder,.int .i64 v.claim,.bool v.swept,.int .u64 (v.alloc : Int),.int .u64 (v.marks : Int)]:=rfl
def intC (x : Int) (k : Nat) : Value:=.int .i64 x
def intsV (l : List Int) (j : Nat) : Value:=.int .i64 (ix 0 l j)
theorem intsV_row (l : List Int) : intsV l=rowV intC (0 : Int) 1 l:=by funext k; simp [intsV,rowV,intC]
theorem intsV_one (l : List Int) (j : Nat) : (intsV l j).oneCell'=true:=rfl
theorem Tryz.infoMInt : (Tryz.prog.info? 3).map (fun i=>(i.zero,i.size,i.bytes))=some (some (.int .i64 0),1,8):=by kernel_rfl
set_option maxHeartbeats 4000000 in
set_option maxRecDepth 100000 in
theorem delHold_any (base n c : Nat) (A : Option Addr) (l : List HoldD) (hn : n=l.length) (fg : FuncId) (caps : Array Value) (P : HoldD→Prop) (C : World→Prop) (w : World) (hL : l.length≤1000000)
  (hcf : ∀ (xs : Array Value) (w : World),Sem.run Tryz.prog (callFunc fg xs) w=.ok (.enter fg xs) w) (hC : C w) (hCx : ∀ a b,Ext a b→C a→C b) (hCg : ∀ a b,a.grownBy b (A.map (·.block))→C a→C b)
  (hg : ∀ x w',C w'→Calls Tryz.prog fg (#[(holdV x)] ++ caps) w' fun e w''=>e=.returned (.bool (B (P x)))∧Ext w' w'')
  (hO : OwnS w base 51 8 (.slice A n c) n (holdsV l)) :
  Calls Tryz.prog 100 #[.slice A n c,.func (.func fg) #[] caps] w fun e w'=>e=.returned (.slice A (stayL P l).length c)∧OwnS w' base 51 8 (.slice A (stayL P l).length c) (stayL P l).length (holdsV (stayL P l))∧w.grownBy w' (A.map (·.block))∧C w':=by
 subst hn
 obtain ⟨i0,hi0,hz0,hzs,hzb⟩:=info_parts Tryz.infoMHold
 have hidx:=indexHold_any A l c fg caps (fun j=>P (ix noHold l j)) w hL hcf (own_sl' hO) (fun j hj w' hw'=>hg _ w' (hCx _ _ hw' hC))
 obtain ⟨A0,c0,e1,hnc,_⟩:=hO.form
 injection e1 with e1 e2 e3
 subst e1 e3
 clear e2
 have HI:=Lib.hid hidx
 have HC:=Lib.hid (And.intro hC (And.intro hCx (And.intro hCg (And.intro hg hO))))
 clear hidx hC hCx hCg hg hO
 go_enter Tryz.func100,Tryz.ntmps100
 go_upto_if 12 with (go_at_call 114; (with_reducible refine HI.out.mono ?_); rintro e w1 ⟨r,rfl,hr,hE1⟩; have HR:=Lib.hid (And.intro hr hE1); clear hr hE1)
 obtain ⟨hr,hE1⟩:=HR.out
 rcases hr with ⟨rfl,hno⟩ | ⟨i,hi,rfl,hp,hfirst⟩
 ·have HN:=Lib.hid (And.intro hno hE1)
  clear hno hE1
  go_wp2
  go_ret
  have e:=stayL_all HN.out.1
  rw [e]
  exact ⟨rfl,HC.out.2.2.2.2.ext HN.out.2,ext_grown HN.out.2 _,HC.out.2.1 _ _ HN.out.2 HC.out.1⟩
 ·obtain ⟨g,c',e1⟩:=HC.out.2.2.2.2.form' (by omega)
  injection e1 with e1 e2 e3
  subst e1 e3
  clear e2
  have hI0 : DelI noHold P l l i (i + 1):=⟨rfl,by rw [stayL_first hi hp hfirst]; simp; omega,fun k hk=>by rw [stayL_first hi hp hfirst,ix_lt (by omega),ix_lt (by simp; omega)]; simp,fun _ _=>rfl,by omega⟩
  have H1:=Lib.hid (And.intro hI0 (And.intro (HC.out.2.2.2.2.ext hE1) (And.intro (ext_grown hE1 (some g)) (HC.out.2.1 _ _ hE1 HC.out.1))))
  have e0 : ((i : Int) == -1)=false:=by simp
  clear hE1 hp hfirst hI0
  go_wp2
  go_loopg [5,6] (l.length - (i + 1)) (fun q iv jv wr=>∃ (i j : Nat) (M : List HoldD),j≤l.length∧q=l.length - j∧iv=.int .i64 (i : Int)∧jv=.int .i64 (j : Int)∧DelI noHold P l M i j∧OwnS wr base 51 8 (.slice (some ⟨g,0,none⟩) l.length c) l.length (holdsV M)∧w.grownBy wr (some g)∧C wr)
  case atStart=>exact ⟨i,i + 1,l,by omega,rfl,rfl,by go_num,H1.out.1,H1.out.2.1,H1.out.2.2.1,H1.out.2.2.2⟩
  case round =>
   obtain ⟨i,j,M,hj,rfl,rfl,rfl,hI,hO,hG,hCw⟩:=hrel
   have hilt:=hI.lt
   by_cases hlt : j < l.length
   ·obtain ⟨v,hv⟩ : ∃ v,ix noHold l j=v:=⟨_,rfl⟩
    have hcall:=HC.out.2.2.2.1 v (wr.alloc (.cells #[.int .i64 v.page,.int .i64 v.pages,.int .i64 v.cls,.int .i64 v.holder,.int .i64 v.claim,.bool v.swept,.int .u64 (v.alloc : Int),.int .u64 (v.marks : Int)] 51)) (HC.out.2.1 _ _ ((Ext.refl wr).alloc _) hCw)
    have hrow : ∀ k,k < 8→holdsV M (j * 8 + k)=holdC v k:=fun k hk=>by
     rw [holdsV_row]
     unfold rowV
     rw [show (j * 8 + k) / 8=j by omega,show (j * 8 + k) % 8=k by omega,hI.hi j (Nat.le_refl _),hv]
    have a0:=hO.cellAt (j:=j * 8 + 0) (by omega)
    have a0' : wr.cell? ⟨g,j * 8,none⟩=some (.int .i64 v.page):=by
     rw [show j * 8=j * 8 + 0 by omega,a0,hrow 0 (by omega)]; rfl
    have a1:=hO.cellAt (j:=j * 8 + 1) (by omega)
    have a1' : wr.cell? ⟨g,j * 8 + 1,none⟩=some (.int .i64 v.pages):=by
     rw [show j * 8 + 1=j * 8 + 1 by omega,a1,hrow 1 (by omega)]; rfl
    have a2:=hO.cellAt (j:=j * 8 + 2) (by omega)
    have a2' : wr.cell? ⟨g,j * 8 + 2,none⟩=some (.int .i64 v.cls):=by
     rw [show j * 8 + 2=j * 8 + 2 by omega,a2,hrow 2 (by omega)]; rfl
    have a3:=hO.cellAt (j:=j * 8 + 3) (by omega)
    have a3' : wr.cell? ⟨g,j * 8 + 3,none⟩=some (.int .i64 v.holder):=by
     rw [show j * 8 + 3=j * 8 + 3 by omega,a3,hrow 3 (by omega)]; rfl
    have a4:=hO.cellAt (j:=j * 8 + 4) (by omega)
    have a4' : wr.cell? ⟨g,j * 8 + 4,none⟩=some (.int .i64 v.claim):=by
     rw [show j * 8 + 4=j * 8 + 4 by omega,a4,hrow 4 (by omega)]; rfl
    have a5:=hO.cellAt (j:=j * 8 + 5) (by omega)
    have a5' : wr.cell? ⟨g,j * 8 + 5,none⟩=some (.bool v.swept):=by
     rw [show j * 8 + 5=j * 8 + 5 by omega,a5,hrow 5 (by omega)]; rfl
    have a6:=hO.cellAt (j:=j * 8 + 6) (by omega)
    have a6' : wr.cell? ⟨g,j * 8 + 6,none⟩=some (.int .u64 (v.alloc : Int)):=by
     rw [show j * 8 + 6=j * 8 + 6 by omega,a6,hrow 6 (by omega)]; rfl
    have a7:=hO.cellAt (j:=j * 8 + 7) (by omega)
    have a7' : wr.cell? ⟨g,j * 8 + 7,none⟩=some (.int .u64 (v.marks : Int)):=by
     rw [show j * 8 + 7=j * 8 + 7 by omega,a7,hrow 7 (by omega)]; rfl
    have z0:=hO.frozenAt (i * 8)
    have z1:=hO.frozenAt (i * 8 + 1)
    have z2:=hO.frozenAt (i * 8 + 2)
    have z3:=hO.frozenAt (i * 8 + 3)
    have z4:=hO.frozenAt (i * 8 + 4)
    have z5:=hO.frozenAt (i * 8 + 5)
    have z6:=hO.frozenAt (i * 8 + 6)
    have z7:=hO.frozenAt (i * 8 + 7)
    have b0:=hO.cellAt (j:=i * 8) (by omega)
    have b1:=hO.cellAt (j:=i * 8 + 1) (by omega)
    have b2:=hO.cellAt (j:=i * 8 + 2) (by omega)
    have b3:=hO.cellAt (j:=i * 8 + 3) (by omega)
    have b4:=hO.cellAt (j:=i * 8 + 4) (by omega)
    have b5:=hO.cellAt (j:=i * 8 + 5) (by omega)
    have b6:=hO.cellAt (j:=i * 8 + 6) (by omega)
    have b7:=hO.cellAt (j:=i * 8 + 7) (by omega)
    have hgl : g < wr.heap.size:=(World.ownsRow.lt hO g rfl).2
    have q0 : (0 : Int)≤(j : Int):=by omega
    have q1 : (j : Int) < (l.length : Int):=by omega
    have p0 : (0 : Int)≤(i : Int):=by omega
    have p1 : (i : Int) < (l.length : Int):=by omega
    have HR2:=Lib.hid (And.intro hI (And.intro hO (And.intro hG (And.intro hCw hv))))
    unfold holdV at hcall
    clear hI hG hCw hv hrow a0 a1 a2 a3 a4 a5 a6 a7 hO
    by_cases hp : P v
    ·rw [B_yes hp] at hcall
     have HCl:=Lib.hid (And.intro hcall hp)
     clear hcall hp
     go_wp2_with (first | (refine HCl.out.1.mono ?_; rintro e w2 ⟨rfl,hE2⟩; have HE2:=Lib.hid hE2; clear hE2))
     go_roundg (l.length - (j + 1))
     case measure=>go_light; omega
     case rel =>
      obtain ⟨hI,hO,hG,hCw,hv⟩:=HR2.out
      have hE2 : Ext wr w2:=((Ext.refl wr).alloc _).trans HE2.out
      exact ⟨i,j + 1,M,by omega,rfl,rfl,by go_num,hI.skip hlt (by rw [hv]; exact HCl.out.2),hO.ext hE2,hG.trans (ext_grown hE2 _),HC.out.2.1 _ _ hE2 hCw⟩
    ·rw [B_no hp] at hcall
     have HCl:=Lib.hid (And.intro hcall hp)
     clear hcall hp
     go_wp2_with (first | (refine HCl.out.1.mono ?_; rintro e w2 ⟨rfl,hE2⟩; have hEx : Ext wr w2:=((Ext.refl wr).alloc _).trans hE2; have b0x:=hEx.cell b0; have z0x:=(hEx.frozen (p:=⟨g,i * 8,none⟩) hgl).trans z0; have b1x:=hEx.cell b1; have z1x:=(hEx.frozen (p:=⟨g,i * 8 + 1,none⟩) hgl).trans z1; have b2x:=hEx.cell b2; have z2x:=(hEx.frozen (p:=⟨g,i * 8 + 2,none⟩) hgl).trans z2; have b3x:=hEx.cell b3; have z3x:=(hEx.frozen (p:=⟨g,i * 8 + 3,none⟩) hgl).trans z3; have b4x:=hEx.cell b4; have z4x:=(hEx.frozen (p:=⟨g,i * 8 + 4,none⟩) hgl).trans z4; have b5x:=hEx.cell b5; have z5x:=(hEx.frozen (p:=⟨g,i * 8 + 5,none⟩) hgl).trans z5; have b6x:=hEx.cell b6; have z6x:=(hEx.frozen (p:=⟨g,i * 8 + 6,none⟩) hgl).trans z6; have b7x:=hEx.cell b7; have z7x:=(hEx.frozen (p:=⟨g,i * 8 + 7,none⟩) hgl).trans z7; have v0x:=hE2.cell (cell_new wr #[.int .i64 v.page,.int .i64 v.pages,.int .i64 v.cls,.int .i64 v.holder,.int .i64 v.claim,.bool v.swept,.int .u64 (v.alloc : Int),.int .u64 (v.marks : Int)] 51 0 (.int .i64 v.page) rfl); have v1x:=hE2.cell (cell_new wr #[.int .i64 v.page,.int .i64 v.pages,.int .i64 v.cls,.int .i64 v.holder,.int .i64 v.claim,.bool v.swept,.int .u64 (v.alloc : Int),.int .u64 (v.marks : Int)] 51 1 (.int .i64 v.pages) rfl); have v2x:=hE2.cell (cell_new wr #[.int .i64 v.page,.int .i64 v.pages,.int .i64 v.cls,.int .i64 v.holder,.int .i64 v.claim,.bool v.swept,.int .u64 (v.alloc : Int),.int .u64 (v.marks : Int)] 51 2 (.int .i64 v.cls) rfl); have v3x:=hE2.cell (cell_new wr #[.int .i64 v.page,.int .i64 v.pages,.int .i64 v.cls,.int .i64 v.holder,.int .i64 v.claim,.bool v.swept,.int .u64 (v.alloc : Int),.int .u64 (v.marks : Int)] 51 3 (.int .i64 v.holder) rfl); have v4x:=hE2.cell (cell_new wr #[.int .i64 v.page,.int .i64 v.pages,.int .i64 v.cls,.int .i64 v.holder,.int .i64 v.claim,.bool v.swept,.int .u64 (v.alloc : Int),.int .u64 (v.marks : Int)] 51 4 (.int .i64 v.claim) rfl); have v5x:=hE2.cell (cell_new wr #[.int .i64 v.page,.int .i64 v.pages,.int .i64 v.cls,.int .i64 v.holder,.int .i64 v.claim,.bool v.swept,.int .u64 (v.alloc : Int),.int .u64 (v.marks : Int)] 51 5 (.bool v.swept) rfl); have v6x:=hE2.cell (cell_new wr #[.int .i64 v.page,.int .i64 v.pages,.int .i64 v.cls,.int .i64 v.holder,.int .i64 v.claim,.bool v.swept,.int .u64 (v.alloc : Int),.int .u64 (v.marks : Int)] 51 6 (.int .u64 (v.alloc : Int)) rfl); have v7x:=hE2.cell (cell_new wr #[.int .i64 v.page,.int .i64 v.pages,.int .i64 v.cls,.int .i64 v.holder,.int .i64 v.claim,.bool v.swept,.int .u64 (v.alloc : Int),.int .u64 (v.marks : Int)] 51 7 (.int .u64 (v.marks : Int)) rfl); have HE2:=Lib.hid hE2; clear hE2))
     go_roundg (l.length - (j + 1))
     case measure=>go_light; omega
     case rel =>
      obtain ⟨hI,hO,hG,hCw,hv⟩:=HR2.out
      have hE2 : Ext wr w2:=((Ext.refl wr).alloc _).trans HE2.out
      have hO2:=hO.ext hE2
      have hW : ∀ (W : World),w2.grownBy W (some g)→C W:=fun W h=>HC.out.2.2.1 _ _ h (HC.out.2.1 _ _ hE2 hCw)
      refine ⟨i + 1,j + 1,M.set i v,by omega,rfl,by go_num,by go_num,by rw [← hv]; exact hI.keep hlt (by rw [hv]; exact HCl.out.2),(((((((((hO2.set (i * 8) (.int .i64 v.page)).set (i * 8 + 1) (.int .i64 v.pages)).set (i * 8 + 2) (.int .i64 v.cls)).set (i * 8 + 3) (.int .i64 v.holder)).set (i * 8 + 4) (.int .i64 v.claim)).set (i * 8 + 5) (.bool v.swept)).set (i * 8 + 6) (.int .u64 (v.alloc : Int))).set (i * 8 + 7) (.int .u64 (v.marks : Int)))).congr fun k hk=>?_,(hG.trans (ext_grown hE2 _)).trans ((grownBy_setC _ _ _ _).trans ((grownBy_setC _ _ _ _).trans ((grownBy_setC _ _ _ _).trans ((grownBy_setC _ _ _ _).trans ((grownBy_setC _ _ _ _).trans ((grownBy_setC _ _ _ _).trans ((grownBy_setC _ _ _ _).trans ((grownBy_setC _ _ _ _))))))))),hW _ ((grownBy_setC _ _ _ _).trans ((grownBy_setC _ _ _ _).trans ((grownBy_setC _ _ _ _).trans ((grownBy_setC _ _ _ _).trans ((grownBy_setC _ _ _ _).trans ((grownBy_setC _ _ _ _).trans ((grownBy_setC _ _ _ _).trans ((grownBy_setC _ _ _ _)))))))))⟩
      rw [show holdsV (M.set i v) k=holdC (ix noHold (M.set i v) (k / 8)) (k % 8) from rfl,ix_set (by rw [hI.len]; omega)]
      have hr8 : k % 8=0∨k % 8=1∨k % 8=2∨k % 8=3∨k % 8=4∨k % 8=5∨k % 8=6∨k % 8=7:=by omega
      by_cases e : k / 8=i
      ·rw [if_pos e]
       rcases hr8 with h | h | h | h | h | h | h | h
       all_goals
        rw [h]
        obtain ⟨r,hr⟩ : ∃ r,k=i * 8 + r∧k % 8=r:=⟨k % 8,by omega,rfl⟩
        obtain ⟨hr,hr2⟩:=hr
        rw [h] at hr2
        subst hr2
        rw [hr]
        simp [holdC]
      ·rw [if_neg e,if_neg (by omega),if_neg (by omega),if_neg (by omega),if_neg (by omega),if_neg (by omega),if_neg (by omega),if_neg (by omega),if_neg (by omega)]
       rfl
   ·obtain rfl : j=l.length:=by omega
    have hlen : i=(stayL P l).length:=by rw [hI.at_,List.take_length]
    obtain ⟨cur,hr,hb,hnc2,hcm,hcl,hcur⟩:=hO.row
    have hzc : (.agg #[.int .i64 0,.int .i64 0,.int .i64 0,.int .i64 0,.int .i64 0,.bool false,.int .u64 0,.int .u64 0] : Value).cells.size=8:=rfl
    obtain ⟨cz,hcz⟩ : ∃ cz,cz=(Builtin.zeroCells (.agg #[.int .i64 0,.int .i64 0,.int .i64 0,.int .i64 0,.int .i64 0,.bool false,.int .u64 0,.int .u64 0] : Value).cells (l.length - i)).toList:=⟨_,rfl⟩
    have hlz : cz.length=(l.length - i) * 8:=by rw [hcz,zeroCells_F,cellsF_length,hzc]
    have hfit : i * 8 + cz.length≤cur.length:=by rw [hlz,hcl]; omega
    obtain ⟨W2,hW2⟩ : ∃ W2,W2=wr.setRow g (splice cur (i * 8) cz).toArray:=⟨_,rfl⟩
    have hcl1 : ∀ ty dc,(Builtin.clear_ #[27] ty #[.slice (some ⟨g,i * 8,none⟩) (l.length - i) dc]).run Tryz.prog wr=.ok (.tuple #[]) W2:=fun ty dc=>by
     rw [hW2,hcz]
     have:=run_clearS wr 27 51 ty i0 (.agg #[.int .i64 0,.int .i64 0,.int .i64 0,.int .i64 0,.int .i64 0,.bool false,.int .u64 0,.int .u64 0] : Value) Tryz.underlying27 hi0 hz0 (by decide) g (i * 8) (l.length - i) dc cur _ hr (by rw [hzc,hcl]; omega)
     simpa only [Nat.mul_one] using this
    have hgf : w.grownBy W2 (some g):=by rw [hW2]; exact hG.trans (grownBy_setRow _ _ _)
    have hfin : OwnS W2 base 51 8 (.slice (some ⟨g,0,none⟩) i c) i (holdsV (stayL P l)):=by
     rw [hW2]
     refine OwnS.ofRow hr.set hb (by omega) hcm (by rw [length_splice _ _ _ hfit,hcl]) (fun k hk=>?_)
     rw [splice_get hfit,if_neg (by omega),hcur k (by omega),holdsV_row,holdsV_row]
     unfold rowV
     have h1:=hI.lo (k / 8) (Nat.div_lt_of_lt_mul (by omega))
     rw [List.take_length] at h1
     rw [h1]
    have HF:=Lib.hid (And.intro hfin (And.intro hgf (HC.out.2.2.1 _ _ hgf HC.out.1)))
    have HLn:=Lib.hid hlen
    have hci : ¬ c=i:=by omega
    have hil : i≤l.length:=by omega
    have hic : i≤c:=by omega
    clear hI hO hG hCw hlen hr hcl hcur hzc hcz hlz hfit hW2 hgf hfin
    go_wp2_with (with_reducible refine wpList_clearI _ rfl _ 27 rfl _ rfl (hcl1 _ _) ?_)
    go_ret
    rw [← HLn.out]
    exact ⟨rfl,HF.out.1,HF.out.2.1,HF.out.2.2⟩
set_option maxHeartbeats 4000000 in
set_option maxRecDepth 100000 in
theorem delInt_any (base n c : Nat) (A : Option Addr) (l : List Int) (hn : n=l.length) (fg : FuncId) (caps : Array Value) (P : Int→Prop) (C : World→Prop) (w : World) (hL : l.length≤1000000)
  (hcf : ∀ (xs : Array Value) (w : World),Sem.run Tryz.prog (callFunc fg xs) w=.ok (.enter fg xs) w) (hC : C w) (hCx : ∀ a b,Ext a b→C a→C b) (hCg : ∀ a b,a.grownBy b (A.map (·.block))→C a→C b)
  (hg : ∀ x w',C w'→Calls Tryz.prog fg (#[(.int .i64 x)] ++ caps) w' fun e w''=>e=.returned (.bool (B (P x)))∧Ext w' w'')
  (hO : OwnS w base 3 1 (.slice A n c) n (intsV l)) :
  Calls Tryz.prog 89 #[.slice A n c,.func (.func fg) #[] caps] w fun e w'=>e=.returned (.slice A (stayL P l).length c)∧OwnS w' base 3 1 (.slice A (stayL P l).length c) (stayL P l).length (intsV (stayL P l))∧w.grownBy w' (A.map (·.block))∧C w':=by
 subst hn
 obtain ⟨i0,hi0,hz0,hzs,hzb⟩:=info_parts Tryz.infoMInt
 have hidx:=indexInt_any A l c fg caps (fun j=>P (ix (0 : Int) l j)) w hL hcf (own_sl' hO) (fun j hj w' hw'=>hg _ w' (hCx _ _ hw' hC))
 obtain ⟨A0,c0,e1,hnc,_⟩:=hO.form
 injection e1 with e1 e2 e3
 subst e1 e3
 clear e2
 have HI:=Lib.hid hidx
 have HC:=Lib.hid (And.intro hC (And.intro hCx (And.intro hCg (And.intro hg hO))))
 clear hidx hC hCx hCg hg hO
 go_enter Tryz.func89,Tryz.ntmps89
 go_upto_if 12 with (go_at_call 128; (with_reducible refine HI.out.mono ?_); rintro e w1 ⟨r,rfl,hr,hE1⟩; have HR:=Lib.hid (And.intro hr hE1); clear hr hE1)
 obtain ⟨hr,hE1⟩:=HR.out
 rcases hr with ⟨rfl,hno⟩ | ⟨i,hi,rfl,hp,hfirst⟩
 ·have HN:=Lib.hid (And.intro hno hE1)
  clear hno hE1
  go_wp2
  go_ret
  have e:=stayL_all HN.out.1
  rw [e]
  exact ⟨rfl,HC.out.2.2.2.2.ext HN.out.2,ext_grown HN.out.2 _,HC.out.2.1 _ _ HN.out.2 HC.out.1⟩
 ·obtain ⟨g,c',e1⟩:=HC.out.2.2.2.2.form' (by omega)
  injection e1 with e1 e2 e3
  subst e1 e3
  clear e2
  have hI0 : DelI (0 : Int) P l l i (i + 1):=⟨rfl,by rw [stayL_first hi hp hfirst]; simp; omega,fun k hk=>by rw [stayL_first hi hp hfirst,ix_lt (by omega),ix_lt (by simp; omega)]; simp,fun _ _=>rfl,by omega⟩
  have H1:=Lib.hid (And.intro hI0 (And.intro (HC.out.2.2.2.2.ext hE1) (And.intro (ext_grown hE1 (some g)) (HC.out.2.1 _ _ hE1 HC.out.1))))
  have e0 : ((i : Int) == -1)=false:=by simp
  clear hE1 hp hfirst hI0
  go_wp2
  go_loopg [5,6] (l.length - (i + 1)) (fun q iv jv wr=>∃ (i j : Nat) (M : List Int),j≤l.length∧q=l.length - j∧iv=.int .i64 (i : Int)∧jv=.int .i64 (j : Int)∧DelI (0 : Int) P l M i j∧OwnS wr base 3 1 (.slice (some ⟨g,0,none⟩) l.length c) l.length (intsV M)∧w.grownBy wr (some g)∧C wr)
  case atStart=>exact ⟨i,i + 1,l,by omega,rfl,rfl,by go_num,H1.out.1,H1.out.2.1,H1.out.2.2.1,H1.out.2.2.2⟩
  case round =>
   obtain ⟨i,j,M,hj,rfl,rfl,rfl,hI,hO,hG,hCw⟩:=hrel
   have hilt:=hI.lt
   by_cases hlt : j < l.length
   ·obtain ⟨v,hv⟩ : ∃ v,ix (0 : Int) l j=v:=⟨_,rfl⟩
    have hcall:=HC.out.2.2.2.1 v wr hCw
    have hrow : ∀ k,k < 1→intsV M (j * 1 + k)=intC v k:=fun k hk=>by
     rw [intsV_row]
     unfold rowV
     rw [show (j * 1 + k) / 1=j by omega,show (j * 1 + k) % 1=k by omega,hI.hi j (Nat.le_refl _),hv]
    have a0:=hO.cellAt (j:=j * 1 + 0) (by omega)
    have a0' : wr.cell? ⟨g,j,none⟩=some (.int .i64 v):=by
     rw [show j=j * 1 + 0 by omega,a0,hrow 0 (by omega)]; rfl
    have z0:=hO.frozenAt i
    have b0:=hO.cellAt (j:=i) (by omega)
    have hgl : g < wr.heap.size:=(World.ownsRow.lt hO g rfl).2
    have q0 : (0 : Int)≤(j : Int):=by omega
    have q1 : (j : Int) < (l.length : Int):=by omega
    have p0 : (0 : Int)≤(i : Int):=by omega
    have p1 : (i : Int) < (l.length : Int):=by omega
    have HR2:=Lib.hid (And.intro hI (And.intro hO (And.intro hG (And.intro hCw hv))))
    skip
    clear hI hG hCw hv hrow a0 hO
    by_cases hp : P v
    ·rw [B_yes hp] at hcall
     have HCl:=Lib.hid (And.intro hcall hp)
     clear hcall hp
     go_wp2_with (first | (refine HCl.out.1.mono ?_; rintro e w2 ⟨rfl,hE2⟩; have HE2:=Lib.hid hE2; clear hE2))
     go_roundg (l.length - (j + 1))
     case measure=>go_light; omega
     case rel =>
      obtain ⟨hI,hO,hG,hCw,hv⟩:=HR2.out
      have hE2 : Ext wr w2:=HE2.out
      exact ⟨i,j + 1,M,by omega,rfl,rfl,by go_num,hI.skip hlt (by rw [hv]; exact HCl.out.2),hO.ext hE2,hG.trans (ext_grown hE2 _),HC.out.2.1 _ _ hE2 hCw⟩
    ·rw [B_no hp] at hcall
     have HCl:=Lib.hid (And.intro hcall hp)
     clear hcall hp
     go_wp2_with (first | (refine HCl.out.1.mono ?_; rintro e w2 ⟨rfl,hE2⟩; have hEx : Ext wr w2:=hE2; have b0x:=hEx.cell b0; have z0x:=(hEx.frozen (p:=⟨g,i,none⟩) hgl).trans z0; have HE2:=Lib.hid hE2; clear hE2))
     go_roundg (l.length - (j + 1))
     case measure=>go_light; omega
     case rel =>
      obtain ⟨hI,hO,hG,hCw,hv⟩:=HR2.out
      have hE2 : Ext wr w2:=HE2.out
      have hO2:=hO.ext hE2
      have hW : ∀ (W : World),w2.grownBy W (some g)→C W:=fun W h=>HC.out.2.2.1 _ _ h (HC.out.2.1 _ _ hE2 hCw)
      refine ⟨i + 1,j + 1,M.set i v,by omega,rfl,by go_num,by go_num,by rw [← hv]; exact hI.keep hlt (by rw [hv]; exact HCl.out.2),((hO2.set i (.int .i64 v))).congr fun k hk=>?_,(hG.trans (ext_grown hE2 _)).trans (grownBy_setC _ _ _ _),hW _ (grownBy_setC _ _ _ _)⟩
      unfold intsV ix
      rw [List.getD_eq_getElem?_getD,List.getD_eq_getElem?_getD,List.getElem?_set]
      by_cases e : k=i
      ·rw [if_pos e,if_pos e.symm,if_pos (by rw [hI.len]; omega)]
       rfl
      ·rw [if_neg e,if_neg (Ne.symm e)]
   ·obtain rfl : j=l.length:=by omega
    have hlen : i=(stayL P l).length:=by rw [hI.at_,List.take_length]
    obtain ⟨cur,hr,hb,hnc2,hcm,hcl,hcur⟩:=hO.row
    have hzc : (.int .i64 0 : Value).cells.size=1:=rfl
    obtain ⟨cz,hcz⟩ : ∃ cz,cz=(Builtin.zeroCells (.int .i64 0 : Value).cells (l.length - i)).toList:=⟨_,rfl⟩
    have hlz : cz.length=(l.length - i) * 1:=by rw [hcz,zeroCells_F,cellsF_length,hzc]
    have hfit : i * 1 + cz.length≤cur.length:=by rw [hlz,hcl]; omega
    obtain ⟨W2,hW2⟩ : ∃ W2,W2=wr.setRow g (splice cur (i * 1) cz).toArray:=⟨_,rfl⟩
    have hcl1 : ∀ ty dc,(Builtin.clear_ #[28] ty #[.slice (some ⟨g,i,none⟩) (l.length - i) dc]).run Tryz.prog wr=.ok (.tuple #[]) W2:=fun ty dc=>by
     rw [hW2,hcz]
     have:=run_clearS wr 28 3 ty i0 (.int .i64 0 : Value) Tryz.underlying28 hi0 hz0 (by decide) g (i * 1) (l.length - i) dc cur _ hr (by rw [hzc,hcl]; omega)
     simpa only [Nat.mul_one] using this
    have hgf : w.grownBy W2 (some g):=by rw [hW2]; exact hG.trans (grownBy_setRow _ _ _)
    have hfin : OwnS W2 base 3 1 (.slice (some ⟨g,0,none⟩) i c) i (intsV (stayL P l)):=by
     rw [hW2]
     refine OwnS.ofRow hr.set hb (by omega) hcm (by rw [length_splice _ _ _ hfit,hcl]) (fun k hk=>?_)
     rw [splice_get hfit,if_neg (by omega),hcur k (by omega),intsV_row,intsV_row]
     unfold rowV
     have h1:=hI.lo (k / 1) (Nat.div_lt_of_lt_mul (by omega))
     rw [List.take_length] at h1
     rw [h1]
    have HF:=Lib.hid (And.intro hfin (And.intro hgf (HC.out.2.2.1 _ _ hgf HC.out.1)))
    have HLn:=Lib.hid hlen
    have hci : ¬ c=i:=by omega
    have hil : i≤l.length:=by omega
    have hic : i≤c:=by omega
    clear hI hO hG hCw hlen hr hcl hcur hzc hcz hlz hfit hW2 hgf hfin
    go_wp2_with (with_reducible refine wpList_clearI _ rfl _ 28 rfl _ rfl (hcl1 _ _) ?_)
    go_ret
    rw [← HLn.out]
    exact ⟨rfl,HF.out.1,HF.out.2.1,HF.out.2.2⟩
end Go.Proofs.YtoolenhnhlfhmaaGreatDoor
