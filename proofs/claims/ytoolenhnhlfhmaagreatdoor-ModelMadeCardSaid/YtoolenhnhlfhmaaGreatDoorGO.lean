/- The model in plain words: pieces are counted, and each kind of mark keeps the counts. The model in plain words: get, back, lay, drop, commit, release, cycle keep a model one that may be. -/
import Derived.Test.YtoolenhnhlfhmaaGreatDoorGS
import Derived.Laws.BitsAllLaws
namespace Go.Proofs.YtoolenhnhlfhmaaGreatDoor
open Go.RowKit Go.Sort
set_option linter.unusedVariables false
set_option linter.unusedSimpArgs false
/-- Of how many pieces a page is. -/
noncomputable def cntL (l : List (Int × Int)) (p : Int) : Nat:=(l.filter fun x=>B (InP x p)).length
theorem cntL_nil (p : Int) : cntL [] p=0:=rfl
theorem cntL_app (l k : List (Int × Int)) (p : Int) : cntL (l ++ k) p=cntL l p + cntL k p:=by unfold cntL; rw [List.filter_append,List.length_append]
noncomputable def one (x : Int × Int) (p : Int) : Nat:=if B (InP x p) then 1 else 0
theorem cntL_cons (x : Int × Int) (l : List (Int × Int)) (p : Int) : cntL (x :: l) p=one x p + cntL l p:=by
 unfold cntL one
 rw [List.filter_cons]
 split <;> simp [Nat.add_comm]
theorem one_in {x : Int × Int} {p : Int} (h : InP x p) : one x p=1:=by unfold one; rw [B_yes h]; rfl
theorem one_out {x : Int × Int} {p : Int} (h : ¬ InP x p) : one x p=0:=by unfold one; rw [B_no h]; rfl
theorem cntL_pos {l : List (Int × Int)} {x : Int × Int} {p : Int} (hx : x ∈ l) (h : InP x p) : 1≤cntL l p:=by
 obtain ⟨a,b,rfl⟩:=List.append_of_mem hx
 rw [cntL_app,cntL_cons,one_in h]
 omega
theorem cntTo_take (l : List (Int × Int)) (p : Int) : ∀ k,k≤l.length→cntTo l k p=cntL (l.take k) p
 | 0,_=>rfl
 | k + 1,h=>by
  unfold cntTo
  rw [cntTo_take l p k (by omega),List.take_succ_eq_append_getElem (by omega),cntL_app,cntL_cons,cntL_nil,← ix_lt (d:=((0,0) : Int × Int)) (by omega)]
  rfl
theorem cntTo_all (l : List (Int × Int)) (p : Int) : cntTo l l.length p=cntL l p:=by rw [cntTo_take l p _ (Nat.le_refl _),List.take_length]
theorem ixMem {α : Type} {d : α} {l : List α} {i : Nat} (h : i < l.length) : ix d l i ∈ l:=by rw [ix_lt h]; exact List.getElem_mem h
theorem ofMem {α : Type} {d : α} {l : List α} {x : α} (h : x ∈ l) : ∃ i,i < l.length∧ix d l i=x:=by
 obtain ⟨i,hi,e⟩:=List.getElem_of_mem h
 exact ⟨i,hi,by rw [ix_lt hi]; exact e⟩
/-- Pieces lie in the pages, and each page is of one. -/
def Laid2 (P : Int) (l : List (Int × Int)) : Prop:=(∀ x,x ∈ l→FitP P x)∧∀ p,0≤p→p < P→cntL l p=1
theorem laid2_iff {P : Int} {l : List (Int × Int)} : Laid2 P l↔LaidTo P l l.length∧CoverTo P l l.length:=by
 rw [← laid_iff]
 constructor
 ·rintro ⟨h1,h2⟩
  exact ⟨fun i hi=>h1 _ (ixMem hi),fun p h0 hP=>by rw [cntTo_all]; exact h2 p h0 hP⟩
 ·rintro ⟨h1,h2⟩
  exact ⟨fun x hx=>by obtain ⟨i,hi,e⟩:=ofMem (d:=((0,0) : Int × Int)) hx; rw [← e]; exact h1 i hi,fun p h0 hP=>by rw [← cntTo_all]; exact h2 p h0 hP⟩
def fR (x : RunD) : Int × Int:=(x.at_,x.n)
def fH (x : HandD) : Int × Int:=(x.at_,x.n)
def fS (x : HoldD) : Int × Int:=(x.page,x.pages)
theorem pcs_eq (m : ModelD) : pcs m=m.free.map fR ++ (m.hands.map fH ++ m.spans.map fS):=rfl
theorem cnt_pcs (m : ModelD) (p : Int) : cntL (pcs m) p=cntL (m.free.map fR) p + (cntL (m.hands.map fH) p + cntL (m.spans.map fS) p):=by rw [pcs_eq,cntL_app,cntL_app]
/-- A model that may be, by lists. -/
structure May2 (m : ModelD) : Prop where
 pages : 1≤m.pages∧m.pages≤4096
 laid : Laid2 m.pages (pcs m)
 free : m.free.Pairwise fun a b=>a.at_ + a.n < b.at_
 handT : ∀ x,x ∈ m.hands→ThreadP x.t
 hand : m.hands.Pairwise fun a b=>a.at_ < b.at_
 spanO : ∀ x,x ∈ m.spans→HoldOk x
 span : m.spans.Pairwise fun a b=>a.page < b.page
 goneP : ∀ p,p ∈ m.gone→0≤p∧p < m.pages
 gone : m.gone.Pairwise fun a b=>a < b
 apart : ∀ p,p ∈ m.gone→∀ x,x ∈ m.spans→¬ InP (fS x) p
theorem pw_rises {α : Type} {d : α} {l : List α} {K : α→Int} : (l.Pairwise fun a b=>K a < K b)↔Rises d l K:=by
 rw [List.pairwise_iff_getElem]
 constructor
 ·intro h i j hij hj
  have:=h i j (by omega) hj hij
  rw [ix_lt hj,ix_lt (by omega)]
  exact this
 ·intro h i j hi hj hij
  have:=h i j hij hj
  rwa [ix_lt hj,ix_lt hi] at this
theorem may2_iff {m : ModelD} : MayS HoldOk m↔May2 m:=by
 constructor
 ·intro h
  have hl:=laid2_iff.2 ⟨h.laid,h.cover⟩
  have hf : ∀ x,x ∈ m.free→FitP m.pages (fR x):=fun x hx=>hl.1 _ (by rw [pcs_eq]; exact List.mem_append_left _ (List.mem_map_of_mem hx))
  refine ⟨h.pages,hl,?_,?_,pw_rises.2 (rises_step (d:=noHand) (K:=fun x=>x.at_) fun i hi h0=>(h.hand i hi).2 h0),?_,pw_rises.2 (rises_step (d:=noHold) (K:=fun x=>x.page) fun i hi h0=>(h.span i hi).2 h0),?_,pw_rises.2 (rises_step (d:=(0 : Int)) (K:=id) fun i hi h0=>(h.gone i hi).2 h0),?_⟩
  ·have hr : Rises noRun m.free runK:=rises_step fun i hi h0=>by
    have h1:=h.free i hi h0
    have h2:=(hf _ (ixMem (d:=noRun) (show i - 1 < m.free.length by omega))).2.1
    unfold runK
    unfold fR at h2
    dsimp only at h2
    omega
   rw [List.pairwise_iff_getElem]
   intro i j hi hj hij
   have h1:=h.free j hj (by omega)
   rw [ix_lt hj,ix_lt (show j - 1 < m.free.length by omega)] at h1
   by_cases e : i=j - 1
   ·subst e; exact h1
   ·have h2:=h.free (i + 1) (by omega) (by omega)
    rw [Nat.add_sub_cancel,ix_lt hi,ix_lt (show i + 1 < m.free.length by omega)] at h2
    have h3 : (m.free[i + 1]'(by omega)).at_≤(m.free[j]).at_:=by
     by_cases e2 : i + 1=j
     ·subst e2; exact Int.le_refl _
     ·have:=hr (i + 1) j (by omega) hj
      rw [ix_lt hj,ix_lt (show i + 1 < m.free.length by omega)] at this
      unfold runK at this
      omega
    omega
  ·intro x hx
   obtain ⟨i,hi,e⟩:=ofMem (d:=noHand) hx
   rw [← e]; exact (h.hand i hi).1
  ·intro x hx
   obtain ⟨i,hi,e⟩:=ofMem (d:=noHold) hx
   rw [← e]; exact (h.span i hi).1
  ·intro p hp
   obtain ⟨i,hi,e⟩:=ofMem (d:=(0 : Int)) hp
   rw [← e]; exact (h.gone i hi).1
  ·intro p hp x hx
   obtain ⟨i,hi,e⟩:=ofMem (d:=(0 : Int)) hp
   obtain ⟨j,hj,e2⟩:=ofMem (d:=noHold) hx
   rw [← e,← e2]; exact h.apart i hi j hj
 ·intro h
  have hl:=laid2_iff.1 h.laid
  refine ⟨h.pages,hl.1,hl.2,fun i hi h0=>?_,fun i hi=>⟨h.handT _ (ixMem hi),fun h0=>?_⟩,fun i hi=>⟨h.spanO _ (ixMem hi),fun h0=>?_⟩,fun i hi=>⟨h.goneP _ (ixMem hi),fun h0=>?_⟩,fun i hi j hj=>h.apart _ (ixMem hi) _ (ixMem hj)⟩
  ·have:=(List.pairwise_iff_getElem.1 h.free) (i - 1) i (by omega) hi (by omega)
   rwa [ix_lt hi,ix_lt (show i - 1 < m.free.length by omega)]
  ·exact (pw_rises (d:=noHand) (K:=fun x=>x.at_)).1 h.hand (i - 1) i (by omega) hi
  ·exact (pw_rises (d:=noHold) (K:=fun x=>x.page)).1 h.span (i - 1) i (by omega) hi
  ·exact (pw_rises (d:=(0 : Int)) (K:=id)).1 h.gone (i - 1) i (by omega) hi
theorem cut_one {α : Type} {d : α} {l : List α} {i : Nat} (hi : i < l.length) : ∃ A B,l=A ++ ix d l i :: B∧A.length=i∧∀ vs,cutIn l i (i + 1) vs=A ++ (vs ++ B) :=
 ⟨l.take i,l.drop (i + 1),by rw [ix_lt hi,List.getElem_cons_drop,List.take_append_drop],by simp; omega,fun vs=>rfl⟩
theorem cut_none {α : Type} {l : List α} {i : Nat} (hi : i≤l.length) : ∃ A B,l=A ++ B∧A.length=i∧∀ vs,cutIn l i i vs=A ++ (vs ++ B) :=
 ⟨l.take i,l.drop i,by rw [List.take_append_drop],by simp; omega,fun vs=>rfl⟩
/-- Where a piece is put, by lists. -/
theorem place_sides {α : Type} {d : α} {K : α→Int} {l A C : List α} {i : Nat} {p : Int} (e : l=A ++ C) (hA : A.length=i) (h1 : ∀ k,k < i→K (ix d l k) < p) (h2 : ∀ k,i≤k→k < l.length→p≤K (ix d l k)) : (∀ a,a ∈ A→K a < p)∧∀ c,c ∈ C→p≤K c:=by
 subst e
 constructor
 ·intro a ha
  obtain ⟨k,hk,e⟩:=List.getElem_of_mem ha
  have:=h1 k (by omega)
  rw [ix_lt (by rw [List.length_append]; omega),List.getElem_append_left hk,e] at this
  exact this
 ·intro c hc
  obtain ⟨k,hk,e⟩:=List.getElem_of_mem hc
  have:=h2 (A.length + k) (by omega) (by rw [List.length_append]; omega)
  rw [ix_lt (by rw [List.length_append]; omega),List.getElem_append_right (by omega)] at this
  simp only [Nat.add_sub_cancel_left,e] at this
  exact this
/-- Two pieces that begin one behind the other's beginning, and have no page in common. -/
theorem apart_le {a b : Int × Int} {P : Int} (ha : FitP P a) (hb : FitP P b) (hab : a.1≤b.1) (h : ∀ p,InP a p→¬ InP b p) : a.1 + a.2≤b.1:=by
 apply Classical.byContradiction
 intro hc
 have:=h b.1 ⟨hab,by omega⟩
 exact this hb.inP
theorem free_hand {m : ModelD} (h : May2 m) {r : RunD} {x : HandD} (hr : r ∈ m.free) (hx : x ∈ m.hands) (p : Int) (h1 : InP (fR r) p) : ¬ InP (fH x) p:=fun h2=>by
 have hf:=h.laid.1 (fR r) (by rw [pcs_eq]; exact List.mem_append_left _ (List.mem_map_of_mem hr))
 obtain ⟨q0,q1⟩:=hf.lt h1
 have h3:=h.laid.2 p q0 q1
 have h4:=cntL_pos (List.mem_map_of_mem (f:=fR) hr) h1
 have h5:=cntL_pos (List.mem_map_of_mem (f:=fH) hx) h2
 rw [cnt_pcs] at h3
 omega
theorem fit_free {m : ModelD} (h : May2 m) {r : RunD} (hr : r ∈ m.free) : FitP m.pages (fR r):=h.laid.1 _ (by rw [pcs_eq]; exact List.mem_append_left _ (List.mem_map_of_mem hr))
theorem fit_hand {m : ModelD} (h : May2 m) {r : HandD} (hr : r ∈ m.hands) : FitP m.pages (fH r):=h.laid.1 _ (by rw [pcs_eq]; exact List.mem_append_right _ (List.mem_append_left _ (List.mem_map_of_mem hr)))
theorem fit_span {m : ModelD} (h : May2 m) {r : HoldD} (hr : r ∈ m.spans) : FitP m.pages (fS r):=h.laid.1 _ (by rw [pcs_eq]; exact List.mem_append_right _ (List.mem_append_right _ (List.mem_map_of_mem hr)))
theorem laid_of {P : Int} {m : ModelD} (h1 : ∀ r,r ∈ m.free→FitP P (fR r)) (h2 : ∀ r,r ∈ m.hands→FitP P (fH r)) (h3 : ∀ r,r ∈ m.spans→FitP P (fS r)) (hc : ∀ p,0≤p→p < P→cntL (m.free.map fR) p + (cntL (m.hands.map fH) p + cntL (m.spans.map fS) p)=1) : Laid2 P (pcs m):=by
 refine ⟨fun x hx=>?_,fun p h0 hP=>by rw [cnt_pcs]; exact hc p h0 hP⟩
 rw [pcs_eq,List.mem_append,List.mem_append,List.mem_map,List.mem_map,List.mem_map] at hx
 rcases hx with ⟨r,hr,rfl⟩ | ⟨r,hr,rfl⟩ | ⟨r,hr,rfl⟩
 ·exact h1 r hr
 ·exact h2 r hr
 ·exact h3 r hr
theorem count_of {m : ModelD} (h : May2 m) (p : Int) (h0 : 0≤p) (hP : p < m.pages) : cntL (m.free.map fR) p + (cntL (m.hands.map fH) p + cntL (m.spans.map fS) p)=1:=by rw [← cnt_pcs]; exact h.laid.2 p h0 hP
theorem one_if (x : Int × Int) (p : Int) : one x p=if x.1≤p∧p < x.1 + x.2 then 1 else 0:=by
 by_cases h : InP x p
 ·rw [one_in h]; exact (if_pos h).symm
 ·rw [one_out h]; exact (if_neg h).symm
theorem cnt_left {r : RunD} {x : MarkD} (h : FitG r x) (p : Int) : cntL ((leftR r x).map fR) p + one (x.page,x.n) p=one (fR r) p:=by
 obtain ⟨h1,h2,h3,h4⟩:=h
 unfold leftR leftA leftB
 by_cases c1 : 0 < x.page - r.at_ <;> by_cases c2 : 0 < r.at_ + r.n - x.page - x.n
 all_goals
  simp only [c1,c2,if_true,if_false,List.map_append,List.map_cons,List.map_nil,List.append_nil,List.nil_append,cntL_app,cntL_cons,cntL_nil,one_if,fR]
  repeat' split
  all_goals omega
theorem mem_left {r : RunD} {x : MarkD} {y : RunD} (h : y ∈ leftR r x) : (y.at_=r.at_∧y.n=x.page - r.at_∧0 < y.n)∨(y.at_=x.page + x.n∧y.n=r.at_ + r.n - x.page - x.n∧0 < y.n):=by
 unfold leftR leftA leftB at h
 rw [List.mem_append] at h
 rcases h with h | h
 ·split at h
  ·rw [List.mem_singleton] at h
   subst h
   exact .inl ⟨rfl,rfl,by assumption⟩
  ·cases h
 ·split at h
  ·rw [List.mem_singleton] at h
   subst h
   exact .inr ⟨rfl,rfl,by assumption⟩
  ·cases h
theorem left_pw {r : RunD} {x : MarkD} (h : FitG r x) : (leftR r x).Pairwise fun a b=>a.at_ + a.n < b.at_:=by
 obtain ⟨h1,h2,h3,h4⟩:=h
 unfold leftR leftA leftB
 by_cases c1 : 0 < x.page - r.at_ <;> by_cases c2 : 0 < r.at_ + r.n - x.page - x.n
 all_goals
  simp only [c1,c2,if_true,if_false,List.nil_append,List.append_nil,List.cons_append,List.pairwise_cons,List.Pairwise.nil,List.mem_cons,List.not_mem_nil,or_false,and_true,false_implies,implies_true,forall_eq,forall_const]
  try omega
/-- A hand is put in its place. -/
theorem hand_put {l C D : List HandD} {y : HandD} (e : l=C ++ D) (hw : l.Pairwise fun a b=>a.at_ < b.at_) (h1 : ∀ a,a ∈ C→a.at_ < y.at_) (h2 : ∀ a,a ∈ D→y.at_≤a.at_) (hne : ∀ a,a ∈ l→a.at_≠y.at_) : (C ++ ([y] ++ D)).Pairwise fun a b=>a.at_ < b.at_:=by
 subst e
 rw [List.pairwise_append] at hw ⊢
 refine ⟨hw.1,?_,?_⟩
 ·rw [List.singleton_append,List.pairwise_cons]
  exact ⟨fun a ha=>by have:=h2 a ha; have:=hne a (List.mem_append_right _ ha); omega,hw.2.1⟩
 ·intro a ha b hb
  rw [List.singleton_append,List.mem_cons] at hb
  rcases hb with rfl | hb
  ·exact h1 a ha
  ·exact hw.2.2 a ha b hb
theorem pw_drop {α : Type} {R : α→α→Prop} {A B : List α} {r : α} (h : (A ++ r :: B).Pairwise R) : (A ++ ([] ++ B)).Pairwise R:=by
 rw [List.nil_append]
 rw [List.pairwise_append,List.pairwise_cons] at h
 rw [List.pairwise_append]
 exact ⟨h.1,h.2.1.2,fun a ha b hb=>h.2.2 a ha b (List.mem_cons_of_mem _ hb)⟩
theorem get_law {m m' : ModelD} {x : MarkD} (h : May2 m) (ht : ThreadP x.thread) (hr : GetR m x m') : May2 m'∧m'.pages=m.pages:=by
 obtain ⟨i,k,hi,hfit,_,hpl,rfl⟩:=hr
 obtain ⟨A,B,eF,hA,cF⟩:=cut_one (d:=noRun) hi
 obtain ⟨C,D,eH,hC,cH⟩:=cut_none hpl.1
 obtain ⟨s1,s2⟩:=place_sides eH hC hpl.2.1 hpl.2.2
 obtain ⟨r,er⟩ : ∃ r,ix noRun m.free i=r:=⟨_,rfl⟩
 have hrm : r ∈ m.free:=er▸ixMem hi
 rw [er] at eF hfit ⊢
 rw [cF,cH]
 have hfr:=fit_free h hrm
 obtain ⟨f1,f2,f3,f4⟩:=hfit
 obtain ⟨p1,p2,p3,p4⟩:=hfr
 unfold fR at p1 p2 p3 p4
 dsimp only at p1 p2 p3 p4
 have hpg:=h.pages
 have hw:=h.free
 rw [eF,List.pairwise_append,List.pairwise_cons] at hw
 refine ⟨⟨h.pages,laid_of ?_ ?_ (fun s hs=>fit_span h hs) ?_,?_,?_,?_,h.spanO,h.span,h.goneP,h.gone,h.apart⟩,rfl⟩
 ·intro y hy
  rw [List.mem_append,List.mem_append] at hy
  rcases hy with hy | hy | hy
  ·exact fit_free h (eF▸List.mem_append_left _ hy)
  ·unfold FitP fR
   dsimp only
   rcases mem_left hy with ⟨a,b,c⟩ | ⟨a,b,c⟩ <;> omega
  ·exact fit_free h (eF▸List.mem_append_right _ (List.mem_cons_of_mem _ hy))
 ·intro y hy
  rw [List.mem_append,List.mem_append,List.mem_singleton] at hy
  rcases hy with hy | rfl | hy
  ·exact fit_hand h (eH▸List.mem_append_left _ hy)
  ·unfold FitP fH
   dsimp only
   omega
  ·exact fit_hand h (eH▸List.mem_append_right _ hy)
 ·intro p h0 hP
  have hc:=count_of h p h0 hP
  have hl:=cnt_left ⟨f1,f2,f3,f4⟩ p
  rw [eF,eH] at hc
  simp only [List.map_append,List.map_cons,List.map_nil,cntL_app,cntL_cons,cntL_nil] at hc hl ⊢
  have e1 : fH ⟨x.thread,x.page,x.n⟩=(x.page,x.n):=rfl
  rw [e1]
  omega
 ·rw [List.pairwise_append,List.pairwise_append]
  refine ⟨hw.1,⟨left_pw ⟨f1,f2,f3,f4⟩,hw.2.1.2,fun a ha b hb=>?_⟩,fun a ha b hb=>?_⟩
  ·have h1:=hw.2.1.1 b hb
   rcases mem_left ha with ⟨q1,q2,q3⟩ | ⟨q1,q2,q3⟩ <;> omega
  ·rw [List.mem_append] at hb
   have h2:=hw.2.2 a ha r (List.mem_cons_self ..)
   rcases hb with hb | hb
   ·rcases mem_left hb with ⟨q1,q2,q3⟩ | ⟨q1,q2,q3⟩ <;> omega
   ·exact hw.2.2 a ha b (List.mem_cons_of_mem _ hb)
 ·intro y hy
  rw [List.mem_append,List.mem_append,List.mem_singleton] at hy
  rcases hy with hy | rfl | hy
  ·exact h.handT _ (eH▸List.mem_append_left _ hy)
  ·exact ht
  ·exact h.handT _ (eH▸List.mem_append_right _ hy)
 ·refine hand_put eH h.hand s1 s2 fun a ha e=>?_
  have hpr : InP (fR r) x.page:=⟨f1,by unfold fR; dsimp only; omega⟩
  refine free_hand h hrm ha x.page hpr ?_
  have:=(fit_hand h ha).inP
  dsimp only at e
  rw [show (fH a).1=x.page from e] at this
  exact this
/-- One hand is taken away: what is left of the hands, and where it lay. -/
theorem hand_out {m : ModelD} (h : May2 m) {j : Nat} (hj : j < m.hands.length) : ∃ C D,m.hands=C ++ ix noHand m.hands j :: D∧cutIn m.hands j (j + 1) []=C ++ ([] ++ D)∧(∀ y,y ∈ C ++ ([] ++ D)→y ∈ m.hands)∧(C ++ ([] ++ D)).Pairwise (fun (a b : HandD)=>a.at_ < b.at_):=by
 obtain ⟨C,D,e,_,c⟩:=cut_one (d:=noHand) hj
 refine ⟨C,D,e,c [],fun y hy=>?_,pw_drop (by rw [← e]; exact h.hand)⟩
 rw [List.nil_append,List.mem_append] at hy
 rw [e,List.mem_append]
 rcases hy with hy | hy
 ·exact .inl hy
 ·exact .inr (List.mem_cons_of_mem _ hy)
theorem lay_law {m m' : ModelD} {x : MarkD} (h : May2 m) (ht : ThreadP x.thread) (hr : LayR m x m') : May2 m'∧m'.pages=m.pages:=by
 obtain ⟨j,k,hj,hp,hc,hpl,rfl⟩:=hr
 obtain ⟨C,D,eH,cH,hsub,hpw⟩:=hand_out h hj
 obtain ⟨A,B,eS,hA,cS⟩:=cut_none hpl.1
 obtain ⟨s1,s2⟩:=place_sides eS hA hpl.2.1 hpl.2.2
 obtain ⟨y,ey⟩ : ∃ y,ix noHand m.hands j=y:=⟨_,rfl⟩
 have hym : y ∈ m.hands:=ey▸ixMem hj
 unfold HandP at hp
 rw [ey] at eH hc hp s1 s2 ⊢
 rw [cH,cS]
 obtain ⟨⟨n0,n14⟩,⟨hn,hm⟩,hg⟩:=hc
 have hfy:=fit_hand h hym
 have hcnt : ∀ p,0≤p→p < m.pages→InP (fH y) p→cntL (m.spans.map fS) p=0:=fun p q0 q1 hin=>by
  have:=count_of h p q0 q1
  have:=cntL_pos (List.mem_map_of_mem (f:=fH) hym) hin
  omega
 have hsp : ∀ s,s ∈ m.spans→s.page≠y.at_:=fun s hs e=>by
  have h1:=hfy.inP
  obtain ⟨q0,q1⟩:=hfy.lt h1
  have h2:=hcnt _ q0 q1 h1
  have h3:=(fit_span h hs).inP
  rw [show (fS s).1=(fH y).1 from e] at h3
  have:=cntL_pos (List.mem_map_of_mem (f:=fS) hs) h3
  omega
 have hok : HoldOk (layHold x y):=by
  unfold HoldOk layHold layA
  dsimp only
  refine ⟨⟨n0,n14,.inr ht,.inl rfl⟩,hn,?_,?_⟩
  ·split
   ·rename_i e
    rw [e]
    have : slN 14=1:=by decide
    rw [this]
    decide
   ·exact Nat.zero_le _
  ·rw [show ((0 : Nat) : Int)=((0 : Nat) : Int) from rfl,u64_andNot_nat 0 _ (by decide) (by split <;> decide)]
   simp
 have hmem : ∀ s,s ∈ A ++ ([layHold x y] ++ B)→s=layHold x y∨s ∈ m.spans:=fun s hs=>by
  rw [List.mem_append,List.mem_append,List.mem_singleton] at hs
  rw [eS,List.mem_append]
  rcases hs with hs | hs | hs
  ·exact .inr (.inl hs)
  ·exact .inl hs
  ·exact .inr (.inr hs)
 refine ⟨⟨h.pages,laid_of (fun r hr=>fit_free h hr) (fun r hr=>fit_hand h (hsub r hr)) ?_ ?_,h.free,fun y hy=>h.handT _ (hsub y hy),hpw,?_,?_,h.goneP,h.gone,?_⟩,rfl⟩
 ·intro s hs
  rcases hmem s hs with rfl | hs
  ·exact hfy
  ·exact fit_span h hs
 ·intro p h0 hP
  have hc:=count_of h p h0 hP
  rw [eH,eS] at hc
  simp only [List.map_append,List.map_cons,List.map_nil,cntL_app,cntL_cons,cntL_nil] at hc ⊢
  have e1 : fS (layHold x y)=fH y:=rfl
  rw [e1]
  omega
 ·intro s hs
  rcases hmem s hs with rfl | hs
  ·exact hok
  ·exact h.spanO s hs
 ·have hw:=h.span
  rw [eS,List.pairwise_append] at hw
  rw [List.pairwise_append]
  refine ⟨hw.1,?_,fun a ha b hb=>?_⟩
  ·rw [List.singleton_append,List.pairwise_cons]
   refine ⟨fun b hb=>?_,hw.2.1⟩
   have h1:=s2 b hb
   have h2:=hsp b (eS▸List.mem_append_right _ hb)
   unfold pageK at h1
   show y.at_ < b.page
   omega
  ·rw [List.singleton_append,List.mem_cons] at hb
   rcases hb with rfl | hb
   ·exact s1 a ha
   ·exact hw.2.2 a ha b hb
 ·intro p hp s hs
  rcases hmem s hs with rfl | hs
  ·obtain ⟨i,hi,e⟩:=ofMem (d:=(0 : Int)) hp
   rw [← e]
   exact hg i hi
  ·exact h.apart p hp s hs
theorem drop_law {m m' : ModelD} {x : MarkD} (h : May2 m) (ht : ThreadP x.thread) (hr : DropR m x m') : May2 m'∧m'.pages=m.pages:=by
 obtain ⟨i,k,hi,hpg,hc,hpl,rfl⟩:=hr
 obtain ⟨A,E,eS,hA,cS⟩:=cut_one (d:=noHold) hi
 obtain ⟨C,D,eH,hC,cH⟩:=cut_none hpl.1
 obtain ⟨s1,s2⟩:=place_sides eH hC hpl.2.1 hpl.2.2
 obtain ⟨y,ey⟩ : ∃ y,ix noHold m.spans i=y:=⟨_,rfl⟩
 have hym : y ∈ m.spans:=ey▸ixMem hi
 rw [ey] at eS hc hpg
 have hst : stayL (fun z : HoldD=>z.page=x.page) m.spans=A ++ ([] ++ E):=by
  have hw:=h.span
  rw [eS,List.pairwise_append,List.pairwise_cons] at hw
  unfold stayL
  rw [eS,List.filter_append,List.filter_cons,List.nil_append]
  have ha : A.filter (fun z=>!B (z.page=x.page))=A:=List.filter_eq_self.2 fun z hz=>by
   have:=hw.2.2 z hz y (List.mem_cons_self ..)
   rw [B_no (by omega)]; rfl
  have hb : E.filter (fun z=>!B (z.page=x.page))=E:=List.filter_eq_self.2 fun z hz=>by
   have:=hw.2.1.1 z hz
   rw [B_no (by omega)]; rfl
  dsimp only
  rw [ha,hb,B_yes hpg]
  rfl
 rw [hst,cH]
 have hsub : ∀ s,s ∈ A ++ ([] ++ E)→s ∈ m.spans:=fun s hs=>by
  rw [List.nil_append,List.mem_append] at hs
  rw [eS,List.mem_append]
  rcases hs with hs | hs
  ·exact .inl hs
  ·exact .inr (List.mem_cons_of_mem _ hs)
 have hfy:=fit_span h hym
 have e1 : fH ⟨x.thread,x.page,x.n⟩=fS y:=by unfold fH fS; rw [hpg,hc.2.2.2.2]
 have hmem : ∀ s,s ∈ C ++ ([(⟨x.thread,x.page,x.n⟩ : HandD)] ++ D)→s=⟨x.thread,x.page,x.n⟩∨s ∈ m.hands:=fun s hs=>by
  rw [List.mem_append,List.mem_append,List.mem_singleton] at hs
  rw [eH,List.mem_append]
  rcases hs with hs | hs | hs
  ·exact .inr (.inl hs)
  ·exact .inl hs
  ·exact .inr (.inr hs)
 refine ⟨⟨h.pages,laid_of (fun r hr=>fit_free h hr) ?_ (fun r hr=>fit_span h (hsub r hr)) ?_,h.free,?_,?_,fun s hs=>h.spanO _ (hsub s hs),pw_drop (by rw [← eS]; exact h.span),h.goneP,h.gone,fun p hp s hs=>h.apart p hp s (hsub s hs)⟩,rfl⟩
 ·intro s hs
  rcases hmem s hs with rfl | hs
  ·rw [e1]; exact hfy
  ·exact fit_hand h hs
 ·intro p h0 hP
  have hc:=count_of h p h0 hP
  rw [eH,eS] at hc
  simp only [List.map_append,List.map_cons,List.map_nil,cntL_app,cntL_cons,cntL_nil] at hc ⊢
  rw [e1]
  omega
 ·intro s hs
  rcases hmem s hs with rfl | hs
  ·exact ht
  ·exact h.handT s hs
 ·refine hand_put eH h.hand s1 s2 fun a ha e=>?_
  have h1:=hfy.inP
  obtain ⟨q0,q1⟩:=hfy.lt h1
  have h2:=count_of h _ q0 q1
  have h3:=(fit_hand h ha).inP
  rw [show (fH a).1=(fS y).1 from e.trans hpg.symm] at h3
  have:=cntL_pos (List.mem_map_of_mem (f:=fH) ha) h3
  have:=cntL_pos (List.mem_map_of_mem (f:=fS) hym) h1
  omega
end Go.Proofs.YtoolenhnhlfhmaaGreatDoor
