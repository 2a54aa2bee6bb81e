/- The model in plain words: back, commit, release, cycle, turns. The model in plain words: turns; what is accepted may be again. -/
import Derived.Test.YtoolenhnhlfhmaaGreatDoorGO
namespace Go.Proofs.YtoolenhnhlfhmaaGreatDoor
open Go.RowKit Go.Sort
set_option linter.unusedVariables false
set_option linter.unusedSimpArgs false
theorem join_lo {l : List RunD} {k : Nat} {x : MarkD} (hk : k≤l.length) (hw : l.Pairwise fun a b=>a.at_ + a.n < b.at_) (hf : ∀ r,r ∈ l→0≤r.at_∧1≤r.n) (ha : ∀ a,a ∈ l.take k→a.at_ + a.n≤x.page) (h0 : 0≤x.page) :
  ∃ A M lo nlo,l.take k=A ++ M∧l.take (backFrom l k x)=A∧(if B (JoinLo l k x) then (ix noRun l (k - 1)).at_ else x.page)=lo∧(if B (JoinLo l k x) then (ix noRun l (k - 1)).n else 0)=nlo∧lo + nlo=x.page∧0≤nlo∧0≤lo∧(∀ a,a ∈ A→a.at_ + a.n < lo) ∧
   ∀ p,cntL (M.map fR) p=if lo≤p∧p < x.page then 1 else 0:=by
 unfold backFrom
 by_cases hj : JoinLo l k x
 ·rw [B_yes hj]
  obtain ⟨k0,he⟩:=hj
  have hlt : k - 1 < l.length:=by omega
  have e : l.take k=l.take (k - 1) ++ [ix noRun l (k - 1)]:=by
   rw [ix_lt hlt]
   conv=>lhs; rw [show k=k - 1 + 1 by omega,List.take_succ_eq_append_getElem hlt]
  have hr:=hf _ (ixMem (d:=noRun) hlt)
  refine ⟨l.take (k - 1),[ix noRun l (k - 1)],_,_,e,rfl,rfl,rfl,by simpa using he,by simp; omega,by simp; omega,fun a h=>?_,fun p=>?_⟩
  ·simp only [if_true]
   have hw2:=hw.sublist (List.take_sublist k l)
   rw [e,List.pairwise_append] at hw2
   exact hw2.2.2 a h _ (List.mem_singleton.2 rfl)
  ·simp only [if_true,List.map_cons,List.map_nil,cntL_cons,cntL_nil,one_if,fR,Nat.add_zero]
   rw [he]
 ·rw [B_no hj]
  refine ⟨l.take k,[],_,_,(List.append_nil _).symm,rfl,rfl,rfl,by simp,by simp,by simpa using h0,fun a h=>?_,fun p=>?_⟩
  ·simp only [Bool.false_eq_true,if_false]
   have h1:=ha a h
   by_cases e : a.at_ + a.n=x.page
   ·exfalso
    obtain ⟨i,hi,ei⟩:=List.getElem_of_mem h
    have hi2 : i < k:=by simp at hi; omega
    have hi3 : i < l.length:=by simp at hi; omega
    rw [List.getElem_take] at ei
    have hlt : k - 1 < l.length:=by omega
    by_cases e2 : i=k - 1
    ·exact hj ⟨by omega,by rw [ix_lt hlt]; subst e2; rw [ei]; exact e⟩
    ·have h2:=List.pairwise_iff_getElem.1 hw i (k - 1) hi3 hlt (by omega)
     rw [ei] at h2
     have hm : l[k - 1] ∈ l.take k:=by
      rw [List.mem_take_iff_getElem]
      exact ⟨k - 1,by omega,rfl⟩
     have h3:=ha _ hm
     have h4:=hf _ (List.getElem_mem hlt)
     omega
   ·omega
  ·simp only [Bool.false_eq_true,if_false,List.map_nil,cntL_nil]
   rw [if_neg (by omega)]
theorem join_hi {l : List RunD} {k : Nat} {x : MarkD} {P : Int} (hk : k≤l.length) (hw : l.Pairwise fun a b=>a.at_ + a.n < b.at_) (hf : ∀ r,r ∈ l→1≤r.n∧r.at_ + r.n≤P) (ha : ∀ a,a ∈ l.drop k→x.page + x.n≤a.at_) (hP : x.page + x.n≤P) :
  ∃ M E nhi,l.drop k=M ++ E∧l.drop (backTo l k x)=E∧(if B (JoinHi l k x) then (ix noRun l k).n else 0)=nhi∧0≤nhi∧x.page + x.n + nhi≤P∧(∀ a,a ∈ E→x.page + x.n + nhi < a.at_) ∧
   ∀ p,cntL (M.map fR) p=if x.page + x.n≤p∧p < x.page + x.n + nhi then 1 else 0:=by
 unfold backTo
 by_cases hj : JoinHi l k x
 ·rw [B_yes hj]
  obtain ⟨hlt,he⟩:=hj
  have e : l.drop k=[ix noRun l k] ++ l.drop (k + 1):=by
   rw [ix_lt hlt,List.singleton_append,List.getElem_cons_drop]
  have hr:=hf _ (ixMem (d:=noRun) hlt)
  refine ⟨[ix noRun l k],l.drop (k + 1),_,e,rfl,rfl,by simp; omega,by simp; omega,fun a h=>?_,fun p=>?_⟩
  ·simp only [if_true]
   have hw2:=hw.sublist (List.drop_sublist k l)
   rw [e,List.singleton_append,List.pairwise_cons] at hw2
   have:=hw2.1 a h
   omega
  ·simp only [if_true,List.map_cons,List.map_nil,cntL_cons,cntL_nil,one_if,fR,Nat.add_zero]
   rw [he]
 ·rw [B_no hj]
  refine ⟨[],l.drop k,_,(List.nil_append _).symm,rfl,rfl,by simp,by simpa using hP,fun a h=>?_,fun p=>?_⟩
  ·simp only [Bool.false_eq_true,if_false]
   have h1:=ha a h
   by_cases e : x.page + x.n=a.at_
   ·exfalso
    obtain ⟨i,hi,ei⟩:=List.getElem_of_mem h
    have hi3 : k + i < l.length:=by simp at hi; omega
    rw [List.getElem_drop] at ei
    have hlt : k < l.length:=by omega
    by_cases e2 : i=0
    ·subst e2
     exact hj ⟨hlt,by rw [ix_lt hlt]; rw [show l[k]=a from ei]; exact e⟩
    ·have h2:=List.pairwise_iff_getElem.1 hw k (k + i) hlt hi3 (by omega)
     rw [ei] at h2
     have hm : l[k] ∈ l.drop k:=by
      rw [List.mem_drop_iff_getElem]
      exact ⟨0,by omega,rfl⟩
     have h3:=ha _ hm
     have h4:=hf _ (List.getElem_mem hlt)
     omega
   ·omega
  ·simp only [Bool.false_eq_true,if_false,List.map_nil,cntL_nil]
   rw [if_neg (by omega)]
theorem back_law {m m' : ModelD} {x : MarkD} (h : May2 m) (hr : BackR m x m') : May2 m'∧m'.pages=m.pages:=by
 obtain ⟨j,k,hj,hp,hn,hpl,rfl⟩:=hr
 obtain ⟨C,D,eH,cH,hsub,hpw⟩:=hand_out h hj
 obtain ⟨y,ey⟩ : ∃ y,ix noHand m.hands j=y:=⟨_,rfl⟩
 have hym : y ∈ m.hands:=ey▸ixMem hj
 unfold HandP at hp
 rw [ey] at eH hp hn
 rw [cH]
 obtain ⟨y1,y2,y3,y4⟩:=fit_hand h hym
 unfold fH at y1 y2 y3 y4
 dsimp only at y1 y2 y3 y4
 obtain ⟨ht,hat⟩:=hp
 have esp : m.free=m.free.take k ++ m.free.drop k:=(List.take_append_drop k m.free).symm
 obtain ⟨s1,s2⟩:=place_sides esp (by rw [List.length_take]; exact Nat.min_eq_left hpl.1) hpl.2.1 hpl.2.2
 have hff : ∀ r,r ∈ m.free→0≤r.at_∧1≤r.n∧r.at_ + r.n≤m.pages:=fun r hr=>by
  obtain ⟨a,b,c,d⟩:=fit_free h hr
  unfold fR at a b c d
  dsimp only at a b c d
  omega
 obtain ⟨A,M1,lo,nlo,e1,e2,e3,e4,q1,q2,q3,q4,q5⟩:=join_lo (x:=x) hpl.1 h.free (fun r hr=>⟨(hff r hr).1,(hff r hr).2.1⟩) (fun a ha=>by
  have hm:=List.mem_of_mem_take ha
  have:=apart_le (fit_free h hm) (fit_hand h hym) (by have:=s1 a ha; unfold runK at this; unfold fR fH; dsimp only; omega) (free_hand h hm hym)
  unfold fR fH at this
  dsimp only at this
  omega) (by omega)
 obtain ⟨M2,E,nhi,t1,t2,t3,t4,t5,t6,t7⟩:=join_hi (x:=x) (P:=m.pages) hpl.1 h.free (fun r hr=>(hff r hr).2) (fun a ha=>by
  have hm:=List.mem_of_mem_drop ha
  have:=apart_le (fit_hand h hym) (fit_free h hm) (by have:=s2 a ha; unfold runK at this; unfold fR fH; dsimp only; omega) (fun p a b=>free_hand h hm hym p b a)
  unfold fR fH at this
  dsimp only at this
  omega) (by omega)
 have ec : cutIn m.free (backFrom m.free k x) (backTo m.free k x) [backRun m.free k x]=A ++ ([⟨lo,x.n + nlo + nhi⟩] ++ E):=by
  unfold cutIn backRun
  rw [e2,t2,e3,e4,t3]
 rw [ec]
 have hw:=h.free
 rw [esp,e1,t1] at hw
 have hA : ∀ a,a ∈ A→a ∈ m.free:=fun a ha=>by rw [esp,e1]; exact List.mem_append_left _ (List.mem_append_left _ ha)
 have hE : ∀ a,a ∈ E→a ∈ m.free:=fun a ha=>by rw [esp,t1]; exact List.mem_append_right _ (List.mem_append_right _ ha)
 refine ⟨⟨h.pages,laid_of ?_ (fun r hr=>fit_hand h (hsub r hr)) (fun s hs=>fit_span h hs) ?_,?_,fun z hz=>h.handT _ (hsub z hz),hpw,h.spanO,h.span,h.goneP,h.gone,h.apart⟩,rfl⟩
 ·intro r hr
  rw [List.mem_append,List.mem_append,List.mem_singleton] at hr
  rcases hr with hr | rfl | hr
  ·exact fit_free h (hA r hr)
  ·unfold FitP fR
   dsimp only
   omega
  ·exact fit_free h (hE r hr)
 ·intro p h0 hP
  have hc:=count_of h p h0 hP
  rw [eH,esp,e1,t1] at hc
  simp only [List.map_append,List.map_cons,List.map_nil,cntL_app,cntL_cons,cntL_nil,q5,t7] at hc ⊢
  have w1 : fR ⟨lo,x.n + nlo + nhi⟩=(lo,x.n + nlo + nhi):=rfl
  have w2 : fH y=(x.page,x.n):=by unfold fH; rw [hat,hn]
  rw [w1,one_if]
  rw [w2,one_if] at hc
  dsimp only at hc ⊢
  split at hc <;> split at hc <;> split at hc <;> split <;> omega
 ·rw [List.pairwise_append] at hw
  have h1:=hw.1
  have h2:=hw.2.1
  rw [List.pairwise_append] at h1 h2
  rw [List.pairwise_append,List.singleton_append,List.pairwise_cons]
  refine ⟨h1.1,⟨fun b hb=>?_,h2.2.1⟩,fun a ha b hb=>?_⟩
  ·have:=t6 b hb
   show lo + (x.n + nlo + nhi) < b.at_
   omega
  ·rw [List.mem_cons] at hb
   rcases hb with rfl | hb
   ·exact q4 a ha
   ·have k1:=q4 a ha
    have k2:=t6 b hb
    omega
theorem commit_law {m : ModelD} {Q : Int→Prop} (h : May2 m) : May2 { m with gone:=stayL Q m.gone }:=by
 have hs : ∀ p,p ∈ stayL Q m.gone→p ∈ m.gone:=fun p hp=>(List.mem_filter.1 hp).1
 exact ⟨h.pages,h.laid,h.free,h.handT,h.hand,h.spanO,h.span,fun p hp=>h.goneP p (hs p hp),h.gone.filter _,fun p hp=>h.apart p (hs p hp)⟩
theorem places_nodup (v : Nat) : (places v).Nodup:=by unfold places; exact List.nodup_range.filter _
theorem tolds_nodup (x : MarkD) : (tolds x).Nodup:=by
 unfold tolds
 split
 ·refine List.Pairwise.map _ (fun a b hab=>?_) (places_nodup x.mask)
  unfold toldF
  omega
 ·exact List.Pairwise.nil
theorem release_law {m : ModelD} {x : MarkD} (h : May2 m) (hc : RelC m x) : May2 { m with gone:=goneTo m x }:=by
 have hmem : ∀ p,p ∈ goneTo m x↔p ∈ m.gone∨p ∈ tolds x:=fun p=>by unfold goneTo sortI; rw [List.mem_mergeSort,List.mem_append]
 have hnew : ∀ p,p ∈ tolds x→RelP m p:=fun p hp=>by
  obtain ⟨i,hi,e⟩:=ofMem (d:=(0 : Int)) hp
  rw [← e]; exact hc.1 i hi
 have hin : ∀ p,p ∈ tolds x→∃ r,r ∈ m.free∧InP (fR r) p:=fun p hp=>by
  obtain ⟨j,hj,hp⟩:=(hnew p hp).2
  exact ⟨_,ixMem hj,hp⟩
 refine ⟨h.pages,h.laid,h.free,h.handT,h.hand,h.spanO,h.span,fun p hp=>?_,?_,fun p hp s hs hps=>?_⟩
 ·rcases (hmem p).1 hp with hp | hp
  ·exact h.goneP p hp
  ·obtain ⟨r,hr,hi⟩:=hin p hp
   exact (fit_free h hr).lt hi
 ·have hn : (m.gone ++ tolds x).Nodup:=by
   rw [List.nodup_append]
   refine ⟨h.gone.imp (fun hab=>by omega),tolds_nodup x,fun a ha b hb e=>?_⟩
   obtain ⟨i,hi,e2⟩:=ofMem (d:=(0 : Int)) ha
   exact (hnew b hb).1 ⟨i,hi,e2.trans e⟩
  have h1 : (goneTo m x).Nodup:=by
   unfold goneTo sortI
   exact (List.mergeSort_perm _ _).nodup_iff.2 hn
  have h2 : (goneTo m x).Pairwise fun a b=>decide (a≤b)=true:=by
   unfold goneTo sortI
   exact List.pairwise_mergeSort (fun a b c hab hbc=>by simp only [decide_eq_true_eq] at *; omega) (fun a b=>by simp only [Bool.or_eq_true,decide_eq_true_eq]; omega) _
  exact (h1.and h2).imp (fun hab=>by have:=hab.1; have:=of_decide_eq_true hab.2; omega)
 ·rcases (hmem p).1 hp with hp | hp
  ·exact h.apart p hp s hs hps
  ·obtain ⟨r,hr,hi⟩:=hin p hp
   obtain ⟨q0,q1⟩:=(fit_free h hr).lt hi
   have h1:=count_of h p q0 q1
   have:=cntL_pos (List.mem_map_of_mem (f:=fR) hr) hi
   have:=cntL_pos (List.mem_map_of_mem (f:=fS) (show s ∈ m.spans from hs)) hps
   omega
theorem cycle_law {m : ModelD} (h : May2 m) : May2 { m with spans:=m.spans.map waits }:=by
 have hm : ∀ s,s ∈ m.spans.map waits→∃ t,t ∈ m.spans∧s=waits t:=fun s hs=>by
  obtain ⟨t,ht,e⟩:=List.mem_map.1 hs
  exact ⟨t,ht,e.symm⟩
 have hf : (m.spans.map waits).map fS=m.spans.map fS:=by rw [List.map_map]; rfl
 refine ⟨h.pages,?_,h.free,h.handT,h.hand,fun s hs=>?_,?_,h.goneP,h.gone,fun p hp s hs=>?_⟩
 ·have:=h.laid
  rw [pcs_eq] at this ⊢
  rw [hf]
  exact this
 ·obtain ⟨t,ht,rfl⟩:=hm s hs
  exact h.spanO t ht
 ·exact List.Pairwise.map _ (fun a b hab=>hab) h.span
 ·obtain ⟨t,ht,rfl⟩:=hm s hs
  exact h.apart p hp t ht
theorem tb_not (b i : Nat) (hb : b < 18446744073709551616) : (18446744073709551615 - b).testBit i=(decide (i < 64) && !b.testBit i):=by
 have h:=Nat.testBit_two_pow_sub_succ (n:=64) (x:=b) (by simpa using hb) i
 rw [show (2 : Nat) ^ 64 - (b + 1)=18446744073709551615 - b by omega] at h
 exact h
/-- No bit but those. -/
theorem andNot_zero {a b : Nat} (ha : a < 18446744073709551616) (hb : b < 18446744073709551616) : bits .andNot .u64 (a : Int) (b : Int)=0↔∀ i,a.testBit i=true→b.testBit i=true:=by
 rw [u64_andNot_nat a b ha hb]
 constructor
 ·intro h i hi
  have h0 : a &&& (18446744073709551615 - b)=0:=by omega
  have h1 : (a &&& (18446744073709551615 - b)).testBit i=false:=by rw [h0]; exact Nat.zero_testBit i
  rw [Nat.testBit_and,hi,tb_not b i hb,Bool.true_and] at h1
  have h64 : i < 64:=by
   apply Classical.byContradiction
   intro hc
   have:=Nat.testBit_lt_two_pow (x:=a) (i:=i) (Nat.lt_of_lt_of_le ha (by rw [show 18446744073709551616=2 ^ 64 by decide]; exact Nat.pow_le_pow_right (by decide) (by omega)))
   rw [this] at hi; cases hi
  rw [decide_eq_true h64,Bool.true_and] at h1
  simpa using h1
 ·intro h
  have : a &&& (18446744073709551615 - b)=0:=by
   apply Nat.eq_of_testBit_eq
   intro i
   rw [Nat.testBit_and,Nat.zero_testBit,tb_not b i hb]
   cases hi : a.testBit i
   ·rfl
   ·rw [h i hi]; simp
  rw [this]; rfl
theorem andNot_nat {a b : Nat} (ha : a < 18446744073709551616) (hb : b < 18446744073709551616) : (bits .andNot .u64 (a : Int) (b : Int)).toNat=a &&& (18446744073709551615 - b):=by
 rw [u64_andNot_nat a b ha hb,Int.toNat_natCast]
theorem or_pow {a k : Nat} (ha : a < 18446744073709551616) (hk : k < 64) : (bits .or .u64 (a : Int) (IntKind.u64.wrap (2 ^ k))).toNat=a ||| 2 ^ k:=by
 have h2 : (2 : Nat) ^ k < 18446744073709551616:=by
  rw [show 18446744073709551616=2 ^ 64 by decide]; exact Nat.pow_lt_pow_right (by decide) hk
 have e : IntKind.u64.wrap (2 ^ k)=((2 ^ k : Nat) : Int):=by
  rw [IntKind.wrap_u64]
  have : ((2 : Int) ^ k)=((2 ^ k : Nat) : Int):=by simp
  rw [this]
  generalize (2 : Nat) ^ k=z at h2 ⊢
  omega
 rw [e,bits_or_u64_nat a (2 ^ k) ha h2,Int.toNat_natCast]
theorem alloc_lt {h : HoldD} (hh : HoldOk h) : h.alloc < 18446744073709551616:=by
 have h1:=hh.2.2.1
 have h2:=slN_le h.cls
 have h3 : 2 ^ slN h.cls≤2 ^ 64:=Nat.pow_le_pow_right (by decide) h2
 omega
theorem who_no : WhoP (-1):=.inl rfl
/-- A span's word of marks is of a word's size. -/
theorem turn_ok {h h' : HoldD} {x : MarkD} (hh : HoldOk h) (hmk : h.marks < 18446744073709551616) (hx : MarkOk x) (ht : ThreadP x.thread) (e : turnO h x=some h') : HoldOk h'∧h'.page=h.page∧h'.pages=h.pages:=by
 have hal:=alloc_lt hh
 obtain ⟨⟨c0,c14,w1,w2⟩,hpg,hle,hm⟩:=hh
 have hs:=slN_le h.cls
 unfold turnO at e
 split at e
 ·split at e
  ·rename_i hc
   obtain ⟨_,_,_,k0,k1,k2⟩:=hc
   injection e with e
   subst e
   have hk : x.n.toNat < slN h.cls:=by rw [slN_eq] at k1; omega
   have hv:=or_pow (a:=h.alloc) (k:=x.n.toNat) hal (by omega)
   have hp : 0 < 2 ^ slN h.cls:=Nat.two_pow_pos _
   have hlt : h.alloc ||| 2 ^ x.n.toNat < 2 ^ slN h.cls:=Nat.or_lt_two_pow (by omega) (Nat.pow_lt_pow_right (by decide) hk)
   have hlt2 : h.alloc ||| 2 ^ x.n.toNat < 18446744073709551616:=Nat.lt_of_lt_of_le hlt (by rw [show 18446744073709551616=2 ^ 64 by decide]; exact Nat.pow_le_pow_right (by decide) hs)
   refine ⟨⟨⟨c0,c14,w1,w2⟩,hpg,?_,?_⟩,rfl,rfl⟩
   ·show (bits .or .u64 (h.alloc : Int) (IntKind.u64.wrap (2 ^ x.n.toNat))).toNat≤2 ^ slN h.cls - 1
    rw [hv]; omega
   ·show bits .andNot .u64 (h.marks : Int) (((bits .or .u64 (h.alloc : Int) (IntKind.u64.wrap (2 ^ x.n.toNat))).toNat : Nat) : Int)=0
    rw [hv,andNot_zero hmk hlt2]
    intro i hi
    rw [Nat.testBit_or,(andNot_zero hmk hal).1 hm i hi]
    rfl
  ·cases e
 split at e
 ·split at e
  ·injection e with e
   subst e
   have hv:=andNot_nat (a:=h.alloc) (b:=x.mask) hal hx.mask
   refine ⟨⟨⟨c0,c14,w1,w2⟩,hpg,?_,?_⟩,rfl,rfl⟩
   ·show (bits .andNot .u64 (h.alloc : Int) (x.mask : Int)).toNat≤2 ^ slN h.cls - 1
    rw [hv]
    exact Nat.le_trans Nat.and_le_left hle
   ·show bits .andNot .u64 ((0 : Nat) : Int) (((bits .andNot .u64 (h.alloc : Int) (x.mask : Int)).toNat : Nat) : Int)=0
    rw [hv,andNot_zero (by decide) (Nat.lt_of_le_of_lt Nat.and_le_left hal)]
    intro i hi
    rw [Nat.zero_testBit] at hi
    cases hi
  ·cases e
 split at e
 ·split at e
  ·rename_i hc
   injection e with e
   subst e
   exact ⟨⟨⟨c0,c14,w1,w2⟩,hpg,hle,hc.2.2.2⟩,rfl,rfl⟩
  ·cases e
 unfold passH at e
 cases hv : passO h x with
 | none=>rw [hv] at e; cases e
 | some v =>
  rw [hv] at e
  injection e with e
  subst e
  have hw : WhoP v.1∧WhoP v.2:=by
   unfold passO at hv
   repeat' split at hv
   all_goals first
    |(cases hv; done)
    |(injection hv with hv; subst hv; exact ⟨by first | exact w1 | exact .inr ht | exact who_no,by first | exact w2 | exact .inr ht | exact who_no⟩)
    |(injection hv with hv; subst hv; refine ⟨by first | exact w1 | exact .inr ht | exact who_no,?_⟩; dsimp only; split; exact who_no; exact w2)
  exact ⟨⟨⟨c0,c14,hw.1,hw.2⟩,hpg,hle,hm⟩,rfl,rfl⟩
theorem turn_law {m m' : ModelD} {x : MarkD} (h : May2 m) (hmk : ∀ s,s ∈ m.spans→s.marks < 18446744073709551616) (hx : MarkOk x) (ht : ThreadP x.thread) (hr : TurnR m x m') : May2 m'∧m'.pages=m.pages:=by
 obtain ⟨i,h',hi,hpg,ho,rfl⟩:=hr
 obtain ⟨y,ey⟩ : ∃ y,ix noHold m.spans i=y:=⟨_,rfl⟩
 have hym : y ∈ m.spans:=ey▸ixMem hi
 rw [ey] at ho
 obtain ⟨k1,k2,k3⟩:=turn_ok (h.spanO y hym) (hmk y hym) hx ht ho
 obtain ⟨A,E,eS,hA,_⟩:=cut_one (d:=noHold) hi
 rw [ey] at eS
 have es : m.spans.set i h'=A ++ h' :: E:=by
  rw [eS,List.set_append_right i h' (by omega),hA,Nat.sub_self,List.set_cons_zero]
 rw [es]
 have e1 : fS h'=fS y:=by unfold fS; rw [k2,k3]
 have hmem : ∀ s,s ∈ A ++ h' :: E→s=h'∨s ∈ m.spans:=fun s hs=>by
  rw [List.mem_append,List.mem_cons] at hs
  rw [eS,List.mem_append,List.mem_cons]
  rcases hs with hs | hs | hs
  ·exact .inr (.inl hs)
  ·exact .inl hs
  ·exact .inr (.inr (.inr hs))
 refine ⟨⟨h.pages,laid_of (fun r hr=>fit_free h hr) (fun r hr=>fit_hand h hr) ?_ ?_,h.free,h.handT,h.hand,?_,?_,h.goneP,h.gone,?_⟩,rfl⟩
 ·intro s hs
  rcases hmem s hs with rfl | hs
  ·rw [e1]; exact fit_span h hym
  ·exact fit_span h hs
 ·intro p h0 hP
  have hc:=count_of h p h0 hP
  rw [eS] at hc
  simp only [List.map_append,List.map_cons,List.map_nil,cntL_app,cntL_cons,cntL_nil] at hc ⊢
  rw [e1]
  omega
 ·intro s hs
  rcases hmem s hs with rfl | hs
  ·exact k1
  ·exact h.spanO s hs
 ·have hw:=h.span
  rw [eS,List.pairwise_append,List.pairwise_cons] at hw
  rw [List.pairwise_append,List.pairwise_cons]
  refine ⟨hw.1,⟨fun b hb=>by rw [k2]; exact hw.2.1.1 b hb,hw.2.1.2⟩,fun a ha b hb=>?_⟩
  rw [List.mem_cons] at hb
  rcases hb with rfl | hb
  ·rw [k2]; exact hw.2.2 a ha y (List.mem_cons_self ..)
  ·exact hw.2.2 a ha b (List.mem_cons_of_mem _ hb)
 ·intro p hp s hs
  rcases hmem s hs with rfl | hs
  ·rw [e1]; exact h.apart p hp y hym
  ·exact h.apart p hp s hs
/-- Words of marks are of a word's size. -/
def MarksOk (m : ModelD) : Prop:=∀ s,s ∈ m.spans→s.marks < 18446744073709551616
/-- What is accepted may be again. -/
theorem does_may {m m' : ModelD} {x : MarkD} (h : May2 m) (hmk : MarksOk m) (hx : MarkOk x) (hd : DoesR m x m') : May2 m'∧m'.pages=m.pages:=by
 obtain ⟨ht,⟨_,hr⟩ | ⟨_,hr,rfl⟩ | ⟨_,hr⟩ | ⟨_,hr⟩ | ⟨_,hr⟩ | ⟨_,hr,rfl⟩ | ⟨_,hr,rfl⟩ | ⟨_,hr,rfl⟩ | ⟨_,hr⟩⟩:=hd
 ·exact get_law h ht hr
 ·exact ⟨commit_law h,rfl⟩
 ·exact lay_law h ht hr
 ·exact drop_law h ht hr
 ·exact back_law h hr
 ·exact ⟨cycle_law h,rfl⟩
 ·exact ⟨h,rfl⟩
 ·exact ⟨release_law h hr,rfl⟩
 ·exact turn_law h hmk hx ht hr
theorem turn_marks {h h' : HoldD} {x : MarkD} (hmk : h.marks < 18446744073709551616) (hx : MarkOk x) (e : turnO h x=some h') : h'.marks < 18446744073709551616:=by
 unfold turnO at e
 split at e
 ·split at e
  ·injection e with e
   subst e
   exact hmk
  ·cases e
 split at e
 ·split at e
  ·injection e with e
   subst e
   exact (by decide : (0 : Nat) < 18446744073709551616)
  ·cases e
 split at e
 ·split at e
  ·injection e with e
   subst e
   exact hx.mask
  ·cases e
 unfold passH at e
 cases hv : passO h x with
 | none=>rw [hv] at e; cases e
 | some v =>
  rw [hv] at e
  injection e with e
  subst e
  exact hmk
theorem does_marks {m m' : ModelD} {x : MarkD} (hmk : MarksOk m) (hx : MarkOk x) (hd : DoesR m x m') : MarksOk m':=by
 have hsub : ∀ (A : List HoldD),(∀ s,s ∈ A→s ∈ m.spans∨s.marks < 18446744073709551616)→∀ s,s ∈ A→s.marks < 18446744073709551616:=fun A h s hs=>(h s hs).elim (hmk s) id
 obtain ⟨ht,⟨_,hr⟩ | ⟨_,hr,rfl⟩ | ⟨_,hr⟩ | ⟨_,hr⟩ | ⟨_,hr⟩ | ⟨_,hr,rfl⟩ | ⟨_,hr,rfl⟩ | ⟨_,hr,rfl⟩ | ⟨_,hr⟩⟩:=hd
 ·obtain ⟨i,k,_,_,_,_,rfl⟩:=hr
  exact hmk
 ·exact hmk
 ·obtain ⟨j,k,_,_,_,_,rfl⟩:=hr
  refine hsub _ fun s hs=>?_
  unfold cutIn at hs
  rw [List.mem_append,List.mem_append,List.mem_singleton] at hs
  rcases hs with hs | rfl | hs
  ·exact .inl (List.mem_of_mem_take hs)
  ·exact .inr (by decide : (0 : Nat) < 18446744073709551616)
  ·exact .inl (List.mem_of_mem_drop hs)
 ·obtain ⟨j,k,_,_,_,_,rfl⟩:=hr
  exact hsub _ fun s hs=>.inl (List.mem_filter.1 hs).1
 ·obtain ⟨j,k,_,_,_,_,rfl⟩:=hr
  exact hmk
 ·refine hsub _ fun s hs=>?_
  obtain ⟨t,ht,e⟩:=List.mem_map.1 hs
  subst e
  exact .inr (hmk t ht)
 ·exact hmk
 ·exact hmk
 ·obtain ⟨i,h',hi,_,ho,rfl⟩:=hr
  refine hsub _ fun s hs=>?_
  rcases List.mem_or_eq_of_mem_set hs with hs | rfl
  ·exact .inl hs
  ·exact .inr (turn_marks (hmk _ (ixMem hi)) hx ho)
end Go.Proofs.YtoolenhnhlfhmaaGreatDoor
