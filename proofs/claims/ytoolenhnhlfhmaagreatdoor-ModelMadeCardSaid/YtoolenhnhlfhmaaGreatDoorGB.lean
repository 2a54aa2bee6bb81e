/- A region that draws its order, with one operation in its midst that writes: what stands ahead of it feeds it, what stands behind it waits for it. A region that draws its order, by an invariant: what each operation leaves, however many of the others stand behind it or ahead. A region that draws its order, walked in one order: those that only read ahead of the others, though others may come up between; what writes goes in a forced order. -/
import Derived.Deep.Quiet
import Derived.StillTail
import Derived.Tactics
import Derived.OrdersHeld
namespace Go.Proofs.YtoolenhnhlfhmaaGreatDoor
set_option linter.unusedVariables false
set_option linter.unusedSimpArgs false
section
variable {P : Program} {ops : Array Oper} {md : Region.Mode} {C : World→Prop}
/-- Each operation behind n waits for one between. -/
def tailB (md : Region.Mode) (ops : Array Oper) (n : Nat) : Bool :=
 (List.range ops.size).all fun t=>decide (t≤n) || (List.range t).any fun j=>decide (n≤j) && Region.waitsFor md ops t j
theorem tail_not {n : Nat} {listed : Array Bool} (hc : tailB md ops n=true) (ht : ∀ t,n≤t→t < ops.size→listed.getD t true=false) {t : Nat} (h : n < t) : t ∉ Region.ready md ops listed:=by
 intro hr
 obtain ⟨_,ot,hot,hall⟩:=mem_ready.1 hr
 have hlt : t < ops.size:=(Array.getElem?_eq_some_iff.1 hot).1
 have h1:=List.all_eq_true.1 hc t (List.mem_range.2 hlt)
 simp only [Bool.or_eq_true,decide_eq_true_eq] at h1
 rcases h1 with h1 | h1
 ·omega
 ·obtain ⟨j,hj,hj2⟩:=List.any_eq_true.1 h1
  simp only [Bool.and_eq_true,decide_eq_true_eq] at hj2
  obtain ⟨o',ho',e,he,hb,hon⟩:=Region.waitsFor_spec hj2.2
  have hjt:=List.mem_range.1 hj
  obtain rfl : o'=ot:=Option.some.inj (ho'.symm.trans hot)
  have h2:=hall e he hb
  rw [hon,getD_both (ht j hj2.1 (by omega))] at h2
  cases h2
theorem mid_not {n : Nat} {listed : Array Bool} (hs : Region.sinkB md ops n=true) (hn : n < ops.size) (inv : HeadInv md ops n listed) : ∀ (d i : Nat),n - i=d→i < n→listed.getD i true=false→n ∉ Region.ready md ops listed:=by
 intro d
 induction d using Nat.strongRecOn with
 | _ d ih =>
  intro i hd hi hun hr
  obtain ⟨_,on,hon,hall⟩:=mem_ready.1 hr
  obtain ⟨j,hj,hj2⟩:=List.any_eq_true.1 (List.all_eq_true.1 hs i (List.mem_range.2 hi))
  simp only [Bool.and_eq_true,decide_eq_true_eq] at hj2
  obtain ⟨oj,hoj,e,he,hb,hei⟩:=Region.waitsFor_spec hj2.2
  have hjn:=List.mem_range.1 hj
  by_cases hjt : j=n
  ·subst hjt
   obtain rfl : oj=on:=Option.some.inj (hoj.symm.trans hon)
   have h2:=hall e he hb
   rw [hei,getD_both hun] at h2
   cases h2
  ·cases hl : listed.getD j false with
   | true =>
    have h2:=inv.closed j oj hoj hl e he hb
    rw [hei,getD_both hun] at h2
    cases h2
   | false=>exact ih (n - j) (by omega) j rfl (by omega) (getD_in (by rw [inv.size]; omega) hl) hr
/-- The head in any order. -/
def wpHead (P : Program) (md : Region.Mode) (ops : Array Oper) (C : World→Prop) (n : Nat) (L : Array Bool→Act→Prop) : Nat→Array Bool→Act→Prop
 | 0,listed,a=>L listed a
 | f + 1,listed,a=>Region.ready md ops listed≠[]∧∀ i ∈ Region.ready md ops listed,i < n∧qOp P ops C i (wpHead P md ops C n L f (listed.setIfInBounds i true)) a
theorem head_any {n g : Nat} {L : Array Bool→Act→Prop} {Q' : Exit→Act→World→Prop} (hL : ∀ listed a w,C w→L listed a→wpAny P md ops Q' g listed a w) :
  ∀ (f : Nat) (listed : Array Bool) (a : Act) (w : World),C w→wpHead P md ops C n L f listed a→wpAny P md ops Q' (f + g) listed a w
 | 0,listed,a,w,hw,h=>by rw [Nat.zero_add]; exact hL _ _ _ hw h
 | f + 1,listed,a,w,hw,h=>by
  rw [show f + 1 + g=(f + g) + 1 by omega]
  exact ⟨fun h0=>absurd h0 h.1,fun i hi=>wpOp_of_qOp hw (fun a' w' hw' h'=>head_any hL f _ a' w' hw' h') (h.2 i hi).2⟩
theorem head_first {n i : Nat} {oi : Oper} {v : Value} {L : Array Bool→Act→Prop} (hi : ops[i]?=some oi) (hsel : ∀ (j : Nat) (o : Oper) cs b,ops[j]?=some o→o.op≠.select cs b)
  (hs : Region.sinkB md ops n=true) (hc : tailB md ops n=true) (hn : n < ops.size) (hin : i < n) (hdone : ∀ listed a,L listed a→∀ j ∈ Region.ready md ops listed,n≤j) :
  ∀ (f : Nat) (listed : Array Bool) (a : Act),HeadInv md ops n listed →
   (∀ j oj,ops[j]?=some oj→j≠i→listed.getD j true=false→(∀ e ∈ oj.after,Region.binds md e=true→e.on≠i)→oi.apart ops oj=true) →
   i ∈ Region.ready md ops listed→YieldsIn P ops C oi v a →
   wpHead P md ops C n L f (listed.setIfInBounds i true) (a.put oi.dst v)→wpHead P md ops C n L (f + 1) listed a:=by
 intro f
 induction f with
 | zero =>
  intro listed a inv _ hr hy H
  refine ⟨fun h=>(by rw [h] at hr; cases hr),fun j hj=>?_⟩
  by_cases hji : j=i
  ·subst hji; exact ⟨hin,hy.qOp hi H⟩
  ·have h1:=hdone _ _ H j (ready_mono hj hji)
   rcases Nat.lt_or_eq_of_le h1 with h2 | h2
   ·exact absurd hj (tail_not hc inv.tail h2)
   ·subst h2; exact absurd hj (mid_not hs hn inv _ i rfl hin (mem_ready.1 hr).1)
 | succ f ih =>
  intro listed a inv hfree hr hy H
  have hun:=(mem_ready.1 hr).1
  refine ⟨fun h=>(by rw [h] at hr; cases hr),fun j hj=>?_⟩
  by_cases hji : j=i
  ·subst hji; exact ⟨hin,hy.qOp hi H⟩
  have hjn : j < n:=by
   rcases Nat.lt_trichotomy j n with h | h | h
   ·exact h
   ·subst h; exact absurd hj (mid_not hs hn inv _ i rfl hin hun)
   ·exact absurd hj (tail_not hc inv.tail h)
  obtain ⟨hjun,oj,hoj,hall⟩:=mem_ready.1 hj
  have hnot : ∀ e ∈ oj.after,Region.binds md e=true→e.on≠i:=fun e he hb heq=>by
   have h1:=hall e he hb
   rw [heq,getD_both hun] at h1
   cases h1
  have h2:=qOp_put hoj (hfree j oj hoj hji hjun hnot) (fun cs b=>hsel i oi cs b hi) (fun cs b=>hsel j oj cs b hoj) hy (H.2 j (ready_mono hj hji)).2
  refine ⟨hjn,qOp_mono (fun a' h3=>ih (listed.setIfInBounds j true) a' (inv.set hj hjn) (fun k ok hk hki hunk hno=>hfree k ok hk hki ?_ hno) (ready_mono hr (Ne.symm hji)) h3.1 ?_) h2⟩
  ·by_cases hjk : j=k
   ·subst hjk; exact hjun
   ·rw [getD_set_ne true hjk] at hunk; exact hunk
  ·rw [Array.setIfInBounds_comm _ _ hji]; exact h3.2
/-- The head's lexical order is one of those, and n is what then comes; behind it the others' order. -/
def loudHead (md : Region.Mode) (ops : Array Oper) (n : Nat) : Nat→Nat→Array Bool→Bool
 | 0,k,listed=>decide (Region.ready md ops listed=[n]) && Region.lexFrom md ops (ops.size - (n + 1)) (n + 1) (listed.setIfInBounds n true)
 | f + 1,k,listed=>(Region.ready md ops listed).contains k && Region.free md ops listed k && loudHead md ops n f (k + 1) (listed.setIfInBounds k true)
def loudB (md : Region.Mode) (ops : Array Oper) (n : Nat) : Bool :=
 Region.noSelect ops && decide (n < ops.size) && Region.sinkB md ops n && tailB md ops n && loudHead md ops n n 0 (Array.replicate ops.size false)
def loudEnd (md : Region.Mode) (ops : Array Oper) (n : Nat) (listed : Array Bool) : Prop:=Region.ready md ops listed=[n]∧Region.lexFrom md ops (ops.size - (n + 1)) (n + 1) (listed.setIfInBounds n true)=true
theorem head_lex {n : Nat} {Lq : Act→Prop} (hsel : Region.noSelect ops=true) (hs : Region.sinkB md ops n=true) (hc : tailB md ops n=true) (hn : n < ops.size) :
  ∀ (l : List Oper) (k : Nat) (listed : Array Bool) (a : Act),(∀ j,j < l.length→l[j]?=ops[k + j]?)→k + l.length=n→HeadInv md ops n listed →
  loudHead md ops n l.length k listed=true→wpQuiet P ops C Lq l a→wpHead P md ops C n (fun listed' a'=>loudEnd md ops n listed'∧Lq a') l.length listed a
 | [],k,listed,a,_,hk,_,hB,h=>by
  simp only [List.length_nil,loudHead,Bool.and_eq_true,decide_eq_true_eq] at hB
  exact ⟨hB,h⟩
 | o :: l,k,listed,a,hl,hk,inv,hB,h=>by
  have h0 : ops[k]?=some o:=by simpa using (hl 0 (by simp)).symm
  simp only [List.length_cons,loudHead,Bool.and_eq_true] at hB
  obtain ⟨⟨hr,hf⟩,hB'⟩:=hB
  simp only [List.length_cons] at hk
  have hr' : k ∈ Region.ready md ops listed:=by simpa using hr
  have hst : qOp P ops C k (wpQuiet P ops C Lq l) a:=by unfold qOp; simp only [h0]; exact h
  obtain ⟨v,hy,hK⟩:=yieldsIn_of_qOp h0 hst
  refine head_first h0 (Region.noSelect_spec hsel) hs hc hn (by omega) (fun listed' a' hL j hj=>?_) l.length listed a inv (Region.free_spec h0 hf) hr' hy
   (head_lex hsel hs hc hn l (k + 1) _ _ (fun j hj=>by have:=hl (j + 1) (by simp; omega); simpa [Nat.add_assoc,Nat.add_comm 1 j] using this) (by omega) (inv.set hr' (by omega)) hB' hK)
  rw [hL.1.1] at hj
  have : j=n:=by simpa using hj
  omega
/-- The region: its head, in w after some draws; the one operation; then the others, which only read, in a class of worlds that hangs on what that one has left. -/
theorem wp_region_loud {id : Nat} {Q : Exit→Act→World→Prop} {a : Act} {w : World} {l : List Oper} (n : Nat) (o : Oper) (ho : l[n]?=some o) (hgd : o.guard=none) (hm : P.follows .mixedOrders=true) (hB : loudB .any l.toArray n=true)
  (h : wpQuiet P l.toArray (fun w'=>∃ m,w'=w.drewN m) (fun a1=>∀ m,o.wp P a1 (w.drewN m) (fun a2 w2=>∃ C : World→Prop,C w2∧wpQuiet P l.toArray C (fun a'=>∀ w',C w'→Q .normal a' w') (l.drop (n + 1)) a2) Q) (l.take n) a) :
  (Code.region id l.toArray true).wp P Q a w:=by
 simp only [loudB,Bool.and_eq_true,decide_eq_true_eq] at hB
 obtain ⟨⟨⟨⟨hsel,hn⟩,hs⟩,hc⟩,hlex⟩:=hB
 have hn' : n < l.length:=by simpa using hn
 have htl : (l.take n).length=n:=by simp; omega
 have hdl : (l.drop (n + 1)).length=l.toArray.size - (n + 1):=by simp
 have inv0 : HeadInv .any l.toArray n (Array.replicate l.toArray.size false) :=
  ⟨by simp,fun j oj _ hl=>(by rw [getD_replicate_false] at hl; cases hl),fun t _ ht=>getD_in (by simpa using ht) (getD_replicate_false _ _)⟩
 have H:=head_lex (P:=P) (C:=fun w'=>∃ m,w'=w.drewN m) (md:=.any) hsel hs hc hn (l.take n) 0 _ a (fun j hj=>by
  have hj' : j < n:=by rw [htl] at hj; exact hj
  simp [hj']) (by simpa using htl) inv0 (by rw [htl]; exact hlex) h
 refine wp_region_any hm ?_
 have:=head_any (Q':=Q) (g:=(l.toArray.size - (n + 1)) + 1) (fun listed a' w' hw' hL=>?_) _ _ _ { w with drawn:=w.drawn + 1 } ⟨1,rfl⟩ H
 ·rw [htl,show n + (l.toArray.size - (n + 1) + 1)=l.toArray.size by omega] at this
  exact this
 ·obtain ⟨m,rfl⟩:=hw'
  obtain ⟨⟨hr,hlx⟩,hL2⟩:=hL
  refine ⟨fun h0=>(by rw [hr] at h0; cases h0),fun i hi=>?_⟩
  rw [hr] at hi
  obtain rfl : i=n:=by simpa using hi
  have ho' : l.toArray[i]?=some o:=by simpa using ho
  have hw : Region.wanted o (yielded l.toArray a'.tmps)=true:=by simp [Region.wanted,hgd]
  unfold wpOp
  simp only [ho',hw,if_true]
  refine .inl (Oper.wp_mono (fun a2 w2 h2=>?_) (hL2 m))
  obtain ⟨D,hD,hq⟩:=h2
  have hq2:=wpAnyQ_lex (P:=P) (C:=D) (md:=.any) hsel (l.drop (i + 1)) (i + 1) (listed.setIfInBounds i true) a2 (fun j=>by simp [List.getElem?_drop]) (by rw [hdl]; exact hlx) hq
  rw [hdl] at hq2
  exact wpAny_of_quiet (fun a w hw' hh=>hh w hw') _ _ _ _ hD hq2
/-- A call of a function, by its contract. -/
theorem wp_enter {o : Oper} {a : Act} {w : World} {K : Act→World→Prop} {Q : Exit→Act→World→Prop} (f : FuncId) (args : Array Value) (hrun : (execOp a.eval o).run P w=.ok (.enter f args) w)
  (h : Calls P f args w fun e w'=>∃ v,e=.returned v∧K (a.put o.dst v) w') : o.wp P a w K Q:=by
 unfold Oper.wp
 rw [hrun,Oper.upon_enter]
 refine h.mono fun e w' hh=>?_
 obtain ⟨v,rfl,hk⟩:=hh
 exact hk
theorem drewN_self (w : World) : w=w.drewN 0:=rfl
end
/-- One more is listed. -/
def setL (L : Nat→Bool) (i : Nat) : Nat→Bool:=fun j=>if j=i then true else L j
theorem setL_same (L : Nat→Bool) (i : Nat) : setL L i i=true:=by simp [setL]
theorem setL_ne {L : Nat→Bool} {i j : Nat} (h : j≠i) : setL L i j=L j:=by simp [setL,h]
def unl (L : Nat→Bool) : Nat→Nat
 | 0=>0
 | n + 1=>unl L n + if L n then 0 else 1
theorem unl_far {L : Nat→Bool} {i : Nat} : ∀ {n : Nat},n≤i→unl (setL L i) n=unl L n
 | 0,_=>rfl
 | n + 1,h=>by
  unfold unl
  rw [unl_far (n:=n) (by omega),setL_ne (by omega)]
theorem unl_set {L : Nat→Bool} {i : Nat} (hi : L i=false) : ∀ {n : Nat},i < n→unl (setL L i) n + 1=unl L n
 | 0,h=>absurd h (by omega)
 | n + 1,h=>by
  unfold unl
  by_cases e : i=n
  ·subst e
   rw [unl_far (Nat.le_refl _),setL_same,hi]
   simp
  ·rw [setL_ne (by omega),← unl_set hi (n:=n) (by omega)]
   omega
theorem unl_zero {L : Nat→Bool} : ∀ {n : Nat},unl L n=0→∀ j,j < n→L j=true
 | 0,_,j,hj=>absurd hj (by omega)
 | n + 1,h,j,hj=>by
  unfold unl at h
  have h1 : unl L n=0:=by omega
  by_cases e : j=n
  ·subst e
   cases hL : L j with
   | true=>rfl
   | false=>rw [hL] at h; simp at h
  ·exact unl_zero h1 j (by omega)
theorem unl_least {L : Nat→Bool} : ∀ {n : Nat},unl L n≠0→∃ j,j < n∧L j=false∧∀ k,k < j→L k=true
 | 0,h=>absurd rfl h
 | n + 1,h=>by
  by_cases e : unl L n=0
  ·refine ⟨n,by omega,?_,fun k hk=>unl_zero e k hk⟩
   unfold unl at h
   cases hL : L n with
   | false=>rfl
   | true=>rw [hL,e] at h; simp at h
  ·obtain ⟨j,h1,h2,h3⟩:=unl_least e
   exact ⟨j,by omega,h2,h3⟩
section
variable {P : Program} {ops : Array Oper} {Q : Exit→Act→World→Prop}
/-- Each operation waits for earlier ones alone, and none is guarded. -/
def depB (ops : Array Oper) : Bool:=(List.range ops.size).all fun j=>match ops[j]? with
 | some o=>o.guard.isNone && o.after.all fun e=>!Region.binds .any e || decide (e.on < j)
 | none=>true
theorem depB_spec (h : depB ops=true) {j : Nat} {o : Oper} (ho : ops[j]?=some o) : o.guard=none∧∀ e ∈ o.after,Region.binds .any e=true→e.on < j:=by
 have hj : j < ops.size:=(Array.getElem?_eq_some_iff.1 ho).1
 have h1:=List.all_eq_true.1 h j (List.mem_range.2 hj)
 simp only [ho,Bool.and_eq_true,Option.isNone_iff_eq_none] at h1
 refine ⟨h1.1,fun e he hb=>?_⟩
 have h2:=Array.all_eq_true_iff_forall_mem.1 h1.2 e he
 rw [hb] at h2
 simpa using h2
/-- What is asked behind one operation, walked by itself. -/
def postK (K : Act→World→Prop) (Q : Exit→Act→World→Prop) : Exit→Act→World→Prop:=fun x a w=>(x=.normal→K a w)∧(x≠.normal→Q x a w)
theorem wp_turn {o : Oper} {a : Act} {w : World} {K : Act→World→Prop} {Q Q' : Exit→Act→World→Prop} (hq : ∀ x a w,x≠.normal→Q' x a w→Q x a w) (hh : o.wp P a w K Q') : o.wp P a w K Q:=by
 unfold Oper.wp at *
 generalize (execOp a.eval o).run P w=r at *
 cases r with
 | ok n w' =>
  cases n <;> simp only [Oper.upon] at hh ⊢ <;>
   first
    | exact hh
    | exact Calls.mono hh (fun e w'' he=>by
      cases e with
      | returned v=>exact he
      | panicked c=>exact hq _ _ _ (by simp) he
      | outgrown=>exact ⟨he.choose,he.choose_spec.choose,hq _ _ _ (by simp) he.choose_spec.choose_spec⟩)
 | halt x w'=>cases x <;> simp only [Oper.upon] at hh ⊢ <;> first | exact hh | exact hq _ _ _ (by simp) hh
theorem op_of_list {o : Oper} {a : Act} {w : World} {K : Act→World→Prop} (hg : o.guard=none) (h : wpList P ops (postK K Q) [o] a w) : o.wp P a w K Q∨(o.asks P a w∧LetsOut Q):=by
 have hw : Region.wanted o (yielded ops a.tmps)=true:=by simp [Region.wanted,hg]
 unfold wpList at h
 rw [if_pos hw] at h
 rcases h with h | ⟨h1,a1,w1,h2⟩
 ·exact .inl (Oper.wp_mono (fun a' w' h'=>h'.1 rfl) (wp_turn (fun x a w hx hh=>hh.2 hx) h))
 ·exact .inr ⟨h1,a1,w1,h2.2 (by simp)⟩
theorem inv_any (Inv : (Nat→Bool)→Act→World→Prop) (hd : depB ops=true)
  (hstep : ∀ L a w i o,ops[i]?=some o→L i=false→(∀ e ∈ o.after,Region.binds .any e=true→L e.on=true)→Inv L a w→wpList P ops (postK (fun a' w'=>Inv (setL L i) a' w') Q) [o] a w)
  (hend : ∀ L a w,(∀ j,j < ops.size→L j=true)→Inv L a w→Q .normal a w) :
  ∀ (f : Nat) (listed : Array Bool) (a : Act) (w : World),listed.size=ops.size→unl (fun j=>listed.getD j false) ops.size=f→Inv (fun j=>listed.getD j false) a w→wpAny P .any ops Q f listed a w:=by
 intro f
 induction f with
 | zero =>
  intro listed a w hs hf hI
  have hall:=unl_zero hf
  refine ⟨List.eq_nil_iff_forall_not_mem.2 fun i hi=>?_,hend _ a w hall hI⟩
  obtain ⟨hun,o,ho,_⟩:=mem_ready.1 hi
  have h1:=hall i (Array.getElem?_eq_some_iff.1 ho).1
  rw [getD_both hun] at h1
  cases h1
 | succ f ih =>
  intro listed a w hs hf hI
  refine ⟨fun h0=>?_,fun i hi=>?_⟩
  ·obtain ⟨j,hj,hj2,hj3⟩:=unl_least (L:=fun j=>listed.getD j false) (n:=ops.size) (by omega)
   have hm : j ∈ Region.ready .any ops listed:=by
    refine mem_ready.2 ⟨getD_in (by omega) hj2,ops[j],Array.getElem?_eq_getElem hj,fun e he hb=>hj3 _ ((depB_spec hd (Array.getElem?_eq_getElem hj)).2 e he hb)⟩
   rw [h0] at hm
   cases hm
  ·obtain ⟨hun,o,ho,hall⟩:=mem_ready.1 hi
   have hin : i < ops.size:=(Array.getElem?_eq_some_iff.1 ho).1
   have hL : (fun j=>(listed.setIfInBounds i true).getD j false)=setL (fun j=>listed.getD j false) i:=by
    funext j
    by_cases e : j=i
    ·subst e
     rw [setL_same]
     simp [hs,hin]
    ·rw [setL_ne e]
     exact getD_set_ne false (Ne.symm e)
   have hw : Region.wanted o (yielded ops a.tmps)=true:=by simp [Region.wanted,(depB_spec hd ho).1]
   unfold wpOp
   simp only [ho,hw,if_true]
   refine (op_of_list (depB_spec hd ho).1 (hstep _ a w i o ho (getD_both hun) hall hI)).imp (Oper.wp_mono (fun a' w' h'=>ih _ a' w' (by simpa using hs) ?_ (hL▸h'))) id
   have h2:=unl_set (L:=fun j=>listed.getD j false) (i:=i) (getD_both hun) hin
   rw [hL]
   omega
theorem unl_none : ∀ (n : Nat),unl (fun _=>false) n=n
 | 0=>rfl
 | n + 1=>by unfold unl; rw [unl_none n]; simp
theorem wp_region_inv {id : Nat} {a : Act} {w : World} (Inv : (Nat→Bool)→Act→World→Prop) (hm : P.follows .mixedOrders=true) (hd : depB ops=true)
  (h0 : Inv (fun _=>false) a w.drew)
  (hstep : ∀ L a w i o,ops[i]?=some o→L i=false→(∀ e ∈ o.after,Region.binds .any e=true→L e.on=true)→Inv L a w→wpList P ops (postK (fun a' w'=>Inv (setL L i) a' w') Q) [o] a w)
  (hend : ∀ L a w,(∀ j,j < ops.size→L j=true)→Inv L a w→Q .normal a w) : (Code.region id ops true).wp P Q a w:=by
 have e : (fun j=>(Array.replicate ops.size false).getD j false)=fun _=>false:=funext fun j=>getD_replicate_false _ j
 refine wp_region_any hm (inv_any Inv hd hstep hend ops.size _ a _ (by simp) (by rw [e,unl_none]) (by rw [e]; exact h0))
end
section
variable {P : Program} {ops : Array Oper} {Q : Exit→Act→World→Prop} {S : World→Prop} {quiet held need : Nat→Bool}
/-- Waits the one for the other, at once or through others? -/
def reachB (ops : Array Oper) : Nat→Nat→Nat→Bool
 | 0,_,_=>false
 | f + 1,i,j=>Region.waitsFor .any ops i j || (List.range ops.size).any fun k=>Region.waitsFor .any ops i k && reachB ops f k j
def apartB (ops : Array Oper) (x y : Nat) : Bool:=match ops[x]?,ops[y]? with
 | some ox,some oy=>ox.apart ops oy
 | _,_=>false
/-- What the order asks: nobody waits for a later one; whoever may come up ahead of another one reads only, and is apart from it. -/
def ordOk (ops : Array Oper) (quiet held need : Nat→Bool) (f : Nat) : List Nat→Bool
 | []=>true
 | x :: rest=>(rest.all fun y=>(y != x) && !Region.waitsFor .any ops x y && (reachB ops f y x || (quiet x && apartB ops x y && (quiet y || need y || !held x)))) && ordOk ops quiet held need f rest
def depOn (ops : Array Oper) : Bool:=(List.range ops.size).all fun j=>match ops[j]? with
 | some o=>o.after.all fun e=>!Region.binds .any e || decide (e.on < j)
 | none=>true
theorem depOn_spec {ops : Array Oper} (h : depOn ops=true) {j : Nat} {o : Oper} (ho : ops[j]?=some o) : ∀ e ∈ o.after,Region.binds .any e=true→e.on < j:=by
 have hj : j < ops.size:=(Array.getElem?_eq_some_iff.1 ho).1
 have h1:=List.all_eq_true.1 h j (List.mem_range.2 hj)
 simp only [ho] at h1
 intro e he hb
 have h2:=Array.all_eq_true_iff_forall_mem.1 h1 e he
 rw [hb] at h2
 simpa using h2
def ordB (ops : Array Oper) (quiet held need : Nat→Bool) (order : List Nat) : Bool :=
 Region.noSelect ops && depOn ops && decide (order.length=ops.size) && order.all (fun x=>decide (x < ops.size)) && (List.range ops.size).all (fun x=>order.contains x) && ordOk ops quiet held need ops.size order
def SW (S : World→Prop) (held : Nat→Bool) (i : Nat) (w : World) : Prop:=held i=true→S w
/-- The walk in that order. -/
def wpOrd (P : Program) (ops : Array Oper) (Q : Exit→Act→World→Prop) (S : World→Prop) (quiet held need : Nat→Bool) : List Nat→Act→World→Prop
 | [],a,w=>Q .normal a w
 | i :: rest,a,w=>(quiet i=true→SW S held i w∧∃ o v,ops[i]?=some o∧YieldsIf P ops (SW S held i) o v a∧wpOrd P ops Q S quiet held need rest (a.put o.dst v) w) ∧
   (quiet i=false→wpOp P ops Q i (fun a' w'=>(need i=true→S w')∧wpOrd P ops Q S quiet held need rest a' w') a w)
/-- One of them, brought to the front. -/
theorem ord_front {j : Nat} (hsel : ∀ (j : Nat) (o : Oper) cs b,ops[j]?=some o→o.op≠.select cs b) (hQ : ∀ c a d v w,Q (.panic c) (Act.put a d v) w→Q (.panic c) a w) (hjs : j < ops.size) :
  ∀ (l1 l2 : List Nat) (a : Act) (w : World),(∀ x,x ∈ l1→quiet x=true∧apartB ops x j=true∧(quiet j=true∨need j=true∨held x=false))→wpOrd P ops Q S quiet held need (l1 ++ j :: l2) a w →
   wpOp P ops Q j (fun a' w'=>((quiet j=true→w'=w)∧(quiet j=false→need j=true→S w'))∧wpOrd P ops Q S quiet held need (l1 ++ l2) a' w') a w
 | [],l2,a,w,_,h=>by
  simp only [List.nil_append,wpOrd] at h ⊢
  rcases hq : quiet j with _ | _
  ·exact wpOp_mono (fun a' w' h'=>⟨⟨fun h=>(by cases h),fun _=>h'.1⟩,h'.2⟩) (h.2 hq)
  ·obtain ⟨hS,o,v,ho,hy,hr⟩:=h.1 hq
   exact hy.wpOp ho hS ⟨⟨fun _=>rfl,fun h=>(by cases h)⟩,hr⟩
 | x :: l1,l2,a,w,hx,h=>by
  obtain ⟨hxq,hxa,hxn⟩:=hx x (by simp)
  rw [List.cons_append] at h
  unfold wpOrd at h
  obtain ⟨hS,o,v,ho,hy,hr⟩:=h.1 hxq
  have ih:=ord_front hsel hQ hjs l1 l2 (a.put o.dst v) w (fun y hy=>hx y (by simp [hy])) hr
  obtain ⟨oj,hoj⟩ : ∃ oj,ops[j]?=some oj:=⟨ops[j],Array.getElem?_eq_getElem hjs⟩
  have hap : o.apart ops oj=true:=by
   unfold apartB at hxa
   rw [ho,hoj] at hxa
   exact hxa
  have h2:=wpOp_putIf hoj hap (fun cs b=>hsel x o cs b ho) (fun cs b=>hsel j oj cs b hoj) (fun c a w h=>hQ c a _ _ w h) hy ih
  refine wpOp_mono (fun a' w' h'=>⟨h'.2.1,?_⟩) h2
  rw [List.cons_append]
  unfold wpOrd
  refine ⟨fun _=>⟨fun hh=>?_,o,v,ho,h'.1,h'.2.2⟩,fun hq=>?_⟩
  ·rcases hq : quiet j with _ | _
   ·rcases hxn with h3 | h3 | h3
    ·rw [hq] at h3; cases h3
    ·exact h'.2.1.2 hq h3
    ·rw [h3] at hh; cases hh
   ·rw [h'.2.1.1 hq]
    exact hS hh
  ·rw [hxq] at hq
   cases hq
/-- What has come up: whoever has, all that it waits for has. -/
structure OrdInv (ops : Array Oper) (order : List Nat) (listed : Array Bool) : Prop where
 size : listed.size=ops.size
 closed : ∀ j oj,ops[j]?=some oj→listed.getD j false=true→∀ e ∈ oj.after,Region.binds .any e=true→listed.getD e.on false=true
 mem : ∀ j,j < ops.size→(listed.getD j true=false↔j ∈ order)
 lt : ∀ j,j ∈ order→j < ops.size
theorem getD_cases {listed : Array Bool} {j : Nat} (hj : j < listed.size) : listed.getD j true=listed.getD j false:=by simp [hj]
theorem OrdInv.reach {order : List Nat} {listed : Array Bool} (inv : OrdInv ops order listed) {j : Nat} : ∀ (f i : Nat),(∀ oi,ops[i]?=some oi→∀ e ∈ oi.after,Region.binds .any e=true→listed.getD e.on false=true)→reachB ops f i j=true→listed.getD j false=true
 | 0,i,_,h=>by cases h
 | f + 1,i,hi,h=>by
  simp only [reachB,Bool.or_eq_true,List.any_eq_true,Bool.and_eq_true] at h
  rcases h with h | ⟨k,_,hk,hr⟩
  ·obtain ⟨oi,hoi,e,he,hb,hon⟩:=Region.waitsFor_spec h
   rw [← hon]
   exact hi oi hoi e he hb
  ·obtain ⟨oi,hoi,e,he,hb,hon⟩:=Region.waitsFor_spec hk
   have h1:=hi oi hoi e he hb
   rw [hon] at h1
   exact inv.reach f k (fun ok hok e he hb=>inv.closed k ok hok h1 e he hb) hr
theorem OrdInv.step {l1 l2 : List Nat} {j : Nat} {listed : Array Bool} (inv : OrdInv ops (l1 ++ j :: l2) listed) (hr : j ∈ Region.ready .any ops listed) (hn : j ∉ l1∧j ∉ l2) : OrdInv ops (l1 ++ l2) (listed.setIfInBounds j true):=by
 obtain ⟨hun,oj,hoj,hall⟩:=mem_ready.1 hr
 have hjs : j < ops.size:=(Array.getElem?_eq_some_iff.1 hoj).1
 refine ⟨by simp [inv.size],fun k ok hok hl e he hb=>?_,fun k hk=>?_,fun k hk=>inv.lt k (by simp at hk ⊢; rcases hk with h | h <;> simp [h])⟩
 ·by_cases e1 : j=k
  ·subst e1
   obtain rfl : ok=oj:=Option.some.inj (hok.symm.trans hoj)
   exact getD_set_true (hall e he hb)
  ·rw [getD_set_ne false e1] at hl
   exact getD_set_true (inv.closed k ok hok hl e he hb)
 ·by_cases e1 : j=k
  ·subst e1
   have hjl : j < listed.size:=by rw [inv.size]; exact hjs
   have h1 : (listed.setIfInBounds j true).getD j true=true:=by simp [hjl]
   rw [h1]
   simp [hn]
  ·rw [getD_set_ne true e1,inv.mem k hk]
   have e2 : k≠j:=Ne.symm e1
   simp [e2]
theorem ordOk_split {f : Nat} {j : Nat} : ∀ {l1 l2 : List Nat},ordOk ops quiet held need f (l1 ++ j :: l2)=true→ordOk ops quiet held need f (l1 ++ l2)=true∧(j ∉ l1∧j ∉ l2) ∧
  ∀ x,x ∈ l1→reachB ops f j x=true∨(quiet x=true∧apartB ops x j=true∧(quiet j=true∨need j=true∨held x=false))
 | [],l2,h=>by
  simp only [List.nil_append,ordOk,Bool.and_eq_true,List.all_eq_true] at h
  refine ⟨h.2,⟨by simp,fun hm=>?_⟩,fun x hx=>by cases hx⟩
  have:=(h.1 j hm).1.1
  simp at this
 | x :: l1,l2,h=>by
  simp only [List.cons_append,ordOk,Bool.and_eq_true,List.all_eq_true] at h
  obtain ⟨h1,h2⟩:=h
  obtain ⟨i1,⟨i2,i3⟩,i4⟩:=ordOk_split h2
  have hj:=h1 j (by simp)
  have hne : j≠x:=by simpa using hj.1.1
  refine ⟨?_,⟨by simp [hne,i2],i3⟩,fun y hy=>?_⟩
  ·simp only [List.cons_append,ordOk,Bool.and_eq_true,List.all_eq_true]
   exact ⟨fun y hy=>h1 y (by simp at hy ⊢; rcases hy with h | h <;> simp [h]),i1⟩
  ·rcases List.mem_cons.1 hy with rfl | hy
   ·have h3:=hj.2
    simp only [Bool.or_eq_true,Bool.and_eq_true] at h3
    rcases h3 with h3 | ⟨⟨h3,h4⟩,h5⟩
    ·exact .inl h3
    ·refine .inr ⟨h3,h4,?_⟩
     rcases h5 with (h5 | h5) | h5
     ·exact .inl h5
     ·exact .inr (.inl h5)
     ·exact .inr (.inr (by simpa using h5))
   ·exact i4 y hy
theorem ord_any (hdep : depOn ops=true) (hsel : ∀ (j : Nat) (o : Oper) cs b,ops[j]?=some o→o.op≠.select cs b) (hQ : ∀ c a d v w,Q (.panic c) (Act.put a d v) w→Q (.panic c) a w) :
  ∀ (f : Nat) (order : List Nat) (listed : Array Bool) (a : Act) (w : World),order.length=f→OrdInv ops order listed→ordOk ops quiet held need ops.size order=true→wpOrd P ops Q S quiet held need order a w→wpAny P .any ops Q f listed a w:=by
 intro f
 induction f with
 | zero =>
  intro order listed a w hf inv hok h
  obtain rfl : order=[]:=List.eq_nil_of_length_eq_zero hf
  refine ⟨List.eq_nil_iff_forall_not_mem.2 fun i hi=>?_,h⟩
  obtain ⟨hun,o,ho,_⟩:=mem_ready.1 hi
  have:=(inv.mem i (Array.getElem?_eq_some_iff.1 ho).1).1 hun
  cases this
 | succ f ih =>
  intro order listed a w hf inv hok h
  refine ⟨fun h0=>?_,fun j hj=>?_⟩
  ·-- the first of them is ready
   rcases order with _ | ⟨x,rest⟩
   ·simp at hf
   ·have hxs:=inv.lt x (by simp)
    have hun:=(inv.mem x hxs).2 (by simp)
    have hm : x ∈ Region.ready .any ops listed:=by
     refine mem_ready.2 ⟨hun,ops[x],Array.getElem?_eq_getElem hxs,fun e he hb=>?_⟩
     have hw : Region.waitsFor .any ops x e.on=true:=by
      unfold Region.waitsFor
      rw [Array.getElem?_eq_getElem hxs]
      exact Array.any_eq_true'.2 ⟨e,he,by simp [hb]⟩
     rcases hl : listed.getD e.on false with _ | _
     ·exfalso
      simp only [ordOk,Bool.and_eq_true,List.all_eq_true] at hok
      have hlt:=depOn_spec hdep (Array.getElem?_eq_getElem hxs) e he hb
      have hes : e.on < ops.size:=by omega
      ·have h1 : listed.getD e.on true=false:=by rw [getD_cases (by rw [inv.size]; exact hes)]; exact hl
       rcases List.mem_cons.1 ((inv.mem e.on hes).1 h1) with h2 | h2
       ·omega
       ·have h3:=(hok.1 e.on h2).1.2
        rw [hw] at h3
        cases h3
     ·rfl
    rw [h0] at hm
    cases hm
  ·obtain ⟨hun,oj,hoj,hall⟩:=mem_ready.1 hj
   have hjs : j < ops.size:=(Array.getElem?_eq_some_iff.1 hoj).1
   obtain ⟨l1,l2,rfl⟩:=List.append_of_mem ((inv.mem j hjs).1 hun)
   obtain ⟨h1,h2,h3⟩:=ordOk_split hok
   have hx : ∀ x,x ∈ l1→quiet x=true∧apartB ops x j=true∧(quiet j=true∨need j=true∨held x=false):=fun x hx=>by
    rcases h3 x hx with h4 | h4
    ·exfalso
     have hxs:=inv.lt x (by simp [hx])
     have h5:=inv.reach ops.size j (fun oi hoi e he hb=>by obtain rfl : oi=oj:=Option.some.inj (hoi.symm.trans hoj); exact hall e he hb) h4
     have h6:=(inv.mem x hxs).2 (by simp [hx])
     rw [getD_cases (by rw [inv.size]; exact hxs),h5] at h6
     cases h6
    ·exact h4
   rcases l1 with _ | ⟨x,l1⟩
   ·simp only [List.nil_append,wpOrd] at h
    rcases hq : quiet j with _ | _
    ·exact wpOp_mono (fun a' w' h'=>ih l2 _ a' w' (by simpa using hf) (inv.step hj h2) h1 h'.2) (h.2 hq)
    ·obtain ⟨hS,o,v,ho,hy,hr⟩:=h.1 hq
     exact hy.wpOp ho hS (ih l2 _ _ w (by simpa using hf) (inv.step hj h2) h1 hr)
   ·refine wpOp_mono (fun a' w' h'=>ih ((x :: l1) ++ l2) _ a' w' (by simp at hf ⊢; omega) (inv.step hj h2) h1 h'.2) (ord_front hsel hQ hjs (x :: l1) l2 a w hx h)
theorem wp_region_ord {id : Nat} {a : Act} {w : World} (S : World→Prop) (quiet held need : Nat→Bool) (order : List Nat) (hm : P.follows .mixedOrders=true) (hB : ordB ops quiet held need order=true)
  (hQ : ∀ c a d v w,Q (.panic c) (Act.put a d v) w→Q (.panic c) a w) (h : wpOrd P ops Q S quiet held need order a w.drew) : (Code.region id ops true).wp P Q a w:=by
 simp only [ordB,Bool.and_eq_true,decide_eq_true_eq,List.all_eq_true] at hB
 obtain ⟨⟨⟨⟨⟨hsel,hdep⟩,hlen⟩,hlt⟩,hall⟩,hok⟩:=hB
 refine wp_region_any hm (ord_any hdep (Region.noSelect_spec hsel) hQ _ order _ _ _ hlen ⟨by simp,fun j oj _ hl=>?_,fun j hj=>?_,hlt⟩ hok h)
 ·rw [getD_replicate_false] at hl; cases hl
 ·exact ⟨fun _=>by simpa using hall j (List.mem_range.2 hj),fun _=>getD_in (by simpa using hj) (getD_replicate_false _ _)⟩
/-- One that looks at memory. -/
theorem wpOrd_held {i : Nat} {rest : List Nat} {a : Act} {w : World} {o : Oper} {v : Value} (hq : quiet i=true) (hh : held i=true) (ho : ops[i]?=some o) (hS : S w) (hg : o.guard=none) (hy : ∀ w,S w→(execOp a.eval o).run P w=.ok (.value v) w)
  (h : wpOrd P ops Q S quiet held need rest (a.put o.dst v) w) : wpOrd P ops Q S quiet held need (i :: rest) a w :=
 ⟨fun _=>⟨fun _=>hS,o,v,ho,.inl ⟨by simp [Region.wanted,hg],fun w hw=>hy w (hw hh)⟩,h⟩,fun hq'=>by rw [hq] at hq'; cases hq'⟩
/-- One that looks at none. -/
theorem wpOrd_quiet {i : Nat} {rest : List Nat} {a : Act} {w : World} {o : Oper} {v : Value} (hq : quiet i=true) (hh : held i=false) (ho : ops[i]?=some o) (hg : o.guard=none) (hy : ∀ w,(execOp a.eval o).run P w=.ok (.value v) w)
  (h : wpOrd P ops Q S quiet held need rest (a.put o.dst v) w) : wpOrd P ops Q S quiet held need (i :: rest) a w :=
 ⟨fun _=>⟨fun h=>(by rw [hh] at h; cases h),o,v,ho,.inl ⟨by simp [Region.wanted,hg],fun w _=>hy w⟩,h⟩,fun hq'=>by rw [hq] at hq'; cases hq'⟩
theorem wpOrd_nil {a : Act} {w : World} (h : Q .normal a w) : wpOrd P ops Q S quiet held need [] a w:=h
/-- What is asked behind one that is carried out. -/
def OrdK (P : Program) (ops : Array Oper) (Q : Exit→Act→World→Prop) (S : World→Prop) (quiet held need : Nat→Bool) (i : Nat) (rest : List Nat) (a' : Act) (w' : World) : Prop:=(need i=true→S w')∧wpOrd P ops Q S quiet held need rest a' w'
theorem ordK_need {i : Nat} {rest : List Nat} {a' : Act} {w' : World} (hS : S w') (h : wpOrd P ops Q S quiet held need rest a' w') : OrdK P ops Q S quiet held need i rest a' w':=⟨fun _=>hS,h⟩
theorem ordK_free {i : Nat} {rest : List Nat} {a' : Act} {w' : World} (hn : need i=false) (h : wpOrd P ops Q S quiet held need rest a' w') : OrdK P ops Q S quiet held need i rest a' w':=⟨fun hh=>(by rw [hn] at hh; cases hh),h⟩
theorem postK_intro {K : Act→World→Prop} {a : Act} {w : World} (h : K a w) : postK K Q .normal a w:=⟨fun _=>h,fun hh=>absurd rfl hh⟩
theorem wpOrd_loud {i : Nat} {rest : List Nat} {a : Act} {w : World} {o : Oper} (hq : quiet i=false) (ho : ops[i]?=some o) (hg : o.guard=none)
  (h : wpList P ops (postK (OrdK P ops Q S quiet held need i rest) Q) [o] a w) : wpOrd P ops Q S quiet held need (i :: rest) a w:=by
 refine ⟨fun hq'=>(by rw [hq] at hq'; cases hq'),fun _=>?_⟩
 have hw : Region.wanted o (yielded ops a.tmps)=true:=by simp [Region.wanted,hg]
 unfold wpOp
 simp only [ho,hw,if_true]
 exact op_of_list hg h
end
end Go.Proofs.YtoolenhnhlfhmaaGreatDoor
