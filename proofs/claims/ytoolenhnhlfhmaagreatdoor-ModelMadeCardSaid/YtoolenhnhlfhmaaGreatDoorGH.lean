/- Walks: the desk's span of a page. Walks: rests, mine, and the closure of cycle. slices.overlaps at two rows that lie in blocks of their own: they do not. -/
import Derived.Test.YtoolenhnhlfhmaaGreatDoorMdQ
import Derived.Test.YtoolenhnhlfhmaaGreatDoorRowW
import Derived.Lib.Overlaps
import Derived.Laws.Externs
namespace Go.Proofs.YtoolenhnhlfhmaaGreatDoor
open Go.RowKit Go.Sort
set_option linter.unusedVariables false
set_option linter.unusedSimpArgs false
theorem own_sl' {w : World} {b n sz : Nat} {e : TypeId} {A : Option Addr} {c : Nat} {F : Nat→Value} (h : OwnS w b e sz (.slice A n c) n F) : SlR w A n sz F:=by
 obtain ⟨A',c',e1,_,hs⟩:=h.form
 injection e1 with e1 e2 e3
 rw [e1]
 exact hs
set_option maxHeartbeats 2000000 in
set_option maxRecDepth 100000 in
theorem spanCF (xs : Array Value) (w : World) : Sem.run Tryz.prog (callFunc 109 xs) w=.ok (.enter 109 xs) w:=rfl
set_option maxRecDepth 100000 in
theorem handCF (xs : Array Value) (w : World) : Sem.run Tryz.prog (callFunc 124 xs) w=.ok (.enter 124 xs) w:=rfl
set_option maxRecDepth 100000 in
theorem runCF (xs : Array Value) (w : World) : Sem.run Tryz.prog (callFunc 103 xs) w=.ok (.enter 103 xs) w:=rfl
def pageK (x : HoldD) : Int:=x.page
def handK (x : HandD) : Int:=x.at_
def runK (x : RunD) : Int:=x.at_
theorem searchS_any (A : Option Addr) (l : List HoldD) (c : Nat) (x : Int) (w : World) (hL : l.length≤1000000) (hR : SlR w A l.length 8 (holdsV l)) (hs : Rises noHold l pageK) :
  Calls Tryz.prog 96 #[.slice A l.length c,.int .i64 x,.func (.func 109) #[] #[]] w fun e w'=>∃ i : Nat,i≤l.length∧e=.returned (.tuple #[.int .i64 (i : Int),.bool (B (i < l.length∧pageK (ix noHold l i)=x))])∧(∀ k,k < i→pageK (ix noHold l k) < x)∧(∀ k,i≤k→k < l.length→x≤pageK (ix noHold l k))∧Ext w w' :=
 searchHold_any A l c _ x pageK w hL spanCF hR hs (fun r w'=>spanC_any r x w')
theorem searchH_any (A : Option Addr) (l : List HandD) (c : Nat) (x : Int) (w : World) (hL : l.length≤1000000) (hR : SlR w A l.length 3 (handV l)) (hs : Rises noHand l handK) :
  Calls Tryz.prog 123 #[.slice A l.length c,.int .i64 x,.func (.func 124) #[] #[]] w fun e w'=>∃ i : Nat,i≤l.length∧e=.returned (.tuple #[.int .i64 (i : Int),.bool (B (i < l.length∧handK (ix noHand l i)=x))])∧(∀ k,k < i→handK (ix noHand l k) < x)∧(∀ k,i≤k→k < l.length→x≤handK (ix noHand l k))∧Ext w w' :=
 searchHand_any A l c _ x handK w hL handCF hR hs (fun r w'=>handC_any r x w')
theorem searchR_any (A : Option Addr) (l : List RunD) (c : Nat) (x : Int) (w : World) (hL : l.length≤1000000) (hR : SlR w A l.length 2 (runV l)) (hs : Rises noRun l runK) :
  Calls Tryz.prog 102 #[.slice A l.length c,.int .i64 x,.func (.func 103) #[] #[]] w fun e w'=>∃ i : Nat,i≤l.length∧e=.returned (.tuple #[.int .i64 (i : Int),.bool (B (i < l.length∧runK (ix noRun l i)=x))])∧(∀ k,k < i→runK (ix noRun l k) < x)∧(∀ k,i≤k→k < l.length→x≤runK (ix noRun l k))∧Ext w w' :=
 searchRun_any A l c _ x runK w hL runCF hR hs (fun r w'=>runC_any r x w')
set_option maxHeartbeats 400000 in
set_option maxRecDepth 100000 in
theorem spanD_any (m : ModelD) (d base : Nat) (F H G : Value) (A : Option Addr) (c : Nat) (p : Int) (w : World) (hl : m.spans.length≤1000000) (hs : Rises noHold m.spans pageK) (hD : DeskR w d base m F H (.slice A m.spans.length c) G) :
  Calls Tryz.prog 63 #[.pointer (some ⟨d,0,none⟩),.int .i64 p] w fun e w' =>
   ((e=.returned (.pointer none)∧∀ j,j < m.spans.length→(ix noHold m.spans j).page≠p)∨∃ i g,i < m.spans.length∧(ix noHold m.spans i).page=p∧A=some ⟨g,0,none⟩∧e=.returned (.pointer (some ⟨g,i * 8,none⟩)))∧Ext w w':=by
 have c3:=hD.blk.cell (i:=3) (v:=.slice A m.spans.length c) rfl
 have hR:=own_sl' hD.own.spans
 have HD:=Lib.hid (And.intro hD (And.intro hR hs))
 clear hD hR hs
 by_cases hex : ∃ j,j < m.spans.length∧(ix noHold m.spans j).page=p
 ·obtain ⟨j,hj,hjp⟩:=hex
  obtain ⟨g,c',e1⟩:=HD.out.1.own.spans.form' (by omega)
  injection e1 with e1 e2 e3
  clear e2 e3
  subst e1
  have hfind : ∀ i : Nat,i≤m.spans.length→(∀ k,k < i→pageK (ix noHold m.spans k) < p)→(∀ k,i≤k→k < m.spans.length→p≤pageK (ix noHold m.spans k))→i < m.spans.length∧pageK (ix noHold m.spans i)=p:=by
   have hjp : pageK (ix noHold m.spans j)=p:=hjp
   intro i hi hlo hhi
   have h1 : i≤j:=by
    rcases Nat.lt_or_ge j i with h | h
    ·have:=hlo j h; omega
    ·exact h
   have h2:=hhi i (Nat.le_refl _) (by omega)
   have h3:=HD.out.2.2.le (a:=i) (b:=j) h1 hj
   exact ⟨by omega,by omega⟩
  have HF:=Lib.hid hfind
  clear hfind hj hjp
  go_enter Tryz.func63,Tryz.ntmps63
  go_wp2_with (go_at_call 96; refine (searchS_any (some ⟨g,0,none⟩) m.spans c p _ hl HD.out.2.1 HD.out.2.2).mono ?_; rintro e w1 ⟨i,hi,rfl,hlo,hhi,hE1⟩; have hf:=HF.out i hi hlo hhi; have hb:=B_yes hf; have c4:=hE1.cell c3; have q0 : (0 : Int)≤(i : Int):=Int.natCast_nonneg i; have q1 : (i : Int) < (m.spans.length : Int):=Int.ofNat_lt.2 hf.1; have HG:=Lib.hid (And.intro hf hE1); clear hlo hhi hf hi hE1; simp only [hb])
  go_ret
  exact ⟨.inr ⟨i,g,HG.out.1.1,HG.out.1.2,rfl,rfl⟩,HG.out.2⟩
 ·have HN:=Lib.hid hex
  clear hex
  go_enter Tryz.func63,Tryz.ntmps63
  go_wp2_with (go_at_call 96; refine (searchS_any A m.spans c p _ hl HD.out.2.1 HD.out.2.2).mono ?_; rintro e w1 ⟨i,hi,rfl,hlo,hhi,hE1⟩; have hb:=B_no (fun h : i < m.spans.length∧pageK (ix noHold m.spans i)=p=>HN.out ⟨i,h⟩); have HG:=Lib.hid hE1; clear hlo hhi hi hE1; simp only [hb])
  go_ret
  exact ⟨.inl ⟨rfl,fun j hj h=>HN.out ⟨j,hj,h⟩⟩,HG.out⟩
/-- Nobody has a span, and it is swept. -/
def RestP (h : HoldD) : Prop:=h.holder=-1∧h.claim=-1∧h.swept=true
set_option maxHeartbeats 2000000 in
set_option maxRecDepth 100000 in
theorem rests_any (h : HoldD) (w : World) : Calls Tryz.prog 105 #[holdV h] w fun e w'=>e=.returned (.bool (B (RestP h)))∧Ext w w':=by
 have hcs : ((h.holder == -1)=false∧¬ RestP h)∨((h.holder == -1)=true∧(h.claim == -1)=false∧¬ RestP h)∨((h.holder == -1)=true∧(h.claim == -1)=true∧h.swept=false∧¬ RestP h)∨((h.holder == -1)=true∧(h.claim == -1)=true∧h.swept=true∧RestP h):=by
  unfold RestP
  simp only [beq_iff_eq,beq_eq_false_iff_ne,ne_eq]
  cases h.swept <;> simp <;> omega
 obtain ⟨pg,n,c,ho,cl,sw,al,mk⟩:=h
 unfold holdV
 dsimp only at hcs ⊢
 rcases hcs with ⟨e0,hx⟩ | ⟨e0,e1,hx⟩ | ⟨e0,e1,rfl,hx⟩ | ⟨e0,e1,rfl,hx⟩
 all_goals
  have HX:=Lib.hid hx
  clear hx
  go_enter Tryz.func105,Tryz.ntmps105
  go_wp2
  go_ret
  exact ⟨ret_bool (by first | exact (B_no HX.out).symm | exact (B_yes HX.out).symm),(Ext.refl _).alloc _⟩
/-- A span is nobody's, or a thread's. -/
def MineP (h : HoldD) (t : Int) : Prop:=(h.holder=-1∨h.holder=t)∧(h.claim=-1∨h.claim=t)
set_option maxHeartbeats 2000000 in
set_option maxRecDepth 100000 in
theorem mine_any (h : HoldD) (t : Int) (w : World) : Calls Tryz.prog 75 #[holdV h,.int .i64 t] w fun e w'=>e=.returned (.bool (B (MineP h t)))∧Ext w w':=by
 have hv : B (MineP h t)=((h.holder == -1 || h.holder == t) && (h.claim == -1 || h.claim == t)):=by
  by_cases hm : MineP h t
  ·rw [B_yes hm]
   unfold MineP at hm
   symm
   simp only [Bool.and_eq_true,Bool.or_eq_true,beq_iff_eq]
   exact hm
  ·rw [B_no hm]
   unfold MineP at hm
   symm
   rw [← Bool.not_eq_true]
   simp only [Bool.and_eq_true,Bool.or_eq_true,beq_iff_eq]
   exact hm
 rw [hv]
 clear hv
 obtain ⟨pg,n,c,ho,cl,sw,al,mk⟩:=h
 unfold holdV
 dsimp only
 cases e0 : (ho == -1) <;> cases e1 : (ho == t) <;> cases e2 : (cl == -1) <;> cases e3 : (cl == t)
 all_goals
  go_enter Tryz.func75,Tryz.ntmps75
  go_wp2
  go_ret
  exact ⟨rfl,(Ext.refl _).alloc _⟩
set_option maxHeartbeats 2000000 in
set_option maxRecDepth 100000 in
theorem cycleC_any (h : HoldD) (w : World) : Calls Tryz.prog 104 #[holdV h] w fun e w'=>e=.returned (.bool (B (¬ RestP h)))∧Ext w w':=by
 have hr:=fun w=>rests_any h w
 have hv : B (¬ RestP h)=!(B (RestP h)):=by
  by_cases hm : RestP h
  ·rw [B_yes hm,B_no (not_not_intro hm)]; rfl
  ·rw [B_no hm,B_yes hm]; rfl
 rw [hv]
 clear hv
 obtain ⟨pg,n,c,ho,cl,sw,al,mk⟩:=h
 generalize B (RestP ⟨pg,n,c,ho,cl,sw,al,mk⟩)=bb at hr ⊢
 unfold holdV at hr ⊢
 dsimp only at hr ⊢
 have HR:=Lib.hid hr
 clear hr
 go_enter Tryz.func104,Tryz.ntmps104
 go_wp2_with (go_at_call 105; refine (HR.out _).mono ?_; rintro e w1 ⟨rfl,hE1⟩)
 go_ret
 exact ⟨rfl,((Ext.refl _).alloc _).trans hE1⟩
end Go.Proofs.YtoolenhnhlfhmaaGreatDoor
namespace Go.Proofs.YtoolenhnhlfhmaaGreatDoor
open Go.RowKit Go.Sort
set_option linter.unusedVariables false
set_option maxRecDepth 100000 in
set_option maxHeartbeats 1000000 in
theorem overRun (w : World) (a b : Addr) (la ca lb cb : Nat) (hne : a.block≠b.block) (tA tB : TypeId) (kA kB : Nat) (hsa : w.shape? a.block=some (tA,kA)) (hsb : w.shape? b.block=some (tB,kB)) (hkB : kB≠0) (hfa : w.frozen? a=false) (hfe : w.frozen? ⟨a.block,kA,none⟩=false) :
  Sem.run Tryz.prog (callFunc 120 #[.slice (some a) la ca,.slice (some b) lb cb]) w=.ok (.value (.bool false)) w:=by
 rw [Go.run_callFunc_extern Tryz.func120 (by kernel_rfl) (by kernel_rfl) (by kernel_rfl) (e:=Extern.SlicesOverlaps.overlaps #[25,25] #[4]) (by kernel_rfl),
  Lib.run_overlaps_apart w 25 4 54 Tryz.underlying25 2 Tryz.sizeOf54 a b la ca lb cb hne tA tB kA kB hsa hsb hkB hfa hfe]
 rfl
set_option maxRecDepth 100000 in
set_option maxHeartbeats 1000000 in
theorem overHand (w : World) (a b : Addr) (la ca lb cb : Nat) (hne : a.block≠b.block) (tA tB : TypeId) (kA kB : Nat) (hsa : w.shape? a.block=some (tA,kA)) (hsb : w.shape? b.block=some (tB,kB)) (hkB : kB≠0) (hfa : w.frozen? a=false) (hfe : w.frozen? ⟨a.block,kA,none⟩=false) :
  Sem.run Tryz.prog (callFunc 138 #[.slice (some a) la ca,.slice (some b) lb cb]) w=.ok (.value (.bool false)) w:=by
 rw [Go.run_callFunc_extern Tryz.func138 (by kernel_rfl) (by kernel_rfl) (by kernel_rfl) (e:=Extern.SlicesOverlaps.overlaps #[26,26] #[4]) (by kernel_rfl),
  Lib.run_overlaps_apart w 26 4 56 Tryz.underlying26 3 Tryz.sizeOf56 a b la ca lb cb hne tA tB kA kB hsa hsb hkB hfa hfe]
 rfl
set_option maxRecDepth 100000 in
set_option maxHeartbeats 1000000 in
theorem overHold (w : World) (a b : Addr) (la ca lb cb : Nat) (hne : a.block≠b.block) (tA tB : TypeId) (kA kB : Nat) (hsa : w.shape? a.block=some (tA,kA)) (hsb : w.shape? b.block=some (tB,kB)) (hkB : kB≠0) (hfa : w.frozen? a=false) (hfe : w.frozen? ⟨a.block,kA,none⟩=false) :
  Sem.run Tryz.prog (callFunc 131 #[.slice (some a) la ca,.slice (some b) lb cb]) w=.ok (.value (.bool false)) w:=by
 rw [Go.run_callFunc_extern Tryz.func131 (by kernel_rfl) (by kernel_rfl) (by kernel_rfl) (e:=Extern.SlicesOverlaps.overlaps #[27,27] #[4]) (by kernel_rfl),
  Lib.run_overlaps_apart w 27 4 51 Tryz.underlying27 8 Tryz.sizeOf51 a b la ca lb cb hne tA tB kA kB hsa hsb hkB hfa hfe]
 rfl
end Go.Proofs.YtoolenhnhlfhmaaGreatDoor
