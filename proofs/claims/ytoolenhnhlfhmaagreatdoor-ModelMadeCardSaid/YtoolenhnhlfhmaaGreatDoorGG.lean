/- Walks: the desk's lookups. Walks: cmp.Compare, slices.BinarySearchFunc. -/
import Derived.Test.YtoolenhnhlfhmaaGreatDoorMdN
namespace Go.Proofs.YtoolenhnhlfhmaaGreatDoor
open Go.RowKit Go.Sort
set_option linter.unusedVariables false
set_option linter.unusedSimpArgs false
/-- A desk: a model of its own in a block. -/
structure DeskR (w : World) (d base : Nat) (m : ModelD) (F H S G : Value) : Prop where
 blk : Blk w d 62 #[.int .i64 m.pages,F,H,S,G]
 own : OwnM w base m F H S G
theorem DeskR.ext {w w' : World} {d base : Nat} {m : ModelD} {F H S G : Value} (h : DeskR w d base m F H S G) (hE : Ext w w') : DeskR w' d base m F H S G:=⟨h.blk.ext hE,h.own.ext hE⟩
theorem box2 (w : World) (t p : Int) : ((w.alloc (.cells #[.int .i64 t] 3)).alloc (.cells #[.int .i64 p] 3)).cell? ⟨w.heap.size,0,none⟩=some (.int .i64 t)∧((w.alloc (.cells #[.int .i64 t] 3)).alloc (.cells #[.int .i64 p] 3)).cell? ⟨w.heap.size + 1,0,none⟩=some (.int .i64 p):=by
 refine ⟨((Ext.refl _).alloc _).cell (cell_new _ _ _ _ _ rfl),?_⟩
 have h:=cell_new (w.alloc (.cells #[.int .i64 t] 3)) #[.int .i64 p] 3 0 (.int .i64 p) rfl
 have e : (w.alloc (.cells #[.int .i64 t] 3)).heap.size=w.heap.size + 1:=World.size_alloc _ _
 rw [e] at h
 exact h
set_option maxHeartbeats 2000000 in
set_option maxRecDepth 100000 in
theorem hand1_any (x : HandD) (a b : Nat) (t p : Int) (w : World) (ha : w.cell? ⟨a,0,none⟩=some (.int .i64 t)) (hb : w.cell? ⟨b,0,none⟩=some (.int .i64 p)) :
  Calls Tryz.prog 129 #[.agg #[.int .i64 x.t,.int .i64 x.at_,.int .i64 x.n],.pointer (some ⟨a,0,none⟩),.pointer (some ⟨b,0,none⟩)] w fun e w'=>e=.returned (.bool (B (x.t=t∧x.at_=p)))∧Ext w w':=by
 have y1:=((Ext.refl w).alloc (.cells #[.int .i64 x.t,.int .i64 x.at_,.int .i64 x.n] 56)).cell ha
 have y2:=((Ext.refl w).alloc (.cells #[.int .i64 x.t,.int .i64 x.at_,.int .i64 x.n] 56)).cell hb
 have hcs : ((x.t == t)=false∧¬ (x.t=t∧x.at_=p))∨((x.t == t)=true∧(x.at_ == p)=false∧¬ (x.t=t∧x.at_=p))∨((x.t == t)=true∧(x.at_ == p)=true∧(x.t=t∧x.at_=p)):=by
  simp only [beq_iff_eq,beq_eq_false_iff_ne,ne_eq]
  omega
 clear ha hb
 rcases hcs with ⟨e0,h⟩ | ⟨e0,e1,h⟩ | ⟨e0,e1,h⟩
 all_goals
  have HX:=Lib.hid h
  clear h
  go_enter Tryz.func129,Tryz.ntmps129
  go_wp2
  go_ret
  exact ⟨ret_bool (by first | exact (B_no HX.out).symm | exact (B_yes HX.out).symm),(Ext.refl _).alloc _⟩
set_option maxHeartbeats 2000000 in
set_option maxRecDepth 100000 in
theorem hand_any (m : ModelD) (d base : Nat) (F H S G : Value) (A : Option Addr) (c : Nat) (hH : H=.slice A m.hands.length c) (t p : Int) (w : World) (hl : m.hands.length≤1000000) (hD : DeskR w d base m F H S G) :
  Calls Tryz.prog 91 #[.pointer (some ⟨d,0,none⟩),.int .i64 t,.int .i64 p] w fun e w'=>∃ r,e=.returned (.tuple #[.int .i64 r,.bool (decide (0≤r))])∧FirstP m.hands.length (fun j=>(ix noHand m.hands j).t=t∧(ix noHand m.hands j).at_=p) r∧Ext w w':=by
 subst hH
 have hE:=(((Ext.refl w).alloc (.cells #[.int .i64 t] 3)).alloc (.cells #[.int .i64 p] 3))
 have c2:=hE.cell (hD.blk.cell (i:=2) (v:=.slice A m.hands.length c) rfl)
 have hsl : SlR ((w.alloc (.cells #[.int .i64 t] 3)).alloc (.cells #[.int .i64 p] 3)) A m.hands.length 3 (handV m.hands):=by
  obtain ⟨A',c',e1,_,hs⟩:=(hD.own.hands.ext hE).form
  injection e1 with e1 e2 e3
  rw [e1]
  exact hs
 have HD:=Lib.hid (And.intro hD (And.intro hE hsl))
 have HBx:=Lib.hid (box2 w t p)
 clear hD hE hsl
 go_enter Tryz.func91,Tryz.ntmps91
 go_wp2_with (go_at_call 127; refine (indexHand_any A m.hands c 129 #[.pointer (some ⟨w.heap.size,0,none⟩),.pointer (some ⟨w.heap.size + 1,0,none⟩)] (fun j=>(ix noHand m.hands j).t=t∧(ix noHand m.hands j).at_=p) _ hl (fun _ _=>rfl) HD.out.2.2 (fun j hj w' hw'=>hand1_any _ _ _ t p w' (hw'.cell HBx.out.1) (hw'.cell HBx.out.2))).mono ?_; rintro e w1 ⟨r,rfl,hr,hE1⟩)
 go_ret2
 exact ⟨r,rfl,hr,HD.out.2.1.trans hE1⟩
def cmpI (a b : Int) : Int:=if a < b then -1 else if b < a then 1 else 0
set_option maxHeartbeats 2000000 in
theorem isNaN_any (a : Int) (w : World) : Calls Tryz.prog 130 #[.int .i64 a] w fun e w'=>e=.returned (.bool false)∧w=w':=by
 have e0 : (a != a)=false:=by simp
 go_enter Tryz.func130,Tryz.ntmps130
 go_wp2
 go_ret
 exact ⟨rfl,rfl⟩
set_option maxHeartbeats 2000000 in
theorem compare_any (a b : Int) (w : World) : Calls Tryz.prog 98 #[.int .i64 a,.int .i64 b] w fun e w'=>e=.returned (.int .i64 (cmpI a b))∧w=w':=by
 have hcs : (decide (a < b)=true∧cmpI a b=-1)∨(decide (a < b)=false∧decide (b < a)=true∧cmpI a b=1)∨(decide (a < b)=false∧decide (b < a)=false∧cmpI a b=0):=by
  unfold cmpI
  by_cases h : a < b
  ·exact .inl ⟨decide_eq_true h,if_pos h⟩
  ·by_cases h1 : b < a
   ·exact .inr (.inl ⟨decide_eq_false h,decide_eq_true h1,by rw [if_neg h,if_pos h1]⟩)
   ·exact .inr (.inr ⟨decide_eq_false h,decide_eq_false h1,by rw [if_neg h,if_neg h1]⟩)
 rcases hcs with ⟨e0,h0⟩ | ⟨e0,e1,h0⟩ | ⟨e0,e1,h0⟩
 all_goals
  rw [h0]
  clear h0
  go_enter Tryz.func98,Tryz.ntmps98
  go_wp2_with (go_at_call 130; refine (isNaN_any _ _).mono ?_; rintro e w1 ⟨rfl,rfl⟩)
  go_ret
  exact ⟨rfl,rfl⟩
set_option maxHeartbeats 2000000 in
set_option maxRecDepth 100000 in
theorem spanC_any (x : HoldD) (p : Int) (w : World) :
  Calls Tryz.prog 109 #[holdV x,.int .i64 p] w fun e w'=>e=.returned (.int .i64 (cmpI x.page p))∧Ext w w':=by
 unfold holdV
 go_enter Tryz.func109,Tryz.ntmps109
 go_wp2_with (go_at_call 98; refine (compare_any _ _ _).mono ?_; rintro e w1 ⟨rfl,rfl⟩)
 go_ret
 exact ⟨rfl,(Ext.refl _).alloc _⟩
set_option maxHeartbeats 2000000 in
set_option maxRecDepth 100000 in
theorem handC_any (x : HandD) (p : Int) (w : World) :
  Calls Tryz.prog 124 #[.agg #[.int .i64 x.t,.int .i64 x.at_,.int .i64 x.n],.int .i64 p] w fun e w'=>e=.returned (.int .i64 (cmpI x.at_ p))∧Ext w w':=by
 go_enter Tryz.func124,Tryz.ntmps124
 go_wp2_with (go_at_call 98; refine (compare_any _ _ _).mono ?_; rintro e w1 ⟨rfl,rfl⟩)
 go_ret
 exact ⟨rfl,(Ext.refl _).alloc _⟩
set_option maxHeartbeats 2000000 in
set_option maxRecDepth 100000 in
theorem runC_any (x : RunD) (p : Int) (w : World) :
  Calls Tryz.prog 103 #[.agg #[.int .i64 x.at_,.int .i64 x.n],.int .i64 p] w fun e w'=>e=.returned (.int .i64 (cmpI x.at_ p))∧Ext w w':=by
 go_enter Tryz.func103,Tryz.ntmps103
 go_wp2_with (go_at_call 98; refine (compare_any _ _ _).mono ?_; rintro e w1 ⟨rfl,rfl⟩)
 go_ret
 exact ⟨rfl,(Ext.refl _).alloc _⟩
end Go.Proofs.YtoolenhnhlfhmaaGreatDoor
