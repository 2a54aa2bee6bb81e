/- Walks: New; the document's example. The document's example, in plain words. Walks: the document's example. -/
import Derived.Test.YtoolenhnhlfhmaaGreatDoorGT
namespace Go.Proofs.YtoolenhnhlfhmaaGreatDoor
open Go.RowKit Go.Sort
set_option linter.unusedVariables false
set_option linter.unusedSimpArgs false
noncomputable def newM (p : Int) : ModelD:=if B (1≤p∧p≤4096) then ⟨p,[⟨0,p⟩],[],[],[]⟩ else noModel
def NewP (p : Int) (w : World) (e : Ending) (w' : World) : Prop:=Ext w w'∧∃ F fc,e=.returned (modelV (newM p) F none none none fc 0 0 0)∧ModelR w' (newM p) F none none none
theorem new_res : Tryz.f16.results=#[.cell 2 30]:=by kernel_rfl
theorem nilR (w : World) : ModelR w noModel none none none none:=⟨SlR.nil,SlR.nil,SlR.nil,SlR.nil⟩
set_option maxHeartbeats 2000000 in
set_option maxRecDepth 100000 in
theorem newM_any (p : Int) (w : World) (hp : -9223372036854775808≤p∧p≤9223372036854775807) : Calls Tryz.prog 16 #[.int .i64 p] w (NewP p w):=by
 have hcs : (decide (p < 1)=true∧newM p=noModel)∨(decide (p < 1)=false∧decide (4096 < p)=true∧newM p=noModel)∨(decide (p < 1)=false∧decide (4096 < p)=false∧newM p=⟨p,[⟨0,p⟩],[],[],[]⟩):=by
  unfold newM
  simp only [decide_eq_true_eq,decide_eq_false_iff_not]
  by_cases h : 1≤p∧p≤4096
  ·rw [B_yes h]
   exact .inr (.inr ⟨by omega,by omega,rfl⟩)
  ·rw [B_no h]
   by_cases h1 : p < 1
   ·exact .inl ⟨h1,rfl⟩
   ·exact .inr (.inl ⟨h1,by omega,rfl⟩)
 have hle : w.heap.size≤w.heap.size:=Nat.le_refl _
 rcases hcs with ⟨e1,hn⟩ | ⟨e1,e2,hn⟩ | ⟨e1,e2,hn⟩
 rotate_right 1
 ·have HN:=Lib.hid hn
  clear hn hp
  go_enter Tryz.func16,Tryz.ntmps16
  go_wp2
  refine bodyPost_ret (results_cell_row new_res _ _ w.heap.size 30 _ (0,0) _ rfl ((Blk.new w _ _ _ rfl).alloc _) Tryz.underlying30 rfl own_info) rfl ⟨((Ext.refl w).alloc _).alloc _,some ⟨w.heap.size + 1,0,none⟩,1,?_,?_⟩
  ·rw [HN.out]; rfl
  ·rw [HN.out]
   refine ⟨fun _=>⟨w.heap.size + 1,0,rfl,fun j hj=>?_⟩,SlR.nil,SlR.nil,SlR.nil⟩
   have hb : Blk ((w.alloc (.cells #[.int .i64 p,.slice (some ⟨w.heap.size + 1,0,none⟩) 1 1,.slice none 0 0,.slice none 0 0,.slice none 0 0] 30)).alloc (.cells #[.int .i64 0,.int .i64 p] 54)) (w.heap.size + 1) 54 #[.int .i64 0,.int .i64 p]:=by
    have:=Blk.new (w.alloc (.cells #[.int .i64 p,.slice (some ⟨w.heap.size + 1,0,none⟩) 1 1,.slice none 0 0,.slice none 0 0,.slice none 0 0] 30)) 54 #[.int .i64 0,.int .i64 p] _ rfl
    rwa [World.size_alloc] at this
   have h2 : j=0∨j=1:=by simp at hj; omega
   rcases h2 with rfl | rfl
   ·exact hb.cell (i:=0) rfl
   ·exact hb.cell (i:=1) rfl
 all_goals
  have HN:=Lib.hid hn
  clear hn hp
  go_enter Tryz.func16,Tryz.ntmps16
  go_wp2
  refine bodyPost_ret (results_cell_row new_res _ _ w.heap.size 30 _ (0,0) _ rfl (Blk.new w _ _ _ rfl) Tryz.underlying30 rfl own_info) rfl ⟨(Ext.refl w).alloc _,none,0,?_,?_⟩
  ·rw [HN.out]; rfl
  ·rw [HN.out]; exact nilR _
def awkL : List MarkD:=[⟨1,0,0,0,1,0⟩,⟨2,0,0,0,0,0⟩,⟨3,0,0,0,0,0⟩]
def awkM : ModelD:=⟨4,[⟨0,4⟩],[],[],[]⟩
def awkM1 : ModelD:=⟨4,[⟨1,3⟩],[⟨0,0,1⟩],[],[]⟩
def awkH : HoldD:=⟨0,1,0,0,-1,true,0,0⟩
def awkM2 : ModelD:=⟨4,[⟨1,3⟩],[],[awkH],[]⟩
def awkM3 : ModelD:=⟨4,[⟨1,3⟩],[],[{ awkH with alloc:=1 }],[]⟩
theorem awk_new : newM 4=awkM:=by unfold newM; rw [B_yes (by decide)]; rfl
theorem awk_fit : FitG ⟨0,4⟩ ⟨1,0,0,0,1,0⟩:=by unfold FitG; decide
theorem awk_thread : ThreadP 0:=by unfold ThreadP; decide
theorem cut_at {α : Type} (l vs : List α) (i j : Nat) : cutIn l i j vs=l.take i ++ (vs ++ l.drop j):=rfl
theorem awk1 {m' : ModelD} (h : DoesR awkM ⟨1,0,0,0,1,0⟩ m') : m'=awkM1:=by
 obtain ⟨_,h⟩:=h
 rcases h with ⟨_,i,k,hi,hf,_,hp,rfl⟩ | ⟨h,_⟩ | ⟨h,_⟩ | ⟨h,_⟩ | ⟨h,_⟩ | ⟨h,_⟩ | ⟨h,_⟩ | ⟨h,_⟩ | ⟨h,_⟩
 ·have hi0 : i=0:=by have : i < 1:=hi; omega
  have hk0 : k=0:=by have : k≤0:=hp.1; omega
  subst hi0 hk0
  rfl
 all_goals first
  | exact absurd h (by decide)
  | exact absurd rfl h.1
theorem awk2 {m' : ModelD} (h : DoesR awkM1 ⟨2,0,0,0,0,0⟩ m') : m'=awkM2:=by
 obtain ⟨_,h⟩:=h
 rcases h with ⟨h,_⟩ | ⟨h,_⟩ | ⟨_,j,k,hj,_,_,hp,rfl⟩ | ⟨h,_⟩ | ⟨h,_⟩ | ⟨h,_⟩ | ⟨h,_⟩ | ⟨h,_⟩ | ⟨h,_⟩
 rotate_left 2
 ·have hj0 : j=0:=by have : j < 1:=hj; omega
  have hk0 : k=0:=by have : k≤0:=hp.1; omega
  subst hj0 hk0
  rfl
 all_goals first
  | exact absurd h (by decide)
  | exact absurd rfl h.2.2.1
theorem awk_slots : clsS 0=64:=by decide
theorem awk_pages : pagC 0=1:=by decide
theorem awk_turn : turnO awkH ⟨3,0,0,0,0,0⟩=some { awkH with alloc:=1 }:=by
 unfold turnO
 rw [if_pos rfl,if_pos ⟨by decide,rfl,rfl,by decide,by rw [show awkH.cls=0 from rfl,awk_slots]; decide,by decide⟩]
 have:=or_pow (a:=0) (k:=0) (by decide) (by decide)
 show some ({ awkH with alloc:=(bits .or .u64 ((0 : Nat) : Int) (IntKind.u64.wrap (2 ^ 0))).toNat } : HoldD)=_
 rw [this]
 rfl
theorem awk3 {m' : ModelD} (h : DoesR awkM2 ⟨3,0,0,0,0,0⟩ m') : m'=awkM3:=by
 obtain ⟨_,h⟩:=h
 rcases h with ⟨h,_⟩ | ⟨h,_⟩ | ⟨h,_⟩ | ⟨h,_⟩ | ⟨h,_⟩ | ⟨h,_⟩ | ⟨h,_⟩ | ⟨h,_⟩ | ⟨_,i,h',hi,_,ho,rfl⟩
 rotate_right 1
 ·have hi0 : i=0:=by have : i < 1:=hi; omega
  subst hi0
  have e:=awk_turn.symm.trans ho
  injection e with e
  subst e
  rfl
 all_goals exact absurd h (by decide)
theorem awk_no1 : ¬ DoesN awkM ⟨1,0,0,0,1,0⟩:=by
 intro h
 rcases h with h | ⟨_,h⟩ | ⟨h,_⟩ | ⟨h,_⟩ | ⟨h,_⟩ | ⟨h,_⟩ | ⟨h,_⟩ | ⟨h,_⟩ | ⟨h,_⟩ | ⟨h,_⟩
 ·exact h awk_thread
 ·exact h 0 (by decide) awk_fit
 all_goals first
  | exact absurd h (by decide)
  | exact absurd rfl h.1
theorem awk_no2 : ¬ DoesN awkM1 ⟨2,0,0,0,0,0⟩:=by
 intro h
 rcases h with h | ⟨h,_⟩ | ⟨h,_⟩ | ⟨_,h⟩ | ⟨h,_⟩ | ⟨h,_⟩ | ⟨h,_⟩ | ⟨h,_⟩ | ⟨h,_⟩ | ⟨h,_⟩
 ·exact h awk_thread
 rotate_left 2
 ·refine h 0 (by decide) ⟨rfl,rfl⟩ (fun q hq=>absurd hq (by omega)) ⟨⟨by decide,by decide⟩,⟨fun _=>?_,by decide⟩,fun i hi=>absurd hi (by simp [awkM1])⟩
  rw [show (⟨2,0,0,0,0,0⟩ : MarkD).n=0 from rfl,awk_pages]
  rfl
 all_goals first
  | exact absurd h (by decide)
  | exact absurd rfl h.2.2.1
theorem awk_no3 : ¬ DoesN awkM2 ⟨3,0,0,0,0,0⟩:=by
 intro h
 rcases h with h | ⟨h,_⟩ | ⟨h,_⟩ | ⟨h,_⟩ | ⟨h,_⟩ | ⟨h,_⟩ | ⟨h,_⟩ | ⟨h,_⟩ | ⟨h,_⟩ | ⟨_,h⟩
 ·exact h awk_thread
 rotate_right 1
 ·rcases h with h | ⟨i,hi,_,h⟩
  ·exact h 0 (by decide) rfl
  ·have hi0 : i=0:=by have : i < 1:=hi; omega
   subst hi0
   rw [show ix noHold awkM2.spans 0=awkH from rfl,awk_turn] at h
   cases h
 all_goals exact absurd h (by decide)
theorem awk_may : May2 awkM:=by
 refine ⟨by decide,laid_of ?_ ?_ ?_ ?_,List.pairwise_singleton _ _,?_,List.Pairwise.nil,?_,List.Pairwise.nil,?_,List.Pairwise.nil,?_⟩
 ·intro r hr
  rw [show awkM.free=[⟨0,4⟩] from rfl,List.mem_singleton] at hr
  subst hr
  unfold FitP fR awkM
  decide
 all_goals try (intro r hr; cases hr; done)
 intro p h0 hP
 show cntL [(0,4)] p + (cntL [] p + cntL [] p)=1
 rw [cntL_cons,cntL_nil,one_in ⟨h0,by have : p < 4:=hP; simpa using this⟩]
theorem awk_marks : MarksOk awkM:=fun s hs=>by cases hs
theorem awk_ok : ∀ j,j < awkL.length→MarkOk (ix noMark awkL j):=by
 intro j hj
 have h3 : j=0∨j=1∨j=2:=by have : j < 3:=hj; omega
 rcases h3 with rfl | rfl | rfl <;> exact ⟨by decide,by decide,by decide⟩
theorem awk_live : liveTo awkM3.spans awkM3.spans.length=[0]:=by
 show liveTo [{ awkH with alloc:=1 }] 1=[0]
 unfold liveTo
 show [] ++ livS { awkH with alloc:=1 }=[0]
 unfold livS
 have hp : places (livesW { awkH with alloc:=1 })=[0]:=by decide
 rw [hp]
 show [begC 0 0 ((0 : Nat) : Int)]=[0]
 unfold begC
 split <;> simp
theorem lenM_may {m : ModelD} (h : May2 m) : LenM m:=by
 obtain ⟨k1,k2⟩:=(may2_iff.2 h).len
 have:=h.pages
 exact ⟨by omega,by omega,by omega,by omega⟩
/-- The three marks are accepted, one behind the other, and one slot lives. -/
theorem awk_all {m' : ModelD} {n : Int} {b : Bool} (h : (b=false∧n=0∧m'=noModel∧¬ MayS HoldOk awkM)∨(MayS HoldOk awkM∧∃ k : Nat,n=(k : Int)∧Chain awkM awkL k m'∧((b=true∧k=awkL.length)∨(b=false∧k < awkL.length∧DoesN m' (ix noMark awkL k))))) :
  b=true∧n=3∧liveL m'=[0]∧May2 m'∧MarksOk m':=by
 rcases h with ⟨_,_,_,h⟩ | ⟨_,k,rfl,hc,⟨rfl,rfl⟩ | ⟨_,hk,hn⟩⟩
 ·exact absurd (may2_iff.2 awk_may) h
 ·obtain ⟨⟨h1,h2⟩,_⟩:=chain_may awk_may awk_marks awkL.length m' awk_ok hc
  obtain ⟨m2,⟨m1,⟨m0,e0,d1⟩,d2⟩,d3⟩:=hc
  subst e0
  obtain rfl:=awk1 d1
  obtain rfl:=awk2 d2
  obtain rfl:=awk3 d3
  refine ⟨rfl,rfl,?_,h1,h2⟩
  unfold liveL
  rw [B_yes (may2_iff.2 h1)]
  exact awk_live
 ·exfalso
  have h3 : k=0∨k=1∨k=2:=by have : k < 3:=hk; omega
  rcases h3 with rfl | rfl | rfl
  ·cases hc
   exact awk_no1 hn
  ·obtain ⟨m0,e0,d1⟩:=hc
   subst e0
   obtain rfl:=awk1 d1
   exact awk_no2 hn
  ·obtain ⟨m1,⟨m0,e0,d1⟩,d2⟩:=hc
   subst e0
   obtain rfl:=awk1 d1
   obtain rfl:=awk2 d2
   exact awk_no3 hn
theorem OwnM.reads {w : World} {b : Nat} {m : ModelD} {F H S G : Option Addr} {fc hc sc gc : Nat} (h : OwnM w b m (.slice F m.free.length fc) (.slice H m.hands.length hc) (.slice S m.spans.length sc) (.slice G m.gone.length gc)) : ModelR w m F H S G :=
 ⟨own_sl' h.free,own_sl' h.hands,own_sl' h.spans,own_sl' h.gone⟩
theorem awk_row {w : World} {g : Nat} (h : Blk w g 34 #[.int .i64 1,.int .i64 0,.int .i64 0,.int .i64 0,.int .i64 1,.int .u64 0,.int .i64 2,.int .i64 0,.int .i64 0,.int .i64 0,.int .i64 0,.int .u64 0,.int .i64 3,.int .i64 0,.int .i64 0,.int .i64 0,.int .i64 0,.int .u64 0]) : SlR w (some ⟨g,0,none⟩) 3 6 (marksV awkL):=fun _=>⟨g,0,rfl,fun j hj=>by
 rw [Nat.zero_add]
 refine h.cell ?_
 have h18 : j=0∨j=1∨j=2∨j=3∨j=4∨j=5∨j=6∨j=7∨j=8∨j=9∨j=10∨j=11∨j=12∨j=13∨j=14∨j=15∨j=16∨j=17:=by omega
 rcases h18 with rfl | rfl | rfl | rfl | rfl | rfl | rfl | rfl | rfl | rfl | rfl | rfl | rfl | rfl | rfl | rfl | rfl | rfl <;> rfl⟩
set_option maxHeartbeats 4000000 in
set_option maxRecDepth 100000 in
theorem awake_any (w : World) (hT : Tab w) (hB : TabB w) : Calls Tryz.prog 10 #[] w fun e w'=>e=.returned (.bool true)∧Ext w w':=by
 have HT:=Lib.hid (And.intro hT hB)
 clear hT hB
 go_enter Tryz.func10,Tryz.ntmps10
 go_wp2_with fail
 go_at_call 16
 refine (newM_any 4 w (by decide)).mono ?_
 rintro e w1 ⟨hE1,F,fc,rfl,hM1⟩
 rw [awk_new] at hM1 ⊢
 have HE1:=Lib.hid (And.intro hE1 hM1)
 clear hE1 hM1
 unfold modelV
 go_wp2_with fail
 go_at_call 12
 have hrow : Blk (w1.alloc (.cells #[.int .i64 1,.int .i64 0,.int .i64 0,.int .i64 0,.int .i64 1,.int .u64 0,.int .i64 2,.int .i64 0,.int .i64 0,.int .i64 0,.int .i64 0,.int .u64 0,.int .i64 3,.int .i64 0,.int .i64 0,.int .i64 0,.int .i64 0,.int .u64 0] 34)) w1.heap.size 34 #[.int .i64 1,.int .i64 0,.int .i64 0,.int .i64 0,.int .i64 1,.int .u64 0,.int .i64 2,.int .i64 0,.int .i64 0,.int .i64 0,.int .i64 0,.int .u64 0,.int .i64 3,.int .i64 0,.int .i64 0,.int .i64 0,.int .i64 0,.int .u64 0]:=Blk.new _ _ _ _ rfl
 have hx1 : Ext w1 (w1.alloc (.cells #[.int .i64 1,.int .i64 0,.int .i64 0,.int .i64 0,.int .i64 1,.int .u64 0,.int .i64 2,.int .i64 0,.int .i64 0,.int .i64 0,.int .i64 0,.int .u64 0,.int .i64 3,.int .i64 0,.int .i64 0,.int .i64 0,.int .i64 0,.int .u64 0] 34)):=(Ext.refl w1).alloc _
 have hall:=all_any awkM awkL F none none none (some ⟨w1.heap.size,0,none⟩) fc 0 0 0 3 _ (lenM_may awk_may) awk_marks (HE1.out.2.ext hx1) (by decide) (awk_row hrow) awk_ok (HT.out.1.ext (HE1.out.1.trans hx1)) (HT.out.2.ext (HE1.out.1.trans hx1))
 unfold modelV at hall
 refine hall.mono ?_
 rintro e w2 ⟨hE2,m',n,b,F',H',S',G',fc',hc',sc',gc',rfl,hO,hr⟩
 obtain ⟨rfl,rfl,hlv,hmay,hmk⟩:=awk_all hr
 have hE02:=(HE1.out.1.trans hx1).trans hE2
 have HQ:=Lib.hid (And.intro hE02 (And.intro hO.reads (And.intro hlv (And.intro hmay hmk))))
 have hLv : ∀ W,Ext w2 W→Calls Tryz.prog 21 #[modelV m' F' H' S' G' fc' hc' sc' gc'] W (LiveP [0] W):=fun W hW=>by
  have:=liveM_any m' F' H' S' G' fc' hc' sc' gc' W (lenM_may HQ.out.2.2.2.1) HQ.out.2.2.2.2 (HQ.out.2.1.ext hW) (HT.out.1.ext (HQ.out.1.trans hW)) (HT.out.2.ext (HQ.out.1.trans hW))
  rw [HQ.out.2.2.1] at this
  exact this
 unfold modelV at hLv ⊢
 have HLv:=Lib.hid hLv
 clear hE2 hO hr hlv hmay hmk hE02 hrow hx1 hall hLv
 have hbx : Blk (w2.alloc (.cells #[.int .i64 m'.pages,.slice F' m'.free.length fc',.slice H' m'.hands.length hc',.slice S' m'.spans.length sc',.slice G' m'.gone.length gc'] 30)) w2.heap.size 30 #[.int .i64 m'.pages,.slice F' m'.free.length fc',.slice H' m'.hands.length hc',.slice S' m'.spans.length sc',.slice G' m'.gone.length gc']:=Blk.new _ _ _ _ rfl
 have hxx : Ext w2 (w2.alloc (.cells #[.int .i64 m'.pages,.slice F' m'.free.length fc',.slice H' m'.hands.length hc',.slice S' m'.spans.length sc',.slice G' m'.gone.length gc'] 30)):=(Ext.refl w2).alloc _
 have HBX:=Lib.hid (And.intro hbx hxx)
 clear hbx hxx
 go_wp2_with fail
 go_at_call 21
 refine (HLv.out _ HBX.out.2).mono ?_
 rintro e w3 ⟨⟨A,c,rfl,hS⟩,hE3⟩
 have hb3:=HBX.out.1.ext hE3
 obtain ⟨g0,g1,g2,g3,g4⟩:=Blk.c5 hb3
 have H3:=Lib.hid (And.intro hS (And.intro (HBX.out.2.trans hE3) hb3))
 clear hS hE3 hb3
 simp only [List.length_cons,List.length_nil,Nat.zero_add] at H3 ⊢
 go_wp2_with fail
 go_at_call 20
 have hx4 : Ext w3 (w3.alloc (.cells #[.int .i64 0] 3)):=(Ext.refl w3).alloc _
 have hb4 : Blk (w3.alloc (.cells #[.int .i64 0] 3)) w3.heap.size 3 #[.int .i64 0]:=Blk.new _ _ _ _ rfl
 have hs4 : SlR (w3.alloc (.cells #[.int .i64 0] 3)) (some ⟨w3.heap.size,0,none⟩) 1 1 (intsV [0]):=fun _=>⟨w3.heap.size,0,rfl,fun j hj=>by
  obtain rfl : j=0:=by omega
  exact hb4.cell (i:=0) rfl⟩
 refine (sameI_eq [0] A (some ⟨w3.heap.size,0,none⟩) c 1 _ (by decide) (SlR.ext H3.out.1 hx4) hs4).mono ?_
 rintro e w4 ⟨rfl,hE4⟩
 have hb5:=H3.out.2.2.ext (hx4.trans hE4)
 obtain ⟨h0,h1,h2,h3,h4⟩:=Blk.c5 hb5
 have H4:=Lib.hid (H3.out.2.1.trans (hx4.trans hE4))
 clear hx4 hb4 hs4 hE4 hb5
 go_wp2_with fail
 go_at_call 21
 refine (HLv.out _ H4.out).mono ?_
 rintro e w5 ⟨⟨A5,c5,rfl,hS5⟩,hE5⟩
 have H5:=Lib.hid hE5
 clear hS5 hE5
 simp only [List.length_cons,List.length_nil,Nat.zero_add]
 go_wp2_with fail
 go_ret
 exact ⟨rfl,HQ.out.1.trans (H4.out.trans H5.out)⟩
end Go.Proofs.YtoolenhnhlfhmaaGreatDoor
