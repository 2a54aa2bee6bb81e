/- Walks: the desk's drop. -/
import Derived.Test.YtoolenhnhlfhmaaGreatDoorDkD
namespace Go.Proofs.YtoolenhnhlfhmaaGreatDoor
open Go.RowKit Go.Sort
set_option linter.unusedVariables false
set_option linter.unusedSimpArgs false
set_option maxHeartbeats 2000000 in
set_option maxRecDepth 100000 in
theorem drop1_any (h : HoldD) (b : Nat) (p : Int) (w : World) (hb : w.cell? ⟨b,3,none⟩=some (.int .i64 p)) :
  Calls Tryz.prog 101 #[holdV h,.pointer (some ⟨b,0,none⟩)] w fun e w'=>e=.returned (.bool (B (h.page=p)))∧Ext w w':=by
 have hbl : b < w.heap.size:=World.block_lt_of_cell? _ _ hb
 unfold holdV
 by_cases h1 : h.page=p
 ·have e : (h.page == p)=true:=by simpa using h1
  have HX:=Lib.hid h1
  clear h1
  go_enter Tryz.func101,Tryz.ntmps101
  go_wp2
  go_ret
  exact ⟨ret_bool (B_yes HX.out).symm,(Ext.refl _).alloc _⟩
 ·have e : (h.page == p)=false:=by simpa using h1
  have HX:=Lib.hid h1
  clear h1
  go_enter Tryz.func101,Tryz.ntmps101
  go_wp2
  go_ret
  exact ⟨ret_bool (B_no HX.out).symm,(Ext.refl _).alloc _⟩
/-- A span that may be dropped. -/
def DropC (x : MarkD) (h : HoldD) : Prop:=h.holder=x.thread∧h.claim=-1∧h.swept=true∧h.alloc=0∧h.pages=x.n
def DropP (m : ModelD) (d base : Nat) (F H S G : Value) (x : MarkD) (w : World) (e : Ending) (w' : World) : Prop :=
 KeepD base d w w'∧w.heap.size≤w'.heap.size∧((e=.returned (.bool false)∧(∀ i,i < m.spans.length→(ix noHold m.spans i).page=x.page→¬ DropC x (ix noHold m.spans i))∧DeskR w' d base m F H S G) ∨
  (e=.returned (.bool true)∧∃ i k H' S',i < m.spans.length∧(ix noHold m.spans i).page=x.page∧DropC x (ix noHold m.spans i)∧PlaceH m.hands k x.page ∧
   DeskR w' d base { m with spans:=stayL (fun h=>h.page=x.page) m.spans,hands:=cutIn m.hands k k [⟨x.thread,x.page,x.n⟩] } F H' S' G))
theorem Rises.uniq {α : Type} {d : α} {l : List α} {K : α→Int} (h : Rises d l K) {i j : Nat} (hi : i < l.length) (hj : j < l.length) (e : K (ix d l i)=K (ix d l j)) : i=j:=by
 rcases Nat.lt_trichotomy i j with h1 | h1 | h1
 ·have:=h i j h1 hj; omega
 ·exact h1
 ·have:=h j i h1 hi; omega
set_option maxHeartbeats 4000000 in
set_option maxRecDepth 100000 in
theorem dropD_any (m : ModelD) (d base : Nat) (F H S G : Value) (x : MarkD) (w : World) (hl : m.hands.length≤900000∧m.spans.length≤900000) (hx : MarkOk x)
  (hs : Rises noHand m.hands handK) (hss : Rises noHold m.spans pageK) (hbase : base≤w.heap.size) (hD : DeskR w d base m F H S G) :
  Calls Tryz.prog 59 #[.pointer (some ⟨d,0,none⟩),markV x] w (DropP m d base F H S G x w):=by
 obtain ⟨SA,sc,rfl,hsc⟩:=hD.own.spans.ofSlice
 obtain ⟨l1,l2⟩:=hl
 obtain ⟨W0,hW0⟩ : ∃ W0,W0=w.alloc (.cells (markA x) 34):=⟨_,rfl⟩
 have hbx : Blk W0 w.heap.size 34 (markA x):=hW0▸Blk.new _ _ _ _ rfl
 have hdlt:=hD.blk.lt
 have hspan : ∀ W,Ext w W→Calls Tryz.prog 63 #[.pointer (some ⟨d,0,none⟩),.int .i64 x.page] W fun e w'=>∃ q,e=.returned (.pointer q)∧Hid (((q=none∧∀ j,j < m.spans.length→(ix noHold m.spans j).page≠x.page)∨∃ i g,i < m.spans.length∧(ix noHold m.spans i).page=x.page∧SA=some ⟨g,0,none⟩∧q=some ⟨g,i * 8,none⟩)∧Ext W w'):=fun W hE =>
  (spanD_any m d base F H G SA sc x.page W (by omega) hss (hD.ext hE)).mono fun e w' ⟨h,hE'⟩=>by
   rcases h with ⟨he,hno⟩ | ⟨i,g,hi,hp,hA,he⟩
   ·exact ⟨_,he,Lib.hid ⟨.inl ⟨rfl,hno⟩,hE'⟩⟩
   ·exact ⟨_,he,Lib.hid ⟨.inr ⟨i,g,hi,hp,hA,rfl⟩,hE'⟩⟩
 unfold markV
 unfold markA at hW0 hbx
 have x3:=hbx.cell (i:=3) (v:=.int .i64 x.page) rfl
 have HX:=Lib.hid (show Ext w (w.alloc (.cells #[.int .i64 x.kind,.int .i64 x.thread,.int .i64 x.entry,.int .i64 x.page,.int .i64 x.n,.int .u64 (x.mask : Int)] 34)) from (Ext.refl w).alloc _)
 rw [hW0] at x3
 have hbx' : Blk (w.alloc (.cells #[.int .i64 x.kind,.int .i64 x.thread,.int .i64 x.entry,.int .i64 x.page,.int .i64 x.n,.int .u64 (x.mask : Int)] 34)) w.heap.size 34 #[.int .i64 x.kind,.int .i64 x.thread,.int .i64 x.entry,.int .i64 x.page,.int .i64 x.n,.int .u64 (x.mask : Int)]:=hW0▸hbx
 have HD:=Lib.hid (And.intro hD (And.intro hs (And.intro hss hbx')))
 have HH:=Lib.hid hspan
 clear hD hs hss hbx hW0 hspan hbx'
 go_enter Tryz.func59,Tryz.ntmps59
 go_upto_region 2 with (go_at_call 63; (with_reducible refine (HH.out _ HX.out).mono ?_); rintro e w1 ⟨q,rfl,HR⟩)
 clear x3
 obtain ⟨hr,hE1⟩:=HR.out
 have hEw : Ext w w1:=HX.out.trans hE1
 have hbx1:=HD.out.2.2.2.ext hE1
 rcases hr with ⟨rfl,hno⟩ | ⟨i,g,hi,hp,rfl,rfl⟩
 ·have HN:=Lib.hid (And.intro hno hEw)
  clear hno hE1 hEw hbx1
  go_quiet (fail)
  go_wp2
  go_ret
  have hEq:=HN.out.2.drewN nq
  exact ⟨KeepD.ext hEq,hEq.size,.inl ⟨rfl,fun j hj h=>absurd h (HN.out.1 j hj),HD.out.1.ext hEq⟩⟩
 ·have hD1:=HD.out.1.ext hEw
  have x1:=hbx1.cell (i:=1) (v:=.int .i64 x.thread) rfl
  have x4:=hbx1.cell (i:=4) (v:=.int .i64 x.n) rfl
  have hro:=hD1.own.spans
  have c1:=hro.cellAt (j:=i * 8 + 1) (by omega)
  have c3:=hro.cellAt (j:=i * 8 + 3) (by omega)
  have c4:=hro.cellAt (j:=i * 8 + 4) (by omega)
  have c5:=hro.cellAt (j:=i * 8 + 5) (by omega)
  have c6:=hro.cellAt (j:=i * 8 + 6) (by omega)
  rw [holdsV_at _ _ _ (by omega)] at c1 c3 c4 c5 c6
  obtain ⟨h,hh⟩ : ∃ h,ix noHold m.spans i=h:=⟨_,rfl⟩
  have HP:=Lib.hid (And.intro hi (And.intro hp (And.intro hh (And.intro hEw (And.intro hD1 hbx1)))))
  rw [hh] at c1 c3 c4 c5 c6
  replace c1:=c1.trans (show some (holdC h 1)=some (.int .i64 h.pages) from rfl)
  replace c3:=c3.trans (show some (holdC h 3)=some (.int .i64 h.holder) from rfl)
  replace c4:=c4.trans (show some (holdC h 4)=some (.int .i64 h.claim) from rfl)
  replace c5:=c5.trans (show some (holdC h 5)=some (.bool h.swept) from rfl)
  replace c6:=c6.trans (show some (holdC h 6)=some (.int .u64 (h.alloc : Int)) from rfl)
  have hfalse : ∀ W,Ext w1 W→¬ DropC x h→DropP m d base F H (.slice (some ⟨g,0,none⟩) m.spans.length sc) G x w (.returned (.bool false)) W:=fun W hE hno =>
   ⟨KeepD.ext (hEw.trans hE),(hEw.trans hE).size,.inl ⟨rfl,fun j hj h2=>by
    have e:=HD.out.2.2.1.uniq hj hi (show pageK (ix noHold m.spans j)=pageK (ix noHold m.spans i) from h2.trans hp.symm)
    rw [e,hh]
    exact hno,hD1.ext hE⟩⟩
  have HFl:=Lib.hid hfalse
  clear hi hp hh hEw hD1 hbx1 hE1 hfalse hro
  have hds : ((h.holder != x.thread)=true∧¬ DropC x h)∨((h.holder != x.thread)=false∧(h.claim != -1)=true∧¬ DropC x h)∨((h.holder != x.thread)=false∧(h.claim != -1)=false∧h.swept=false∧¬ DropC x h)∨((h.holder != x.thread)=false∧(h.claim != -1)=false∧h.swept=true∧(((h.alloc : Nat) : Int) != 0)=true∧¬ DropC x h) ∨
    ((h.holder != x.thread)=false∧(h.claim != -1)=false∧h.swept=true∧(((h.alloc : Nat) : Int) != 0)=false∧(h.pages != x.n)=true∧¬ DropC x h)∨((h.holder != x.thread)=false∧(h.claim != -1)=false∧h.swept=true∧(((h.alloc : Nat) : Int) != 0)=false∧(h.pages != x.n)=false∧DropC x h):=by
   unfold DropC
   simp only [bne_iff_ne,bne_eq_false_iff_eq,ne_eq]
   cases h.swept <;> simp <;> omega
  rcases hds with ⟨e0,hc⟩ | ⟨e0,e1,hc⟩ | ⟨e0,e1,e2,hc⟩ | ⟨e0,e1,e2,e3,hc⟩ | ⟨e0,e1,e2,e3,e4,hc⟩ | ⟨e0,e1,e2,e3,e4,hc⟩
  rotate_right 1
  ·have HCc:=Lib.hid hc
   clear hc
   have hdel : ∀ W,Ext w1 W→Calls Tryz.prog 100 #[.slice (some ⟨g,0,none⟩) m.spans.length sc,.func (.func 101) #[] #[.pointer (some ⟨w.heap.size,0,none⟩)]] W fun e w'=>∃ A' N c' v,e=.returned (.slice A' N c')∧w'.cell? ⟨d,3,none⟩=some v∧w'.frozen? ⟨d,3,none⟩=false ∧
     Hid (DeskR (w'.setCell ⟨d,3,none⟩ (.slice A' N c')) d base { m with spans:=stayL (fun h=>h.page=x.page) m.spans } F H (.slice A' N c') G∧Blk (w'.setCell ⟨d,3,none⟩ (.slice A' N c')) w.heap.size 34 #[.int .i64 x.kind,.int .i64 x.thread,.int .i64 x.entry,.int .i64 x.page,.int .i64 x.n,.int .u64 (x.mask : Int)]∧KeepD base d w (w'.setCell ⟨d,3,none⟩ (.slice A' N c'))∧w.heap.size≤(w'.setCell ⟨d,3,none⟩ (.slice A' N c')).heap.size):=fun W hE=>by
    obtain ⟨hi,hp,hh,hEw,hD1,hbx1⟩:=HP.out
    have hDW:=hD1.ext hE
    have hgx : ∀ a b : World,a.grownBy b ((some (⟨g,0,none⟩ : Addr)).map (·.block))→Blk a w.heap.size 34 #[.int .i64 x.kind,.int .i64 x.thread,.int .i64 x.entry,.int .i64 x.page,.int .i64 x.n,.int .u64 (x.mask : Int)]→Blk b w.heap.size 34 #[.int .i64 x.kind,.int .i64 x.thread,.int .i64 x.entry,.int .i64 x.page,.int .i64 x.n,.int .u64 (x.mask : Int)]:=fun a b hg hb=>hb.grown hg (fun h=>by
     have:=(World.ownsRow.lt HD.out.1.own.spans g rfl).2
     injection h with h
     simp only at h
     omega)
    refine (delHold_any base _ sc (some ⟨g,0,none⟩) m.spans rfl 101 #[.pointer (some ⟨w.heap.size,0,none⟩)] (fun h=>h.page=x.page) (fun W=>Blk W w.heap.size 34 #[.int .i64 x.kind,.int .i64 x.thread,.int .i64 x.entry,.int .i64 x.page,.int .i64 x.n,.int .u64 (x.mask : Int)]) W (by omega) (fun _ _=>rfl) (hbx1.ext hE) (fun a b h k=>k.ext h) hgx (fun y w' hw'=>drop1_any y w.heap.size x.page w' (hw'.cell (i:=3) rfl)) hDW.own.spans).mono fun e w' ⟨he,hO,hg,hx2⟩=>?_
    have hb2:=hDW.blk.grown hg (Ne.symm hDW.nes.2.2.1)
    exact ⟨_,_,_,_,he,hb2.cell (i:=3) rfl,hb2.frozen 3,Lib.hid ⟨hDW.setSpans hg _ hO,hx2.far (by show w.heap.size≠d; omega) _,((KeepD.ext (hEw.trans hE)).trans (KeepD.grown hDW.own.spans hg)).trans (KeepD.set _ _),by simpa using Nat.le_trans (hEw.trans hE).size hg.size⟩⟩
   have HDl:=Lib.hid hdel
   have d3:=HP.out.2.2.2.2.1.blk.cell (i:=3) (v:=.slice (some ⟨g,0,none⟩) m.spans.length sc) rfl
   clear hdel
   go_quiet (fail)
   have HQ:=Lib.hid (show Ext w1 (w1.drewN nq) from (Ext.refl w1).drewN nq)
   go_upto_region 5 with (go_at_call 100; (with_reducible refine (HDl.out _ HQ.out).mono ?_); rintro e w2 ⟨A',N,c',v,rfl,k1,k2,HF⟩)
   obtain ⟨W2,hW2⟩ : ∃ W2,W2=w2.setCell ⟨d,3,none⟩ (.slice A' N c'):=⟨_,rfl⟩
   have HF2:=HF.out
   rw [← hW2] at HF2
   rw [← hW2]
   obtain ⟨hD2,hx2,hK2,hz2⟩:=HF2
   clear hW2 k1 k2 HF x1 x4 d3 c1 c3 c4 c5 c6
   have y1:=hx2.cell (i:=1) (v:=.int .i64 x.thread) rfl
   have y3:=hx2.cell (i:=3) (v:=.int .i64 x.page) rfl
   have y4:=hx2.cell (i:=4) (v:=.int .i64 x.n) rfl
   have hgv:=(gives_any { m with spans:=stayL (fun h=>h.page=x.page) m.spans } d base F H (.slice A' N c') G x.thread x.page x.n W2 l1 HD.out.2.1 (Nat.le_trans hbase hz2) hD2).mono (R':=fun e w'=>e=.returned (.tuple #[])∧Hid (DropP m d base F H (.slice (some ⟨g,0,none⟩) m.spans.length sc) G x w (.returned (.bool true)) w')) fun e w' ⟨he,⟨k,H',hpk,hDk⟩,hk3,hk4⟩ =>
    ⟨he,Lib.hid ⟨hK2.trans hk3,Nat.le_trans hz2 hk4,.inr ⟨rfl,i,k,_,_,HP.out.1,HP.out.2.1,by rw [HP.out.2.2.1]; exact HCc.out,hpk,hDk⟩⟩⟩
   have HG:=Lib.hid hgv
   clear hgv hD2 hx2 hK2 hz2
   go_wp2_with (go_at_call 84; (with_reducible refine HG.out.mono ?_); rintro e w3 ⟨rfl,HPf⟩)
   go_ret
   exact HPf.out
  all_goals
   have HCc:=Lib.hid hc
   clear hc
   go_quiet (fail)
   go_wp2
   go_ret
   exact HFl.out _ ((Ext.refl _).drewN _) HCc.out
end Go.Proofs.YtoolenhnhlfhmaaGreatDoor
