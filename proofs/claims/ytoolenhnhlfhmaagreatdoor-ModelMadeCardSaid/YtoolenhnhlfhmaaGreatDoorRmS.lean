/- Walks: what the document does with one span. -/
import Derived.Test.YtoolenhnhlfhmaaGreatDoorHC
import Derived.Deep.CutBlock
namespace Go.Proofs.YtoolenhnhlfhmaaGreatDoor
open Go.RowKit Go.Sort
set_option linter.unusedVariables false
set_option linter.unusedSimpArgs false
theorem own8 {w : World} {base g n c i : Nat} {l : List HoldD} {h : HoldD} (hO : OwnS w base 51 8 (.slice (some ⟨g,0,none⟩) n c) n (holdsV l)) (hi : i < n) (hh : ix noHold l i=h) :
  w.cell? ⟨g,i * 8,none⟩=some (.int .i64 h.page)∧w.cell? ⟨g,i * 8 + 1,none⟩=some (.int .i64 h.pages)∧w.cell? ⟨g,i * 8 + 2,none⟩=some (.int .i64 h.cls)∧w.cell? ⟨g,i * 8 + 3,none⟩=some (.int .i64 h.holder)∧w.cell? ⟨g,i * 8 + 4,none⟩=some (.int .i64 h.claim)∧w.cell? ⟨g,i * 8 + 5,none⟩=some (.bool h.swept)∧w.cell? ⟨g,i * 8 + 6,none⟩=some (.int .u64 (h.alloc : Int))∧w.cell? ⟨g,i * 8 + 7,none⟩=some (.int .u64 (h.marks : Int)):=by
 have hr : ∀ j,j < 8→w.cell? ⟨g,i * 8 + j,none⟩=some (holdC h j):=fun j hj=>by
  have:=hO.cellAt (j:=i * 8 + j) (by omega)
  rw [holdsV_at _ _ _ hj,hh] at this
  exact this
 exact ⟨hr 0 (by omega),hr 1 (by omega),hr 2 (by omega),hr 3 (by omega),hr 4 (by omega),hr 5 (by omega),hr 6 (by omega),hr 7 (by omega)⟩
theorem frz8 {w : World} {base g n c : Nat} {e : TypeId} {sz : Nat} {F : Nat→Value} (hO : OwnS w base e sz (.slice (some ⟨g,0,none⟩) n c) n F) (j : Nat) :
  w.frozen? ⟨g,j,none⟩=false∧w.frozen? ⟨g,j + 1,none⟩=false∧w.frozen? ⟨g,j + 2,none⟩=false∧w.frozen? ⟨g,j + 3,none⟩=false∧w.frozen? ⟨g,j + 4,none⟩=false∧w.frozen? ⟨g,j + 5,none⟩=false∧w.frozen? ⟨g,j + 6,none⟩=false∧w.frozen? ⟨g,j + 7,none⟩=false :=
 ⟨hO.frozenAt _,hO.frozenAt _,hO.frozenAt _,hO.frozenAt _,hO.frozenAt _,hO.frozenAt _,hO.frozenAt _,hO.frozenAt _⟩
theorem blkS {w : World} {g t : Nat} {a0 a1 a2 a3 a4 a5 a6 a7 : Value} (h : Blk w g t #[a0,a1,a2,a3,a4,a5,a6,a7]) :
  (w.cell? ⟨g,0,none⟩=some a0∧w.cell? ⟨g,1,none⟩=some a1∧w.cell? ⟨g,2,none⟩=some a2∧w.cell? ⟨g,3,none⟩=some a3∧w.cell? ⟨g,4,none⟩=some a4∧w.cell? ⟨g,5,none⟩=some a5∧w.cell? ⟨g,6,none⟩=some a6∧w.cell? ⟨g,7,none⟩=some a7) ∧
  (w.frozen? ⟨g,3,none⟩=false∧w.frozen? ⟨g,4,none⟩=false∧w.frozen? ⟨g,5,none⟩=false∧w.frozen? ⟨g,6,none⟩=false∧w.frozen? ⟨g,7,none⟩=false) :=
 ⟨⟨h.cell rfl,h.cell rfl,h.cell rfl,h.cell rfl,h.cell rfl,h.cell rfl,h.cell rfl,h.cell rfl⟩,h.frozen 3,h.frozen 4,h.frozen 5,h.frozen 6,h.frozen 7⟩
section
variable {w W : World} {d base b : Nat} {m : ModelD} {F H S G a0 a1 a2 a3 a4 a5 a6 a7 : Value} (h : SpI w d base b m F H S G #[a0,a1,a2,a3,a4,a5,a6,a7] W) (v : Value)
include h
theorem SpI.ho : SpI w d base b m F H S G #[a0,a1,a2,v,a4,a5,a6,a7] (W.setCell ⟨b,3,none⟩ v):=h.set 3 v
theorem SpI.cl : SpI w d base b m F H S G #[a0,a1,a2,a3,v,a5,a6,a7] (W.setCell ⟨b,4,none⟩ v):=h.set 4 v
theorem SpI.sw : SpI w d base b m F H S G #[a0,a1,a2,a3,a4,v,a6,a7] (W.setCell ⟨b,5,none⟩ v):=h.set 5 v
theorem SpI.al : SpI w d base b m F H S G #[a0,a1,a2,a3,a4,a5,v,a7] (W.setCell ⟨b,6,none⟩ v):=h.set 6 v
theorem SpI.mk' : SpI w d base b m F H S G #[a0,a1,a2,a3,a4,a5,a6,v] (W.setCell ⟨b,7,none⟩ v):=h.set 7 v
end
theorem span_pre {m : ModelD} {d base i : Nat} {F H S G : Value} {w : World} {h : HoldD} (kd t en xp xn : Int) (xm : Nat) (hi : i < m.spans.length) (hmay : May2 m) (hh : ix noHold m.spans i=h) (hD : RefM w d base m F H S G) :
  ∃ g sc W0 W2,S=.slice (some ⟨g,0,none⟩) m.spans.length sc∧m.spans.length≤sc∧W0=w.alloc (.cells #[.int .i64 kd,.int .i64 t,.int .i64 en,.int .i64 xp,.int .i64 xn,.int .u64 (xm : Int)] 34)∧W2=W0.alloc (.cells #[.int .i64 h.page,.int .i64 h.pages,.int .i64 h.cls,.int .i64 h.holder,.int .i64 h.claim,.bool h.swept,.int .u64 (h.alloc : Int),.int .u64 (h.marks : Int)] 51)∧m.spans.length≤900000∧W0.cell? ⟨d,3,none⟩=some (.slice (some ⟨g,0,none⟩) m.spans.length sc) ∧
   (W0.cell? ⟨g,i * 8,none⟩=some (.int .i64 h.page)∧W0.cell? ⟨g,i * 8 + 1,none⟩=some (.int .i64 h.pages)∧W0.cell? ⟨g,i * 8 + 2,none⟩=some (.int .i64 h.cls)∧W0.cell? ⟨g,i * 8 + 3,none⟩=some (.int .i64 h.holder)∧W0.cell? ⟨g,i * 8 + 4,none⟩=some (.int .i64 h.claim)∧W0.cell? ⟨g,i * 8 + 5,none⟩=some (.bool h.swept)∧W0.cell? ⟨g,i * 8 + 6,none⟩=some (.int .u64 (h.alloc : Int))∧W0.cell? ⟨g,i * 8 + 7,none⟩=some (.int .u64 (h.marks : Int))) ∧
   SpI w d base W0.heap.size m F H (.slice (some ⟨g,0,none⟩) m.spans.length sc) G #[.int .i64 h.page,.int .i64 h.pages,.int .i64 h.cls,.int .i64 h.holder,.int .i64 h.claim,.bool h.swept,.int .u64 (h.alloc : Int),.int .u64 (h.marks : Int)] W2∧Blk W2 w.heap.size 34 #[.int .i64 kd,.int .i64 t,.int .i64 en,.int .i64 xp,.int .i64 xn,.int .u64 (xm : Int)]:=by
 obtain ⟨SA,sc,rfl,hsc⟩:=hD.own.spans.ofSlice
 obtain ⟨g,rfl,hg⟩ : ∃ g,SA=some ⟨g,0,none⟩∧base≤g:=by
  rcases hD.own.spans.addr with ⟨_,h0,_⟩ | h
  ·omega
  ·exact h
 have hst:=SpI.start hD #[.int .i64 kd,.int .i64 t,.int .i64 en,.int .i64 xp,.int .i64 xn,.int .u64 (xm : Int)] #[.int .i64 h.page,.int .i64 h.pages,.int .i64 h.cls,.int .i64 h.holder,.int .i64 h.claim,.bool h.swept,.int .u64 (h.alloc : Int),.int .u64 (h.marks : Int)]
 have hE0 : Ext w (w.alloc (.cells #[.int .i64 kd,.int .i64 t,.int .i64 en,.int .i64 xp,.int .i64 xn,.int .u64 (xm : Int)] 34)):=(Ext.refl w).alloc _
 rw [← World.size_alloc w (.cells #[.int .i64 kd,.int .i64 t,.int .i64 en,.int .i64 xp,.int .i64 xn,.int .u64 (xm : Int)] 34)] at hst
 exact ⟨g,sc,_,_,rfl,hsc,rfl,rfl,(deskOk_may (may2_iff.2 hmay)).l3,(hD.ext hE0).blk.cell (i:=3) (v:=.slice (some ⟨g,0,none⟩) m.spans.length sc) rfl,own8 (hD.ext hE0).own.spans hi hh,hst⟩
theorem blkX {w : World} {g t : Nat} {a0 a1 a2 a3 a4 a5 : Value} (h : Blk w g t #[a0,a1,a2,a3,a4,a5]) : w.cell? ⟨g,0,none⟩=some a0∧w.cell? ⟨g,1,none⟩=some a1∧w.cell? ⟨g,3,none⟩=some a3∧w.cell? ⟨g,4,none⟩=some a4∧w.cell? ⟨g,5,none⟩=some a5:=⟨h.cell rfl,h.cell rfl,h.cell rfl,h.cell rfl,h.cell rfl⟩
set_option maxHeartbeats 16000000 in
set_option maxRecDepth 100000 in
theorem span28_4 (m : ModelD) (d base : Nat) (F H S G : Value) (i : Nat) (x : MarkD) (w : World) (hi : i < m.spans.length) (hmay : May2 m) (hmks : MarksOk m) (hx : MarkOk x) (hbase : base≤w.heap.size) (hD : RefM w d base m F H S G) (hk : x.kind=4) :
  Calls Tryz.prog 37 #[.pointer (some ⟨d,0,none⟩),.int .i64 (i : Int),markV x] w (SpanP m d base i x w):=by
 obtain ⟨h,hh⟩ : ∃ h,ix noHold m.spans i=h:=⟨_,rfl⟩
 have hok : HoldOk h:=hh▸hmay.spanO _ (ixMem (d:=noHold) hi)
 have HC:=Lib.hid (And.intro hok (And.intro (hh▸hmks _ (ixMem (d:=noHold) hi) : h.marks < 18446744073709551616) (And.intro hx.mask (alloc_lt hok))))
 obtain ⟨g,sc,W0,W2,rfl,hsc,hW0,hW2,hl,y3,⟨a0,a1,a2,a3,a4,a5,a6,a7⟩,hst⟩:=span_pre x.kind x.thread x.entry x.page x.n x.mask hi hmay hh hD
 have HMB:=Lib.hid (And.intro hmay (And.intro hbase (And.intro (deskOk_may (may2_iff.2 hmay)).l2 (And.intro hD.blk.lt hsc))))
 clear hok hmay hmks hx hbase hsc
 obtain ⟨kd,t,en,xp,xn,xm⟩:=x
 obtain ⟨pg,np,c,ho,cl,sw,al,mk⟩:=h
 dsimp only at hk hW0 hW2 hst y3 a0 a1 a2 a3 a4 a5 a6 a7
 subst hk
 have HS:=Lib.hid hst.1
 have HMk:=Lib.hid hst.2
 have HI:=Lib.hid hi
 have HH:=Lib.hid hh
 obtain ⟨⟨b0,b1,b2,b3,b4,b5,b6,b7⟩,z3,z4,z5,z6,z7⟩:=blkS hst.1.blk
 obtain ⟨x0,x1,x3,x4,x5⟩:=blkX hst.2
 have q0 : (0 : Int)≤(i : Int):=by omega
 have q1 : (i : Int) < (m.spans.length : Int):=by omega
 have hne : ∀ (a b : Int) (v : Bool),(a == b)=v→(a != b)=!v:=fun a b v e=>by simp [bne,e]
 have HW0:=Lib.hid hW0
 have HW2:=Lib.hid hW2
 unfold markV
 dsimp only
 clear hst hD hW0 hW2 hh hi
 cases eB : (cl == -1) <;> cases eD : (ho == t)
 all_goals
  have nB:=hne _ _ _ eB
  have nD:=hne _ _ _ eD
  have HF:=Lib.hid (And.intro eB eD)
  go_enter Tryz.func37,Tryz.ntmps37
  go_upto_region 1 with fail
  rw [← HW0.out]
  go_upto_region 2 with fail
  rw [← HW2.out]
  clear y3 a0 a1 a2 a3 a4 a5 a6 a7
  go_upto_region 38 with fail
  have h4:=(HS.out.cl (.int .i64 t))
  generalize (W2.setCell ⟨W0.heap.size,4,none⟩ (.int .i64 t))=W4 at h4 ⊢
  clear b0 b1 b2 b3 b4 b5 b6 b7 z3 z4 z5 z6 z7 x0 x1 x3 x4 x5
  obtain ⟨⟨v0,v1,v2,v3,v4,v5,v6,v7⟩,_⟩:=blkS h4.blk
  have y3:=h4.ref.blk.cell (i:=3) (v:=.slice (some ⟨g,0,none⟩) m.spans.length sc) rfl
  obtain ⟨u0,u1,u2,u3,u4,u5,u6,u7⟩:=frz8 h4.ref.own.spans (i * 8)
  obtain ⟨t0,t1,t2,t3,t4,t5,t6,t7⟩:=own8 h4.ref.own.spans HI.out HH.out
  have H4:=Lib.hid h4
  clear h4
  go_wp2
  go_region
  go_wp2
  go_ret
  have hq:=HF.out
  simp only [beq_iff_eq,beq_eq_false_iff_ne,ne_eq] at hq
  first
   | exact H4.out.no rfl HI.out ⟨pg,np,c,ho,t,sw,al,mk⟩ (by with_reducible exact (Ext.refl _).drew) (.inl ⟨show (4 : Int)≠9 by decide,by rw [HH.out]; simp [turnO,passH,passO,hq.1,hq.2]⟩)
   | exact H4.out.yes rfl HI.out ⟨pg,np,c,ho,t,sw,al,mk⟩ (by with_reducible exact (Ext.refl _).drew) (show (4 : Int)≠9 by decide) (by rw [HH.out]; simp [turnO,passH,passO,hq.1,hq.2])
set_option maxHeartbeats 16000000 in
set_option maxRecDepth 100000 in
theorem span28_5 (m : ModelD) (d base : Nat) (F H S G : Value) (i : Nat) (x : MarkD) (w : World) (hi : i < m.spans.length) (hmay : May2 m) (hmks : MarksOk m) (hx : MarkOk x) (hbase : base≤w.heap.size) (hD : RefM w d base m F H S G) (hk : x.kind=5) :
  Calls Tryz.prog 37 #[.pointer (some ⟨d,0,none⟩),.int .i64 (i : Int),markV x] w (SpanP m d base i x w):=by
 obtain ⟨h,hh⟩ : ∃ h,ix noHold m.spans i=h:=⟨_,rfl⟩
 have hok : HoldOk h:=hh▸hmay.spanO _ (ixMem (d:=noHold) hi)
 have HC:=Lib.hid (And.intro hok (And.intro (hh▸hmks _ (ixMem (d:=noHold) hi) : h.marks < 18446744073709551616) (And.intro hx.mask (alloc_lt hok))))
 obtain ⟨g,sc,W0,W2,rfl,hsc,hW0,hW2,hl,y3,⟨a0,a1,a2,a3,a4,a5,a6,a7⟩,hst⟩:=span_pre x.kind x.thread x.entry x.page x.n x.mask hi hmay hh hD
 have HMB:=Lib.hid (And.intro hmay (And.intro hbase (And.intro (deskOk_may (may2_iff.2 hmay)).l2 (And.intro hD.blk.lt hsc))))
 clear hok hmay hmks hx hbase hsc
 obtain ⟨kd,t,en,xp,xn,xm⟩:=x
 obtain ⟨pg,np,c,ho,cl,sw,al,mk⟩:=h
 dsimp only at hk hW0 hW2 hst y3 a0 a1 a2 a3 a4 a5 a6 a7
 subst hk
 have HS:=Lib.hid hst.1
 have HMk:=Lib.hid hst.2
 have HI:=Lib.hid hi
 have HH:=Lib.hid hh
 obtain ⟨⟨b0,b1,b2,b3,b4,b5,b6,b7⟩,z3,z4,z5,z6,z7⟩:=blkS hst.1.blk
 obtain ⟨x0,x1,x3,x4,x5⟩:=blkX hst.2
 have q0 : (0 : Int)≤(i : Int):=by omega
 have q1 : (i : Int) < (m.spans.length : Int):=by omega
 have hne : ∀ (a b : Int) (v : Bool),(a == b)=v→(a != b)=!v:=fun a b v e=>by simp [bne,e]
 have HW0:=Lib.hid hW0
 have HW2:=Lib.hid hW2
 unfold markV
 dsimp only
 clear hst hD hW0 hW2 hh hi
 cases eC : (cl == t)
 ·skip
  cases eA : (ho == -1) <;> cases eB : (cl == -1) <;> cases sw
  all_goals
   have nA:=hne _ _ _ eA
   have nB:=hne _ _ _ eB
   have nC:=hne _ _ _ eC
   have HF:=Lib.hid (And.intro eA (And.intro eB eC))
   go_enter Tryz.func37,Tryz.ntmps37
   go_upto_region 1 with fail
   rw [← HW0.out]
   go_upto_region 2 with fail
   rw [← HW2.out]
   clear y3 a0 a1 a2 a3 a4 a5 a6 a7
   go_upto_region 38 with fail
   have h4:=(HS.out.ho (.int .i64 t))
   generalize (W2.setCell ⟨W0.heap.size,3,none⟩ (.int .i64 t))=W4 at h4 ⊢
   clear b0 b1 b2 b3 b4 b5 b6 b7 z3 z4 z5 z6 z7 x0 x1 x3 x4 x5
   obtain ⟨⟨v0,v1,v2,v3,v4,v5,v6,v7⟩,_⟩:=blkS h4.blk
   have y3:=h4.ref.blk.cell (i:=3) (v:=.slice (some ⟨g,0,none⟩) m.spans.length sc) rfl
   obtain ⟨u0,u1,u2,u3,u4,u5,u6,u7⟩:=frz8 h4.ref.own.spans (i * 8)
   obtain ⟨t0,t1,t2,t3,t4,t5,t6,t7⟩:=own8 h4.ref.own.spans HI.out HH.out
   have H4:=Lib.hid h4
   clear h4
   go_wp2
   go_region
   go_wp2
   go_ret
   have hq:=HF.out
   simp only [beq_iff_eq,beq_eq_false_iff_ne,ne_eq] at hq
   first
    | exact H4.out.no rfl HI.out ⟨pg,np,c,t,cl,_,al,mk⟩ (by with_reducible exact (Ext.refl _).drew) (.inl ⟨show (5 : Int)≠9 by decide,by rw [HH.out]; simp [turnO,passH,passO,hq.1,hq.2.1,hq.2.2]⟩)
    | exact H4.out.yes rfl HI.out ⟨pg,np,c,t,cl,_,al,mk⟩ (by with_reducible exact (Ext.refl _).drew) (show (5 : Int)≠9 by decide) (by rw [HH.out]; simp [turnO,passH,passO,hq.1,hq.2.1,hq.2.2])
 ·skip
  cases eA : (ho == -1) <;> cases eB : (cl == -1) <;> cases sw
  all_goals
   have nA:=hne _ _ _ eA
   have nB:=hne _ _ _ eB
   have nC:=hne _ _ _ eC
   have HF:=Lib.hid (And.intro eA (And.intro eB eC))
   go_enter Tryz.func37,Tryz.ntmps37
   go_upto_region 1 with fail
   rw [← HW0.out]
   go_upto_region 2 with fail
   rw [← HW2.out]
   clear y3 a0 a1 a2 a3 a4 a5 a6 a7
   go_upto_region 38 with fail
   have h4:=((HS.out.ho (.int .i64 t)).cl (.int .i64 (-1)))
   generalize ((W2.setCell ⟨W0.heap.size,3,none⟩ (.int .i64 t)).setCell ⟨W0.heap.size,4,none⟩ (.int .i64 (-1)))=W4 at h4 ⊢
   clear b0 b1 b2 b3 b4 b5 b6 b7 z3 z4 z5 z6 z7 x0 x1 x3 x4 x5
   obtain ⟨⟨v0,v1,v2,v3,v4,v5,v6,v7⟩,_⟩:=blkS h4.blk
   have y3:=h4.ref.blk.cell (i:=3) (v:=.slice (some ⟨g,0,none⟩) m.spans.length sc) rfl
   obtain ⟨u0,u1,u2,u3,u4,u5,u6,u7⟩:=frz8 h4.ref.own.spans (i * 8)
   obtain ⟨t0,t1,t2,t3,t4,t5,t6,t7⟩:=own8 h4.ref.own.spans HI.out HH.out
   have H4:=Lib.hid h4
   clear h4
   go_wp2
   go_region
   go_wp2
   go_ret
   have hq:=HF.out
   simp only [beq_iff_eq,beq_eq_false_iff_ne,ne_eq] at hq
   first
    | exact H4.out.no rfl HI.out ⟨pg,np,c,t,-1,_,al,mk⟩ (by with_reducible exact (Ext.refl _).drew) (.inl ⟨show (5 : Int)≠9 by decide,by rw [HH.out]; simp [turnO,passH,passO,hq.1,hq.2.1,hq.2.2]⟩)
    | exact H4.out.yes rfl HI.out ⟨pg,np,c,t,-1,_,al,mk⟩ (by with_reducible exact (Ext.refl _).drew) (show (5 : Int)≠9 by decide) (by rw [HH.out]; simp [turnO,passH,passO,hq.1,hq.2.1,hq.2.2])
set_option maxHeartbeats 16000000 in
set_option maxRecDepth 100000 in
theorem span28_6 (m : ModelD) (d base : Nat) (F H S G : Value) (i : Nat) (x : MarkD) (w : World) (hi : i < m.spans.length) (hmay : May2 m) (hmks : MarksOk m) (hx : MarkOk x) (hbase : base≤w.heap.size) (hD : RefM w d base m F H S G) (hk : x.kind=6) :
  Calls Tryz.prog 37 #[.pointer (some ⟨d,0,none⟩),.int .i64 (i : Int),markV x] w (SpanP m d base i x w):=by
 obtain ⟨h,hh⟩ : ∃ h,ix noHold m.spans i=h:=⟨_,rfl⟩
 have hok : HoldOk h:=hh▸hmay.spanO _ (ixMem (d:=noHold) hi)
 have HC:=Lib.hid (And.intro hok (And.intro (hh▸hmks _ (ixMem (d:=noHold) hi) : h.marks < 18446744073709551616) (And.intro hx.mask (alloc_lt hok))))
 obtain ⟨g,sc,W0,W2,rfl,hsc,hW0,hW2,hl,y3,⟨a0,a1,a2,a3,a4,a5,a6,a7⟩,hst⟩:=span_pre x.kind x.thread x.entry x.page x.n x.mask hi hmay hh hD
 have HMB:=Lib.hid (And.intro hmay (And.intro hbase (And.intro (deskOk_may (may2_iff.2 hmay)).l2 (And.intro hD.blk.lt hsc))))
 clear hok hmay hmks hx hbase hsc
 obtain ⟨kd,t,en,xp,xn,xm⟩:=x
 obtain ⟨pg,np,c,ho,cl,sw,al,mk⟩:=h
 dsimp only at hk hW0 hW2 hst y3 a0 a1 a2 a3 a4 a5 a6 a7
 subst hk
 have HS:=Lib.hid hst.1
 have HMk:=Lib.hid hst.2
 have HI:=Lib.hid hi
 have HH:=Lib.hid hh
 obtain ⟨⟨b0,b1,b2,b3,b4,b5,b6,b7⟩,z3,z4,z5,z6,z7⟩:=blkS hst.1.blk
 obtain ⟨x0,x1,x3,x4,x5⟩:=blkX hst.2
 have q0 : (0 : Int)≤(i : Int):=by omega
 have q1 : (i : Int) < (m.spans.length : Int):=by omega
 have hne : ∀ (a b : Int) (v : Bool),(a == b)=v→(a != b)=!v:=fun a b v e=>by simp [bne,e]
 have HW0:=Lib.hid hW0
 have HW2:=Lib.hid hW2
 unfold markV
 dsimp only
 clear hst hD hW0 hW2 hh hi
 cases eC : (cl == t) <;> cases eA : (ho == -1) <;> cases eD : (ho == t)
 all_goals
  have nC:=hne _ _ _ eC
  have nA:=hne _ _ _ eA
  have nD:=hne _ _ _ eD
  have HF:=Lib.hid (And.intro eC (And.intro eA eD))
  go_enter Tryz.func37,Tryz.ntmps37
  go_upto_region 1 with fail
  rw [← HW0.out]
  go_upto_region 2 with fail
  rw [← HW2.out]
  clear y3 a0 a1 a2 a3 a4 a5 a6 a7
  go_upto_region 38 with fail
  have h4:=(HS.out.cl (.int .i64 (-1)))
  generalize (W2.setCell ⟨W0.heap.size,4,none⟩ (.int .i64 (-1)))=W4 at h4 ⊢
  clear b0 b1 b2 b3 b4 b5 b6 b7 z3 z4 z5 z6 z7 x0 x1 x3 x4 x5
  obtain ⟨⟨v0,v1,v2,v3,v4,v5,v6,v7⟩,_⟩:=blkS h4.blk
  have y3:=h4.ref.blk.cell (i:=3) (v:=.slice (some ⟨g,0,none⟩) m.spans.length sc) rfl
  obtain ⟨u0,u1,u2,u3,u4,u5,u6,u7⟩:=frz8 h4.ref.own.spans (i * 8)
  obtain ⟨t0,t1,t2,t3,t4,t5,t6,t7⟩:=own8 h4.ref.own.spans HI.out HH.out
  have H4:=Lib.hid h4
  clear h4
  go_wp2
  go_region
  go_wp2
  go_ret
  have hq:=HF.out
  simp only [beq_iff_eq,beq_eq_false_iff_ne,ne_eq] at hq
  first
   | exact H4.out.no rfl HI.out ⟨pg,np,c,ho,-1,sw,al,mk⟩ (by with_reducible exact (Ext.refl _).drew) (.inl ⟨show (6 : Int)≠9 by decide,by rw [HH.out]; simp [turnO,passH,passO,hq.1,hq.2.1,hq.2.2]⟩)
   | exact H4.out.yes rfl HI.out ⟨pg,np,c,ho,-1,sw,al,mk⟩ (by with_reducible exact (Ext.refl _).drew) (show (6 : Int)≠9 by decide) (by rw [HH.out]; simp [turnO,passH,passO,hq.1,hq.2.1,hq.2.2])
set_option maxHeartbeats 16000000 in
set_option maxRecDepth 100000 in
theorem span28_7 (m : ModelD) (d base : Nat) (F H S G : Value) (i : Nat) (x : MarkD) (w : World) (hi : i < m.spans.length) (hmay : May2 m) (hmks : MarksOk m) (hx : MarkOk x) (hbase : base≤w.heap.size) (hD : RefM w d base m F H S G) (hk : x.kind=7) :
  Calls Tryz.prog 37 #[.pointer (some ⟨d,0,none⟩),.int .i64 (i : Int),markV x] w (SpanP m d base i x w):=by
 obtain ⟨h,hh⟩ : ∃ h,ix noHold m.spans i=h:=⟨_,rfl⟩
 have hok : HoldOk h:=hh▸hmay.spanO _ (ixMem (d:=noHold) hi)
 have HC:=Lib.hid (And.intro hok (And.intro (hh▸hmks _ (ixMem (d:=noHold) hi) : h.marks < 18446744073709551616) (And.intro hx.mask (alloc_lt hok))))
 obtain ⟨g,sc,W0,W2,rfl,hsc,hW0,hW2,hl,y3,⟨a0,a1,a2,a3,a4,a5,a6,a7⟩,hst⟩:=span_pre x.kind x.thread x.entry x.page x.n x.mask hi hmay hh hD
 have HMB:=Lib.hid (And.intro hmay (And.intro hbase (And.intro (deskOk_may (may2_iff.2 hmay)).l2 (And.intro hD.blk.lt hsc))))
 clear hok hmay hmks hx hbase hsc
 obtain ⟨kd,t,en,xp,xn,xm⟩:=x
 obtain ⟨pg,np,c,ho,cl,sw,al,mk⟩:=h
 dsimp only at hk hW0 hW2 hst y3 a0 a1 a2 a3 a4 a5 a6 a7
 subst hk
 have HS:=Lib.hid hst.1
 have HMk:=Lib.hid hst.2
 have HI:=Lib.hid hi
 have HH:=Lib.hid hh
 obtain ⟨⟨b0,b1,b2,b3,b4,b5,b6,b7⟩,z3,z4,z5,z6,z7⟩:=blkS hst.1.blk
 obtain ⟨x0,x1,x3,x4,x5⟩:=blkX hst.2
 have q0 : (0 : Int)≤(i : Int):=by omega
 have q1 : (i : Int) < (m.spans.length : Int):=by omega
 have hne : ∀ (a b : Int) (v : Bool),(a == b)=v→(a != b)=!v:=fun a b v e=>by simp [bne,e]
 have HW0:=Lib.hid hW0
 have HW2:=Lib.hid hW2
 unfold markV
 dsimp only
 clear hst hD hW0 hW2 hh hi
 cases eD : (ho == t) <;> cases sw
 all_goals
  have nD:=hne _ _ _ eD
  have HF:=Lib.hid eD
  go_enter Tryz.func37,Tryz.ntmps37
  go_upto_region 1 with fail
  rw [← HW0.out]
  go_upto_region 2 with fail
  rw [← HW2.out]
  clear y3 a0 a1 a2 a3 a4 a5 a6 a7
  go_upto_region 38 with fail
  have h4:=(HS.out.ho (.int .i64 (-1)))
  generalize (W2.setCell ⟨W0.heap.size,3,none⟩ (.int .i64 (-1)))=W4 at h4 ⊢
  clear b0 b1 b2 b3 b4 b5 b6 b7 z3 z4 z5 z6 z7 x0 x1 x3 x4 x5
  obtain ⟨⟨v0,v1,v2,v3,v4,v5,v6,v7⟩,_⟩:=blkS h4.blk
  have y3:=h4.ref.blk.cell (i:=3) (v:=.slice (some ⟨g,0,none⟩) m.spans.length sc) rfl
  obtain ⟨u0,u1,u2,u3,u4,u5,u6,u7⟩:=frz8 h4.ref.own.spans (i * 8)
  obtain ⟨t0,t1,t2,t3,t4,t5,t6,t7⟩:=own8 h4.ref.own.spans HI.out HH.out
  have H4:=Lib.hid h4
  clear h4
  go_wp2
  go_region
  go_wp2
  go_ret
  have hq:=HF.out
  simp only [beq_iff_eq,beq_eq_false_iff_ne,ne_eq] at hq
  first
   | exact H4.out.no rfl HI.out ⟨pg,np,c,-1,cl,_,al,mk⟩ (by with_reducible exact (Ext.refl _).drew) (.inl ⟨show (7 : Int)≠9 by decide,by rw [HH.out]; simp [turnO,passH,passO,hq]⟩)
   | exact H4.out.yes rfl HI.out ⟨pg,np,c,-1,cl,_,al,mk⟩ (by with_reducible exact (Ext.refl _).drew) (show (7 : Int)≠9 by decide) (by rw [HH.out]; simp [turnO,passH,passO,hq])
set_option maxHeartbeats 16000000 in
set_option maxRecDepth 100000 in
theorem span28_16 (m : ModelD) (d base : Nat) (F H S G : Value) (i : Nat) (x : MarkD) (w : World) (hi : i < m.spans.length) (hmay : May2 m) (hmks : MarksOk m) (hx : MarkOk x) (hbase : base≤w.heap.size) (hD : RefM w d base m F H S G) (hk : x.kind=16) :
  Calls Tryz.prog 37 #[.pointer (some ⟨d,0,none⟩),.int .i64 (i : Int),markV x] w (SpanP m d base i x w):=by
 obtain ⟨h,hh⟩ : ∃ h,ix noHold m.spans i=h:=⟨_,rfl⟩
 have hok : HoldOk h:=hh▸hmay.spanO _ (ixMem (d:=noHold) hi)
 have HC:=Lib.hid (And.intro hok (And.intro (hh▸hmks _ (ixMem (d:=noHold) hi) : h.marks < 18446744073709551616) (And.intro hx.mask (alloc_lt hok))))
 obtain ⟨g,sc,W0,W2,rfl,hsc,hW0,hW2,hl,y3,⟨a0,a1,a2,a3,a4,a5,a6,a7⟩,hst⟩:=span_pre x.kind x.thread x.entry x.page x.n x.mask hi hmay hh hD
 have HMB:=Lib.hid (And.intro hmay (And.intro hbase (And.intro (deskOk_may (may2_iff.2 hmay)).l2 (And.intro hD.blk.lt hsc))))
 clear hok hmay hmks hx hbase hsc
 obtain ⟨kd,t,en,xp,xn,xm⟩:=x
 obtain ⟨pg,np,c,ho,cl,sw,al,mk⟩:=h
 dsimp only at hk hW0 hW2 hst y3 a0 a1 a2 a3 a4 a5 a6 a7
 subst hk
 have HS:=Lib.hid hst.1
 have HMk:=Lib.hid hst.2
 have HI:=Lib.hid hi
 have HH:=Lib.hid hh
 obtain ⟨⟨b0,b1,b2,b3,b4,b5,b6,b7⟩,z3,z4,z5,z6,z7⟩:=blkS hst.1.blk
 obtain ⟨x0,x1,x3,x4,x5⟩:=blkX hst.2
 have q0 : (0 : Int)≤(i : Int):=by omega
 have q1 : (i : Int) < (m.spans.length : Int):=by omega
 have hne : ∀ (a b : Int) (v : Bool),(a == b)=v→(a != b)=!v:=fun a b v e=>by simp [bne,e]
 have HW0:=Lib.hid hW0
 have HW2:=Lib.hid hW2
 unfold markV
 dsimp only
 clear hst hD hW0 hW2 hh hi
 have hwh:=HC.out.1.1.2.2.1
 unfold WhoP ThreadP at hwh
 dsimp only at hwh
 have hcs : (decide (0≤ho)=true∧¬ ho=-1)∨(decide (0≤ho)=false∧ho=-1):=by
  simp only [decide_eq_true_eq,decide_eq_false_iff_not]; omega
 clear hwh
 rcases hcs with ⟨e1,e2⟩ | ⟨e1,e2⟩ <;> cases eB : (cl == -1) <;> cases sw
 all_goals
  have nB:=hne _ _ _ eB
  have HF:=Lib.hid (And.intro eB e2)
  clear e2
  go_enter Tryz.func37,Tryz.ntmps37
  go_upto_region 1 with fail
  rw [← HW0.out]
  go_upto_region 2 with fail
  rw [← HW2.out]
  clear y3 a0 a1 a2 a3 a4 a5 a6 a7
  go_upto_region 38 with fail
  have h4:=(HS.out.ho (.int .i64 t))
  generalize (W2.setCell ⟨W0.heap.size,3,none⟩ (.int .i64 t))=W4 at h4 ⊢
  clear b0 b1 b2 b3 b4 b5 b6 b7 z3 z4 z5 z6 z7 x0 x1 x3 x4 x5
  obtain ⟨⟨v0,v1,v2,v3,v4,v5,v6,v7⟩,_⟩:=blkS h4.blk
  have y3:=h4.ref.blk.cell (i:=3) (v:=.slice (some ⟨g,0,none⟩) m.spans.length sc) rfl
  obtain ⟨u0,u1,u2,u3,u4,u5,u6,u7⟩:=frz8 h4.ref.own.spans (i * 8)
  obtain ⟨t0,t1,t2,t3,t4,t5,t6,t7⟩:=own8 h4.ref.own.spans HI.out HH.out
  have H4:=Lib.hid h4
  clear h4
  go_wp2
  go_region
  go_wp2
  go_ret
  have hq:=HF.out
  simp only [beq_iff_eq,beq_eq_false_iff_ne,ne_eq] at hq
  first
   | exact H4.out.no rfl HI.out ⟨pg,np,c,t,cl,_,al,mk⟩ (by with_reducible exact (Ext.refl _).drew) (.inl ⟨show (16 : Int)≠9 by decide,by rw [HH.out]; simp [turnO,passH,passO,hq.1,hq.2]⟩)
   | exact H4.out.yes rfl HI.out ⟨pg,np,c,t,cl,_,al,mk⟩ (by with_reducible exact (Ext.refl _).drew) (show (16 : Int)≠9 by decide) (by rw [HH.out]; simp [turnO,passH,passO,hq.1,hq.2])
set_option maxHeartbeats 16000000 in
set_option maxRecDepth 100000 in
theorem span28_11 (m : ModelD) (d base : Nat) (F H S G : Value) (i : Nat) (x : MarkD) (w : World) (hi : i < m.spans.length) (hmay : May2 m) (hmks : MarksOk m) (hx : MarkOk x) (hbase : base≤w.heap.size) (hD : RefM w d base m F H S G) (hk : x.kind=11) :
  Calls Tryz.prog 37 #[.pointer (some ⟨d,0,none⟩),.int .i64 (i : Int),markV x] w (SpanP m d base i x w):=by
 obtain ⟨h,hh⟩ : ∃ h,ix noHold m.spans i=h:=⟨_,rfl⟩
 have hok : HoldOk h:=hh▸hmay.spanO _ (ixMem (d:=noHold) hi)
 have HC:=Lib.hid (And.intro hok (And.intro (hh▸hmks _ (ixMem (d:=noHold) hi) : h.marks < 18446744073709551616) (And.intro hx.mask (alloc_lt hok))))
 obtain ⟨g,sc,W0,W2,rfl,hsc,hW0,hW2,hl,y3,⟨a0,a1,a2,a3,a4,a5,a6,a7⟩,hst⟩:=span_pre x.kind x.thread x.entry x.page x.n x.mask hi hmay hh hD
 have HMB:=Lib.hid (And.intro hmay (And.intro hbase (And.intro (deskOk_may (may2_iff.2 hmay)).l2 (And.intro hD.blk.lt hsc))))
 clear hok hmay hmks hx hbase hsc
 obtain ⟨kd,t,en,xp,xn,xm⟩:=x
 obtain ⟨pg,np,c,ho,cl,sw,al,mk⟩:=h
 dsimp only at hk hW0 hW2 hst y3 a0 a1 a2 a3 a4 a5 a6 a7
 subst hk
 have HS:=Lib.hid hst.1
 have HMk:=Lib.hid hst.2
 have HI:=Lib.hid hi
 have HH:=Lib.hid hh
 obtain ⟨⟨b0,b1,b2,b3,b4,b5,b6,b7⟩,z3,z4,z5,z6,z7⟩:=blkS hst.1.blk
 obtain ⟨x0,x1,x3,x4,x5⟩:=blkX hst.2
 have q0 : (0 : Int)≤(i : Int):=by omega
 have q1 : (i : Int) < (m.spans.length : Int):=by omega
 have hne : ∀ (a b : Int) (v : Bool),(a == b)=v→(a != b)=!v:=fun a b v e=>by simp [bne,e]
 have HW0:=Lib.hid hW0
 have HW2:=Lib.hid hW2
 unfold markV
 dsimp only
 clear hst hD hW0 hW2 hh hi
 cases eA : (ho == -1) <;> cases eB : (cl == -1) <;> cases sw <;> cases eM : (bits .andNot .u64 (xm : Int) (al : Int) == 0)
 all_goals
  have nA:=hne _ _ _ eA
  have nB:=hne _ _ _ eB
  have nM:=hne _ _ _ eM
  have HF:=Lib.hid (And.intro eA (And.intro eB eM))
  go_enter Tryz.func37,Tryz.ntmps37
  go_upto_region 1 with fail
  rw [← HW0.out]
  go_upto_region 2 with fail
  rw [← HW2.out]
  clear y3 a0 a1 a2 a3 a4 a5 a6 a7
  go_upto_region 38 with fail
  have h4:=(HS.out.mk' (.int .u64 (xm : Int)))
  generalize (W2.setCell ⟨W0.heap.size,7,none⟩ (.int .u64 (xm : Int)))=W4 at h4 ⊢
  clear b0 b1 b2 b3 b4 b5 b6 b7 z3 z4 z5 z6 z7 x0 x1 x3 x4 x5
  obtain ⟨⟨v0,v1,v2,v3,v4,v5,v6,v7⟩,_⟩:=blkS h4.blk
  have y3:=h4.ref.blk.cell (i:=3) (v:=.slice (some ⟨g,0,none⟩) m.spans.length sc) rfl
  obtain ⟨u0,u1,u2,u3,u4,u5,u6,u7⟩:=frz8 h4.ref.own.spans (i * 8)
  obtain ⟨t0,t1,t2,t3,t4,t5,t6,t7⟩:=own8 h4.ref.own.spans HI.out HH.out
  have H4:=Lib.hid h4
  clear h4
  go_wp2
  go_region
  go_wp2
  go_ret
  have hq:=HF.out
  simp only [beq_iff_eq,beq_eq_false_iff_ne,ne_eq] at hq
  first
   | exact H4.out.no rfl HI.out ⟨pg,np,c,ho,cl,_,al,xm⟩ (by with_reducible exact (Ext.refl _).drew) (.inl ⟨show (11 : Int)≠9 by decide,by rw [HH.out]; simp [turnO,hq.1,hq.2.1,hq.2.2]⟩)
   | exact H4.out.yes rfl HI.out ⟨pg,np,c,ho,cl,_,al,xm⟩ (by with_reducible exact (Ext.refl _).drew) (show (11 : Int)≠9 by decide) (by rw [HH.out]; simp [turnO,hq.1,hq.2.1,hq.2.2])
set_option maxHeartbeats 16000000 in
set_option maxRecDepth 100000 in
theorem span28_8 (m : ModelD) (d base : Nat) (F H S G : Value) (i : Nat) (x : MarkD) (w : World) (hi : i < m.spans.length) (hmay : May2 m) (hmks : MarksOk m) (hx : MarkOk x) (hbase : base≤w.heap.size) (hD : RefM w d base m F H S G) (hk : x.kind=8) :
  Calls Tryz.prog 37 #[.pointer (some ⟨d,0,none⟩),.int .i64 (i : Int),markV x] w (SpanP m d base i x w):=by
 obtain ⟨h,hh⟩ : ∃ h,ix noHold m.spans i=h:=⟨_,rfl⟩
 have hok : HoldOk h:=hh▸hmay.spanO _ (ixMem (d:=noHold) hi)
 have HC:=Lib.hid (And.intro hok (And.intro (hh▸hmks _ (ixMem (d:=noHold) hi) : h.marks < 18446744073709551616) (And.intro hx.mask (alloc_lt hok))))
 obtain ⟨g,sc,W0,W2,rfl,hsc,hW0,hW2,hl,y3,⟨a0,a1,a2,a3,a4,a5,a6,a7⟩,hst⟩:=span_pre x.kind x.thread x.entry x.page x.n x.mask hi hmay hh hD
 have HMB:=Lib.hid (And.intro hmay (And.intro hbase (And.intro (deskOk_may (may2_iff.2 hmay)).l2 (And.intro hD.blk.lt hsc))))
 clear hok hmay hmks hx hbase hsc
 obtain ⟨kd,t,en,xp,xn,xm⟩:=x
 obtain ⟨pg,np,c,ho,cl,sw,al,mk⟩:=h
 dsimp only at hk hW0 hW2 hst y3 a0 a1 a2 a3 a4 a5 a6 a7
 subst hk
 have HS:=Lib.hid hst.1
 have HMk:=Lib.hid hst.2
 have HI:=Lib.hid hi
 have HH:=Lib.hid hh
 obtain ⟨⟨b0,b1,b2,b3,b4,b5,b6,b7⟩,z3,z4,z5,z6,z7⟩:=blkS hst.1.blk
 obtain ⟨x0,x1,x3,x4,x5⟩:=blkX hst.2
 have q0 : (0 : Int)≤(i : Int):=by omega
 have q1 : (i : Int) < (m.spans.length : Int):=by omega
 have hne : ∀ (a b : Int) (v : Bool),(a == b)=v→(a != b)=!v:=fun a b v e=>by simp [bne,e]
 have HW0:=Lib.hid hW0
 have HW2:=Lib.hid hW2
 unfold markV
 dsimp only
 clear hst hD hW0 hW2 hh hi
 obtain ⟨V,hV⟩ : ∃ V : Nat,bits .and .u64 (al : Int) (mk : Int)=(V : Int):=⟨_,(bits_nat .and (al : Int) (mk : Int)).symm⟩
 have HV:=Lib.hid hV
 cases eD : (ho == t) <;> cases sw <;> cases eM : ((xm : Int) == bits .andNot .u64 (al : Int) (mk : Int))
 all_goals
  have nD:=hne _ _ _ eD
  have nM:=hne _ _ _ eM
  have HF:=Lib.hid (And.intro eD eM)
  go_enter Tryz.func37,Tryz.ntmps37
  go_upto_region 1 with fail
  rw [← HW0.out]
  go_upto_region 2 with fail
  rw [← HW2.out]
  clear y3 a0 a1 a2 a3 a4 a5 a6 a7
  go_upto_region 38 with fail
  have h4:=(((HS.out.al (.int .u64 (V : Int))).mk' (.int .u64 0)).sw (.bool true))
  generalize (((W2.setCell ⟨W0.heap.size,6,none⟩ (.int .u64 (V : Int))).setCell ⟨W0.heap.size,7,none⟩ (.int .u64 0)).setCell ⟨W0.heap.size,5,none⟩ (.bool true))=W4 at h4 ⊢
  clear b0 b1 b2 b3 b4 b5 b6 b7 z3 z4 z5 z6 z7 x0 x1 x3 x4 x5
  obtain ⟨⟨v0,v1,v2,v3,v4,v5,v6,v7⟩,_⟩:=blkS h4.blk
  have y3:=h4.ref.blk.cell (i:=3) (v:=.slice (some ⟨g,0,none⟩) m.spans.length sc) rfl
  obtain ⟨u0,u1,u2,u3,u4,u5,u6,u7⟩:=frz8 h4.ref.own.spans (i * 8)
  obtain ⟨t0,t1,t2,t3,t4,t5,t6,t7⟩:=own8 h4.ref.own.spans HI.out HH.out
  have H4:=Lib.hid h4
  clear h4
  go_wp2
  go_region
  go_wp2
  go_ret
  have hq:=HF.out
  simp only [beq_iff_eq,beq_eq_false_iff_ne,ne_eq] at hq
  first
   | exact H4.out.no rfl HI.out ⟨pg,np,c,ho,cl,true,V,0⟩ (by exact (Ext.refl _).drew) (.inl ⟨show (8 : Int)≠9 by decide,by rw [HH.out]; simp [turnO,hq.1,hq.2]⟩)
   | exact H4.out.yes rfl HI.out ⟨pg,np,c,ho,cl,true,V,0⟩ (by exact (Ext.refl _).drew) (show (8 : Int)≠9 by decide) (by
     rw [HH.out]
     unfold turnO
     rw [if_neg (show ¬ (8 : Int)=3 by decide),if_pos (show (8 : Int)=8 from rfl),if_pos ⟨hq.1,rfl,hq.2⟩]
     have hs:=sweep_and HC.out.2.2.2 HC.out.2.1 HC.out.2.2.1 hq.2
     dsimp only
     rw [hs,HV.out,Int.toNat_natCast])
set_option maxHeartbeats 16000000 in
set_option maxRecDepth 100000 in
theorem span28_no (m : ModelD) (d base : Nat) (F H S G : Value) (i : Nat) (x : MarkD) (w : World) (hi : i < m.spans.length) (hmay : May2 m) (hmks : MarksOk m) (hx : MarkOk x) (hbase : base≤w.heap.size) (hD : RefM w d base m F H S G) (hk : x.kind≠3∧x.kind≠4∧x.kind≠5∧x.kind≠6∧x.kind≠7∧x.kind≠8∧x.kind≠9∧x.kind≠11∧x.kind≠16) :
  Calls Tryz.prog 37 #[.pointer (some ⟨d,0,none⟩),.int .i64 (i : Int),markV x] w (SpanP m d base i x w):=by
 obtain ⟨h,hh⟩ : ∃ h,ix noHold m.spans i=h:=⟨_,rfl⟩
 have hok : HoldOk h:=hh▸hmay.spanO _ (ixMem (d:=noHold) hi)
 have HC:=Lib.hid (And.intro hok (And.intro (hh▸hmks _ (ixMem (d:=noHold) hi) : h.marks < 18446744073709551616) (And.intro hx.mask (alloc_lt hok))))
 obtain ⟨g,sc,W0,W2,rfl,hsc,hW0,hW2,hl,y3,⟨a0,a1,a2,a3,a4,a5,a6,a7⟩,hst⟩:=span_pre x.kind x.thread x.entry x.page x.n x.mask hi hmay hh hD
 have HMB:=Lib.hid (And.intro hmay (And.intro hbase (And.intro (deskOk_may (may2_iff.2 hmay)).l2 (And.intro hD.blk.lt hsc))))
 clear hok hmay hmks hx hbase hsc
 obtain ⟨kd,t,en,xp,xn,xm⟩:=x
 obtain ⟨pg,np,c,ho,cl,sw,al,mk⟩:=h
 dsimp only at hk hW0 hW2 hst y3 a0 a1 a2 a3 a4 a5 a6 a7
 have HS:=Lib.hid hst.1
 have HMk:=Lib.hid hst.2
 have HI:=Lib.hid hi
 have HH:=Lib.hid hh
 obtain ⟨⟨b0,b1,b2,b3,b4,b5,b6,b7⟩,z3,z4,z5,z6,z7⟩:=blkS hst.1.blk
 obtain ⟨x0,x1,x3,x4,x5⟩:=blkX hst.2
 have q0 : (0 : Int)≤(i : Int):=by omega
 have q1 : (i : Int) < (m.spans.length : Int):=by omega
 have hne : ∀ (a b : Int) (v : Bool),(a == b)=v→(a != b)=!v:=fun a b v e=>by simp [bne,e]
 have HW0:=Lib.hid hW0
 have HW2:=Lib.hid hW2
 unfold markV
 dsimp only
 clear hst hD hW0 hW2 hh hi
 have k3 : (kd == 3)=false:=by simp only [beq_eq_false_iff_ne,ne_eq]; omega
 have k4 : (kd == 4)=false:=by simp only [beq_eq_false_iff_ne,ne_eq]; omega
 have k5 : (kd == 5)=false:=by simp only [beq_eq_false_iff_ne,ne_eq]; omega
 have k6 : (kd == 6)=false:=by simp only [beq_eq_false_iff_ne,ne_eq]; omega
 have k7 : (kd == 7)=false:=by simp only [beq_eq_false_iff_ne,ne_eq]; omega
 have k8 : (kd == 8)=false:=by simp only [beq_eq_false_iff_ne,ne_eq]; omega
 have k9 : (kd == 9)=false:=by simp only [beq_eq_false_iff_ne,ne_eq]; omega
 have k11 : (kd == 11)=false:=by simp only [beq_eq_false_iff_ne,ne_eq]; omega
 have k16 : (kd == 16)=false:=by simp only [beq_eq_false_iff_ne,ne_eq]; omega
 have HK:=Lib.hid hk
 clear hk
 go_enter Tryz.func37,Tryz.ntmps37
 go_upto_region 1 with fail
 rw [← HW0.out]
 go_upto_region 2 with fail
 rw [← HW2.out]
 clear y3 a0 a1 a2 a3 a4 a5 a6 a7
 go_upto_region 38 with fail
 have h4:=HS.out
 clear b0 b1 b2 b3 b4 b5 b6 b7 z3 z4 z5 z6 z7 x0 x1 x3 x4 x5
 obtain ⟨⟨v0,v1,v2,v3,v4,v5,v6,v7⟩,_⟩:=blkS h4.blk
 have y3:=h4.ref.blk.cell (i:=3) (v:=.slice (some ⟨g,0,none⟩) m.spans.length sc) rfl
 obtain ⟨u0,u1,u2,u3,u4,u5,u6,u7⟩:=frz8 h4.ref.own.spans (i * 8)
 obtain ⟨t0,t1,t2,t3,t4,t5,t6,t7⟩:=own8 h4.ref.own.spans HI.out HH.out
 have H4:=Lib.hid h4
 clear h4
 go_wp2
 go_region
 go_wp2
 go_ret
 obtain ⟨j3,j4,j5,j6,j7,j8,j9,j11,j16⟩:=HK.out
 exact H4.out.no rfl HI.out ⟨pg,np,c,ho,cl,sw,al,mk⟩ (by with_reducible exact (Ext.refl _).drew) (.inl ⟨j9,by rw [HH.out]; simp [turnO,passH,passO,j3,j4,j5,j6,j7,j8,j11,j16]⟩)
set_option maxHeartbeats 16000000 in
set_option maxRecDepth 100000 in
theorem span28_3 (m : ModelD) (d base : Nat) (F H S G : Value) (i : Nat) (x : MarkD) (w : World) (hi : i < m.spans.length) (hmay : May2 m) (hmks : MarksOk m) (hx : MarkOk x) (hbase : base≤w.heap.size) (hD : RefM w d base m F H S G) (hk : x.kind=3) :
  Calls Tryz.prog 37 #[.pointer (some ⟨d,0,none⟩),.int .i64 (i : Int),markV x] w (SpanP m d base i x w):=by
 obtain ⟨h,hh⟩ : ∃ h,ix noHold m.spans i=h:=⟨_,rfl⟩
 have hok : HoldOk h:=hh▸hmay.spanO _ (ixMem (d:=noHold) hi)
 have HC:=Lib.hid (And.intro hok (And.intro (hh▸hmks _ (ixMem (d:=noHold) hi) : h.marks < 18446744073709551616) (And.intro hx.mask (alloc_lt hok))))
 obtain ⟨g,sc,W0,W2,rfl,hsc,hW0,hW2,hl,y3,⟨a0,a1,a2,a3,a4,a5,a6,a7⟩,hst⟩:=span_pre x.kind x.thread x.entry x.page x.n x.mask hi hmay hh hD
 have HMB:=Lib.hid (And.intro hmay (And.intro hbase (And.intro (deskOk_may (may2_iff.2 hmay)).l2 (And.intro hD.blk.lt hsc))))
 clear hok hmay hmks hx hbase hsc
 obtain ⟨kd,t,en,xp,xn,xm⟩:=x
 obtain ⟨pg,np,c,ho,cl,sw,al,mk⟩:=h
 dsimp only at hk hW0 hW2 hst y3 a0 a1 a2 a3 a4 a5 a6 a7
 subst hk
 have HS:=Lib.hid hst.1
 have HMk:=Lib.hid hst.2
 have HI:=Lib.hid hi
 have HH:=Lib.hid hh
 obtain ⟨⟨b0,b1,b2,b3,b4,b5,b6,b7⟩,z3,z4,z5,z6,z7⟩:=blkS hst.1.blk
 obtain ⟨x0,x1,x3,x4,x5⟩:=blkX hst.2
 have q0 : (0 : Int)≤(i : Int):=by omega
 have q1 : (i : Int) < (m.spans.length : Int):=by omega
 have hne : ∀ (a b : Int) (v : Bool),(a == b)=v→(a != b)=!v:=fun a b v e=>by simp [bne,e]
 have HW0:=Lib.hid hW0
 have HW2:=Lib.hid hW2
 unfold markV
 dsimp only
 clear hst hD hW0 hW2 hh hi
 have hcs : (decide (c < 14)=false∧turnO ⟨pg,np,c,ho,cl,sw,al,mk⟩ ⟨3,t,en,xp,xn,xm⟩=none)∨(decide (c < 14)=true∧sw=false∧turnO ⟨pg,np,c,ho,cl,sw,al,mk⟩ ⟨3,t,en,xp,xn,xm⟩=none)∨(decide (c < 14)=true∧sw=true∧(ho == t)=false∧turnO ⟨pg,np,c,ho,cl,sw,al,mk⟩ ⟨3,t,en,xp,xn,xm⟩=none)∨(decide (c < 14)=true∧sw=true∧(ho == t)=true∧decide (0≤xn)=false∧turnO ⟨pg,np,c,ho,cl,sw,al,mk⟩ ⟨3,t,en,xp,xn,xm⟩=none) ∨
   (decide (c < 14)=true∧sw=true∧(ho == t)=true∧∃ k : Nat,xn=(k : Int) ∧
    ((decide ((k : Int) < clsS c)=false∧turnO ⟨pg,np,c,ho,cl,sw,al,mk⟩ ⟨3,t,en,xp,xn,xm⟩=none)∨(decide ((k : Int) < clsS c)=true∧k < 64∧al.testBit k=true∧turnO ⟨pg,np,c,ho,cl,sw,al,mk⟩ ⟨3,t,en,xp,xn,xm⟩=none) ∨
     (decide ((k : Int) < clsS c)=true∧k < 64∧al.testBit k=false∧turnO ⟨pg,np,c,ho,cl,sw,al,mk⟩ ⟨3,t,en,xp,xn,xm⟩=some ⟨pg,np,c,ho,cl,sw,(bits .or .u64 (al : Int) (IntKind.u64.wrap (2 ^ k))).toNat,mk⟩))):=by
  have hbd:=clsS_bdM c
  have hc14:=HC.out.1.1.2.1
  dsimp only at hc14
  unfold turnO
  rw [if_pos (show (3 : Int)=3 from rfl)]
  simp only [beq_iff_eq,beq_eq_false_iff_ne,ne_eq,decide_eq_true_eq,decide_eq_false_iff_not]
  by_cases q0 : c < 14
  rotate_left
  ·exact .inl ⟨q0,if_neg fun h=>by omega⟩
  refine .inr ?_
  cases sw
  ·exact .inl ⟨q0,rfl,by simp⟩
  refine .inr ?_
  by_cases q2 : ho=t
  rotate_left
  ·exact .inl ⟨q0,rfl,q2,by simp [q2]⟩
  refine .inr ?_
  by_cases q3 : 0≤xn
  rotate_left
  ·exact .inl ⟨q0,rfl,q2,q3,by simp [q3]⟩
  refine .inr ⟨q0,rfl,q2,xn.toNat,(Int.toNat_of_nonneg q3).symm,?_⟩
  rw [Int.toNat_of_nonneg q3]
  by_cases q4 : xn < clsS c
  rotate_left
  ·exact .inl ⟨q4,by simp [q4]⟩
  refine .inr ?_
  cases q5 : al.testBit xn.toNat
  ·exact .inr ⟨q4,by omega,rfl,if_pos ⟨by omega,rfl,q2,q3,q4,rfl⟩⟩
  ·exact .inl ⟨q4,by omega,rfl,by simp⟩
 have HSl : Hid (∀ W,Calls Tryz.prog 25 #[.int .i64 c] W fun e w'=>e=.returned (.int .i64 (clsS c))∧Ext W w'):=Lib.hid fun W=>slots1_any c W
 have HBit : Hid (∀ k : Nat,k < 64→∀ W,Calls Tryz.prog 47 #[.int .u64 (al : Int),.int .i64 (k : Int)] W fun e w'=>e=.returned (.bool (al.testBit k))∧Ext W w'):=Lib.hid fun k hk W=>bit28_any al k W HC.out.2.2.2 hk
 rcases hcs with ⟨e0,hx⟩ | ⟨e0,rfl,hx⟩ | ⟨e0,rfl,e2,hx⟩ | ⟨e0,rfl,e2,e3,hx⟩ | ⟨e0,rfl,e2,k,rfl,⟨e3,hx⟩ | ⟨e3,k64,e4,hx⟩ | ⟨e3,k64,e4,hx⟩⟩
 all_goals
  have HX:=Lib.hid hx
  clear hx
  try have HB0:=HBit.out k k64
  try rw [e4] at HB0
  try have HB:=Lib.hid HB0
  try clear HB0 e4
  go_enter Tryz.func37,Tryz.ntmps37
  go_upto_region 1 with fail
  rw [← HW0.out]
  go_upto_region 2 with fail
  rw [← HW2.out]
  clear y3 a0 a1 a2 a3 a4 a5 a6 a7
  go_upto_region 6 with fail
  have g2:=fun d os=>cell_regrown b2 d os
  have g3:=fun d os=>cell_regrown b3 d os
  have g5:=fun d os=>cell_regrown b5 d os
  have g6:=fun d os=>cell_regrown b6 d os
  have h4:=fun d os=>cell_regrown x4 d os
  refine wp_region_quiet_below (by kernel_rfl) (by kernel_rfl) ?_
  repeat (go_big_quiet_step ((first
   |(go_at_call 25; exact Calls.regrown_of (HSl.out _))
   |(go_at_call 47; exact Calls.regrown_of (HB.out _)))))
  refine wpQuiet_nil ?_
  intro _ hw'
  obtain ⟨⟨dq,osq⟩,hw''⟩:=hw'
  subst hw''
  have hE3 : Ext W2 (grow (redrawn W2 dq) osq):=below_regrown W2 dq osq
  generalize grow (redrawn W2 dq) osq=W3 at hE3 ⊢
  have hst3:=HS.out.more hE3
  have i6:=hst3.blk.cell (i:=6) (v:=.int .u64 (al : Int)) rfl
  have iz:=hst3.blk.frozen 6
  have i4:=hE3.cell x4
  have H3:=Lib.hid hst3
  clear hst3 hE3 g2 g3 g5 g6 h4
  clear b0 b1 b2 b3 b4 b5 b6 b7 z3 z4 z5 z6 z7 x0 x1 x3 x4 x5
 rotate_right
 ·obtain ⟨V,hV⟩ : ∃ V : Nat,bits .or .u64 (al : Int) (IntKind.u64.wrap (2 ^ k))=(V : Int):=⟨_,(bits_nat .or _ _).symm⟩
  have HV:=Lib.hid hV
  go_upto_region 8 with fail
  go_wp2
  go_region
  go_upto_region 38 with fail
  have h4:=(H3.out.al (.int .u64 (V : Int))).more (Ext.refl _).drew
  generalize (W3.setCell ⟨W0.heap.size,6,none⟩ (.int .u64 (V : Int))).drew=W4 at h4 ⊢
  clear i6 iz i4
  obtain ⟨⟨v0,v1,v2,v3,v4,v5,v6,v7⟩,_⟩:=blkS h4.blk
  have y3:=h4.ref.blk.cell (i:=3) (v:=.slice (some ⟨g,0,none⟩) m.spans.length sc) rfl
  obtain ⟨u0,u1,u2,u3,u4,u5,u6,u7⟩:=frz8 h4.ref.own.spans (i * 8)
  obtain ⟨t0,t1,t2,t3,t4,t5,t6,t7⟩:=own8 h4.ref.own.spans HI.out HH.out
  have H4:=Lib.hid h4
  clear h4
  go_wp2
  go_region
  go_wp2
  go_ret
  exact H4.out.yes rfl HI.out ⟨pg,np,c,ho,cl,true,V,mk⟩ (by with_reducible exact (Ext.refl _).drew) (show (3 : Int)≠9 by decide) (by rw [HH.out,HX.out,HV.out,Int.toNat_natCast])
 all_goals
  go_upto_region 38 with fail
  have h4:=H3.out
  clear i6 iz i4
  obtain ⟨⟨v0,v1,v2,v3,v4,v5,v6,v7⟩,_⟩:=blkS h4.blk
  have y3:=h4.ref.blk.cell (i:=3) (v:=.slice (some ⟨g,0,none⟩) m.spans.length sc) rfl
  obtain ⟨u0,u1,u2,u3,u4,u5,u6,u7⟩:=frz8 h4.ref.own.spans (i * 8)
  obtain ⟨t0,t1,t2,t3,t4,t5,t6,t7⟩:=own8 h4.ref.own.spans HI.out HH.out
  have H4:=Lib.hid h4
  clear h4
  go_wp2
  go_region
  go_wp2
  go_ret
  exact H4.out.no rfl HI.out ⟨pg,np,c,ho,cl,_,al,mk⟩ (by with_reducible exact (Ext.refl _).drew) (.inl ⟨show (3 : Int)≠9 by decide,by rw [HH.out]; exact HX.out⟩)
set_option maxHeartbeats 16000000 in
set_option maxRecDepth 100000 in
theorem span28_9 (m : ModelD) (d base : Nat) (F H S G : Value) (i : Nat) (x : MarkD) (w : World) (hi : i < m.spans.length) (hmay : May2 m) (hmks : MarksOk m) (hx : MarkOk x) (hbase : base≤w.heap.size) (hD : RefM w d base m F H S G) (hk : x.kind=9) :
  Calls Tryz.prog 37 #[.pointer (some ⟨d,0,none⟩),.int .i64 (i : Int),markV x] w (SpanP m d base i x w):=by
 obtain ⟨h,hh⟩ : ∃ h,ix noHold m.spans i=h:=⟨_,rfl⟩
 have hok : HoldOk h:=hh▸hmay.spanO _ (ixMem (d:=noHold) hi)
 have HC:=Lib.hid (And.intro hok (And.intro (hh▸hmks _ (ixMem (d:=noHold) hi) : h.marks < 18446744073709551616) (And.intro hx.mask (alloc_lt hok))))
 obtain ⟨g,sc,W0,W2,rfl,hsc,hW0,hW2,hl,y3,⟨a0,a1,a2,a3,a4,a5,a6,a7⟩,hst⟩:=span_pre x.kind x.thread x.entry x.page x.n x.mask hi hmay hh hD
 have HMB:=Lib.hid (And.intro hmay (And.intro hbase (And.intro (deskOk_may (may2_iff.2 hmay)).l2 (And.intro hD.blk.lt hsc))))
 clear hok hmay hmks hx hbase hsc
 obtain ⟨kd,t,en,xp,xn,xm⟩:=x
 obtain ⟨pg,np,c,ho,cl,sw,al,mk⟩:=h
 dsimp only at hk hW0 hW2 hst y3 a0 a1 a2 a3 a4 a5 a6 a7
 subst hk
 have HS:=Lib.hid hst.1
 have HMk:=Lib.hid hst.2
 have HI:=Lib.hid hi
 have HH:=Lib.hid hh
 obtain ⟨⟨b0,b1,b2,b3,b4,b5,b6,b7⟩,z3,z4,z5,z6,z7⟩:=blkS hst.1.blk
 obtain ⟨x0,x1,x3,x4,x5⟩:=blkX hst.2
 have q0 : (0 : Int)≤(i : Int):=by omega
 have q1 : (i : Int) < (m.spans.length : Int):=by omega
 have hne : ∀ (a b : Int) (v : Bool),(a == b)=v→(a != b)=!v:=fun a b v e=>by simp [bne,e]
 have HW0:=Lib.hid hW0
 have HW2:=Lib.hid hW2
 unfold markV
 dsimp only
 clear hst hD hW0 hW2 hh hi
 have hcs : ((ho == t)=false∧¬ DropC ⟨9,t,en,xp,xn,xm⟩ ⟨pg,np,c,ho,cl,sw,al,mk⟩)∨((ho == t)=true∧(cl == -1)=false∧¬ DropC ⟨9,t,en,xp,xn,xm⟩ ⟨pg,np,c,ho,cl,sw,al,mk⟩)∨((ho == t)=true∧(cl == -1)=true∧sw=false∧¬ DropC ⟨9,t,en,xp,xn,xm⟩ ⟨pg,np,c,ho,cl,sw,al,mk⟩)∨((ho == t)=true∧(cl == -1)=true∧sw=true∧((al : Int) == 0)=false∧(al == 0)=false∧¬ DropC ⟨9,t,en,xp,xn,xm⟩ ⟨pg,np,c,ho,cl,sw,al,mk⟩) ∨
   ((ho == t)=true∧(cl == -1)=true∧sw=true∧((al : Int) == 0)=true∧(al == 0)=true∧(xn == np)=false∧¬ DropC ⟨9,t,en,xp,xn,xm⟩ ⟨pg,np,c,ho,cl,sw,al,mk⟩)∨((ho == t)=true∧(cl == -1)=true∧sw=true∧((al : Int) == 0)=true∧(al == 0)=true∧(xn == np)=true∧DropC ⟨9,t,en,xp,xn,xm⟩ ⟨pg,np,c,ho,cl,sw,al,mk⟩):=by
  unfold DropC
  simp only [beq_iff_eq,beq_eq_false_iff_ne,ne_eq]
  by_cases q0 : ho=t
  rotate_left
  ·exact .inl ⟨q0,fun h=>q0 h.1⟩
  by_cases q1 : cl=-1
  rotate_left
  ·exact .inr (.inl ⟨q0,q1,fun h=>q1 h.2.1⟩)
  cases q2 : sw
  ·exact .inr (.inr (.inl ⟨q0,q1,rfl,fun h=>by have:=h.2.2.1; cases this⟩))
  by_cases q3 : al=0
  rotate_left
  ·exact .inr (.inr (.inr (.inl ⟨q0,q1,rfl,by omega,q3,fun h=>q3 h.2.2.2.1⟩)))
  by_cases q4 : xn=np
  ·exact .inr (.inr (.inr (.inr (.inr ⟨q0,q1,rfl,by omega,q3,q4,q0,q1,rfl,q3,q4.symm⟩))))
  ·exact .inr (.inr (.inr (.inr (.inl ⟨q0,q1,rfl,by omega,q3,q4,fun h=>q4 h.2.2.2.2.symm⟩))))
 rcases hcs with ⟨e0,hx⟩ | ⟨e0,e1,hx⟩ | ⟨e0,e1,rfl,hx⟩ | ⟨e0,e1,rfl,e3,e3',hx⟩ | ⟨e0,e1,rfl,e3,e3',e4,hx⟩ | ⟨e0,e1,rfl,e3,e3',e4,hx⟩
 rotate_right
 ·have HX:=Lib.hid hx
  obtain ⟨i0,hi0,hz0,hs0,hb0⟩:=info_parts Tryz.infoMHold
  have HI0:=Lib.hid (And.intro hi0 (And.intro hz0 (And.intro hs0 hb0)))
  have hfr:=HS.out.ref.own.spans.slr.from (a:=i + 1) (c:=sc) HMB.out.2.2.2.2 (G:=fun j=>holdsV m.spans ((i + 1) * 8 + j)) (fun j=>rfl)
  obtain ⟨cA,hcA⟩ : ∃ cA,(if sc=i + 1 then some (⟨g,0,none⟩ : Addr) else some ⟨g,(i + 1) * 8,none⟩)=cA:=⟨_,rfl⟩
  rw [hcA] at hfr
  have HFr:=Lib.hid hfr
  have HZ:=Lib.hid (And.intro (Nat.le_trans HMB.out.2.1 HS.out.ext.size) HS.out.ext.size)
  have hi:=HI.out
  have hsc:=HMB.out.2.2.2.2
  clear hfr hi0 hz0 hs0 hb0 hx
  have q2 : (i : Int)≤(m.spans.length : Int):=by omega
  have q3 : (i : Int) + 1≤(m.spans.length : Int):=by omega
  have q4 : (i : Int)≤(sc : Int):=by omega
  have q5 : (0 : Int)≤(i : Int) + 1:=by omega
  have w1 : IntKind.i64.wrap ((i : Int) + 1)=(i : Int) + 1:=by rw [IntKind.wrap_i64]; omega
  go_enter Tryz.func37,Tryz.ntmps37
  go_upto_region 1 with fail
  rw [← HW0.out]
  go_upto_region 2 with fail
  rw [← HW2.out]
  clear y3 a0 a1 a2 a3 a4 a5 a6 a7
  go_upto_region 29 with fail
  clear b0 b1 b2 b3 b4 b5 b6 b7 z3 z4 z5 z6 z7 x0 x1 e0 e1 e3 e3' e4
  have y3:=HS.out.ref.blk.cell (i:=3) (v:=.slice (some ⟨g,0,none⟩) m.spans.length sc) rfl
  refine wp_region_ord (fun w'=>w'.cell? ⟨d,3,none⟩=some (.slice (some ⟨g,0,none⟩) m.spans.length sc)) (fun i=>!(i == 1 || i == 8 || i == 16 || i == 19)) (fun i=>i == 5 || i == 12) (fun i=>i == 1 || i == 8) [0,2,3,4,5,6,7,9,10,11,12,13,14,15,1,8,16,17,18,19] (by kernel_rfl) (by kernel_rfl) (fun c a d v w h=>by cases d <;> exact h) ?_
  refine wpOrd_quiet (v:=?vs0) rfl rfl rfl rfl ?ys0 ?rs0
  case ys0=>(intro w'; go_simp; try with_reducible rfl)
  simp only [List.getElem_toArray,List.getElem_cons_succ,List.getElem_cons_zero,Act.put,List.setIfInBounds_toArray,List.set_cons_zero,List.set_cons_succ]
  refine wpOrd_quiet (v:=?vs2) rfl rfl rfl rfl ?ys2 ?rs2
  case ys2=>(intro w'; go_simp; try with_reducible rfl)
  simp only [List.getElem_toArray,List.getElem_cons_succ,List.getElem_cons_zero,Act.put,List.setIfInBounds_toArray,List.set_cons_zero,List.set_cons_succ]
  refine wpOrd_quiet (v:=?vs3) rfl rfl rfl rfl ?ys3 ?rs3
  case ys3=>(intro w'; go_simp; try with_reducible rfl)
  simp only [List.getElem_toArray,List.getElem_cons_succ,List.getElem_cons_zero,Act.put,List.setIfInBounds_toArray,List.set_cons_zero,List.set_cons_succ]
  refine wpOrd_quiet (v:=?vs4) rfl rfl rfl rfl ?ys4 ?rs4
  case ys4=>(intro w'; go_simp; try with_reducible rfl)
  simp only [List.getElem_toArray,List.getElem_cons_succ,List.getElem_cons_zero,Act.put,List.setIfInBounds_toArray,List.set_cons_zero,List.set_cons_succ]
  refine wpOrd_held (v:=?vs5) rfl rfl rfl ((Ext.refl W2).drew.cell y3) rfl ?ys5 ?rs5
  case ys5=>(intro w' hS'; (try dsimp only at hS'); go_simp; try with_reducible rfl)
  simp only [List.getElem_toArray,List.getElem_cons_succ,List.getElem_cons_zero,Act.put,List.setIfInBounds_toArray,List.set_cons_zero,List.set_cons_succ]
  refine wpOrd_quiet (v:=?vs6) rfl rfl rfl rfl ?ys6 ?rs6
  case ys6=>(intro w'; go_simp; try with_reducible rfl)
  simp only [List.getElem_toArray,List.getElem_cons_succ,List.getElem_cons_zero,Act.put,List.setIfInBounds_toArray,List.set_cons_zero,List.set_cons_succ]
  refine wpOrd_quiet (v:=?vs7) rfl rfl rfl rfl ?ys7 ?rs7
  case ys7=>(intro w'; go_simp; try with_reducible rfl)
  simp only [List.getElem_toArray,List.getElem_cons_succ,List.getElem_cons_zero,Act.put,List.setIfInBounds_toArray,List.set_cons_zero,List.set_cons_succ]
  refine wpOrd_quiet (v:=?vs9) rfl rfl rfl rfl ?ys9 ?rs9
  case ys9=>(intro w'; go_simp; try with_reducible rfl)
  simp only [List.getElem_toArray,List.getElem_cons_succ,List.getElem_cons_zero,Act.put,List.setIfInBounds_toArray,List.set_cons_zero,List.set_cons_succ]
  refine wpOrd_quiet (v:=?vs10) rfl rfl rfl rfl ?ys10 ?rs10
  case ys10=>(intro w'; go_simp; try with_reducible rfl)
  simp only [List.getElem_toArray,List.getElem_cons_succ,List.getElem_cons_zero,Act.put,List.setIfInBounds_toArray,List.set_cons_zero,List.set_cons_succ]
  refine wpOrd_quiet (v:=?vs11) rfl rfl rfl rfl ?ys11 ?rs11
  case ys11=>(intro w'; go_simp; try with_reducible rfl)
  simp only [List.getElem_toArray,List.getElem_cons_succ,List.getElem_cons_zero,Act.put,List.setIfInBounds_toArray,List.set_cons_zero,List.set_cons_succ]
  refine wpOrd_held (v:=?vs12) rfl rfl rfl ((Ext.refl W2).drew.cell y3) rfl ?ys12 ?rs12
  case ys12=>(intro w' hS'; (try dsimp only at hS'); go_simp; try with_reducible rfl)
  simp only [List.getElem_toArray,List.getElem_cons_succ,List.getElem_cons_zero,Act.put,List.setIfInBounds_toArray,List.set_cons_zero,List.set_cons_succ]
  refine wpOrd_quiet (v:=?vs13) rfl rfl rfl rfl ?ys13 ?rs13
  case ys13=>(intro w'; go_simp; try with_reducible rfl)
  simp only [List.getElem_toArray,List.getElem_cons_succ,List.getElem_cons_zero,Act.put,List.setIfInBounds_toArray,List.set_cons_zero,List.set_cons_succ]
  refine wpOrd_quiet (v:=?vs14) rfl rfl rfl rfl ?ys14 ?rs14
  case ys14=>(intro w'; go_simp; try with_reducible rfl)
  simp only [List.getElem_toArray,List.getElem_cons_succ,List.getElem_cons_zero,Act.put,List.setIfInBounds_toArray,List.set_cons_zero,List.set_cons_succ]
  refine wpOrd_quiet (v:=?vs15) rfl rfl rfl rfl ?ys15 ?rs15
  case ys15=>(intro w'; go_simp; try with_reducible rfl)
  simp only [List.getElem_toArray,List.getElem_cons_succ,List.getElem_cons_zero,Act.put,List.setIfInBounds_toArray,List.set_cons_zero,List.set_cons_succ]
  refine wpOrd_loud rfl rfl rfl ?_
  simp only [List.getElem_toArray,List.getElem_cons_succ,List.getElem_cons_zero]
  go_wp2
  have hEa : Ext W2 (W2.drew.alloc (.cells #[] 51)):=(Ext.refl W2).drew.alloc _
  refine postK_intro (ordK_need (hEa.cell y3) ?_)
  refine wpOrd_loud rfl rfl rfl ?_
  simp only [List.getElem_toArray,List.getElem_cons_succ,List.getElem_cons_zero]
  refine wpList_pushAll rfl _ _ 27 rfl W2.heap.size 51 i0 (.agg #[.int .i64 0,.int .i64 0,.int .i64 0,.int .i64 0,.int .i64 0,.bool false,.int .u64 0,.int .u64 0]) 8 64 Tryz.underlying27 HI0.out.1 HI0.out.2.1 HI0.out.2.2.1 HI0.out.2.2.2 rfl (by decide) _ 0 (holdsV (cutIn m.spans i (i + 1) [])) rfl (OwnS.lit0 W2.drew 51 8 (holdsV (cutIn m.spans i (i + 1) []))) (some ⟨g,0,none⟩) i sc (holdsV m.spans) rfl ((HS.out.ref.own.spans.slr.upto (by omega)).ext hEa) (fun j _=>holdsV_one _ _) ?b631 ?bby1 ?bba1 (holdsV (cutIn m.spans i (i + 1) [])) (fun j _=>rfl) (fun j hj=>by rw [Nat.zero_mul,Nat.zero_add]; exact rowV_lo (C:=holdC) (d:=noHold) (sz:=8) (by omega) j hj) i (by omega) ?_
  case b631=>unfold maxLen; omega
  case bby1=>omega
  case bba1=>simp [World.drew]
  intro A1 c1 w1 hO1 hg1 hX1 _
  replace hX1:=hX1 W2 hEa (Nat.le_refl _)
  go_wp2
  refine postK_intro (ordK_need (hX1.cell y3) ?_)
  refine wpOrd_loud rfl rfl rfl ?_
  simp only [List.getElem_toArray,List.getElem_cons_succ,List.getElem_cons_zero]
  refine wpList_pushAll rfl _ _ 27 rfl W2.heap.size 51 i0 (.agg #[.int .i64 0,.int .i64 0,.int .i64 0,.int .i64 0,.int .i64 0,.bool false,.int .u64 0,.int .u64 0]) 8 64 Tryz.underlying27 HI0.out.1 HI0.out.2.1 HI0.out.2.2.1 HI0.out.2.2.2 rfl (by decide) _ i (holdsV (cutIn m.spans i (i + 1) [])) rfl hO1 cA (m.spans.length - (i + 1)) (sc - (i + 1)) (fun j=>holdsV m.spans ((i + 1) * 8 + j)) rfl (HFr.out.ext hX1) (fun j _=>holdsV_one _ _) ?b632 ?bby2 ?bba2 (holdsV (cutIn m.spans i (i + 1) [])) (fun j _=>rfl) (fun j hj=>rowV_hi (C:=holdC) (d:=noHold) (sz:=8) (vs:=[]) (by omega) (by omega) j) (cutIn m.spans i (i + 1) []).length (by rw [cutIn_length (by omega)]; simp) ?_
  case b632=>unfold maxLen; omega
  case bby2=>omega
  case bba2=>exact hX1.size
  intro A2 c2 w2 hO2 hg2 hX2 _
  replace hX2:=hX2 W2 hX1 (Nat.le_refl _)
  go_wp2
  refine postK_intro (ordK_free rfl ?_)
  refine wpOrd_quiet (v:=?vs17) rfl rfl rfl rfl ?ys17 ?rs17
  case ys17=>(intro w'; go_simp; try with_reducible rfl)
  simp only [List.getElem_toArray,List.getElem_cons_succ,List.getElem_cons_zero,Act.put,List.setIfInBounds_toArray,List.set_cons_zero,List.set_cons_succ]
  refine wpOrd_quiet (v:=?vs18) rfl rfl rfl rfl ?ys18 ?rs18
  case ys18=>(intro w'; go_simp; try with_reducible rfl)
  simp only [List.getElem_toArray,List.getElem_cons_succ,List.getElem_cons_zero,Act.put,List.setIfInBounds_toArray,List.set_cons_zero,List.set_cons_succ]
  refine wpOrd_loud rfl rfl rfl ?_
  simp only [List.getElem_toArray,List.getElem_cons_succ,List.getElem_cons_zero]
  have hD2:=HS.out.ref.ext hX2
  have y2:=hD2.blk.cell (i:=3) (v:=.slice (some ⟨g,0,none⟩) m.spans.length sc) rfl
  have yf:=hD2.blk.frozen 3
  have HE:=Lib.hid (And.intro hX2 (hD2.setSpans (cutIn m.spans i (i + 1) []) (hO2.mono HZ.out.1)))
  clear hD2 hX2 hX1 hEa hg1 hg2 hO1 hO2
  go_wp2
  refine postK_intro (ordK_free rfl ?_)
  refine wpOrd_nil ?_
  obtain ⟨W5,hW5⟩ : ∃ W5,W5=w2.setCell ⟨d,3,none⟩ (.slice A2 (cutIn m.spans i (i + 1) []).length c2):=⟨_,rfl⟩
  rw [← hW5]
  have hR5:=HE.out.2
  rw [← hW5] at hR5
  have hK5 : KeepD base d w W5:=hW5▸((KeepD.ext (HS.out.ext.trans HE.out.1)).trans (KeepD.set 3 _))
  have hz5 : w.heap.size≤W5.heap.size:=by rw [hW5,World.size_setCell]; exact Nat.le_trans HS.out.ext.size HE.out.1.size
  have hgv:=give28_any { m with spans:=cutIn m.spans i (i + 1) [] } d base F H (.slice A2 (cutIn m.spans i (i + 1) []).length c2) G ⟨t,xp,xn⟩ W5 HMB.out.2.2.1 HMB.out.1.riseH (Nat.le_trans HMB.out.2.1 hz5) hR5
  have HG:=Lib.hid (And.intro hgv (And.intro hK5 hz5))
  have hmb:=(HMk.out.ext HE.out.1).far (p:=⟨d,3,none⟩) (show w.heap.size≠d by have:=HMB.out.2.2.2.1; omega) (.slice A2 (cutIn m.spans i (i + 1) []).length c2)
  rw [← hW5] at hmb
  have i3:=hmb.cell (i:=3) (v:=.int .i64 xp) rfl
  have i4:=hmb.cell (i:=4) (v:=.int .i64 xn) rfl
  clear hgv hK5 hz5 hR5 hW5 hmb
  go_wp2_with (go_at_call 65; (with_reducible refine HG.out.1.mono ?_); rintro e w6 ⟨rfl,h1,h2,h3⟩; have HS6:=Lib.hid (And.intro h1 (And.intro h2 h3)); clear h1 h2 h3)
  go_ret
  obtain ⟨h1,h2,k,H',hP,hR⟩:=HS6.out
  exact ⟨HG.out.2.1.trans h1,Nat.le_trans HG.out.2.2 h2,.inr ⟨rfl,_,_,_,_,_,.inr ⟨rfl,by rw [HH.out]; exact HX.out,k,hP,rfl⟩,hR⟩⟩
 all_goals
  have HX:=Lib.hid hx
  clear hx
  go_enter Tryz.func37,Tryz.ntmps37
  go_upto_region 1 with fail
  rw [← HW0.out]
  go_upto_region 2 with fail
  rw [← HW2.out]
  clear y3 a0 a1 a2 a3 a4 a5 a6 a7
  go_upto_region 38 with fail
  have h4:=HS.out
  clear b0 b1 b2 b3 b4 b5 b6 b7 z3 z4 z5 z6 z7 x0 x1 x3 x4 x5
  obtain ⟨⟨v0,v1,v2,v3,v4,v5,v6,v7⟩,_⟩:=blkS h4.blk
  have y3:=h4.ref.blk.cell (i:=3) (v:=.slice (some ⟨g,0,none⟩) m.spans.length sc) rfl
  obtain ⟨u0,u1,u2,u3,u4,u5,u6,u7⟩:=frz8 h4.ref.own.spans (i * 8)
  obtain ⟨t0,t1,t2,t3,t4,t5,t6,t7⟩:=own8 h4.ref.own.spans HI.out HH.out
  have H4:=Lib.hid h4
  clear h4
  go_wp2
  go_region
  go_wp2
  go_ret
  exact H4.out.no rfl HI.out ⟨pg,np,c,ho,cl,_,al,mk⟩ (by with_reducible exact (Ext.refl _).drew) (.inr ⟨rfl,by rw [HH.out]; exact HX.out⟩)
theorem span28_any (m : ModelD) (d base : Nat) (F H S G : Value) (i : Nat) (x : MarkD) (w : World) (hi : i < m.spans.length) (hmay : May2 m) (hmks : MarksOk m) (hx : MarkOk x) (ht : ThreadP x.thread) (hbase : base≤w.heap.size) (hD : RefM w d base m F H S G) :
  Calls Tryz.prog 37 #[.pointer (some ⟨d,0,none⟩),.int .i64 (i : Int),markV x] w (SpanP m d base i x w):=by
 by_cases k3 : x.kind=3
 ·exact span28_3 m d base F H S G i x w hi hmay hmks hx hbase hD k3
 by_cases k4 : x.kind=4
 ·exact span28_4 m d base F H S G i x w hi hmay hmks hx hbase hD k4
 by_cases k5 : x.kind=5
 ·exact span28_5 m d base F H S G i x w hi hmay hmks hx hbase hD k5
 by_cases k6 : x.kind=6
 ·exact span28_6 m d base F H S G i x w hi hmay hmks hx hbase hD k6
 by_cases k7 : x.kind=7
 ·exact span28_7 m d base F H S G i x w hi hmay hmks hx hbase hD k7
 by_cases k8 : x.kind=8
 ·exact span28_8 m d base F H S G i x w hi hmay hmks hx hbase hD k8
 by_cases k9 : x.kind=9
 ·exact span28_9 m d base F H S G i x w hi hmay hmks hx hbase hD k9
 by_cases k11 : x.kind=11
 ·exact span28_11 m d base F H S G i x w hi hmay hmks hx hbase hD k11
 by_cases k16 : x.kind=16
 ·exact span28_16 m d base F H S G i x w hi hmay hmks hx hbase hD k16
 exact span28_no m d base F H S G i x w hi hmay hmks hx hbase hD ⟨k3,k4,k5,k6,k7,k8,k9,k11,k16⟩
end Go.Proofs.YtoolenhnhlfhmaaGreatDoor
