/- Walks: Made. -/
import Derived.Test.YtoolenhnhlfhmaaGreatDoorGR
namespace Go.Proofs.YtoolenhnhlfhmaaGreatDoor
open Go.RowKit Go.Sort
set_option linter.unusedVariables false
set_option linter.unusedSimpArgs false
def u8V (l : List Nat) (j : Nat) : Value:=.int .u8 ((ix (0 : Nat) l j : Nat) : Int)
def u64V (l : List Nat) (j : Nat) : Value:=.int .u64 ((ix (0 : Nat) l j : Nat) : Int)
theorem rowV_snoc_lo {α : Type} {C : α→Nat→Value} {d : α} {sz : Nat} {l : List α} {x : α} {j : Nat} (h : j < l.length * sz) : rowV C d sz (l ++ [x]) j=rowV C d sz l j:=by
 unfold rowV
 rw [ix_app_lt d l x (Nat.div_lt_of_lt_mul (by rw [Nat.mul_comm]; exact h))]
theorem rowV_snoc_hi {α : Type} {C : α→Nat→Value} {d : α} {sz : Nat} {l : List α} {x : α} {j : Nat} (h : j < sz) : rowV C d sz (l ++ [x]) (l.length * sz + j)=C x j:=by
 unfold rowV
 rw [Nat.add_comm (l.length * sz) j,Nat.add_mul_div_right _ _ (by omega),Nat.add_mul_mod_self_right,Nat.div_eq_of_lt h,Nat.mod_eq_of_lt h,Nat.zero_add,ix_app_end]
def oneM : ModelD:=⟨1,[⟨0,1⟩],[],[],[]⟩
theorem oneM_may : May2 oneM:=by
 have h:=MadeI.none.addFree (n:=1) (by decide) (by decide)
 exact h.may (by decide) (by decide)
theorem oneM_marks : MarksOk oneM:=fun s hs=>by cases hs
theorem and_ones {x s : Nat} (hx : x < 18446744073709551616) (hs : s≤64) : ∃ al : Nat,bits .and .u64 (x : Int) ((2 ^ s - 1 : Nat) : Int)=(al : Int)∧al≤2 ^ s - 1:=by
 have h2 : (2 : Nat) ^ s≤18446744073709551616:=by rw [show 18446744073709551616=2 ^ 64 by decide]; exact Nat.pow_le_pow_right (by decide) hs
 exact ⟨x &&& (2 ^ s - 1),bits_and_u64_nat x (2 ^ s - 1) hx (by have:=Nat.two_pow_pos s; omega),Nat.and_le_right⟩
theorem and_marks {x al : Nat} (hx : x < 18446744073709551616) (ha : al < 18446744073709551616) : ∃ mk : Nat,bits .and .u64 (al : Int) (bits .or .u64 ((x : Int) / 128) (IntKind.u64.wrap ((x : Int) * 512)))=(mk : Int)∧mk < 18446744073709551616∧bits .andNot .u64 (mk : Int) (al : Int)=0:=by
 obtain ⟨y,hy,hy2⟩ : ∃ y : Nat,(x : Int) / 128=(y : Int)∧y < 18446744073709551616:=⟨x / 128,by omega,by omega⟩
 obtain ⟨z,hz,hz2⟩ : ∃ z : Nat,IntKind.u64.wrap ((x : Int) * 512)=(z : Int)∧z < 18446744073709551616:=by
  rw [IntKind.wrap_u64]
  exact ⟨((x : Int) * 512 % 18446744073709551616).toNat,by omega,by omega⟩
 have ho : y ||| z < 18446744073709551616:=by
  rw [show 18446744073709551616=2 ^ 64 by decide] at hy2 hz2 ⊢
  exact Nat.or_lt_two_pow hy2 hz2
 rw [hy,hz,bits_or_u64_nat y z hy2 hz2,bits_and_u64_nat al (y ||| z) ha ho]
 have hm : al &&& (y ||| z) < 18446744073709551616:=Nat.lt_of_le_of_lt Nat.and_le_left ha
 refine ⟨_,rfl,hm,(andNot_zero hm ha).2 fun i hi=>?_⟩
 rw [Nat.testBit_and,Bool.and_eq_true] at hi
 exact hi.1
theorem blk8 {w : World} {g t : Nat} {a0 a1 a2 a3 a4 a5 a6 a7 : Value} (h : Blk w g t #[a0,a1,a2,a3,a4,a5,a6,a7]) :
  (w.cell? ⟨g,0,none⟩=some a0∧w.cell? ⟨g,1,none⟩=some a1∧w.cell? ⟨g,2,none⟩=some a2∧w.cell? ⟨g,3,none⟩=some a3∧w.cell? ⟨g,4,none⟩=some a4∧w.cell? ⟨g,5,none⟩=some a5∧w.cell? ⟨g,6,none⟩=some a6∧w.cell? ⟨g,7,none⟩=some a7) ∧
  (w.frozen? ⟨g,0,none⟩=false∧w.frozen? ⟨g,1,none⟩=false∧w.frozen? ⟨g,2,none⟩=false∧w.frozen? ⟨g,3,none⟩=false∧w.frozen? ⟨g,4,none⟩=false∧w.frozen? ⟨g,5,none⟩=false∧w.frozen? ⟨g,6,none⟩=false∧w.frozen? ⟨g,7,none⟩=false) :=
 ⟨⟨h.cell rfl,h.cell rfl,h.cell rfl,h.cell rfl,h.cell rfl,h.cell rfl,h.cell rfl,h.cell rfl⟩,⟨h.frozen 0,h.frozen 1,h.frozen 2,h.frozen 3,h.frozen 4,h.frozen 5,h.frozen 6,h.frozen 7⟩⟩
theorem set8 {w : World} {g t : Nat} {z0 z1 z2 z3 z4 z5 z6 z7 a0 a1 a2 a3 a4 a5 a6 a7 : Value} (h : Blk w g t #[z0,z1,z2,z3,z4,z5,z6,z7]) :
  Blk ((((((((w.setCell ⟨g,0,none⟩ a0).setCell ⟨g,1,none⟩ a1).setCell ⟨g,2,none⟩ a2).setCell ⟨g,3,none⟩ a3).setCell ⟨g,4,none⟩ a4).setCell ⟨g,5,none⟩ a5).setCell ⟨g,6,none⟩ a6).setCell ⟨g,7,none⟩ a7) g t #[a0,a1,a2,a3,a4,a5,a6,a7]:=by
 have:=(((((((h.set 0 a0).set 1 a1).set 2 a2).set 3 a3).set 4 a4).set 5 a5).set 6 a6).set 7 a7
 simp only [List.setIfInBounds_toArray,List.set_cons_succ,List.set_cons_zero] at this
 exact this
theorem ext8 {w0 w : World} {g : Nat} {a0 a1 a2 a3 a4 a5 a6 a7 : Value} (h : Ext w0 w) (hg : w0.heap.size≤g) :
  Ext w0 ((((((((w.setCell ⟨g,0,none⟩ a0).setCell ⟨g,1,none⟩ a1).setCell ⟨g,2,none⟩ a2).setCell ⟨g,3,none⟩ a3).setCell ⟨g,4,none⟩ a4).setCell ⟨g,5,none⟩ a5).setCell ⟨g,6,none⟩ a6).setCell ⟨g,7,none⟩ a7) :=
 (((((((h.setCell (p:=⟨g,0,none⟩) hg a0).setCell (p:=⟨g,1,none⟩) hg a1).setCell (p:=⟨g,2,none⟩) hg a2).setCell (p:=⟨g,3,none⟩) hg a3).setCell (p:=⟨g,4,none⟩) hg a4).setCell (p:=⟨g,5,none⟩) hg a5).setCell (p:=⟨g,6,none⟩) hg a6).setCell (p:=⟨g,7,none⟩) hg a7
theorem made_res : Tryz.f6.results=#[.cell 4 30]:=by kernel_rfl
set_option maxHeartbeats 8000000 in
set_option maxRecDepth 100000 in
theorem made_any (ns ms : List Nat) (A C : Option Addr) (ac cc : Nat) (w : World) (hA : SlR w A ns.length 1 (u8V ns)) (hC : SlR w C ms.length 1 (u64V ms)) (hn : ∀ j,j < ns.length→ix (0 : Nat) ns j < 256) (hms : ∀ j,j < ms.length→ix (0 : Nat) ms j < 18446744073709551616) (hl : ns.length≤4611686018427387904∧ms.length≤4611686018427387904) :
  Calls Tryz.prog 6 #[.slice A ns.length ac,.slice C ms.length cc] w fun e w'=>Ext w w'∧∃ m F H S G fc hc sc gc,e=.returned (modelV m F H S G fc hc sc gc)∧May2 m∧MarksOk m∧ModelR w' m F H S G:=by
 have HH:=Lib.hid (And.intro hA (And.intro hC (And.intro hn hms)))
 obtain ⟨l1,l2⟩:=hl
 clear hA hC hn hms
 have hz1 : Blk ((w.alloc (.cells #[.int .i64 0,.slice none 0 0,.slice none 0 0,.slice none 0 0,.slice none 0 0] 30)).alloc (.cells #[.int .i64 0,.slice none 0 0,.slice none 0 0,.slice none 0 0,.slice none 0 0] 30)) w.heap.size 30 #[.int .i64 0,.slice none 0 0,.slice none 0 0,.slice none 0 0,.slice none 0 0]:=(Blk.new w _ _ _ rfl).alloc _
 have hz2 : Blk ((w.alloc (.cells #[.int .i64 0,.slice none 0 0,.slice none 0 0,.slice none 0 0,.slice none 0 0] 30)).alloc (.cells #[.int .i64 0,.slice none 0 0,.slice none 0 0,.slice none 0 0,.slice none 0 0] 30)) (w.heap.size + 1) 30 #[.int .i64 0,.slice none 0 0,.slice none 0 0,.slice none 0 0,.slice none 0 0]:=Blk.new _ _ _ _ (World.size_alloc _ _)
 have HZ:=Lib.hid (And.intro hz1 (And.intro hz2 (show Ext w ((w.alloc (.cells #[.int .i64 0,.slice none 0 0,.slice none 0 0,.slice none 0 0,.slice none 0 0] 30)).alloc (.cells #[.int .i64 0,.slice none 0 0,.slice none 0 0,.slice none 0 0,.slice none 0 0] 30)) from ((Ext.refl w).alloc _).alloc _)))
 clear hz1 hz2
 go_enter Tryz.func6,Tryz.ntmps6
 go_wp2
 go_loopg [6,7] 60 (fun q la iv wr=>∃ (i : Nat) (last : Int) (m : ModelD) (F H S G : Value),i≤60∧i % 2=0∧q=60 - i∧la=.int .i64 last∧iv=.int .i64 (i : Int)∧MadeW w wr m F H S G∧MadeI m last∧m.pages≤4 * i∧m.free.length≤i∧m.hands.length≤i∧m.spans.length≤i∧m.gone.length≤i)
 case atStart=>exact ⟨0,0,noModel,_,_,_,_,by omega,rfl,rfl,rfl,rfl,⟨HZ.out.2.2,HZ.out.1,HZ.out.2.1,ownNo _ _⟩,MadeI.none,by decide,by decide,by decide,by decide,by decide⟩
 case round =>
  obtain ⟨i,last,m,F,H,S,G,hi,hi2,rfl,rfl,rfl,hM,hI,hp,s1,s2,s3,s4⟩:=hrel
  have hp0:=hI.pages
  have hE:=hM.ext
  by_cases hgo : i + 1 < ns.length∧i < 60
  rotate_left
  ·obtain ⟨F1,H1,S1,G1,fc1,hc1,sc1,gc1,rfl,rfl,rfl,rfl⟩:=hM.own.slices
   obtain ⟨m0,m1,m2,m3,m4⟩:=Blk.c5 hM.blk
   obtain ⟨⟨g0,g1,g2,g3,g4⟩,fz0,fz1,fz2,fz3,fz4⟩:=Blk.f5 hM.res
   have HQ:=Lib.hid (And.intro hM hI)
   have hle : w.heap.size≤w.heap.size:=Nat.le_refl _
   have hlt : w.heap.size < w.heap.size + 2:=by omega
   have hcs : (decide ((i : Int) + 1 < (ns.length : Int))=false)∨(decide ((i : Int) + 1 < (ns.length : Int))=true∧decide ((i : Int) < 60)=false):=by
    simp only [decide_eq_true_eq,decide_eq_false_iff_not]; omega
   by_cases hp0 : m.pages=0
   ·have e0 : (m.pages == 0)=true:=by simpa using hp0
    have hax:=hM.res.alloc (.cells #[.int .i64 0,.int .i64 1] 54)
    obtain ⟨⟨ga0,ga1,ga2,ga3,ga4⟩,fza0,fza1,fza2,fza3,fza4⟩:=Blk.f5 hax
    clear hM hI hp0 hE hax
    rcases hcs with d1 | ⟨d1,d2⟩
    all_goals
     go_wp2
     have hr0 : Blk (wr.alloc (.cells #[.int .i64 0,.int .i64 1] 54)) wr.heap.size 54 #[.int .i64 0,.int .i64 1]:=Blk.new _ _ _ _ rfl
     have hw:=HQ.out.1.size
     have hne : wr.heap.size≠w.heap.size:=by omega
     have hB:=(((((HQ.out.1.res.alloc (.cells #[.int .i64 0,.int .i64 1] 54)).set 0 (.int .i64 1)).set 1 (.slice (some ⟨wr.heap.size,0,none⟩) 1 1)).set 2 (.slice none 0 0)).set 3 (.slice none 0 0)).set 4 (.slice none 0 0)
     simp only [List.setIfInBounds_toArray,List.set_cons_succ,List.set_cons_zero] at hB
     refine bodyPost_ret (results_cell_row made_res _ _ w.heap.size 30 _ (0,0) _ rfl hB Tryz.underlying30 rfl own_info) rfl ⟨(((((HQ.out.1.ext.alloc _).setCell hle _).setCell hle _).setCell hle _).setCell hle _).setCell hle _,oneM,some ⟨wr.heap.size,0,none⟩,none,none,none,1,0,0,0,rfl,oneM_may,oneM_marks,⟨fun _=>⟨wr.heap.size,0,rfl,fun j hj=>?_⟩,SlR.nil,SlR.nil,SlR.nil⟩⟩
     have hr:=((((hr0.far hne (.int .i64 1) (p:=⟨w.heap.size,0,none⟩)).far hne (.slice (some ⟨wr.heap.size,0,none⟩) 1 1) (p:=⟨w.heap.size,1,none⟩)).far hne (.slice none 0 0) (p:=⟨w.heap.size,2,none⟩)).far hne (.slice none 0 0) (p:=⟨w.heap.size,3,none⟩)).far hne (.slice none 0 0) (p:=⟨w.heap.size,4,none⟩)
     have h2 : j=0∨j=1:=by have : j < 1 * 2:=hj; omega
     rcases h2 with rfl | rfl
     ·exact hr.cell (i:=0) rfl
     ·exact hr.cell (i:=1) rfl
   ·have e0 : (m.pages == 0)=false:=by simpa using hp0
    have h1 : 1≤m.pages:=by have:=hI.pages; omega
    have h2 : m.pages≤4096:=by omega
    have HP:=Lib.hid (And.intro h1 h2)
    clear hM hI hp0 hE
    rcases hcs with d1 | ⟨d1,d2⟩
    all_goals
     go_wp2
     have hB:=((((HQ.out.1.res.set 0 (.int .i64 m.pages)).set 1 (.slice F1 m.free.length fc1)).set 2 (.slice H1 m.hands.length hc1)).set 3 (.slice S1 m.spans.length sc1)).set 4 (.slice G1 m.gone.length gc1)
     simp only [List.setIfInBounds_toArray,List.set_cons_succ,List.set_cons_zero] at hB
     refine bodyPost_ret (results_cell_row made_res _ _ w.heap.size 30 _ (0,0) _ rfl hB Tryz.underlying30 rfl own_info) rfl ⟨((((HQ.out.1.ext.setCell hle _).setCell hle _).setCell hle _).setCell hle _).setCell hle _,m,F1,H1,S1,G1,fc1,hc1,sc1,gc1,rfl,HQ.out.2.may HP.out.1 HP.out.2,HQ.out.2.marks,OwnM.reads (((((HQ.out.1.own.far hlt _).far hlt _).far hlt _).far hlt _).far hlt _)⟩
  obtain ⟨hlt,hlt2⟩:=hgo
  have d1 : decide ((i : Int) + 1 < (ns.length : Int))=true:=decide_eq_true (by omega)
  have d2 : decide ((i : Int) < 60)=true:=decide_eq_true (by omega)
  obtain ⟨ba,off,rfl,hcl⟩:=HH.out.1 (by omega)
  have a0:=hE.cell (hcl i (by omega))
  have a1:=hE.cell (hcl (i + 1) (by omega))
  have b0:=HH.out.2.2.1 i (by omega)
  have b1:=HH.out.2.2.1 (i + 1) (by omega)
  unfold u8V at a0 a1
  generalize ix (0 : Nat) ns i=k at a0 b0
  generalize ix (0 : Nat) ns (i + 1)=c at a1 b1
  have q0 : (0 : Int)≤(i : Int):=by omega
  have q1 : (i : Int) < (ns.length : Int):=by omega
  have q2 : (0 : Int)≤(i : Int) + 1:=by omega
  have q3 : (i : Int) + 1 < (ns.length : Int):=by omega
  have wk : IntKind.i64.wrap (k : Int)=(k : Int):=by rw [IntKind.wrap_i64]; omega
  have wc : IntKind.i64.wrap (c : Int)=(c : Int):=by rw [IntKind.wrap_i64]; omega
  have wi : IntKind.i64.wrap ((i : Int) + 1)=(i : Int) + 1:=by rw [IntKind.wrap_i64]; omega
  have HR:=Lib.hid (And.intro hE (And.intro hM hI))
  clear hE hM hI hcl
  go_upto_region 6 with fail
  go_quiet (fail)
  go_upto_region 9 with fail
  go_upto_if 44 with fail
  go_cut [11] (fun v wx=>(∃ xv : Nat,v=.int .u64 (xv : Int)∧xv < 18446744073709551616)∧wx=wr.drewN nq)
  case first =>
   by_cases h0 : 0 < ms.length
   ·have e0 : decide (0 < ms.length)=true:=decide_eq_true h0
    obtain ⟨z,hz⟩ : ∃ z : Nat,(i : Int) % (ms.length : Int)=(z : Int):=⟨i % ms.length,rfl⟩
    have hz2 : z < ms.length:=by have:=Int.emod_lt_of_pos (i : Int) (b:=(ms.length : Int)) (by omega); omega
    obtain ⟨bc,off2,rfl,hcl⟩:=HH.out.2.1 (by omega)
    have y0:=HR.out.1.cell (hcl z (by omega))
    have y1:=HH.out.2.2.2 z hz2
    unfold u64V at y0
    generalize ix (0 : Nat) ms z=xv at y0 y1
    have r0 : (0 : Int)≤(z : Int):=by omega
    have r1 : (z : Int) < (ms.length : Int):=by omega
    have r2 : (ms.length : Int)≠0:=by omega
    have HXv:=Lib.hid y1
    clear hcl y1 hz2
    go_wp2_with fail
    go_meet
    exact ⟨⟨xv,rfl,HXv.out⟩,rfl⟩
   ·have e0 : decide (0 < ms.length)=false:=decide_eq_false h0
    have e1 : ms.length=0:=by omega
    go_wp2_with fail
    go_meet
    exact ⟨⟨0,rfl,by decide⟩,rfl⟩
  case rest =>
   obtain ⟨⟨xv,rfl,hxv⟩,rfl⟩:=hcut
   obtain ⟨W,hW⟩ : ∃ W,W=wr.drewN nq:=⟨_,rfl⟩
   rw [← hW]
   have hEd : Ext wr W:=hW▸(Ext.refl wr).drewN _
   have hM:=HR.out.2.1.more hEd
   obtain ⟨F1,H1,S1,G1,fc1,hc1,sc1,gc1,rfl,rfl,rfl,rfl⟩:=hM.own.slices
   obtain ⟨nv,hnv⟩ : ∃ nv,1 + (k : Int) / 4 % 4=nv:=⟨_,rfl⟩
   obtain ⟨cv,hcv⟩ : ∃ cv,(c : Int) % 15=cv:=⟨_,rfl⟩
   obtain ⟨kv,hkv⟩ : ∃ kv,(k : Int) % 4=kv:=⟨_,rfl⟩
   have n1 : 1≤nv∧nv≤4:=by omega
   have c1 : 0≤cv∧cv≤14:=by omega
   have k1 : 0≤kv∧kv≤3:=by omega
   rw [hnv,hcv]
   obtain ⟨n1,n2⟩:=n1
   obtain ⟨c1,c2⟩:=c1
   have hWs:=hM.size
   have hb1:=hM.blk
   obtain ⟨m0,m1,m2,m3,m4⟩:=Blk.c5 hb1
   have z0:=hb1.frozen 0
   have z1:=hb1.frozen 1
   have z2:=hb1.frozen 2
   have z3:=hb1.frozen 3
   have z4:=hb1.frozen 4
   have HWW:=Lib.hid (And.intro hM HR.out.2.2)
   have hpb : m.pages≤1000:=by omega
   clear hEd hb1 hM hnv hcv hW
   have hcs : ((kv == 0)=true∧(last != 1)=true∧kv=0∧last≠1)∨(((kv == 0)=false∨((kv == 0)=true∧(last != 1)=false))∧(kv == 1)=true∧kv=1)∨(((kv == 0)=false∨((kv == 0)=true∧(last != 1)=false))∧(kv == 1)=false):=by
    simp only [bne_iff_ne,bne_eq_false_iff_eq,ne_eq,beq_iff_eq,beq_eq_false_iff_ne]
    omega
   rcases hcs with ⟨t0,t1,hk0,hla⟩ | ⟨t0,t1,hk1⟩ | ⟨t0,t1⟩
   ·have HL:=Lib.hid hla
    clear hk0 hla
    obtain ⟨i0,hi,hz0q,hz1q,hz2q⟩:=info_parts Tryz.infoMRun
    have HI:=Lib.hid (And.intro hi (And.intro hz0q (And.intro hz1q hz2q)))
    clear hi hz0q hz1q hz2q
    go_upto_region 21 with (at_builtin; refine wpList_push rfl _ _ 25 rfl (w.heap.size + 2) 54 i0 (.agg #[.int .i64 0,.int .i64 0]) 2 16 Tryz.underlying25 HI.out.1 HI.out.2.1 HI.out.2.2.1 HI.out.2.2.2 rfl (by decide) _ m.free.length (runV m.free) rfl (HWW.out.1.own.free.ext ((Ext.refl _).alloc _)) ⟨W.heap.size,0,none⟩ 1 (runX ⟨m.pages,nv⟩) rfl ?pc (fun j hj=>by unfold runX; split <;> rfl) ?b63 ?bby ?bba _ rfl (runV (m.free ++ [⟨m.pages,nv⟩])) (fun j hj=>runV_snoc_lo _ _ j hj) (fun j hj=>runV_snoc_hi _ _ j hj) ?_; (case pc=>exact fun j hj=>by have h2 : j=0∨j=1:=(by omega); rcases h2 with rfl | rfl; exact cell_new _ _ _ 0 _ rfl; exact cell_new _ _ _ 1 _ rfl); (case b63=>unfold maxLen; omega); (case bby=>omega); (case bba=>simp; omega); intro gq capq w2 k1 k2 k3 k4 k5; have hbq:=HWW.out.1.cellsFree ((Ext.refl _).alloc _) k2; have x1:=hbq.cell (i:=1) (v:=.slice F1 m.free.length fc1) rfl; have x1f:=hbq.frozen 1; have HK:=Lib.hid (And.intro k1 k2); clear k1 k2 k3 k4 k5 hbq)
    have hM3:=HWW.out.1.pushFree ((Ext.refl W).alloc (.cells #[.int .i64 m.pages,.int .i64 nv] 54)) ⟨m.pages,nv⟩ (v':=.slice (some ⟨gq,0,none⟩) (m.free.length + 1) capq) (by have:=HK.out.1; rw [List.length_append]; exact this) HK.out.2
    obtain ⟨W3,hW3⟩ : ∃ W3,W3=w2.setCell ⟨w.heap.size + 1,1,none⟩ (.slice (some ⟨gq,0,none⟩) (m.free.length + 1) capq):=⟨_,rfl⟩
    rw [← hW3] at hM3 ⊢
    have u0:=hM3.blk.cell (i:=0) (v:=.int .i64 m.pages) rfl
    have u0f:=hM3.blk.frozen 0
    have u4:=hM3.blk.cell (i:=4) (v:=.slice G1 m.gone.length gc1) rfl
    have HM3:=Lib.hid hM3
    clear hM3 hW3 x1 x1f m0 m1 m2 m3 m4 z0 z1 z2 z3 z4 HK HI
    by_cases hc2 : cv % 2=0
    ·have e2 : (cv % 2 == 0)=true:=by simpa using hc2
     clear hc2
     obtain ⟨i1,hi,hz0q,hz1q,hz2q⟩:=info_parts Tryz.infoMInt
     have HI:=Lib.hid (And.intro hi (And.intro hz0q (And.intro hz1q hz2q)))
     have hW3s:=HM3.out.size
     clear hi hz0q hz1q hz2q
     go_upto_region 26 with (at_builtin; refine wpList_push rfl _ _ 28 rfl (w.heap.size + 2) 3 i1 (.int .i64 0) 1 8 Tryz.underlying28 HI.out.1 HI.out.2.1 HI.out.2.2.1 HI.out.2.2.2 rfl (by decide) _ m.gone.length (intsV m.gone) rfl (HM3.out.own.gone.ext ((Ext.refl _).alloc _)) ⟨W3.heap.size,0,none⟩ 1 (fun _=>.int .i64 m.pages) rfl ?pc (fun j hj=>rfl) ?b63 ?bby ?bba _ rfl (intsV (m.gone ++ [m.pages])) (fun j hj=>intsV_old hj) (fun j hj=>intsV_new hj) ?_; (case pc=>exact fun j hj=>by obtain rfl : j=0:=(by omega); exact cell_new _ _ _ 0 _ rfl); (case b63=>unfold maxLen; omega); (case bby=>omega); (case bba=>simp; omega); intro gr capr w4 k1 k2 k3 k4 k5; have hbq:=HM3.out.cellsGone ((Ext.refl _).alloc _) k2; have x1:=hbq.cell (i:=4) (v:=.slice G1 m.gone.length gc1) rfl; have x1f:=hbq.frozen 4; have HK:=Lib.hid (And.intro k1 k2); clear k1 k2 k3 k4 k5 hbq)
     have hM5:=HM3.out.pushGone ((Ext.refl W3).alloc (.cells #[.int .i64 m.pages] 3)) m.pages (v':=.slice (some ⟨gr,0,none⟩) (m.gone.length + 1) capr) (by have:=HK.out.1; rw [List.length_append]; exact this) HK.out.2
     obtain ⟨W5,hW5⟩ : ∃ W5,W5=w4.setCell ⟨w.heap.size + 1,4,none⟩ (.slice (some ⟨gr,0,none⟩) (m.gone.length + 1) capr):=⟨_,rfl⟩
     rw [← hW5] at hM5 ⊢
     clear u0 u0f u4
     have u0:=hM5.blk.cell (i:=0) (v:=.int .i64 m.pages) rfl
     have u0f:=hM5.blk.frozen 0
     have HM5:=Lib.hid hM5
     clear hM5 hW5 x1 x1f HK HI
     go_wp2
     go_roundg (60 - (i + 2))
     case measure=>go_light; omega
     case rel =>
      refine ⟨i + 2,1,_,_,_,_,_,by omega,by omega,rfl,rfl,by go_num,HM5.out.page (m.pages + nv),HWW.out.2.addGone HL.out n1,?_,?_,?_,?_,?_⟩
      ·show m.pages + nv≤4 * ((i + 2 : Nat) : Int); omega
      ·show (m.free ++ [_]).length≤i + 2; rw [List.length_append]; simp; omega
      ·show m.hands.length≤i + 2; omega
      ·show m.spans.length≤i + 2; omega
      ·show (m.gone ++ [_]).length≤i + 2; rw [List.length_append]; simp; omega
    ·have e2 : (cv % 2 == 0)=false:=by simpa using hc2
     clear hc2
     go_wp2
     go_roundg (60 - (i + 2))
     case measure=>go_light; omega
     case rel =>
      refine ⟨i + 2,1,_,_,_,_,_,by omega,by omega,rfl,rfl,by go_num,HM3.out.page (m.pages + nv),HWW.out.2.addFree HL.out n1,?_,?_,?_,?_,?_⟩
      ·show m.pages + nv≤4 * ((i + 2 : Nat) : Int); omega
      ·show (m.free ++ [_]).length≤i + 2; rw [List.length_append]; simp; omega
      ·show m.hands.length≤i + 2; omega
      ·show m.spans.length≤i + 2; omega
      ·show m.gone.length≤i + 2; omega
   ·rcases t0 with t0 | ⟨t0,tl⟩
    all_goals
     obtain ⟨tv,htv⟩ : ∃ tv,cv % 6=tv:=⟨_,rfl⟩
     have ht : ThreadP tv:=by unfold ThreadP; omega
     have HTv:=Lib.hid ht
     obtain ⟨i1,hi,hz0q,hz1q,hz2q⟩:=info_parts Tryz.infoMHand
     have HI:=Lib.hid (And.intro hi (And.intro hz0q (And.intro hz1q hz2q)))
     clear hi hz0q hz1q hz2q hk1 ht
     go_upto_region 26 with (at_builtin; refine wpList_push rfl _ _ 26 rfl (w.heap.size + 2) 56 i1 (.agg #[.int .i64 0,.int .i64 0,.int .i64 0]) 3 24 Tryz.underlying26 HI.out.1 HI.out.2.1 HI.out.2.2.1 HI.out.2.2.2 rfl (by decide) _ m.hands.length (handV m.hands) rfl (HWW.out.1.own.hands.ext ((Ext.refl _).alloc _)) ⟨W.heap.size,0,none⟩ 1 (handX ⟨tv,m.pages,nv⟩) rfl ?pc (fun j hj=>by unfold handX; split; rfl; split <;> rfl) ?b63 ?bby ?bba _ rfl (handV (m.hands ++ [⟨tv,m.pages,nv⟩])) (fun j hj=>by rw [handV_row,handV_row]; exact rowV_snoc_lo hj) (fun j hj=>by rw [handV_row]; exact rowV_snoc_hi hj) ?_; (case pc=>exact fun j hj=>by have h2 : j=0∨j=1∨j=2:=(by omega); rcases h2 with rfl | rfl | rfl; exact cell_new _ _ _ 0 _ rfl; exact cell_new _ _ _ 1 _ rfl; exact cell_new _ _ _ 2 _ rfl); (case b63=>unfold maxLen; omega); (case bby=>omega); (case bba=>simp; omega); intro gq capq w2 k1 k2 k3 k4 k5; have hbq:=HWW.out.1.cellsHand ((Ext.refl _).alloc _) k2; have x1:=hbq.cell (i:=2) (v:=.slice H1 m.hands.length hc1) rfl; have x1f:=hbq.frozen 2; have HK:=Lib.hid (And.intro k1 k2); clear k1 k2 k3 k4 k5 hbq)
     have hM3:=HWW.out.1.pushHand ((Ext.refl W).alloc (.cells #[.int .i64 tv,.int .i64 m.pages,.int .i64 nv] 56)) ⟨tv,m.pages,nv⟩ (v':=.slice (some ⟨gq,0,none⟩) (m.hands.length + 1) capq) (by have:=HK.out.1; rw [List.length_append]; exact this) HK.out.2
     obtain ⟨W3,hW3⟩ : ∃ W3,W3=w2.setCell ⟨w.heap.size + 1,2,none⟩ (.slice (some ⟨gq,0,none⟩) (m.hands.length + 1) capq):=⟨_,rfl⟩
     rw [← hW3] at hM3 ⊢
     have u0:=hM3.blk.cell (i:=0) (v:=.int .i64 m.pages) rfl
     have u0f:=hM3.blk.frozen 0
     have HM3:=Lib.hid hM3
     clear hM3 hW3 x1 x1f m0 m1 m2 m3 m4 z0 z1 z2 z3 z4 HK HI
     go_wp2
     go_roundg (60 - (i + 2))
     case measure=>go_light; omega
     case rel =>
      refine ⟨i + 2,2,_,_,_,_,_,by omega,by omega,rfl,rfl,by go_num,HM3.out.page (m.pages + nv),HWW.out.2.addHand HTv.out n1,?_,?_,?_,?_,?_⟩
      ·show m.pages + nv≤4 * ((i + 2 : Nat) : Int); omega
      ·show m.free.length≤i + 2; omega
      ·show (m.hands ++ [_]).length≤i + 2; rw [List.length_append]; simp; omega
      ·show m.spans.length≤i + 2; omega
      ·show m.gone.length≤i + 2; omega
   ·rcases t0 with t0 | ⟨t0,tl⟩
    ·go_upto_region 12 with fail
     go_upto_if 55 with fail
     simp only [hkv]
     go_cut [10] (fun v wx=>(∃ nn : Int,v=.int .i64 nn∧(1≤nn∧nn≤4)∧(cv≠14→nn=pagC cv))∧Ext W wx)
     case first =>
      by_cases h14 : cv < 14
      ·have d14 : decide (cv < 14)=true:=decide_eq_true h14
       have hpc : pagC cv=clsP cv:=by unfold pagC; rw [if_pos ⟨c1,h14⟩]
       have hb : 1≤clsP cv∧clsP cv≤4:=by
        have h15:=cls_cases c1 (by omega : cv < 15)
        rcases h15 with rfl | rfl | rfl | rfl | rfl | rfl | rfl | rfl | rfl | rfl | rfl | rfl | rfl | rfl | rfl <;> first | decide | omega
       have HB:=Lib.hid (And.intro hb hpc)
       clear hb hpc
       go_wp2_with (go_at_call 23; (with_reducible refine (pages1_any cv _).mono ?_); rintro e wq ⟨rfl,hEq⟩; have HEq:=Lib.hid hEq; clear hEq)
       go_meet
       exact ⟨⟨_,rfl,HB.out.1,fun _=>HB.out.2.symm⟩,HEq.out⟩
      ·have d14 : decide (cv < 14)=false:=decide_eq_false h14
       go_wp2_with fail
       go_meet
       exact ⟨⟨nv,rfl,⟨n1,n2⟩,fun h=>absurd (by omega) h⟩,Ext.refl _⟩
     case rest =>
      obtain ⟨⟨nn,rfl,⟨nn1,nn2⟩,hpc⟩,hEx⟩:=hcut
      have hM2:=HWW.out.1.more hEx
      have hu0:=hM2.blk.cell (i:=0) (v:=.int .i64 m.pages) rfl
      have hlt8 : w.heap.size + 1 < wc.heap.size:=hM2.blk.lt
      have hna:=Nat.ne_of_lt hlt8
      have hnb:=Nat.ne_of_gt hlt8
      have HM2:=Lib.hid (And.intro hM2 hpc)
      clear hM2 hpc hEx m0 m1 m2 m3 m4 z0 z1 z2 z3 z4
      obtain ⟨al,hal,hal2⟩:=and_ones (s:=slN cv) hxv (slN_le cv)
      have HAl:=Lib.hid hal2
      have wal : bits .and .u64 (xv : Int) ((2 ^ slN cv - 1 : Nat) : Int)=(al : Int):=hal
      obtain ⟨sw,hsw⟩ : ∃ sw,decide (3 < (k : Int) % 8)=sw:=⟨_,rfl⟩
      obtain ⟨hv,hhv⟩ : ∃ hv : Int,(k : Int) / 16 % 7 - 1=hv:=⟨_,rfl⟩
      obtain ⟨lv,hlv⟩ : ∃ lv : Int,(k : Int) / 64 % 4 - 1=lv:=⟨_,rfl⟩
      have hwho : WhoP hv:=by unfold WhoP ThreadP; omega
      have hwho2 : WhoP lv:=by unfold WhoP ThreadP; omega
      have eA : IntKind.i64.wrap ((IntKind.i64.wrap ((k : Int) / 16)).tmod 7 - 1)=hv:=by
       have h1 : IntKind.i64.wrap ((k : Int) / 16)=(k : Int) / 16:=by rw [IntKind.wrap_i64]; omega
       rw [h1,Int.tmod_eq_emod_of_nonneg (by omega),IntKind.wrap_i64]; omega
      have eB : IntKind.i64.wrap ((IntKind.i64.wrap ((k : Int) / 64)).tmod 4 - 1)=lv:=by
       have h1 : IntKind.i64.wrap ((k : Int) / 64)=(k : Int) / 64:=by rw [IntKind.wrap_i64]; omega
       rw [h1,Int.tmod_eq_emod_of_nonneg (by omega),IntKind.wrap_i64]; omega
      have eC : decide (3 < (k : Int).tmod 8)=sw:=by rw [Int.tmod_eq_emod_of_nonneg (by omega)]; exact hsw
      have HV:=Lib.hid (And.intro hwho hwho2)
      clear hal hal2 hsw hhv hlv hwho hwho2
      go_upto_region 14 with fail
      go_cut [13] (fun v wx=>∃ g,v=.pointer (some ⟨g,0,none⟩)∧Blk wx g 51 #[.int .i64 m.pages,.int .i64 nn,.int .i64 cv,.int .i64 hv,.int .i64 lv,.bool sw,.int .u64 (al : Int),.int .u64 0]∧Ext wc wx∧wc.heap.size≤g)
      case first =>
       go_region_held3 (fun w'=>w'.cell? ⟨w.heap.size + 1,0,none⟩=some (.int .i64 m.pages)) (first | with_reducible exact ((Ext.refl wc).drew).cell hu0 | with_reducible exact ga | with_reducible exact gb | with_reducible exact (((Ext.refl wc).drew).alloc _).cell hu0 | with_reducible exact (((Ext.refl wc).alloc _).drew).cell hu0 | with_reducible exact (hga.alloc _).cell hu0 | with_reducible exact (hgb.alloc _).cell hu0 | with_reducible exact (ext8 hgb hsza).cell hu0 | with_reducible exact (ext8 hgb (Nat.le_refl _)).cell hu0) (first
        |(go_at_call 25; (with_reducible refine (slots1N_any cv _).mono ?_); rintro e wa ⟨rfl,hEa⟩; have hga : Ext wc wa:=(by first | with_reducible exact ((Ext.refl wc).drew).trans hEa | with_reducible exact (((Ext.refl wc).drew).alloc _).trans hEa | with_reducible exact (((Ext.refl wc).alloc _).drew).trans hEa); have hsza : wc.heap.size≤wa.heap.size:=hga.size; have ga:=hga.cell hu0; have sa : w.heap.size + 1 < wa.heap.size:=Nat.lt_of_lt_of_le hlt8 hga.size; have sna:=Nat.ne_of_lt sa; have snb:=Nat.ne_of_gt sa; (try (have hq:=(Blk.new wc 51 #[.int .i64 0,.int .i64 0,.int .i64 0,.int .i64 0,.int .i64 0,.bool false,.int .u64 0,.int .u64 0] wc.heap.size rfl).drew; replace hq:=(by with_reducible exact hq.ext hEa : Blk wa wc.heap.size 51 #[.int .i64 0,.int .i64 0,.int .i64 0,.int .i64 0,.int .i64 0,.bool false,.int .u64 0,.int .u64 0]); obtain ⟨⟨q0,q1,q2,q3,q4,q5,q6,q7⟩,⟨qf0,qf1,qf2,qf3,qf4,qf5,qf6,qf7⟩⟩:=blk8 hq)))
        |(go_at_call 24; (with_reducible refine (ones1_any (slN cv) _ (slN_le cv)).mono ?_); rintro e wb ⟨rfl,hEb⟩; have hgb : Ext wc wb:=(by first | with_reducible exact hga.trans hEb | with_reducible exact (hga.alloc _).trans hEb); have hszb : wc.heap.size≤wb.heap.size:=hgb.size; have gb:=hgb.cell hu0; have sb : w.heap.size + 1 < wb.heap.size:=Nat.lt_of_lt_of_le hlt8 hgb.size; have tna:=Nat.ne_of_lt sb; have tnb:=Nat.ne_of_gt sb; (first | (have hr : Blk wb wc.heap.size 51 #[.int .i64 0,.int .i64 0,.int .i64 0,.int .i64 0,.int .i64 0,.bool false,.int .u64 0,.int .u64 0]:=(by with_reducible exact hq.ext hEb); obtain ⟨⟨r0,r1,r2,r3,r4,r5,r6,r7⟩,⟨rf0,rf1,rf2,rf3,rf4,rf5,rf6,rf7⟩⟩:=blk8 hr) | (have hr : Blk wb wa.heap.size 51 #[.int .i64 0,.int .i64 0,.int .i64 0,.int .i64 0,.int .i64 0,.bool false,.int .u64 0,.int .u64 0]:=(by with_reducible exact (Blk.new wa 51 #[.int .i64 0,.int .i64 0,.int .i64 0,.int .i64 0,.int .i64 0,.bool false,.int .u64 0,.int .u64 0] wa.heap.size rfl).ext hEb); obtain ⟨⟨r0,r1,r2,r3,r4,r5,r6,r7⟩,⟨rf0,rf1,rf2,rf3,rf4,rf5,rf6,rf7⟩⟩:=blk8 hr) | skip)))
       all_goals
        go_wp2_with fail
        go_meet
        refine ⟨_,rfl,?_,?_,?_⟩
        ·first | with_reducible exact set8 hr | with_reducible exact Blk.new _ _ _ _ rfl
        ·first | with_reducible exact ext8 hgb hsza | with_reducible exact ext8 hgb (Nat.le_refl _) | with_reducible exact hgb.alloc _
        ·first | with_reducible exact hsza | with_reducible exact hszb | with_reducible exact Nat.le_refl _
      case rest =>
       obtain ⟨g8,rfl,hpb,hEx8,hle8⟩:=hcut
       have c6:=hpb.cell (i:=6) (v:=.int .u64 (al : Int)) rfl
       have c7:=hpb.cell (i:=7) (v:=.int .u64 0) rfl
       have f7:=hpb.frozen 7
       obtain ⟨mk,hmk,hmk2,hmk3⟩:=and_marks (al:=al) hxv (by have:=slN_le cv; have h3 : 2 ^ slN cv≤2 ^ 64:=Nat.pow_le_pow_right (by decide) this; have:=HAl.out; omega)
       have HMk:=Lib.hid (And.intro hmk2 hmk3)
       have HA:=Lib.hid (And.intro hpb (And.intro hEx8 hle8))
       clear hmk2 hmk3 hpb hEx8 hle8 wal eA eB eC
       go_upto_region 16 with fail
       try rw [hmk]
       obtain ⟨W6,hW6⟩ : ∃ W6,W6=wc.setCell ⟨g8,7,none⟩ (.int .u64 (mk : Int)):=⟨_,rfl⟩
       rw [← hW6]
       have hpb6 : Blk W6 g8 51 #[.int .i64 m.pages,.int .i64 nn,.int .i64 cv,.int .i64 hv,.int .i64 lv,.bool sw,.int .u64 (al : Int),.int .u64 (mk : Int)]:=by
        rw [hW6]
        have:=HA.out.1.set 7 (.int .u64 (mk : Int))
        simp only [List.setIfInBounds_toArray,List.set_cons_succ,List.set_cons_zero] at this
        exact this
       have hM6 : MadeW w W6 m (.slice F1 m.free.length fc1) (.slice H1 m.hands.length hc1) (.slice S1 m.spans.length sc1) (.slice G1 m.gone.length gc1):=by
        rw [hW6]
        exact HM2.out.1.more (HA.out.2.1.setCell (p:=⟨g8,7,none⟩) HA.out.2.2 _)
       clear c6 c7 f7 hmk
       have m0:=hM6.blk.cell (i:=0) (v:=.int .i64 m.pages) rfl
       have m3:=hM6.blk.cell (i:=3) (v:=.slice S1 m.spans.length sc1) rfl
       have zz0:=hM6.blk.frozen 0
       have zz3:=hM6.blk.frozen 3
       obtain ⟨c0,c1',c2',c3,c4,c5,c6,c7⟩:=Blk.c8 hpb6
       have HM6:=Lib.hid hM6
       have hWs6:=hM6.size
       clear hW6 hpb6 hM6
       obtain ⟨i1,hi,hz0q,hz1q,hz2q⟩:=info_parts Tryz.infoMHold
       have HI:=Lib.hid (And.intro hi (And.intro hz0q (And.intro hz1q hz2q)))
       clear hi hz0q hz1q hz2q
       go_upto_region 26 with (at_builtin; refine wpList_push rfl _ _ 27 rfl (w.heap.size + 2) 51 i1 (.agg #[.int .i64 0,.int .i64 0,.int .i64 0,.int .i64 0,.int .i64 0,.bool false,.int .u64 0,.int .u64 0]) 8 64 Tryz.underlying27 HI.out.1 HI.out.2.1 HI.out.2.2.1 HI.out.2.2.2 rfl (by decide) _ m.spans.length (holdsV m.spans) rfl (HM6.out.own.spans.ext ((Ext.refl _).alloc _)) ⟨W6.heap.size,0,none⟩ 1 (holdC ⟨m.pages,nn,cv,hv,lv,sw,al,mk⟩) rfl ?pc (fun j hj=>by unfold holdC; split; rfl; split; rfl; split; rfl; split; rfl; split; rfl; split; rfl; split <;> rfl) ?b63 ?bby ?bba _ rfl (holdsV (m.spans ++ [⟨m.pages,nn,cv,hv,lv,sw,al,mk⟩])) (fun j hj=>by rw [holdsV_row,holdsV_row]; exact rowV_snoc_lo hj) (fun j hj=>by rw [holdsV_row]; exact rowV_snoc_hi hj) ?_; (case pc=>exact fun j hj=>by have h2 : j=0∨j=1∨j=2∨j=3∨j=4∨j=5∨j=6∨j=7:=(by omega); rcases h2 with rfl | rfl | rfl | rfl | rfl | rfl | rfl | rfl; exact cell_new _ _ _ 0 _ rfl; exact cell_new _ _ _ 1 _ rfl; exact cell_new _ _ _ 2 _ rfl; exact cell_new _ _ _ 3 _ rfl; exact cell_new _ _ _ 4 _ rfl; exact cell_new _ _ _ 5 _ rfl; exact cell_new _ _ _ 6 _ rfl; exact cell_new _ _ _ 7 _ rfl); (case b63=>unfold maxLen; omega); (case bby=>omega); (case bba=>simp; omega); intro gq capq w7 k1 k2 k3 k4 k5; have hbq:=HM6.out.cellsSpan ((Ext.refl _).alloc _) k2; have x1:=hbq.cell (i:=3) (v:=.slice S1 m.spans.length sc1) rfl; have x1f:=hbq.frozen 3; have HK:=Lib.hid (And.intro k1 k2); clear k1 k2 k3 k4 k5 hbq)
       have hM8:=HM6.out.pushSpan ((Ext.refl W6).alloc (.cells #[.int .i64 m.pages,.int .i64 nn,.int .i64 cv,.int .i64 hv,.int .i64 lv,.bool sw,.int .u64 (al : Int),.int .u64 (mk : Int)] 51)) ⟨m.pages,nn,cv,hv,lv,sw,al,mk⟩ (v':=.slice (some ⟨gq,0,none⟩) (m.spans.length + 1) capq) (by have:=HK.out.1; rw [List.length_append]; exact this) HK.out.2
       obtain ⟨W8,hW8⟩ : ∃ W8,W8=w7.setCell ⟨w.heap.size + 1,3,none⟩ (.slice (some ⟨gq,0,none⟩) (m.spans.length + 1) capq):=⟨_,rfl⟩
       rw [← hW8] at hM8 ⊢
       clear m0 m3 zz0 zz3
       have u0:=hM8.blk.cell (i:=0) (v:=.int .i64 m.pages) rfl
       have u0f:=hM8.blk.frozen 0
       have HM8:=Lib.hid hM8
       clear hM8 hW8 x1 x1f HK HI c0 c1' c2' c3 c4 c5 c6 c7
       have hok : HoldOk ⟨m.pages,nn,cv,hv,lv,sw,al,mk⟩:=⟨⟨c1,by show cv≤14; omega,HV.out.1,HV.out.2⟩,fun h=>HM2.out.2 h,HAl.out,HMk.out.2⟩
       have HOk:=Lib.hid hok
       clear hok
       go_wp2
       go_roundg (60 - (i + 2))
       case measure=>go_light; omega
       case rel =>
        refine ⟨i + 2,3,_,_,_,_,_,by omega,by omega,rfl,rfl,by go_num,HM8.out.page (m.pages + nn),HWW.out.2.addSpan HOk.out HMk.out.1 rfl rfl nn1,?_,?_,?_,?_,?_⟩
        ·show m.pages + nn≤4 * ((i + 2 : Nat) : Int); omega
        ·show m.free.length≤i + 2; omega
        ·show m.hands.length≤i + 2; omega
        ·show (m.spans ++ [_]).length≤i + 2; rw [List.length_append]; simp; omega
        ·show m.gone.length≤i + 2; omega
    ·go_upto_region 12 with fail
     go_upto_if 55 with fail
     simp only [hkv]
     go_cut [10] (fun v wx=>(∃ nn : Int,v=.int .i64 nn∧(1≤nn∧nn≤4)∧(cv≠14→nn=pagC cv))∧Ext W wx)
     case first =>
      by_cases h14 : cv < 14
      ·have d14 : decide (cv < 14)=true:=decide_eq_true h14
       have hpc : pagC cv=clsP cv:=by unfold pagC; rw [if_pos ⟨c1,h14⟩]
       have hb : 1≤clsP cv∧clsP cv≤4:=by
        have h15:=cls_cases c1 (by omega : cv < 15)
        rcases h15 with rfl | rfl | rfl | rfl | rfl | rfl | rfl | rfl | rfl | rfl | rfl | rfl | rfl | rfl | rfl <;> first | decide | omega
       have HB:=Lib.hid (And.intro hb hpc)
       clear hb hpc
       go_wp2_with (go_at_call 23; (with_reducible refine (pages1_any cv _).mono ?_); rintro e wq ⟨rfl,hEq⟩; have HEq:=Lib.hid hEq; clear hEq)
       go_meet
       exact ⟨⟨_,rfl,HB.out.1,fun _=>HB.out.2.symm⟩,HEq.out⟩
      ·have d14 : decide (cv < 14)=false:=decide_eq_false h14
       go_wp2_with fail
       go_meet
       exact ⟨⟨nv,rfl,⟨n1,n2⟩,fun h=>absurd (by omega) h⟩,Ext.refl _⟩
     case rest =>
      obtain ⟨⟨nn,rfl,⟨nn1,nn2⟩,hpc⟩,hEx⟩:=hcut
      have hM2:=HWW.out.1.more hEx
      have hu0:=hM2.blk.cell (i:=0) (v:=.int .i64 m.pages) rfl
      have hlt8 : w.heap.size + 1 < wc.heap.size:=hM2.blk.lt
      have hna:=Nat.ne_of_lt hlt8
      have hnb:=Nat.ne_of_gt hlt8
      have HM2:=Lib.hid (And.intro hM2 hpc)
      clear hM2 hpc hEx m0 m1 m2 m3 m4 z0 z1 z2 z3 z4
      obtain ⟨al,hal,hal2⟩:=and_ones (s:=slN cv) hxv (slN_le cv)
      have HAl:=Lib.hid hal2
      have wal : bits .and .u64 (xv : Int) ((2 ^ slN cv - 1 : Nat) : Int)=(al : Int):=hal
      obtain ⟨sw,hsw⟩ : ∃ sw,decide (3 < (k : Int) % 8)=sw:=⟨_,rfl⟩
      obtain ⟨hv,hhv⟩ : ∃ hv : Int,(k : Int) / 16 % 7 - 1=hv:=⟨_,rfl⟩
      obtain ⟨lv,hlv⟩ : ∃ lv : Int,(k : Int) / 64 % 4 - 1=lv:=⟨_,rfl⟩
      have hwho : WhoP hv:=by unfold WhoP ThreadP; omega
      have hwho2 : WhoP lv:=by unfold WhoP ThreadP; omega
      have eA : IntKind.i64.wrap ((IntKind.i64.wrap ((k : Int) / 16)).tmod 7 - 1)=hv:=by
       have h1 : IntKind.i64.wrap ((k : Int) / 16)=(k : Int) / 16:=by rw [IntKind.wrap_i64]; omega
       rw [h1,Int.tmod_eq_emod_of_nonneg (by omega),IntKind.wrap_i64]; omega
      have eB : IntKind.i64.wrap ((IntKind.i64.wrap ((k : Int) / 64)).tmod 4 - 1)=lv:=by
       have h1 : IntKind.i64.wrap ((k : Int) / 64)=(k : Int) / 64:=by rw [IntKind.wrap_i64]; omega
       rw [h1,Int.tmod_eq_emod_of_nonneg (by omega),IntKind.wrap_i64]; omega
      have eC : decide (3 < (k : Int).tmod 8)=sw:=by rw [Int.tmod_eq_emod_of_nonneg (by omega)]; exact hsw
      have HV:=Lib.hid (And.intro hwho hwho2)
      clear hal hal2 hsw hhv hlv hwho hwho2
      go_upto_region 14 with fail
      go_cut [13] (fun v wx=>∃ g,v=.pointer (some ⟨g,0,none⟩)∧Blk wx g 51 #[.int .i64 m.pages,.int .i64 nn,.int .i64 cv,.int .i64 hv,.int .i64 lv,.bool sw,.int .u64 (al : Int),.int .u64 0]∧Ext wc wx∧wc.heap.size≤g)
      case first =>
       go_region_held3 (fun w'=>w'.cell? ⟨w.heap.size + 1,0,none⟩=some (.int .i64 m.pages)) (first | with_reducible exact ((Ext.refl wc).drew).cell hu0 | with_reducible exact ga | with_reducible exact gb | with_reducible exact (((Ext.refl wc).drew).alloc _).cell hu0 | with_reducible exact (((Ext.refl wc).alloc _).drew).cell hu0 | with_reducible exact (hga.alloc _).cell hu0 | with_reducible exact (hgb.alloc _).cell hu0 | with_reducible exact (ext8 hgb hsza).cell hu0 | with_reducible exact (ext8 hgb (Nat.le_refl _)).cell hu0) (first
        |(go_at_call 25; (with_reducible refine (slots1N_any cv _).mono ?_); rintro e wa ⟨rfl,hEa⟩; have hga : Ext wc wa:=(by first | with_reducible exact ((Ext.refl wc).drew).trans hEa | with_reducible exact (((Ext.refl wc).drew).alloc _).trans hEa | with_reducible exact (((Ext.refl wc).alloc _).drew).trans hEa); have hsza : wc.heap.size≤wa.heap.size:=hga.size; have ga:=hga.cell hu0; have sa : w.heap.size + 1 < wa.heap.size:=Nat.lt_of_lt_of_le hlt8 hga.size; have sna:=Nat.ne_of_lt sa; have snb:=Nat.ne_of_gt sa; (try (have hq:=(Blk.new wc 51 #[.int .i64 0,.int .i64 0,.int .i64 0,.int .i64 0,.int .i64 0,.bool false,.int .u64 0,.int .u64 0] wc.heap.size rfl).drew; replace hq:=(by with_reducible exact hq.ext hEa : Blk wa wc.heap.size 51 #[.int .i64 0,.int .i64 0,.int .i64 0,.int .i64 0,.int .i64 0,.bool false,.int .u64 0,.int .u64 0]); obtain ⟨⟨q0,q1,q2,q3,q4,q5,q6,q7⟩,⟨qf0,qf1,qf2,qf3,qf4,qf5,qf6,qf7⟩⟩:=blk8 hq)))
        |(go_at_call 24; (with_reducible refine (ones1_any (slN cv) _ (slN_le cv)).mono ?_); rintro e wb ⟨rfl,hEb⟩; have hgb : Ext wc wb:=(by first | with_reducible exact hga.trans hEb | with_reducible exact (hga.alloc _).trans hEb); have hszb : wc.heap.size≤wb.heap.size:=hgb.size; have gb:=hgb.cell hu0; have sb : w.heap.size + 1 < wb.heap.size:=Nat.lt_of_lt_of_le hlt8 hgb.size; have tna:=Nat.ne_of_lt sb; have tnb:=Nat.ne_of_gt sb; (first | (have hr : Blk wb wc.heap.size 51 #[.int .i64 0,.int .i64 0,.int .i64 0,.int .i64 0,.int .i64 0,.bool false,.int .u64 0,.int .u64 0]:=(by with_reducible exact hq.ext hEb); obtain ⟨⟨r0,r1,r2,r3,r4,r5,r6,r7⟩,⟨rf0,rf1,rf2,rf3,rf4,rf5,rf6,rf7⟩⟩:=blk8 hr) | (have hr : Blk wb wa.heap.size 51 #[.int .i64 0,.int .i64 0,.int .i64 0,.int .i64 0,.int .i64 0,.bool false,.int .u64 0,.int .u64 0]:=(by with_reducible exact (Blk.new wa 51 #[.int .i64 0,.int .i64 0,.int .i64 0,.int .i64 0,.int .i64 0,.bool false,.int .u64 0,.int .u64 0] wa.heap.size rfl).ext hEb); obtain ⟨⟨r0,r1,r2,r3,r4,r5,r6,r7⟩,⟨rf0,rf1,rf2,rf3,rf4,rf5,rf6,rf7⟩⟩:=blk8 hr) | skip)))
       all_goals
        go_wp2_with fail
        go_meet
        refine ⟨_,rfl,?_,?_,?_⟩
        ·first | with_reducible exact set8 hr | with_reducible exact Blk.new _ _ _ _ rfl
        ·first | with_reducible exact ext8 hgb hsza | with_reducible exact ext8 hgb (Nat.le_refl _) | with_reducible exact hgb.alloc _
        ·first | with_reducible exact hsza | with_reducible exact hszb | with_reducible exact Nat.le_refl _
      case rest =>
       obtain ⟨g8,rfl,hpb,hEx8,hle8⟩:=hcut
       have c6:=hpb.cell (i:=6) (v:=.int .u64 (al : Int)) rfl
       have c7:=hpb.cell (i:=7) (v:=.int .u64 0) rfl
       have f7:=hpb.frozen 7
       obtain ⟨mk,hmk,hmk2,hmk3⟩:=and_marks (al:=al) hxv (by have:=slN_le cv; have h3 : 2 ^ slN cv≤2 ^ 64:=Nat.pow_le_pow_right (by decide) this; have:=HAl.out; omega)
       have HMk:=Lib.hid (And.intro hmk2 hmk3)
       have HA:=Lib.hid (And.intro hpb (And.intro hEx8 hle8))
       clear hmk2 hmk3 hpb hEx8 hle8 wal eA eB eC
       go_upto_region 16 with fail
       try rw [hmk]
       obtain ⟨W6,hW6⟩ : ∃ W6,W6=wc.setCell ⟨g8,7,none⟩ (.int .u64 (mk : Int)):=⟨_,rfl⟩
       rw [← hW6]
       have hpb6 : Blk W6 g8 51 #[.int .i64 m.pages,.int .i64 nn,.int .i64 cv,.int .i64 hv,.int .i64 lv,.bool sw,.int .u64 (al : Int),.int .u64 (mk : Int)]:=by
        rw [hW6]
        have:=HA.out.1.set 7 (.int .u64 (mk : Int))
        simp only [List.setIfInBounds_toArray,List.set_cons_succ,List.set_cons_zero] at this
        exact this
       have hM6 : MadeW w W6 m (.slice F1 m.free.length fc1) (.slice H1 m.hands.length hc1) (.slice S1 m.spans.length sc1) (.slice G1 m.gone.length gc1):=by
        rw [hW6]
        exact HM2.out.1.more (HA.out.2.1.setCell (p:=⟨g8,7,none⟩) HA.out.2.2 _)
       clear c6 c7 f7 hmk
       have m0:=hM6.blk.cell (i:=0) (v:=.int .i64 m.pages) rfl
       have m3:=hM6.blk.cell (i:=3) (v:=.slice S1 m.spans.length sc1) rfl
       have zz0:=hM6.blk.frozen 0
       have zz3:=hM6.blk.frozen 3
       obtain ⟨c0,c1',c2',c3,c4,c5,c6,c7⟩:=Blk.c8 hpb6
       have HM6:=Lib.hid hM6
       have hWs6:=hM6.size
       clear hW6 hpb6 hM6
       obtain ⟨i1,hi,hz0q,hz1q,hz2q⟩:=info_parts Tryz.infoMHold
       have HI:=Lib.hid (And.intro hi (And.intro hz0q (And.intro hz1q hz2q)))
       clear hi hz0q hz1q hz2q
       go_upto_region 26 with (at_builtin; refine wpList_push rfl _ _ 27 rfl (w.heap.size + 2) 51 i1 (.agg #[.int .i64 0,.int .i64 0,.int .i64 0,.int .i64 0,.int .i64 0,.bool false,.int .u64 0,.int .u64 0]) 8 64 Tryz.underlying27 HI.out.1 HI.out.2.1 HI.out.2.2.1 HI.out.2.2.2 rfl (by decide) _ m.spans.length (holdsV m.spans) rfl (HM6.out.own.spans.ext ((Ext.refl _).alloc _)) ⟨W6.heap.size,0,none⟩ 1 (holdC ⟨m.pages,nn,cv,hv,lv,sw,al,mk⟩) rfl ?pc (fun j hj=>by unfold holdC; split; rfl; split; rfl; split; rfl; split; rfl; split; rfl; split; rfl; split <;> rfl) ?b63 ?bby ?bba _ rfl (holdsV (m.spans ++ [⟨m.pages,nn,cv,hv,lv,sw,al,mk⟩])) (fun j hj=>by rw [holdsV_row,holdsV_row]; exact rowV_snoc_lo hj) (fun j hj=>by rw [holdsV_row]; exact rowV_snoc_hi hj) ?_; (case pc=>exact fun j hj=>by have h2 : j=0∨j=1∨j=2∨j=3∨j=4∨j=5∨j=6∨j=7:=(by omega); rcases h2 with rfl | rfl | rfl | rfl | rfl | rfl | rfl | rfl; exact cell_new _ _ _ 0 _ rfl; exact cell_new _ _ _ 1 _ rfl; exact cell_new _ _ _ 2 _ rfl; exact cell_new _ _ _ 3 _ rfl; exact cell_new _ _ _ 4 _ rfl; exact cell_new _ _ _ 5 _ rfl; exact cell_new _ _ _ 6 _ rfl; exact cell_new _ _ _ 7 _ rfl); (case b63=>unfold maxLen; omega); (case bby=>omega); (case bba=>simp; omega); intro gq capq w7 k1 k2 k3 k4 k5; have hbq:=HM6.out.cellsSpan ((Ext.refl _).alloc _) k2; have x1:=hbq.cell (i:=3) (v:=.slice S1 m.spans.length sc1) rfl; have x1f:=hbq.frozen 3; have HK:=Lib.hid (And.intro k1 k2); clear k1 k2 k3 k4 k5 hbq)
       have hM8:=HM6.out.pushSpan ((Ext.refl W6).alloc (.cells #[.int .i64 m.pages,.int .i64 nn,.int .i64 cv,.int .i64 hv,.int .i64 lv,.bool sw,.int .u64 (al : Int),.int .u64 (mk : Int)] 51)) ⟨m.pages,nn,cv,hv,lv,sw,al,mk⟩ (v':=.slice (some ⟨gq,0,none⟩) (m.spans.length + 1) capq) (by have:=HK.out.1; rw [List.length_append]; exact this) HK.out.2
       obtain ⟨W8,hW8⟩ : ∃ W8,W8=w7.setCell ⟨w.heap.size + 1,3,none⟩ (.slice (some ⟨gq,0,none⟩) (m.spans.length + 1) capq):=⟨_,rfl⟩
       rw [← hW8] at hM8 ⊢
       clear m0 m3 zz0 zz3
       have u0:=hM8.blk.cell (i:=0) (v:=.int .i64 m.pages) rfl
       have u0f:=hM8.blk.frozen 0
       have HM8:=Lib.hid hM8
       clear hM8 hW8 x1 x1f HK HI c0 c1' c2' c3 c4 c5 c6 c7
       have hok : HoldOk ⟨m.pages,nn,cv,hv,lv,sw,al,mk⟩:=⟨⟨c1,by show cv≤14; omega,HV.out.1,HV.out.2⟩,fun h=>HM2.out.2 h,HAl.out,HMk.out.2⟩
       have HOk:=Lib.hid hok
       clear hok
       go_wp2
       go_roundg (60 - (i + 2))
       case measure=>go_light; omega
       case rel =>
        refine ⟨i + 2,3,_,_,_,_,_,by omega,by omega,rfl,rfl,by go_num,HM8.out.page (m.pages + nn),HWW.out.2.addSpan HOk.out HMk.out.1 rfl rfl nn1,?_,?_,?_,?_,?_⟩
        ·show m.pages + nn≤4 * ((i + 2 : Nat) : Int); omega
        ·show m.free.length≤i + 2; omega
        ·show m.hands.length≤i + 2; omega
        ·show (m.spans ++ [_]).length≤i + 2; rw [List.length_append]; simp; omega
        ·show m.gone.length≤i + 2; omega
end Go.Proofs.YtoolenhnhlfhmaaGreatDoor
