/- Walks: slices.Insert, of runs, of hands and of spans (printed by gen_mdv.py). -/
import Derived.Test.YtoolenhnhlfhmaaGreatDoorGH
import Derived.Test.YtoolenhnhlfhmaaGreatDoorRowW
namespace Go.Proofs.YtoolenhnhlfhmaaGreatDoor
open Go.RowKit Go.Sort
set_option linter.unusedVariables false
set_option linter.unusedSimpArgs false
set_option maxHeartbeats 4000000 in
set_option maxRecDepth 100000 in
/-- There is room, and something behind the place: in place. -/
theorem insRun_shift (base g n c i vb m vc : Nat) (F V F' : Nat→Value) (TV : TypeId) (Lv : List Value) (w : World) (hi : i < n) (hm : 0 < m) (hroom : n + m≤c) (hvb : vb≠g)
  (hO : OwnS w base 54 2 (.slice (some ⟨g,0,none⟩) n c) n F) (hv : RowW w vb TV Lv) (hV : ∀ j,j < m * 2→Lv[j]?=some (V j)) (h1F : ∀ j,j < n * 2→(F j).oneCell'=true) (h1V : ∀ j,j < m * 2→(V j).oneCell'=true)
  (f1 : ∀ j,j < i * 2→F' j=F j) (f2 : ∀ j,j < m * 2→F' (i * 2 + j)=V j) (f3 : ∀ j,j < (n - i) * 2→F' ((i + m) * 2 + j)=F (i * 2 + j)) :
  Calls Tryz.prog 119 #[.slice (some ⟨g,0,none⟩) n c,.int .i64 i,.slice (some ⟨vb,0,none⟩) m vc] w fun e w' =>
   e=.returned (.slice (some ⟨g,0,none⟩) (n + m) c)∧OwnS w' base 54 2 (.slice (some ⟨g,0,none⟩) (n + m) c) (n + m) F'∧w.grownBy w' (some g):=by
 obtain ⟨i0,hi0,hz0,hzs,hzb⟩:=info_parts Tryz.infoMRun
 have hsz : (Tryz.prog.info? 54).map (·.size)=some 2:=by rw [hi0]; simp [hzs]
 obtain ⟨cur,hr,hb,hnc,hcm,hcl,hcur⟩:=hO.row
 have hov : ∀ lb cb,Sem.run Tryz.prog (callFunc 120 #[.slice (some ⟨vb,0,none⟩) m vc,.slice (some ⟨g,(i + m) * 2,none⟩) lb cb]) w=.ok (.value (.bool false)) w:=fun lb cb =>
  overRun w ⟨vb,0,none⟩ ⟨g,(i + m) * 2,none⟩ m vc lb cb hvb TV 54 Lv.length cur.length hv.shape hr.shape (by omega) (hv.frozen _) (hv.frozen _)
 obtain ⟨cs1,hcs1⟩ : ∃ cs1,cs1=cellsF ((n - i) * 2) (fun j=>F (i * 2 + j)):=⟨_,rfl⟩
 obtain ⟨cs2,hcs2⟩ : ∃ cs2,cs2=cellsF (m * 2) V:=⟨_,rfl⟩
 have hl1 : cs1.length=(n - i) * 2:=by rw [hcs1,cellsF_length]
 have hl2 : cs2.length=m * 2:=by rw [hcs2,cellsF_length]
 obtain ⟨W1,hW1⟩ : ∃ W1,W1=w.drew.setRow g (splice cur ((i + m) * 2) cs1).toArray:=⟨_,rfl⟩
 have hfit1 : (i + m) * 2 + cs1.length≤cur.length:=by rw [hl1,hcl]; omega
 have hr1 : RowW W1 g 54 (splice cur ((i + m) * 2) cs1):=hW1▸hr.drew.set
 have hg1 : w.grownBy W1 (some g):=hW1▸(grownBy_drew w _).trans (grownBy_setRow _ _ _)
 have hv1 : RowW W1 vb TV Lv:=hv.grown hg1 (fun h=>hvb (by injection h))
 have hle1 : (splice cur ((i + m) * 2) cs1).length=cur.length:=length_splice _ _ _ hfit1
 have hfit2 : i * 2 + cs2.length≤(splice cur ((i + m) * 2) cs1).length:=by rw [hle1,hl2,hcl]; omega
 have hcp1 : ∀ ty dc sc,(Builtin.copy_ #[25,25] ty #[.slice (some ⟨g,(i + m) * 2,none⟩) (n + m - (i + m)) dc,.slice (some ⟨g,i * 2,none⟩) (n + m - i) sc]).run Tryz.prog w.drew=.ok (goInt ((n - i : Nat) : Int)) W1:=fun ty dc sc=>by
  rw [hW1]
  refine run_copyS w.drew _ _ ty 54 2 g _ _ _ _ _ _ cur 54 cs1 (n - i) Tryz.underlying25 hsz hr.drew (by simp only [Nat.min_def]; split <;> omega) hl1 (fun j v hj=>?_) hfit1 (hcs1▸cellsF_one fun j hj=>h1F _ (by omega))
  rw [hcs1] at hj
  obtain ⟨hj1,hj2⟩:=cellsF_inv hj
  rw [Addr.add_lit]
  exact hr.drew.cell (hj2▸hcur _ (by omega))
 have hcp2 : ∀ ty dc,(Builtin.copy_ #[25,25] ty #[.slice (some ⟨g,i * 2,none⟩) (n + m - i) dc,.slice (some ⟨vb,0,none⟩) m vc]).run Tryz.prog W1=.ok (goInt (m : Int)) (W1.setRow g (splice (splice cur ((i + m) * 2) cs1) (i * 2) cs2).toArray):=fun ty dc=>by
  refine run_copyS W1 _ _ ty 54 2 g _ _ _ _ _ _ _ 54 cs2 m Tryz.underlying25 hsz hr1 (by simp only [Nat.min_def]; split <;> omega) hl2 (fun j v hj=>?_) hfit2 (hcs2▸cellsF_one h1V)
  rw [hcs2] at hj
  obtain ⟨hj1,hj2⟩:=cellsF_inv hj
  rw [Addr.add_lit,Nat.zero_add]
  exact hv1.cell (hj2▸hV _ hj1)
 have hfin : OwnS (W1.setRow g (splice (splice cur ((i + m) * 2) cs1) (i * 2) cs2).toArray) base 54 2 (.slice (some ⟨g,0,none⟩) (n + m) c) (n + m) F':=by
  refine OwnS.ofRow hr1.set hb hroom hcm (by rw [length_splice _ _ _ hfit2,hle1,hcl]) (fun j hj=>?_)
  rw [splice_get hfit2]
  by_cases c1 : i * 2≤j∧j < i * 2 + cs2.length
  ·rw [if_pos c1,hcs2,cellsF_get (by omega),← f2 _ (by omega)]
   congr 2
   omega
  ·rw [if_neg c1,splice_get hfit1]
   by_cases c2 : (i + m) * 2≤j∧j < (i + m) * 2 + cs1.length
   ·rw [if_pos c2,hcs1,cellsF_get (by omega),← f3 _ (by omega)]
    congr 2
    omega
   ·rw [if_neg c2,hcur j (by omega),f1 j (by omega)]
 have hgf : w.grownBy (W1.setRow g (splice (splice cur ((i + m) * 2) cs1) (i * 2) cs2).toArray) (some g):=hg1.trans (grownBy_setRow _ _ _)
 have HF:=Lib.hid (And.intro hfin hgf)
 have hz1 : ¬ ((m : Int)=0):=by omega
 have hz2 : ¬ ((i : Int)=(n : Int)):=by omega
 unfold maxLen at hcm
 have hw1 : IntKind.i64.wrap ((i : Int) + (m : Int))=(i : Int) + (m : Int):=by rw [IntKind.wrap_i64]; omega
 have hb1 : (0 : Int)≤(i : Int) + (m : Int):=by omega
 have hin : i≤n:=by omega
 have htn : ((i : Int) + (m : Int)).toNat=i + m:=by omega
 have hb2 : ¬ (c=i + m):=by omega
 have hb3 : (i : Int)≤(n : Int) + (m : Int):=by omega
 have hb4 : ¬ (c=i):=by omega
 clear hfin hgf hcs1 hcs2 hW1 hl1 hl2 hfit1 hfit2 hr1 hg1 hv1 hle1 hO hV h1F h1V f1 f2 f3 hcur hcl hv hr hsz hzs hzb hz0 hi0
 go_enter Tryz.func119,Tryz.ntmps119
 go_wp2_with (simp only [hov])
 go_region_law (refine step_copyI rfl _ _ 25 25 rfl _ _ (by simp [Act.eval,Act.put]) (by simp [Act.eval,Act.put]) (hcp1 _ _ _) ?_)
 go_wp2_with (with_reducible refine wpList_copyI _ rfl _ _ 25 25 rfl _ _ rfl rfl (hcp2 _ _) ?_)
 go_ret
 exact ⟨rfl,HF.out.1,HF.out.2⟩
set_option maxHeartbeats 4000000 in
set_option maxRecDepth 100000 in
/-- There is no room, and something behind the place: a new row. -/
theorem insRun_grow (base g n c i vb m vc : Nat) (F V F' : Nat→Value) (TV : TypeId) (Lv : List Value) (w : World) (hi : i < n) (hm : 0 < m) (hroom : c < n + m) (hbig : n + m≤2000000)
  (hO : OwnS w base 54 2 (.slice (some ⟨g,0,none⟩) n c) n F) (hv : RowW w vb TV Lv) (hV : ∀ j,j < m * 2→Lv[j]?=some (V j)) (h1F : ∀ j,j < n * 2→(F j).oneCell'=true) (h1V : ∀ j,j < m * 2→(V j).oneCell'=true)
  (f1 : ∀ j,j < i * 2→F' j=F j) (f2 : ∀ j,j < m * 2→F' (i * 2 + j)=V j) (f3 : ∀ j,j < (n - i) * 2→F' ((i + m) * 2 + j)=F (i * 2 + j)) :
  Calls Tryz.prog 119 #[.slice (some ⟨g,0,none⟩) n c,.int .i64 i,.slice (some ⟨vb,0,none⟩) m vc] w fun e w' =>
   ∃ c',e=.returned (.slice (some ⟨w.heap.size,0,none⟩) (n + m) c')∧OwnS w' base 54 2 (.slice (some ⟨w.heap.size,0,none⟩) (n + m) c') (n + m) F'∧w.grownBy w' none:=by
 obtain ⟨i0,hi0,hz0,hzs,hzb⟩:=info_parts Tryz.infoMRun
 have hsz : (Tryz.prog.info? 54).map (·.size)=some 2:=by rw [hi0]; simp [hzs]
 obtain ⟨cur,hr,hb,hnc,hcm,hcl,hcur⟩:=hO.row
 have hlt:=hr.lt
 have hvlt:=hv.lt
 obtain ⟨cs0,hcs0⟩ : ∃ cs0,cs0=cellsF (i * 2) F:=⟨_,rfl⟩
 obtain ⟨cs1,hcs1⟩ : ∃ cs1,cs1=cellsF ((n - i) * 2) (fun j=>F (i * 2 + j)):=⟨_,rfl⟩
 obtain ⟨cs2,hcs2⟩ : ∃ cs2,cs2=cellsF (m * 2) V:=⟨_,rfl⟩
 have hl0 : cs0.length=i * 2:=by rw [hcs0,cellsF_length]
 have hl1 : cs1.length=(n - i) * 2:=by rw [hcs1,cellsF_length]
 have hl2 : cs2.length=m * 2:=by rw [hcs2,cellsF_length]
 have hkk : (n : Int) + (m : Int) - (i : Int)=((n + m - i : Nat) : Int):=by omega
 have hik : i + (n + m - i)=n + m:=by omega
 have hold : (Builtin.firstCells i0.size i (.slice (some ⟨g,0,none⟩) i c)).run Tryz.prog w.drew=.ok cs0.toArray w.drew:=by
  rw [hzs]
  refine run_firstCells_some w.drew 2 i ⟨g,0,none⟩ i c cs0 hl0 fun j v hj=>?_
  rw [hcs0] at hj
  obtain ⟨hj1,hj2⟩:=cellsF_inv hj
  rw [Addr.add_lit,Nat.zero_add]
  exact hr.drew.cell (hj2▸hcur _ (by omega))
 obtain ⟨G,hG⟩ : ∃ G,G=grownCap w (n + m) c 54:=⟨_,rfl⟩
 have hGn : n + m≤G:=by rw [hG]; exact grownCap_ge w _ _ _
 have hG63 : G≤maxLen:=by rw [hG]; exact grownCap_le_maxLen w (n + m) c 54 (by unfold maxLen; omega)
 obtain ⟨ROW,hROW⟩ : ∃ ROW : List Value,ROW=cs0 ++ (Builtin.zeroCells (.agg #[.int .i64 0,.int .i64 0] : Value).cells (n + m - i)).toList ++ (Builtin.zeroCells (.agg #[.int .i64 0,.int .i64 0] : Value).cells (G - (n + m))).toList:=⟨_,rfl⟩
 have hzc : (.agg #[.int .i64 0,.int .i64 0] : Value).cells.size=2:=rfl
 have hRl : ROW.length=G * 2:=by
  rw [hROW,List.length_append,List.length_append,zeroCells_F,zeroCells_F,cellsF_length,cellsF_length,hl0,hzc]
  omega
 obtain ⟨W1,hW1⟩ : ∃ W1,W1=w.drew.alloc (.cells ROW.toArray 54):=⟨_,rfl⟩
 have hrz : ∀ ty,(Builtin.append_ #[25,3] ty #[.slice (some ⟨g,0,none⟩) i c,.int .i64 ((n : Int) + (m : Int) - (i : Int))]).run Tryz.prog w=.ok (.slice (some ⟨w.heap.size,0,none⟩) (n + m) G) W1:=fun ty=>by
  have h:=Lib.run_append_grow_zeros w 25 3 ty 54 i0 _ .i64 .i64 Tryz.underlying25 Tryz.underlying3 hi0 hz0 (some ⟨g,0,none⟩) i c cs0 hold (n + m - i) (by omega) (by omega) (by omega) (by omega) (by rw [hzb]; omega) (by rw [hzb,hik]; exact growslice_fits hroom (by omega))
  rw [hik,← hG] at h
  rw [hkk,hW1,hROW,h]
  exact congrArg (fun X=>Result.ok _ (w.drew.alloc (.cells X _))) (Array.ext' (by simp))
 have hr1 : RowW W1 w.heap.size 54 ROW:=by rw [hW1]; exact heap_alloc_new w.drew _
 have hg1 : w.grownBy W1 none:=by rw [hW1]; exact (grownBy_drew w _).trans (World.grownBy_alloc _ _ _)
 have hv1 : RowW W1 vb TV Lv:=hv.grown hg1 (by simp)
 have hs1 : RowW W1 g 54 cur:=hr.grown hg1 (by simp)
 have hfit2 : i * 2 + cs2.length≤ROW.length:=by rw [hRl,hl2]; omega
 obtain ⟨W2,hW2⟩ : ∃ W2,W2=W1.setRow w.heap.size (splice ROW (i * 2) cs2).toArray:=⟨_,rfl⟩
 have hcp2 : ∀ ty dc,(Builtin.copy_ #[25,25] ty #[.slice (some ⟨w.heap.size,i * 2,none⟩) (n + m - i) dc,.slice (some ⟨vb,0,none⟩) m vc]).run Tryz.prog W1=.ok (goInt (m : Int)) W2:=fun ty dc=>by
  rw [hW2]
  refine run_copyS W1 _ _ ty 54 2 w.heap.size _ _ _ _ _ _ _ 54 cs2 m Tryz.underlying25 hsz hr1 (by simp only [Nat.min_def]; split <;> omega) hl2 (fun j v hj=>?_) hfit2 (hcs2▸cellsF_one h1V)
  rw [hcs2] at hj
  obtain ⟨hj1,hj2⟩:=cellsF_inv hj
  rw [Addr.add_lit,Nat.zero_add]
  exact hv1.cell (hj2▸hV _ hj1)
 have hr2 : RowW W2 w.heap.size 54 (splice ROW (i * 2) cs2):=hW2▸hr1.set
 have hg2 : W1.grownBy W2 (some w.heap.size):=hW2▸grownBy_setRow _ _ _
 have hs2 : RowW W2 g 54 cur:=hs1.grown hg2 (fun h=>by injection h with h; omega)
 have hle2 : (splice ROW (i * 2) cs2).length=ROW.length:=length_splice _ _ _ hfit2
 have hfit3 : (i + m) * 2 + cs1.length≤(splice ROW (i * 2) cs2).length:=by rw [hle2,hRl,hl1]; omega
 have hcp3 : ∀ ty dc sc,(Builtin.copy_ #[25,25] ty #[.slice (some ⟨w.heap.size,(i + m) * 2,none⟩) (n + m - (i + m)) dc,.slice (some ⟨g,i * 2,none⟩) (n - i) sc]).run Tryz.prog W2.drew=.ok (goInt ((n - i : Nat) : Int)) (W2.drew.setRow w.heap.size (splice (splice ROW (i * 2) cs2) ((i + m) * 2) cs1).toArray):=fun ty dc sc=>by
  refine run_copyS W2.drew _ _ ty 54 2 w.heap.size _ _ _ _ _ _ _ 54 cs1 (n - i) Tryz.underlying25 hsz hr2.drew (by simp only [Nat.min_def]; split <;> omega) hl1 (fun j v hj=>?_) hfit3 (hcs1▸cellsF_one fun j hj=>h1F _ (by omega))
  rw [hcs1] at hj
  obtain ⟨hj1,hj2⟩:=cellsF_inv hj
  rw [Addr.add_lit]
  exact hs2.drew.cell (hj2▸hcur _ (by omega))
 have hfin : OwnS (W2.drew.setRow w.heap.size (splice (splice ROW (i * 2) cs2) ((i + m) * 2) cs1).toArray) base 54 2 (.slice (some ⟨w.heap.size,0,none⟩) (n + m) G) (n + m) F':=by
  refine OwnS.ofRow hr2.drew.set (by omega) hGn hG63 (by rw [length_splice _ _ _ hfit3,hle2,hRl]) (fun j hj=>?_)
  rw [splice_get hfit3]
  by_cases c1 : (i + m) * 2≤j∧j < (i + m) * 2 + cs1.length
  ·rw [if_pos c1,hcs1,cellsF_get (by omega),← f3 _ (by omega)]
   congr 2
   omega
  ·rw [if_neg c1,splice_get hfit2]
   by_cases c2 : i * 2≤j∧j < i * 2 + cs2.length
   ·rw [if_pos c2,hcs2,cellsF_get (by omega),← f2 _ (by omega)]
    congr 2
    omega
   ·rw [if_neg c2,hROW,List.append_assoc,List.getElem?_append_left (by omega),hcs0,cellsF_get (by omega),f1 j (by omega)]
 have hgf : w.grownBy (W2.drew.setRow w.heap.size (splice (splice ROW (i * 2) cs2) ((i + m) * 2) cs1).toArray) none:=by
  have h:=(hg2.trans (grownBy_drew W2 _)).trans (grownBy_setRow W2.drew w.heap.size (splice (splice ROW (i * 2) cs2) ((i + m) * 2) cs1).toArray)
  refine ⟨h.os.trans hg1.os,h.tape.trans hg1.tape,h.output.trans hg1.output,Nat.le_trans hg1.size h.size,fun k hk _=>?_⟩
  rw [h.block k (Nat.lt_of_lt_of_le hk hg1.size) (fun e=>by injection e with e; omega),hg1.block k hk (by simp)]
 have HF:=Lib.hid (And.intro hfin hgf)
 have hz1 : ¬ ((m : Int)=0):=by omega
 have hz2 : ¬ ((i : Int)=(n : Int)):=by omega
 unfold maxLen at hcm hG63
 have hw1 : IntKind.i64.wrap ((i : Int) + (m : Int))=(i : Int) + (m : Int):=by rw [IntKind.wrap_i64]; omega
 have hb1 : (0 : Int)≤(i : Int) + (m : Int):=by omega
 have hin : i≤n:=by omega
 have htn : ((i : Int) + (m : Int)).toNat=i + m:=by omega
 have hGi : ¬ (G=i):=by omega
 have hGim : ¬ (G=i + m):=by omega
 have hci : ¬ (c=i):=by omega
 have hz3 : (c : Int) < (n : Int) + (m : Int):=by omega
 have hb3 : (i : Int)≤(n : Int):=by omega
 clear hfin hgf hcs1 hcs2 hW1 hW2 hl1 hl2 hfit3 hfit2 hr1 hg1 hv1 hle2 hO hV h1F h1V f1 f2 f3 hcur hcl hv hr hsz hzs hzb hz0 hi0 hkk hik hold hROW hG hRl hs1 hr2 hg2 hs2 hcs0 hl0 hzc hlt hvlt hb
 go_enter Tryz.func119,Tryz.ntmps119
 go_wp2_with (first
  |(at_builtin; refine Lib.wpList_append_run _ rfl _ _ _ _ rfl _ _ rfl rfl _ _ (hrz _) ?_)
  |(with_reducible refine wpList_copyI _ rfl _ _ 25 25 rfl _ _ rfl rfl (hcp2 _ _) ?_))
 go_region_law (refine step_copyI rfl _ _ 25 25 rfl _ _ (by simp [Act.eval,Act.put]) (by simp [Act.eval,Act.put]) (hcp3 _ _ _) ?_)
 go_wp2
 go_ret
 exact ⟨G,rfl,HF.out.1,HF.out.2⟩
set_option maxHeartbeats 4000000 in
set_option maxRecDepth 100000 in
/-- At the end. -/
theorem insRun_end (base n c m vc : Nat) (A B : Option Addr) (F V F' : Nat→Value) (w : World) (hm : 0 < m) (hbig : n + m≤2000000) (hbase : base≤w.heap.size)
  (hO : OwnS w base 54 2 (.slice A n c) n F) (hv : SlR w B m 2 V) (h1V : ∀ j,j < m * 2→(V j).oneCell'=true)
  (f1 : ∀ j,j < n * 2→F' j=F j) (f2 : ∀ j,j < m * 2→F' (n * 2 + j)=V j) :
  Calls Tryz.prog 119 #[.slice A n c,.int .i64 n,.slice B m vc] w fun e w' =>
   ∃ A' c',e=.returned (.slice A' (n + m) c')∧OwnS w' base 54 2 (.slice A' (n + m) c') (n + m) F'∧w.grownBy w' (Value.slice A n c).ownBlock:=by
 obtain ⟨i0,hi0,hz0,hzs,hzb⟩:=info_parts Tryz.infoMRun
 have hz1 : ¬ ((m : Int)=0):=by omega
 have HV:=Lib.hid (And.intro hO (And.intro hv (And.intro h1V (And.intro f1 f2))))
 have hfm:=hO.form
 obtain ⟨A',c',e1,hnc,_⟩:=hfm
 injection e1 with e1 e2 e3
 subst e1 e3
 clear e2 hO hv h1V f1 f2
 rw [own_blk]
 have hcs : ¬ c=n∨c=n:=by omega
 rcases hcs with hcn | rfl
 all_goals
  go_enter Tryz.func119,Tryz.ntmps119
  go_wp2_with (at_builtin; refine wpList_pushAll rfl _ _ 25 rfl base 54 i0 (.agg #[.int .i64 0,.int .i64 0]) 2 16 Tryz.underlying25 hi0 hz0 hzs hzb rfl (by decide) _ _ F rfl HV.out.1 B m vc V rfl HV.out.2.1 HV.out.2.2.1 ?qc4 ?qc5 hbase F' HV.out.2.2.2.1 HV.out.2.2.2.2 _ rfl ?_)
  case qc4=>unfold maxLen; omega
  case qc5=>omega
  intro A'' c'' w1 hown hgrow hE hor
  rw [own_blk] at hgrow
  have HG:=Lib.hid (And.intro hown hgrow)
  clear hown hgrow hE hor
  go_wp2
  go_ret
  exact ⟨A'',c'',rfl,HG.out.1,HG.out.2⟩
/-- slices.Insert: at any place. -/
theorem insRun_any (base n c i vb m vc : Nat) (A : Option Addr) (F V F' : Nat→Value) (TV : TypeId) (Lv : List Value) (w : World) (hi : i≤n) (hm : 0 < m) (hbig : n + m≤2000000) (hbase : base≤w.heap.size) (hvb : some vb≠A.map (·.block))
  (hO : OwnS w base 54 2 (.slice A n c) n F) (hv : RowW w vb TV Lv) (hV : ∀ j,j < m * 2→Lv[j]?=some (V j)) (h1F : ∀ j,j < n * 2→(F j).oneCell'=true) (h1V : ∀ j,j < m * 2→(V j).oneCell'=true)
  (f1 : ∀ j,j < i * 2→F' j=F j) (f2 : ∀ j,j < m * 2→F' (i * 2 + j)=V j) (f3 : ∀ j,j < (n - i) * 2→F' ((i + m) * 2 + j)=F (i * 2 + j)) :
  Calls Tryz.prog 119 #[.slice A n c,.int .i64 i,.slice (some ⟨vb,0,none⟩) m vc] w fun e w' =>
   ∃ A' c',e=.returned (.slice A' (n + m) c')∧OwnS w' base 54 2 (.slice A' (n + m) c') (n + m) F'∧w.grownBy w' (A.map (·.block)):=by
 rcases Nat.lt_or_ge i n with h | h
 ·obtain ⟨g,c',e1⟩:=hO.form' (by omega)
  injection e1 with e1 e2 e3
  subst e1 e3
  rcases Nat.lt_or_ge c (n + m) with hc | hc
  ·refine (insRun_grow base g n c i vb m vc F V F' TV Lv w h hm hc hbig hO hv hV h1F h1V f1 f2 f3).mono fun e w' ⟨c',h1,h2,h3⟩=>⟨_,c',h1,h2,?_⟩
   exact ⟨h3.os,h3.tape,h3.output,h3.size,fun k hk _=>h3.block k hk (by simp)⟩
  ·exact (insRun_shift base g n c i vb m vc F V F' TV Lv w h hm hc (fun e=>hvb (by rw [e]; rfl)) hO hv hV h1F h1V f1 f2 f3).mono fun e w' ⟨h1,h2,h3⟩=>⟨_,c,h1,h2,h3⟩
 ·obtain rfl : i=n:=by omega
  refine (insRun_end base i c m vc A (some ⟨vb,0,none⟩) F V F' w hm hbig hbase hO (fun _=>⟨vb,0,rfl,fun j hj=>?_⟩) h1V f1 f2).mono fun e w' ⟨A',c',h1,h2,h3⟩=>⟨A',c',h1,h2,by rw [own_blk] at h3; exact h3⟩
  rw [Nat.zero_add]
  exact hv.cell (hV j hj)
set_option maxHeartbeats 4000000 in
set_option maxRecDepth 100000 in
/-- There is room, and something behind the place: in place. -/
theorem insHand_shift (base g n c i vb m vc : Nat) (F V F' : Nat→Value) (TV : TypeId) (Lv : List Value) (w : World) (hi : i < n) (hm : 0 < m) (hroom : n + m≤c) (hvb : vb≠g)
  (hO : OwnS w base 56 3 (.slice (some ⟨g,0,none⟩) n c) n F) (hv : RowW w vb TV Lv) (hV : ∀ j,j < m * 3→Lv[j]?=some (V j)) (h1F : ∀ j,j < n * 3→(F j).oneCell'=true) (h1V : ∀ j,j < m * 3→(V j).oneCell'=true)
  (f1 : ∀ j,j < i * 3→F' j=F j) (f2 : ∀ j,j < m * 3→F' (i * 3 + j)=V j) (f3 : ∀ j,j < (n - i) * 3→F' ((i + m) * 3 + j)=F (i * 3 + j)) :
  Calls Tryz.prog 125 #[.slice (some ⟨g,0,none⟩) n c,.int .i64 i,.slice (some ⟨vb,0,none⟩) m vc] w fun e w' =>
   e=.returned (.slice (some ⟨g,0,none⟩) (n + m) c)∧OwnS w' base 56 3 (.slice (some ⟨g,0,none⟩) (n + m) c) (n + m) F'∧w.grownBy w' (some g):=by
 obtain ⟨i0,hi0,hz0,hzs,hzb⟩:=info_parts Tryz.infoMHand
 have hsz : (Tryz.prog.info? 56).map (·.size)=some 3:=by rw [hi0]; simp [hzs]
 obtain ⟨cur,hr,hb,hnc,hcm,hcl,hcur⟩:=hO.row
 have hov : ∀ lb cb,Sem.run Tryz.prog (callFunc 138 #[.slice (some ⟨vb,0,none⟩) m vc,.slice (some ⟨g,(i + m) * 3,none⟩) lb cb]) w=.ok (.value (.bool false)) w:=fun lb cb =>
  overHand w ⟨vb,0,none⟩ ⟨g,(i + m) * 3,none⟩ m vc lb cb hvb TV 56 Lv.length cur.length hv.shape hr.shape (by omega) (hv.frozen _) (hv.frozen _)
 obtain ⟨cs1,hcs1⟩ : ∃ cs1,cs1=cellsF ((n - i) * 3) (fun j=>F (i * 3 + j)):=⟨_,rfl⟩
 obtain ⟨cs2,hcs2⟩ : ∃ cs2,cs2=cellsF (m * 3) V:=⟨_,rfl⟩
 have hl1 : cs1.length=(n - i) * 3:=by rw [hcs1,cellsF_length]
 have hl2 : cs2.length=m * 3:=by rw [hcs2,cellsF_length]
 obtain ⟨W1,hW1⟩ : ∃ W1,W1=w.drew.setRow g (splice cur ((i + m) * 3) cs1).toArray:=⟨_,rfl⟩
 have hfit1 : (i + m) * 3 + cs1.length≤cur.length:=by rw [hl1,hcl]; omega
 have hr1 : RowW W1 g 56 (splice cur ((i + m) * 3) cs1):=hW1▸hr.drew.set
 have hg1 : w.grownBy W1 (some g):=hW1▸(grownBy_drew w _).trans (grownBy_setRow _ _ _)
 have hv1 : RowW W1 vb TV Lv:=hv.grown hg1 (fun h=>hvb (by injection h))
 have hle1 : (splice cur ((i + m) * 3) cs1).length=cur.length:=length_splice _ _ _ hfit1
 have hfit2 : i * 3 + cs2.length≤(splice cur ((i + m) * 3) cs1).length:=by rw [hle1,hl2,hcl]; omega
 have hcp1 : ∀ ty dc sc,(Builtin.copy_ #[26,26] ty #[.slice (some ⟨g,(i + m) * 3,none⟩) (n + m - (i + m)) dc,.slice (some ⟨g,i * 3,none⟩) (n + m - i) sc]).run Tryz.prog w.drew=.ok (goInt ((n - i : Nat) : Int)) W1:=fun ty dc sc=>by
  rw [hW1]
  refine run_copyS w.drew _ _ ty 56 3 g _ _ _ _ _ _ cur 56 cs1 (n - i) Tryz.underlying26 hsz hr.drew (by simp only [Nat.min_def]; split <;> omega) hl1 (fun j v hj=>?_) hfit1 (hcs1▸cellsF_one fun j hj=>h1F _ (by omega))
  rw [hcs1] at hj
  obtain ⟨hj1,hj2⟩:=cellsF_inv hj
  rw [Addr.add_lit]
  exact hr.drew.cell (hj2▸hcur _ (by omega))
 have hcp2 : ∀ ty dc,(Builtin.copy_ #[26,26] ty #[.slice (some ⟨g,i * 3,none⟩) (n + m - i) dc,.slice (some ⟨vb,0,none⟩) m vc]).run Tryz.prog W1=.ok (goInt (m : Int)) (W1.setRow g (splice (splice cur ((i + m) * 3) cs1) (i * 3) cs2).toArray):=fun ty dc=>by
  refine run_copyS W1 _ _ ty 56 3 g _ _ _ _ _ _ _ 56 cs2 m Tryz.underlying26 hsz hr1 (by simp only [Nat.min_def]; split <;> omega) hl2 (fun j v hj=>?_) hfit2 (hcs2▸cellsF_one h1V)
  rw [hcs2] at hj
  obtain ⟨hj1,hj2⟩:=cellsF_inv hj
  rw [Addr.add_lit,Nat.zero_add]
  exact hv1.cell (hj2▸hV _ hj1)
 have hfin : OwnS (W1.setRow g (splice (splice cur ((i + m) * 3) cs1) (i * 3) cs2).toArray) base 56 3 (.slice (some ⟨g,0,none⟩) (n + m) c) (n + m) F':=by
  refine OwnS.ofRow hr1.set hb hroom hcm (by rw [length_splice _ _ _ hfit2,hle1,hcl]) (fun j hj=>?_)
  rw [splice_get hfit2]
  by_cases c1 : i * 3≤j∧j < i * 3 + cs2.length
  ·rw [if_pos c1,hcs2,cellsF_get (by omega),← f2 _ (by omega)]
   congr 2
   omega
  ·rw [if_neg c1,splice_get hfit1]
   by_cases c2 : (i + m) * 3≤j∧j < (i + m) * 3 + cs1.length
   ·rw [if_pos c2,hcs1,cellsF_get (by omega),← f3 _ (by omega)]
    congr 2
    omega
   ·rw [if_neg c2,hcur j (by omega),f1 j (by omega)]
 have hgf : w.grownBy (W1.setRow g (splice (splice cur ((i + m) * 3) cs1) (i * 3) cs2).toArray) (some g):=hg1.trans (grownBy_setRow _ _ _)
 have HF:=Lib.hid (And.intro hfin hgf)
 have hz1 : ¬ ((m : Int)=0):=by omega
 have hz2 : ¬ ((i : Int)=(n : Int)):=by omega
 unfold maxLen at hcm
 have hw1 : IntKind.i64.wrap ((i : Int) + (m : Int))=(i : Int) + (m : Int):=by rw [IntKind.wrap_i64]; omega
 have hb1 : (0 : Int)≤(i : Int) + (m : Int):=by omega
 have hin : i≤n:=by omega
 have htn : ((i : Int) + (m : Int)).toNat=i + m:=by omega
 have hb2 : ¬ (c=i + m):=by omega
 have hb3 : (i : Int)≤(n : Int) + (m : Int):=by omega
 have hb4 : ¬ (c=i):=by omega
 clear hfin hgf hcs1 hcs2 hW1 hl1 hl2 hfit1 hfit2 hr1 hg1 hv1 hle1 hO hV h1F h1V f1 f2 f3 hcur hcl hv hr hsz hzs hzb hz0 hi0
 go_enter Tryz.func125,Tryz.ntmps125
 go_wp2_with (simp only [hov])
 go_region_law (refine step_copyI rfl _ _ 26 26 rfl _ _ (by simp [Act.eval,Act.put]) (by simp [Act.eval,Act.put]) (hcp1 _ _ _) ?_)
 go_wp2_with (with_reducible refine wpList_copyI _ rfl _ _ 26 26 rfl _ _ rfl rfl (hcp2 _ _) ?_)
 go_ret
 exact ⟨rfl,HF.out.1,HF.out.2⟩
set_option maxHeartbeats 4000000 in
set_option maxRecDepth 100000 in
/-- There is no room, and something behind the place: a new row. -/
theorem insHand_grow (base g n c i vb m vc : Nat) (F V F' : Nat→Value) (TV : TypeId) (Lv : List Value) (w : World) (hi : i < n) (hm : 0 < m) (hroom : c < n + m) (hbig : n + m≤2000000)
  (hO : OwnS w base 56 3 (.slice (some ⟨g,0,none⟩) n c) n F) (hv : RowW w vb TV Lv) (hV : ∀ j,j < m * 3→Lv[j]?=some (V j)) (h1F : ∀ j,j < n * 3→(F j).oneCell'=true) (h1V : ∀ j,j < m * 3→(V j).oneCell'=true)
  (f1 : ∀ j,j < i * 3→F' j=F j) (f2 : ∀ j,j < m * 3→F' (i * 3 + j)=V j) (f3 : ∀ j,j < (n - i) * 3→F' ((i + m) * 3 + j)=F (i * 3 + j)) :
  Calls Tryz.prog 125 #[.slice (some ⟨g,0,none⟩) n c,.int .i64 i,.slice (some ⟨vb,0,none⟩) m vc] w fun e w' =>
   ∃ c',e=.returned (.slice (some ⟨w.heap.size,0,none⟩) (n + m) c')∧OwnS w' base 56 3 (.slice (some ⟨w.heap.size,0,none⟩) (n + m) c') (n + m) F'∧w.grownBy w' none:=by
 obtain ⟨i0,hi0,hz0,hzs,hzb⟩:=info_parts Tryz.infoMHand
 have hsz : (Tryz.prog.info? 56).map (·.size)=some 3:=by rw [hi0]; simp [hzs]
 obtain ⟨cur,hr,hb,hnc,hcm,hcl,hcur⟩:=hO.row
 have hlt:=hr.lt
 have hvlt:=hv.lt
 obtain ⟨cs0,hcs0⟩ : ∃ cs0,cs0=cellsF (i * 3) F:=⟨_,rfl⟩
 obtain ⟨cs1,hcs1⟩ : ∃ cs1,cs1=cellsF ((n - i) * 3) (fun j=>F (i * 3 + j)):=⟨_,rfl⟩
 obtain ⟨cs2,hcs2⟩ : ∃ cs2,cs2=cellsF (m * 3) V:=⟨_,rfl⟩
 have hl0 : cs0.length=i * 3:=by rw [hcs0,cellsF_length]
 have hl1 : cs1.length=(n - i) * 3:=by rw [hcs1,cellsF_length]
 have hl2 : cs2.length=m * 3:=by rw [hcs2,cellsF_length]
 have hkk : (n : Int) + (m : Int) - (i : Int)=((n + m - i : Nat) : Int):=by omega
 have hik : i + (n + m - i)=n + m:=by omega
 have hold : (Builtin.firstCells i0.size i (.slice (some ⟨g,0,none⟩) i c)).run Tryz.prog w.drew=.ok cs0.toArray w.drew:=by
  rw [hzs]
  refine run_firstCells_some w.drew 3 i ⟨g,0,none⟩ i c cs0 hl0 fun j v hj=>?_
  rw [hcs0] at hj
  obtain ⟨hj1,hj2⟩:=cellsF_inv hj
  rw [Addr.add_lit,Nat.zero_add]
  exact hr.drew.cell (hj2▸hcur _ (by omega))
 obtain ⟨G,hG⟩ : ∃ G,G=grownCap w (n + m) c 56:=⟨_,rfl⟩
 have hGn : n + m≤G:=by rw [hG]; exact grownCap_ge w _ _ _
 have hG63 : G≤maxLen:=by rw [hG]; exact grownCap_le_maxLen w (n + m) c 56 (by unfold maxLen; omega)
 obtain ⟨ROW,hROW⟩ : ∃ ROW : List Value,ROW=cs0 ++ (Builtin.zeroCells (.agg #[.int .i64 0,.int .i64 0,.int .i64 0] : Value).cells (n + m - i)).toList ++ (Builtin.zeroCells (.agg #[.int .i64 0,.int .i64 0,.int .i64 0] : Value).cells (G - (n + m))).toList:=⟨_,rfl⟩
 have hzc : (.agg #[.int .i64 0,.int .i64 0,.int .i64 0] : Value).cells.size=3:=rfl
 have hRl : ROW.length=G * 3:=by
  rw [hROW,List.length_append,List.length_append,zeroCells_F,zeroCells_F,cellsF_length,cellsF_length,hl0,hzc]
  omega
 obtain ⟨W1,hW1⟩ : ∃ W1,W1=w.drew.alloc (.cells ROW.toArray 56):=⟨_,rfl⟩
 have hrz : ∀ ty,(Builtin.append_ #[26,3] ty #[.slice (some ⟨g,0,none⟩) i c,.int .i64 ((n : Int) + (m : Int) - (i : Int))]).run Tryz.prog w=.ok (.slice (some ⟨w.heap.size,0,none⟩) (n + m) G) W1:=fun ty=>by
  have h:=Lib.run_append_grow_zeros w 26 3 ty 56 i0 _ .i64 .i64 Tryz.underlying26 Tryz.underlying3 hi0 hz0 (some ⟨g,0,none⟩) i c cs0 hold (n + m - i) (by omega) (by omega) (by omega) (by omega) (by rw [hzb]; omega) (by rw [hzb,hik]; exact growslice_fits hroom (by omega))
  rw [hik,← hG] at h
  rw [hkk,hW1,hROW,h]
  exact congrArg (fun X=>Result.ok _ (w.drew.alloc (.cells X _))) (Array.ext' (by simp))
 have hr1 : RowW W1 w.heap.size 56 ROW:=by rw [hW1]; exact heap_alloc_new w.drew _
 have hg1 : w.grownBy W1 none:=by rw [hW1]; exact (grownBy_drew w _).trans (World.grownBy_alloc _ _ _)
 have hv1 : RowW W1 vb TV Lv:=hv.grown hg1 (by simp)
 have hs1 : RowW W1 g 56 cur:=hr.grown hg1 (by simp)
 have hfit2 : i * 3 + cs2.length≤ROW.length:=by rw [hRl,hl2]; omega
 obtain ⟨W2,hW2⟩ : ∃ W2,W2=W1.setRow w.heap.size (splice ROW (i * 3) cs2).toArray:=⟨_,rfl⟩
 have hcp2 : ∀ ty dc,(Builtin.copy_ #[26,26] ty #[.slice (some ⟨w.heap.size,i * 3,none⟩) (n + m - i) dc,.slice (some ⟨vb,0,none⟩) m vc]).run Tryz.prog W1=.ok (goInt (m : Int)) W2:=fun ty dc=>by
  rw [hW2]
  refine run_copyS W1 _ _ ty 56 3 w.heap.size _ _ _ _ _ _ _ 56 cs2 m Tryz.underlying26 hsz hr1 (by simp only [Nat.min_def]; split <;> omega) hl2 (fun j v hj=>?_) hfit2 (hcs2▸cellsF_one h1V)
  rw [hcs2] at hj
  obtain ⟨hj1,hj2⟩:=cellsF_inv hj
  rw [Addr.add_lit,Nat.zero_add]
  exact hv1.cell (hj2▸hV _ hj1)
 have hr2 : RowW W2 w.heap.size 56 (splice ROW (i * 3) cs2):=hW2▸hr1.set
 have hg2 : W1.grownBy W2 (some w.heap.size):=hW2▸grownBy_setRow _ _ _
 have hs2 : RowW W2 g 56 cur:=hs1.grown hg2 (fun h=>by injection h with h; omega)
 have hle2 : (splice ROW (i * 3) cs2).length=ROW.length:=length_splice _ _ _ hfit2
 have hfit3 : (i + m) * 3 + cs1.length≤(splice ROW (i * 3) cs2).length:=by rw [hle2,hRl,hl1]; omega
 have hcp3 : ∀ ty dc sc,(Builtin.copy_ #[26,26] ty #[.slice (some ⟨w.heap.size,(i + m) * 3,none⟩) (n + m - (i + m)) dc,.slice (some ⟨g,i * 3,none⟩) (n - i) sc]).run Tryz.prog W2.drew=.ok (goInt ((n - i : Nat) : Int)) (W2.drew.setRow w.heap.size (splice (splice ROW (i * 3) cs2) ((i + m) * 3) cs1).toArray):=fun ty dc sc=>by
  refine run_copyS W2.drew _ _ ty 56 3 w.heap.size _ _ _ _ _ _ _ 56 cs1 (n - i) Tryz.underlying26 hsz hr2.drew (by simp only [Nat.min_def]; split <;> omega) hl1 (fun j v hj=>?_) hfit3 (hcs1▸cellsF_one fun j hj=>h1F _ (by omega))
  rw [hcs1] at hj
  obtain ⟨hj1,hj2⟩:=cellsF_inv hj
  rw [Addr.add_lit]
  exact hs2.drew.cell (hj2▸hcur _ (by omega))
 have hfin : OwnS (W2.drew.setRow w.heap.size (splice (splice ROW (i * 3) cs2) ((i + m) * 3) cs1).toArray) base 56 3 (.slice (some ⟨w.heap.size,0,none⟩) (n + m) G) (n + m) F':=by
  refine OwnS.ofRow hr2.drew.set (by omega) hGn hG63 (by rw [length_splice _ _ _ hfit3,hle2,hRl]) (fun j hj=>?_)
  rw [splice_get hfit3]
  by_cases c1 : (i + m) * 3≤j∧j < (i + m) * 3 + cs1.length
  ·rw [if_pos c1,hcs1,cellsF_get (by omega),← f3 _ (by omega)]
   congr 2
   omega
  ·rw [if_neg c1,splice_get hfit2]
   by_cases c2 : i * 3≤j∧j < i * 3 + cs2.length
   ·rw [if_pos c2,hcs2,cellsF_get (by omega),← f2 _ (by omega)]
    congr 2
    omega
   ·rw [if_neg c2,hROW,List.append_assoc,List.getElem?_append_left (by omega),hcs0,cellsF_get (by omega),f1 j (by omega)]
 have hgf : w.grownBy (W2.drew.setRow w.heap.size (splice (splice ROW (i * 3) cs2) ((i + m) * 3) cs1).toArray) none:=by
  have h:=(hg2.trans (grownBy_drew W2 _)).trans (grownBy_setRow W2.drew w.heap.size (splice (splice ROW (i * 3) cs2) ((i + m) * 3) cs1).toArray)
  refine ⟨h.os.trans hg1.os,h.tape.trans hg1.tape,h.output.trans hg1.output,Nat.le_trans hg1.size h.size,fun k hk _=>?_⟩
  rw [h.block k (Nat.lt_of_lt_of_le hk hg1.size) (fun e=>by injection e with e; omega),hg1.block k hk (by simp)]
 have HF:=Lib.hid (And.intro hfin hgf)
 have hz1 : ¬ ((m : Int)=0):=by omega
 have hz2 : ¬ ((i : Int)=(n : Int)):=by omega
 unfold maxLen at hcm hG63
 have hw1 : IntKind.i64.wrap ((i : Int) + (m : Int))=(i : Int) + (m : Int):=by rw [IntKind.wrap_i64]; omega
 have hb1 : (0 : Int)≤(i : Int) + (m : Int):=by omega
 have hin : i≤n:=by omega
 have htn : ((i : Int) + (m : Int)).toNat=i + m:=by omega
 have hGi : ¬ (G=i):=by omega
 have hGim : ¬ (G=i + m):=by omega
 have hci : ¬ (c=i):=by omega
 have hz3 : (c : Int) < (n : Int) + (m : Int):=by omega
 have hb3 : (i : Int)≤(n : Int):=by omega
 clear hfin hgf hcs1 hcs2 hW1 hW2 hl1 hl2 hfit3 hfit2 hr1 hg1 hv1 hle2 hO hV h1F h1V f1 f2 f3 hcur hcl hv hr hsz hzs hzb hz0 hi0 hkk hik hold hROW hG hRl hs1 hr2 hg2 hs2 hcs0 hl0 hzc hlt hvlt hb
 go_enter Tryz.func125,Tryz.ntmps125
 go_wp2_with (first
  |(at_builtin; refine Lib.wpList_append_run _ rfl _ _ _ _ rfl _ _ rfl rfl _ _ (hrz _) ?_)
  |(with_reducible refine wpList_copyI _ rfl _ _ 26 26 rfl _ _ rfl rfl (hcp2 _ _) ?_))
 go_region_law (refine step_copyI rfl _ _ 26 26 rfl _ _ (by simp [Act.eval,Act.put]) (by simp [Act.eval,Act.put]) (hcp3 _ _ _) ?_)
 go_wp2
 go_ret
 exact ⟨G,rfl,HF.out.1,HF.out.2⟩
set_option maxHeartbeats 4000000 in
set_option maxRecDepth 100000 in
/-- At the end. -/
theorem insHand_end (base n c m vc : Nat) (A B : Option Addr) (F V F' : Nat→Value) (w : World) (hm : 0 < m) (hbig : n + m≤2000000) (hbase : base≤w.heap.size)
  (hO : OwnS w base 56 3 (.slice A n c) n F) (hv : SlR w B m 3 V) (h1V : ∀ j,j < m * 3→(V j).oneCell'=true)
  (f1 : ∀ j,j < n * 3→F' j=F j) (f2 : ∀ j,j < m * 3→F' (n * 3 + j)=V j) :
  Calls Tryz.prog 125 #[.slice A n c,.int .i64 n,.slice B m vc] w fun e w' =>
   ∃ A' c',e=.returned (.slice A' (n + m) c')∧OwnS w' base 56 3 (.slice A' (n + m) c') (n + m) F'∧w.grownBy w' (Value.slice A n c).ownBlock:=by
 obtain ⟨i0,hi0,hz0,hzs,hzb⟩:=info_parts Tryz.infoMHand
 have hz1 : ¬ ((m : Int)=0):=by omega
 have HV:=Lib.hid (And.intro hO (And.intro hv (And.intro h1V (And.intro f1 f2))))
 have hfm:=hO.form
 obtain ⟨A',c',e1,hnc,_⟩:=hfm
 injection e1 with e1 e2 e3
 subst e1 e3
 clear e2 hO hv h1V f1 f2
 rw [own_blk]
 have hcs : ¬ c=n∨c=n:=by omega
 rcases hcs with hcn | rfl
 all_goals
  go_enter Tryz.func125,Tryz.ntmps125
  go_wp2_with (at_builtin; refine wpList_pushAll rfl _ _ 26 rfl base 56 i0 (.agg #[.int .i64 0,.int .i64 0,.int .i64 0]) 3 24 Tryz.underlying26 hi0 hz0 hzs hzb rfl (by decide) _ _ F rfl HV.out.1 B m vc V rfl HV.out.2.1 HV.out.2.2.1 ?qc4 ?qc5 hbase F' HV.out.2.2.2.1 HV.out.2.2.2.2 _ rfl ?_)
  case qc4=>unfold maxLen; omega
  case qc5=>omega
  intro A'' c'' w1 hown hgrow hE hor
  rw [own_blk] at hgrow
  have HG:=Lib.hid (And.intro hown hgrow)
  clear hown hgrow hE hor
  go_wp2
  go_ret
  exact ⟨A'',c'',rfl,HG.out.1,HG.out.2⟩
/-- slices.Insert: at any place. -/
theorem insHand_any (base n c i vb m vc : Nat) (A : Option Addr) (F V F' : Nat→Value) (TV : TypeId) (Lv : List Value) (w : World) (hi : i≤n) (hm : 0 < m) (hbig : n + m≤2000000) (hbase : base≤w.heap.size) (hvb : some vb≠A.map (·.block))
  (hO : OwnS w base 56 3 (.slice A n c) n F) (hv : RowW w vb TV Lv) (hV : ∀ j,j < m * 3→Lv[j]?=some (V j)) (h1F : ∀ j,j < n * 3→(F j).oneCell'=true) (h1V : ∀ j,j < m * 3→(V j).oneCell'=true)
  (f1 : ∀ j,j < i * 3→F' j=F j) (f2 : ∀ j,j < m * 3→F' (i * 3 + j)=V j) (f3 : ∀ j,j < (n - i) * 3→F' ((i + m) * 3 + j)=F (i * 3 + j)) :
  Calls Tryz.prog 125 #[.slice A n c,.int .i64 i,.slice (some ⟨vb,0,none⟩) m vc] w fun e w' =>
   ∃ A' c',e=.returned (.slice A' (n + m) c')∧OwnS w' base 56 3 (.slice A' (n + m) c') (n + m) F'∧w.grownBy w' (A.map (·.block)):=by
 rcases Nat.lt_or_ge i n with h | h
 ·obtain ⟨g,c',e1⟩:=hO.form' (by omega)
  injection e1 with e1 e2 e3
  subst e1 e3
  rcases Nat.lt_or_ge c (n + m) with hc | hc
  ·refine (insHand_grow base g n c i vb m vc F V F' TV Lv w h hm hc hbig hO hv hV h1F h1V f1 f2 f3).mono fun e w' ⟨c',h1,h2,h3⟩=>⟨_,c',h1,h2,?_⟩
   exact ⟨h3.os,h3.tape,h3.output,h3.size,fun k hk _=>h3.block k hk (by simp)⟩
  ·exact (insHand_shift base g n c i vb m vc F V F' TV Lv w h hm hc (fun e=>hvb (by rw [e]; rfl)) hO hv hV h1F h1V f1 f2 f3).mono fun e w' ⟨h1,h2,h3⟩=>⟨_,c,h1,h2,h3⟩
 ·obtain rfl : i=n:=by omega
  refine (insHand_end base i c m vc A (some ⟨vb,0,none⟩) F V F' w hm hbig hbase hO (fun _=>⟨vb,0,rfl,fun j hj=>?_⟩) h1V f1 f2).mono fun e w' ⟨A',c',h1,h2,h3⟩=>⟨A',c',h1,h2,by rw [own_blk] at h3; exact h3⟩
  rw [Nat.zero_add]
  exact hv.cell (hV j hj)
set_option maxHeartbeats 4000000 in
set_option maxRecDepth 100000 in
/-- There is room, and something behind the place: in place. -/
theorem insHold_shift (base g n c i vb m vc : Nat) (F V F' : Nat→Value) (TV : TypeId) (Lv : List Value) (w : World) (hi : i < n) (hm : 0 < m) (hroom : n + m≤c) (hvb : vb≠g)
  (hO : OwnS w base 51 8 (.slice (some ⟨g,0,none⟩) n c) n F) (hv : RowW w vb TV Lv) (hV : ∀ j,j < m * 8→Lv[j]?=some (V j)) (h1F : ∀ j,j < n * 8→(F j).oneCell'=true) (h1V : ∀ j,j < m * 8→(V j).oneCell'=true)
  (f1 : ∀ j,j < i * 8→F' j=F j) (f2 : ∀ j,j < m * 8→F' (i * 8 + j)=V j) (f3 : ∀ j,j < (n - i) * 8→F' ((i + m) * 8 + j)=F (i * 8 + j)) :
  Calls Tryz.prog 99 #[.slice (some ⟨g,0,none⟩) n c,.int .i64 i,.slice (some ⟨vb,0,none⟩) m vc] w fun e w' =>
   e=.returned (.slice (some ⟨g,0,none⟩) (n + m) c)∧OwnS w' base 51 8 (.slice (some ⟨g,0,none⟩) (n + m) c) (n + m) F'∧w.grownBy w' (some g):=by
 obtain ⟨i0,hi0,hz0,hzs,hzb⟩:=info_parts Tryz.infoMHold
 have hsz : (Tryz.prog.info? 51).map (·.size)=some 8:=by rw [hi0]; simp [hzs]
 obtain ⟨cur,hr,hb,hnc,hcm,hcl,hcur⟩:=hO.row
 have hov : ∀ lb cb,Sem.run Tryz.prog (callFunc 131 #[.slice (some ⟨vb,0,none⟩) m vc,.slice (some ⟨g,(i + m) * 8,none⟩) lb cb]) w=.ok (.value (.bool false)) w:=fun lb cb =>
  overHold w ⟨vb,0,none⟩ ⟨g,(i + m) * 8,none⟩ m vc lb cb hvb TV 51 Lv.length cur.length hv.shape hr.shape (by omega) (hv.frozen _) (hv.frozen _)
 obtain ⟨cs1,hcs1⟩ : ∃ cs1,cs1=cellsF ((n - i) * 8) (fun j=>F (i * 8 + j)):=⟨_,rfl⟩
 obtain ⟨cs2,hcs2⟩ : ∃ cs2,cs2=cellsF (m * 8) V:=⟨_,rfl⟩
 have hl1 : cs1.length=(n - i) * 8:=by rw [hcs1,cellsF_length]
 have hl2 : cs2.length=m * 8:=by rw [hcs2,cellsF_length]
 obtain ⟨W1,hW1⟩ : ∃ W1,W1=w.drew.setRow g (splice cur ((i + m) * 8) cs1).toArray:=⟨_,rfl⟩
 have hfit1 : (i + m) * 8 + cs1.length≤cur.length:=by rw [hl1,hcl]; omega
 have hr1 : RowW W1 g 51 (splice cur ((i + m) * 8) cs1):=hW1▸hr.drew.set
 have hg1 : w.grownBy W1 (some g):=hW1▸(grownBy_drew w _).trans (grownBy_setRow _ _ _)
 have hv1 : RowW W1 vb TV Lv:=hv.grown hg1 (fun h=>hvb (by injection h))
 have hle1 : (splice cur ((i + m) * 8) cs1).length=cur.length:=length_splice _ _ _ hfit1
 have hfit2 : i * 8 + cs2.length≤(splice cur ((i + m) * 8) cs1).length:=by rw [hle1,hl2,hcl]; omega
 have hcp1 : ∀ ty dc sc,(Builtin.copy_ #[27,27] ty #[.slice (some ⟨g,(i + m) * 8,none⟩) (n + m - (i + m)) dc,.slice (some ⟨g,i * 8,none⟩) (n + m - i) sc]).run Tryz.prog w.drew=.ok (goInt ((n - i : Nat) : Int)) W1:=fun ty dc sc=>by
  rw [hW1]
  refine run_copyS w.drew _ _ ty 51 8 g _ _ _ _ _ _ cur 51 cs1 (n - i) Tryz.underlying27 hsz hr.drew (by simp only [Nat.min_def]; split <;> omega) hl1 (fun j v hj=>?_) hfit1 (hcs1▸cellsF_one fun j hj=>h1F _ (by omega))
  rw [hcs1] at hj
  obtain ⟨hj1,hj2⟩:=cellsF_inv hj
  rw [Addr.add_lit]
  exact hr.drew.cell (hj2▸hcur _ (by omega))
 have hcp2 : ∀ ty dc,(Builtin.copy_ #[27,27] ty #[.slice (some ⟨g,i * 8,none⟩) (n + m - i) dc,.slice (some ⟨vb,0,none⟩) m vc]).run Tryz.prog W1=.ok (goInt (m : Int)) (W1.setRow g (splice (splice cur ((i + m) * 8) cs1) (i * 8) cs2).toArray):=fun ty dc=>by
  refine run_copyS W1 _ _ ty 51 8 g _ _ _ _ _ _ _ 51 cs2 m Tryz.underlying27 hsz hr1 (by simp only [Nat.min_def]; split <;> omega) hl2 (fun j v hj=>?_) hfit2 (hcs2▸cellsF_one h1V)
  rw [hcs2] at hj
  obtain ⟨hj1,hj2⟩:=cellsF_inv hj
  rw [Addr.add_lit,Nat.zero_add]
  exact hv1.cell (hj2▸hV _ hj1)
 have hfin : OwnS (W1.setRow g (splice (splice cur ((i + m) * 8) cs1) (i * 8) cs2).toArray) base 51 8 (.slice (some ⟨g,0,none⟩) (n + m) c) (n + m) F':=by
  refine OwnS.ofRow hr1.set hb hroom hcm (by rw [length_splice _ _ _ hfit2,hle1,hcl]) (fun j hj=>?_)
  rw [splice_get hfit2]
  by_cases c1 : i * 8≤j∧j < i * 8 + cs2.length
  ·rw [if_pos c1,hcs2,cellsF_get (by omega),← f2 _ (by omega)]
   congr 2
   omega
  ·rw [if_neg c1,splice_get hfit1]
   by_cases c2 : (i + m) * 8≤j∧j < (i + m) * 8 + cs1.length
   ·rw [if_pos c2,hcs1,cellsF_get (by omega),← f3 _ (by omega)]
    congr 2
    omega
   ·rw [if_neg c2,hcur j (by omega),f1 j (by omega)]
 have hgf : w.grownBy (W1.setRow g (splice (splice cur ((i + m) * 8) cs1) (i * 8) cs2).toArray) (some g):=hg1.trans (grownBy_setRow _ _ _)
 have HF:=Lib.hid (And.intro hfin hgf)
 have hz1 : ¬ ((m : Int)=0):=by omega
 have hz2 : ¬ ((i : Int)=(n : Int)):=by omega
 unfold maxLen at hcm
 have hw1 : IntKind.i64.wrap ((i : Int) + (m : Int))=(i : Int) + (m : Int):=by rw [IntKind.wrap_i64]; omega
 have hb1 : (0 : Int)≤(i : Int) + (m : Int):=by omega
 have hin : i≤n:=by omega
 have htn : ((i : Int) + (m : Int)).toNat=i + m:=by omega
 have hb2 : ¬ (c=i + m):=by omega
 have hb3 : (i : Int)≤(n : Int) + (m : Int):=by omega
 have hb4 : ¬ (c=i):=by omega
 clear hfin hgf hcs1 hcs2 hW1 hl1 hl2 hfit1 hfit2 hr1 hg1 hv1 hle1 hO hV h1F h1V f1 f2 f3 hcur hcl hv hr hsz hzs hzb hz0 hi0
 go_enter Tryz.func99,Tryz.ntmps99
 go_wp2_with (simp only [hov])
 go_region_law (refine step_copyI rfl _ _ 27 27 rfl _ _ (by simp [Act.eval,Act.put]) (by simp [Act.eval,Act.put]) (hcp1 _ _ _) ?_)
 go_wp2_with (with_reducible refine wpList_copyI _ rfl _ _ 27 27 rfl _ _ rfl rfl (hcp2 _ _) ?_)
 go_ret
 exact ⟨rfl,HF.out.1,HF.out.2⟩
set_option maxHeartbeats 4000000 in
set_option maxRecDepth 100000 in
/-- There is no room, and something behind the place: a new row. -/
theorem insHold_grow (base g n c i vb m vc : Nat) (F V F' : Nat→Value) (TV : TypeId) (Lv : List Value) (w : World) (hi : i < n) (hm : 0 < m) (hroom : c < n + m) (hbig : n + m≤2000000)
  (hO : OwnS w base 51 8 (.slice (some ⟨g,0,none⟩) n c) n F) (hv : RowW w vb TV Lv) (hV : ∀ j,j < m * 8→Lv[j]?=some (V j)) (h1F : ∀ j,j < n * 8→(F j).oneCell'=true) (h1V : ∀ j,j < m * 8→(V j).oneCell'=true)
  (f1 : ∀ j,j < i * 8→F' j=F j) (f2 : ∀ j,j < m * 8→F' (i * 8 + j)=V j) (f3 : ∀ j,j < (n - i) * 8→F' ((i + m) * 8 + j)=F (i * 8 + j)) :
  Calls Tryz.prog 99 #[.slice (some ⟨g,0,none⟩) n c,.int .i64 i,.slice (some ⟨vb,0,none⟩) m vc] w fun e w' =>
   ∃ c',e=.returned (.slice (some ⟨w.heap.size,0,none⟩) (n + m) c')∧OwnS w' base 51 8 (.slice (some ⟨w.heap.size,0,none⟩) (n + m) c') (n + m) F'∧w.grownBy w' none:=by
 obtain ⟨i0,hi0,hz0,hzs,hzb⟩:=info_parts Tryz.infoMHold
 have hsz : (Tryz.prog.info? 51).map (·.size)=some 8:=by rw [hi0]; simp [hzs]
 obtain ⟨cur,hr,hb,hnc,hcm,hcl,hcur⟩:=hO.row
 have hlt:=hr.lt
 have hvlt:=hv.lt
 obtain ⟨cs0,hcs0⟩ : ∃ cs0,cs0=cellsF (i * 8) F:=⟨_,rfl⟩
 obtain ⟨cs1,hcs1⟩ : ∃ cs1,cs1=cellsF ((n - i) * 8) (fun j=>F (i * 8 + j)):=⟨_,rfl⟩
 obtain ⟨cs2,hcs2⟩ : ∃ cs2,cs2=cellsF (m * 8) V:=⟨_,rfl⟩
 have hl0 : cs0.length=i * 8:=by rw [hcs0,cellsF_length]
 have hl1 : cs1.length=(n - i) * 8:=by rw [hcs1,cellsF_length]
 have hl2 : cs2.length=m * 8:=by rw [hcs2,cellsF_length]
 have hkk : (n : Int) + (m : Int) - (i : Int)=((n + m - i : Nat) : Int):=by omega
 have hik : i + (n + m - i)=n + m:=by omega
 have hold : (Builtin.firstCells i0.size i (.slice (some ⟨g,0,none⟩) i c)).run Tryz.prog w.drew=.ok cs0.toArray w.drew:=by
  rw [hzs]
  refine run_firstCells_some w.drew 8 i ⟨g,0,none⟩ i c cs0 hl0 fun j v hj=>?_
  rw [hcs0] at hj
  obtain ⟨hj1,hj2⟩:=cellsF_inv hj
  rw [Addr.add_lit,Nat.zero_add]
  exact hr.drew.cell (hj2▸hcur _ (by omega))
 obtain ⟨G,hG⟩ : ∃ G,G=grownCap w (n + m) c 51:=⟨_,rfl⟩
 have hGn : n + m≤G:=by rw [hG]; exact grownCap_ge w _ _ _
 have hG63 : G≤maxLen:=by rw [hG]; exact grownCap_le_maxLen w (n + m) c 51 (by unfold maxLen; omega)
 obtain ⟨ROW,hROW⟩ : ∃ ROW : List Value,ROW=cs0 ++ (Builtin.zeroCells (.agg #[.int .i64 0,.int .i64 0,.int .i64 0,.int .i64 0,.int .i64 0,.bool false,.int .u64 0,.int .u64 0] : Value).cells (n + m - i)).toList ++ (Builtin.zeroCells (.agg #[.int .i64 0,.int .i64 0,.int .i64 0,.int .i64 0,.int .i64 0,.bool false,.int .u64 0,.int .u64 0] : Value).cells (G - (n + m))).toList:=⟨_,rfl⟩
 have hzc : (.agg #[.int .i64 0,.int .i64 0,.int .i64 0,.int .i64 0,.int .i64 0,.bool false,.int .u64 0,.int .u64 0] : Value).cells.size=8:=rfl
 have hRl : ROW.length=G * 8:=by
  rw [hROW,List.length_append,List.length_append,zeroCells_F,zeroCells_F,cellsF_length,cellsF_length,hl0,hzc]
  omega
 obtain ⟨W1,hW1⟩ : ∃ W1,W1=w.drew.alloc (.cells ROW.toArray 51):=⟨_,rfl⟩
 have hrz : ∀ ty,(Builtin.append_ #[27,3] ty #[.slice (some ⟨g,0,none⟩) i c,.int .i64 ((n : Int) + (m : Int) - (i : Int))]).run Tryz.prog w=.ok (.slice (some ⟨w.heap.size,0,none⟩) (n + m) G) W1:=fun ty=>by
  have h:=Lib.run_append_grow_zeros w 27 3 ty 51 i0 _ .i64 .i64 Tryz.underlying27 Tryz.underlying3 hi0 hz0 (some ⟨g,0,none⟩) i c cs0 hold (n + m - i) (by omega) (by omega) (by omega) (by omega) (by rw [hzb]; omega) (by rw [hzb,hik]; exact growslice_fits hroom (by omega))
  rw [hik,← hG] at h
  rw [hkk,hW1,hROW,h]
  exact congrArg (fun X=>Result.ok _ (w.drew.alloc (.cells X _))) (Array.ext' (by simp))
 have hr1 : RowW W1 w.heap.size 51 ROW:=by rw [hW1]; exact heap_alloc_new w.drew _
 have hg1 : w.grownBy W1 none:=by rw [hW1]; exact (grownBy_drew w _).trans (World.grownBy_alloc _ _ _)
 have hv1 : RowW W1 vb TV Lv:=hv.grown hg1 (by simp)
 have hs1 : RowW W1 g 51 cur:=hr.grown hg1 (by simp)
 have hfit2 : i * 8 + cs2.length≤ROW.length:=by rw [hRl,hl2]; omega
 obtain ⟨W2,hW2⟩ : ∃ W2,W2=W1.setRow w.heap.size (splice ROW (i * 8) cs2).toArray:=⟨_,rfl⟩
 have hcp2 : ∀ ty dc,(Builtin.copy_ #[27,27] ty #[.slice (some ⟨w.heap.size,i * 8,none⟩) (n + m - i) dc,.slice (some ⟨vb,0,none⟩) m vc]).run Tryz.prog W1=.ok (goInt (m : Int)) W2:=fun ty dc=>by
  rw [hW2]
  refine run_copyS W1 _ _ ty 51 8 w.heap.size _ _ _ _ _ _ _ 51 cs2 m Tryz.underlying27 hsz hr1 (by simp only [Nat.min_def]; split <;> omega) hl2 (fun j v hj=>?_) hfit2 (hcs2▸cellsF_one h1V)
  rw [hcs2] at hj
  obtain ⟨hj1,hj2⟩:=cellsF_inv hj
  rw [Addr.add_lit,Nat.zero_add]
  exact hv1.cell (hj2▸hV _ hj1)
 have hr2 : RowW W2 w.heap.size 51 (splice ROW (i * 8) cs2):=hW2▸hr1.set
 have hg2 : W1.grownBy W2 (some w.heap.size):=hW2▸grownBy_setRow _ _ _
 have hs2 : RowW W2 g 51 cur:=hs1.grown hg2 (fun h=>by injection h with h; omega)
 have hle2 : (splice ROW (i * 8) cs2).length=ROW.length:=length_splice _ _ _ hfit2
 have hfit3 : (i + m) * 8 + cs1.length≤(splice ROW (i * 8) cs2).length:=by rw [hle2,hRl,hl1]; omega
 have hcp3 : ∀ ty dc sc,(Builtin.copy_ #[27,27] ty #[.slice (some ⟨w.heap.size,(i + m) * 8,none⟩) (n + m - (i + m)) dc,.slice (some ⟨g,i * 8,none⟩) (n - i) sc]).run Tryz.prog W2.drew=.ok (goInt ((n - i : Nat) : Int)) (W2.drew.setRow w.heap.size (splice (splice ROW (i * 8) cs2) ((i + m) * 8) cs1).toArray):=fun ty dc sc=>by
  refine run_copyS W2.drew _ _ ty 51 8 w.heap.size _ _ _ _ _ _ _ 51 cs1 (n - i) Tryz.underlying27 hsz hr2.drew (by simp only [Nat.min_def]; split <;> omega) hl1 (fun j v hj=>?_) hfit3 (hcs1▸cellsF_one fun j hj=>h1F _ (by omega))
  rw [hcs1] at hj
  obtain ⟨hj1,hj2⟩:=cellsF_inv hj
  rw [Addr.add_lit]
  exact hs2.drew.cell (hj2▸hcur _ (by omega))
 have hfin : OwnS (W2.drew.setRow w.heap.size (splice (splice ROW (i * 8) cs2) ((i + m) * 8) cs1).toArray) base 51 8 (.slice (some ⟨w.heap.size,0,none⟩) (n + m) G) (n + m) F':=by
  refine OwnS.ofRow hr2.drew.set (by omega) hGn hG63 (by rw [length_splice _ _ _ hfit3,hle2,hRl]) (fun j hj=>?_)
  rw [splice_get hfit3]
  by_cases c1 : (i + m) * 8≤j∧j < (i + m) * 8 + cs1.length
  ·rw [if_pos c1,hcs1,cellsF_get (by omega),← f3 _ (by omega)]
   congr 2
   omega
  ·rw [if_neg c1,splice_get hfit2]
   by_cases c2 : i * 8≤j∧j < i * 8 + cs2.length
   ·rw [if_pos c2,hcs2,cellsF_get (by omega),← f2 _ (by omega)]
    congr 2
    omega
   ·rw [if_neg c2,hROW,List.append_assoc,List.getElem?_append_left (by omega),hcs0,cellsF_get (by omega),f1 j (by omega)]
 have hgf : w.grownBy (W2.drew.setRow w.heap.size (splice (splice ROW (i * 8) cs2) ((i + m) * 8) cs1).toArray) none:=by
  have h:=(hg2.trans (grownBy_drew W2 _)).trans (grownBy_setRow W2.drew w.heap.size (splice (splice ROW (i * 8) cs2) ((i + m) * 8) cs1).toArray)
  refine ⟨h.os.trans hg1.os,h.tape.trans hg1.tape,h.output.trans hg1.output,Nat.le_trans hg1.size h.size,fun k hk _=>?_⟩
  rw [h.block k (Nat.lt_of_lt_of_le hk hg1.size) (fun e=>by injection e with e; omega),hg1.block k hk (by simp)]
 have HF:=Lib.hid (And.intro hfin hgf)
 have hz1 : ¬ ((m : Int)=0):=by omega
 have hz2 : ¬ ((i : Int)=(n : Int)):=by omega
 unfold maxLen at hcm hG63
 have hw1 : IntKind.i64.wrap ((i : Int) + (m : Int))=(i : Int) + (m : Int):=by rw [IntKind.wrap_i64]; omega
 have hb1 : (0 : Int)≤(i : Int) + (m : Int):=by omega
 have hin : i≤n:=by omega
 have htn : ((i : Int) + (m : Int)).toNat=i + m:=by omega
 have hGi : ¬ (G=i):=by omega
 have hGim : ¬ (G=i + m):=by omega
 have hci : ¬ (c=i):=by omega
 have hz3 : (c : Int) < (n : Int) + (m : Int):=by omega
 have hb3 : (i : Int)≤(n : Int):=by omega
 clear hfin hgf hcs1 hcs2 hW1 hW2 hl1 hl2 hfit3 hfit2 hr1 hg1 hv1 hle2 hO hV h1F h1V f1 f2 f3 hcur hcl hv hr hsz hzs hzb hz0 hi0 hkk hik hold hROW hG hRl hs1 hr2 hg2 hs2 hcs0 hl0 hzc hlt hvlt hb
 go_enter Tryz.func99,Tryz.ntmps99
 go_wp2_with (first
  |(at_builtin; refine Lib.wpList_append_run _ rfl _ _ _ _ rfl _ _ rfl rfl _ _ (hrz _) ?_)
  |(with_reducible refine wpList_copyI _ rfl _ _ 27 27 rfl _ _ rfl rfl (hcp2 _ _) ?_))
 go_region_law (refine step_copyI rfl _ _ 27 27 rfl _ _ (by simp [Act.eval,Act.put]) (by simp [Act.eval,Act.put]) (hcp3 _ _ _) ?_)
 go_wp2
 go_ret
 exact ⟨G,rfl,HF.out.1,HF.out.2⟩
set_option maxHeartbeats 4000000 in
set_option maxRecDepth 100000 in
/-- At the end. -/
theorem insHold_end (base n c m vc : Nat) (A B : Option Addr) (F V F' : Nat→Value) (w : World) (hm : 0 < m) (hbig : n + m≤2000000) (hbase : base≤w.heap.size)
  (hO : OwnS w base 51 8 (.slice A n c) n F) (hv : SlR w B m 8 V) (h1V : ∀ j,j < m * 8→(V j).oneCell'=true)
  (f1 : ∀ j,j < n * 8→F' j=F j) (f2 : ∀ j,j < m * 8→F' (n * 8 + j)=V j) :
  Calls Tryz.prog 99 #[.slice A n c,.int .i64 n,.slice B m vc] w fun e w' =>
   ∃ A' c',e=.returned (.slice A' (n + m) c')∧OwnS w' base 51 8 (.slice A' (n + m) c') (n + m) F'∧w.grownBy w' (Value.slice A n c).ownBlock:=by
 obtain ⟨i0,hi0,hz0,hzs,hzb⟩:=info_parts Tryz.infoMHold
 have hz1 : ¬ ((m : Int)=0):=by omega
 have HV:=Lib.hid (And.intro hO (And.intro hv (And.intro h1V (And.intro f1 f2))))
 have hfm:=hO.form
 obtain ⟨A',c',e1,hnc,_⟩:=hfm
 injection e1 with e1 e2 e3
 subst e1 e3
 clear e2 hO hv h1V f1 f2
 rw [own_blk]
 have hcs : ¬ c=n∨c=n:=by omega
 rcases hcs with hcn | rfl
 all_goals
  go_enter Tryz.func99,Tryz.ntmps99
  go_wp2_with (at_builtin; refine wpList_pushAll rfl _ _ 27 rfl base 51 i0 (.agg #[.int .i64 0,.int .i64 0,.int .i64 0,.int .i64 0,.int .i64 0,.bool false,.int .u64 0,.int .u64 0]) 8 64 Tryz.underlying27 hi0 hz0 hzs hzb rfl (by decide) _ _ F rfl HV.out.1 B m vc V rfl HV.out.2.1 HV.out.2.2.1 ?qc4 ?qc5 hbase F' HV.out.2.2.2.1 HV.out.2.2.2.2 _ rfl ?_)
  case qc4=>unfold maxLen; omega
  case qc5=>omega
  intro A'' c'' w1 hown hgrow hE hor
  rw [own_blk] at hgrow
  have HG:=Lib.hid (And.intro hown hgrow)
  clear hown hgrow hE hor
  go_wp2
  go_ret
  exact ⟨A'',c'',rfl,HG.out.1,HG.out.2⟩
/-- slices.Insert: at any place. -/
theorem insHold_any (base n c i vb m vc : Nat) (A : Option Addr) (F V F' : Nat→Value) (TV : TypeId) (Lv : List Value) (w : World) (hi : i≤n) (hm : 0 < m) (hbig : n + m≤2000000) (hbase : base≤w.heap.size) (hvb : some vb≠A.map (·.block))
  (hO : OwnS w base 51 8 (.slice A n c) n F) (hv : RowW w vb TV Lv) (hV : ∀ j,j < m * 8→Lv[j]?=some (V j)) (h1F : ∀ j,j < n * 8→(F j).oneCell'=true) (h1V : ∀ j,j < m * 8→(V j).oneCell'=true)
  (f1 : ∀ j,j < i * 8→F' j=F j) (f2 : ∀ j,j < m * 8→F' (i * 8 + j)=V j) (f3 : ∀ j,j < (n - i) * 8→F' ((i + m) * 8 + j)=F (i * 8 + j)) :
  Calls Tryz.prog 99 #[.slice A n c,.int .i64 i,.slice (some ⟨vb,0,none⟩) m vc] w fun e w' =>
   ∃ A' c',e=.returned (.slice A' (n + m) c')∧OwnS w' base 51 8 (.slice A' (n + m) c') (n + m) F'∧w.grownBy w' (A.map (·.block)):=by
 rcases Nat.lt_or_ge i n with h | h
 ·obtain ⟨g,c',e1⟩:=hO.form' (by omega)
  injection e1 with e1 e2 e3
  subst e1 e3
  rcases Nat.lt_or_ge c (n + m) with hc | hc
  ·refine (insHold_grow base g n c i vb m vc F V F' TV Lv w h hm hc hbig hO hv hV h1F h1V f1 f2 f3).mono fun e w' ⟨c',h1,h2,h3⟩=>⟨_,c',h1,h2,?_⟩
   exact ⟨h3.os,h3.tape,h3.output,h3.size,fun k hk _=>h3.block k hk (by simp)⟩
  ·exact (insHold_shift base g n c i vb m vc F V F' TV Lv w h hm hc (fun e=>hvb (by rw [e]; rfl)) hO hv hV h1F h1V f1 f2 f3).mono fun e w' ⟨h1,h2,h3⟩=>⟨_,c,h1,h2,h3⟩
 ·obtain rfl : i=n:=by omega
  refine (insHold_end base i c m vc A (some ⟨vb,0,none⟩) F V F' w hm hbig hbase hO (fun _=>⟨vb,0,rfl,fun j hj=>?_⟩) h1V f1 f2).mono fun e w' ⟨A',c',h1,h2,h3⟩=>⟨A',c',h1,h2,by rw [own_blk] at h3; exact h3⟩
  rw [Nat.zero_add]
  exact hv.cell (hV j hj)
end Go.Proofs.YtoolenhnhlfhmaaGreatDoor
