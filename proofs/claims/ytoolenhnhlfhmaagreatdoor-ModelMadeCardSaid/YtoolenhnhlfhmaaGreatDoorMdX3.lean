/- Walks: slices.Replace, of runs: a new row; all behind the place. -/
import Derived.Test.YtoolenhnhlfhmaaGreatDoorGI
namespace Go.Proofs.YtoolenhnhlfhmaaGreatDoor
open Go.RowKit Go.Sort
set_option linter.unusedVariables false
set_option linter.unusedSimpArgs false
set_option maxHeartbeats 4000000 in
set_option maxRecDepth 100000 in
/-- There is no room: a new row. -/
theorem repRun_grow (base g n c i j m vc : Nat) (B : Option Addr) (F V F' : Nat→Value) (w : World) (hij : i < j) (hj : j < n) (hroom : c < i + m + (n - j)) (hn : n + m≤2000000)
  (hO : OwnS w base 54 2 (.slice (some ⟨g,0,none⟩) n c) n F) (hv : VarR w (some ⟨g,0,none⟩) B m vc 2 V) (h1F : ∀ k,k < n * 2→(F k).oneCell'=true) (h1V : ∀ k,k < m * 2→(V k).oneCell'=true)
  (f1 : ∀ k,k < i * 2→F' k=F k) (f2 : ∀ k,k < m * 2→F' (i * 2 + k)=V k) (f3 : ∀ k,k < (n - j) * 2→F' ((i + m) * 2 + k)=F (j * 2 + k)) :
  Calls Tryz.prog 83 #[.slice (some ⟨g,0,none⟩) n c,.int .i64 i,.int .i64 j,.slice B m vc] w fun e w' =>
   ∃ c',e=.returned (.slice (some ⟨w.heap.size,0,none⟩) (i + m + (n - j)) c')∧OwnS w' base 54 2 (.slice (some ⟨w.heap.size,0,none⟩) (i + m + (n - j)) c') (i + m + (n - j)) F'∧w.grownBy w' none:=by
 obtain ⟨i0,hi0,hz0,hzs,hzb⟩:=info_parts Tryz.infoMRun
 have hsz : (Tryz.prog.info? 54).map (·.size)=some 2:=by rw [hi0]; simp [hzs]
 obtain ⟨cur,hr,hb,hnc,hcm,hcl,hcur⟩:=hO.row
 have hlt:=hr.lt
 obtain ⟨tot,htot⟩ : ∃ tot,tot=i + m + (n - j):=⟨_,rfl⟩
 rw [← htot] at hroom ⊢
 obtain ⟨cs0,hcs0⟩ : ∃ cs0,cs0=cellsF (i * 2) F:=⟨_,rfl⟩
 obtain ⟨cs1,hcs1⟩ : ∃ cs1,cs1=cellsF ((n - j) * 2) (fun k=>F (j * 2 + k)):=⟨_,rfl⟩
 obtain ⟨cs2,hcs2⟩ : ∃ cs2,cs2=cellsF (m * 2) V:=⟨_,rfl⟩
 have hl0 : cs0.length=i * 2:=by rw [hcs0,cellsF_length]
 have hl1 : cs1.length=(n - j) * 2:=by rw [hcs1,cellsF_length]
 have hl2 : cs2.length=m * 2:=by rw [hcs2,cellsF_length]
 have hkk : (tot : Int) - (i : Int)=((tot - i : Nat) : Int):=by omega
 have hik : i + (tot - i)=tot:=by omega
 have hold : (Builtin.firstCells i0.size i (.slice (some ⟨g,0,none⟩) i c)).run Tryz.prog w.drew.drew=.ok cs0.toArray w.drew.drew:=by
  rw [hzs]
  refine run_firstCells_some w.drew.drew 2 i ⟨g,0,none⟩ i c cs0 hl0 fun k v hk=>?_
  rw [hcs0] at hk
  obtain ⟨hk1,hk2⟩:=cellsF_inv hk
  rw [Addr.add_lit,Nat.zero_add]
  exact hr.drew.drew.cell (hk2▸hcur _ (by omega))
 obtain ⟨G,hG⟩ : ∃ G,G=grownCap w.drew tot c 54:=⟨_,rfl⟩
 have hGn : tot≤G:=by rw [hG]; exact grownCap_ge w.drew _ _ _
 have hG63 : G≤maxLen:=by rw [hG]; exact grownCap_le_maxLen w.drew tot c _ (by unfold maxLen; omega)
 obtain ⟨ROW,hROW⟩ : ∃ ROW : List Value,ROW=cs0 ++ (Builtin.zeroCells (.agg #[.int .i64 0,.int .i64 0] : Value).cells (tot - i)).toList ++ (Builtin.zeroCells (.agg #[.int .i64 0,.int .i64 0] : Value).cells (G - tot)).toList:=⟨_,rfl⟩
 have hzc : (.agg #[.int .i64 0,.int .i64 0] : Value).cells.size=2:=rfl
 have hRl : ROW.length=G * 2:=by
  rw [hROW,List.length_append,List.length_append,zeroCells_F,zeroCells_F,cellsF_length,cellsF_length,hl0,hzc]
  omega
 obtain ⟨W1,hW1⟩ : ∃ W1,W1=w.drew.drew.alloc (.cells ROW.toArray 54):=⟨_,rfl⟩
 have hrz : ∀ ty,(Builtin.append_ #[25,3] ty #[.slice (some ⟨g,0,none⟩) i c,.int .i64 ((tot : Int) - (i : Int))]).run Tryz.prog w.drew=.ok (.slice (some ⟨w.heap.size,0,none⟩) tot G) W1:=fun ty=>by
  have h:=Lib.run_append_grow_zeros w.drew 25 3 ty 54 i0 _ .i64 .i64 Tryz.underlying25 Tryz.underlying3 hi0 hz0 (some ⟨g,0,none⟩) i c cs0 hold (tot - i) (by omega) (by omega) (by omega) (by omega) (by rw [hzb]; omega) (by rw [hzb,hik]; exact growslice_fits hroom (by omega))
  rw [hik,← hG] at h
  rw [hkk,hW1,hROW,h]
  exact congrArg (fun X=>Result.ok _ (w.drew.drew.alloc (.cells X _))) (Array.ext' (by simp))
 have hr1 : RowW W1 w.heap.size 54 ROW:=by rw [hW1]; exact heap_alloc_new w.drew.drew _
 have hg1 : w.grownBy W1 none:=by rw [hW1]; exact ((grownBy_drew w _).trans (grownBy_drew _ _)).trans (World.grownBy_alloc _ _ _)
 have hv1 : VarR W1 none B m vc 2 V:=by
  rcases hv with h | ⟨vb,TV,Lv,h1,h2,h3,h4⟩
  ·exact .inl h
  ·exact .inr ⟨vb,TV,Lv,h1,h2.grown hg1 (by simp),by simp,h4⟩
 have hs1 : RowW W1 g 54 cur:=hr.grown hg1 (by simp)
 have hfit2 : i * 2 + cs2.length≤ROW.length:=by rw [hRl,hl2]; omega
 obtain ⟨W2,hW2⟩ : ∃ W2,W2=W1.setRow w.heap.size (splice ROW (i * 2) cs2).toArray:=⟨_,rfl⟩
 have hcp2 : ∀ ty dc,(Builtin.copy_ #[25,25] ty #[.slice (some ⟨w.heap.size,i * 2,none⟩) (tot - i) dc,.slice B m vc]).run Tryz.prog W1=.ok (goInt (m : Int)) W2:=fun ty dc=>by
  rw [hW2,hcs2]
  exact run_copyV W1 _ _ ty 54 2 _ _ _ _ none B m vc V ROW _ Tryz.underlying25 hsz hr1 (by omega) hv1 h1V (by rw [hRl]; omega)
 have hr2 : RowW W2 w.heap.size 54 (splice ROW (i * 2) cs2):=hW2▸hr1.set
 have hg2 : W1.grownBy W2 (some w.heap.size):=hW2▸grownBy_setRow _ _ _
 have hs2 : RowW W2 g 54 cur:=hs1.grown hg2 (fun h=>by injection h with h; omega)
 have hle2 : (splice ROW (i * 2) cs2).length=ROW.length:=length_splice _ _ _ hfit2
 have hfit3 : (i + m) * 2 + cs1.length≤(splice ROW (i * 2) cs2).length:=by rw [hle2,hRl,hl1]; omega
 have hcp3 : ∀ ty dc sc,(Builtin.copy_ #[25,25] ty #[.slice (some ⟨w.heap.size,(i + m) * 2,none⟩) (tot - (i + m)) dc,.slice (some ⟨g,j * 2,none⟩) (n - j) sc]).run Tryz.prog W2.drew=.ok (goInt ((n - j : Nat) : Int)) (W2.drew.setRow w.heap.size (splice (splice ROW (i * 2) cs2) ((i + m) * 2) cs1).toArray):=fun ty dc sc=>by
  refine run_copyS W2.drew _ _ ty 54 2 w.heap.size _ _ _ _ _ _ _ _ cs1 (n - j) Tryz.underlying25 hsz hr2.drew (by simp only [Nat.min_def]; split <;> omega) hl1 (fun k v hk=>?_) hfit3 (hcs1▸cellsF_one fun k hk=>h1F _ (by omega))
  rw [hcs1] at hk
  obtain ⟨hk1,hk2⟩:=cellsF_inv hk
  rw [Addr.add_lit]
  exact hs2.drew.cell (hk2▸hcur _ (by omega))
 have hfin : OwnS (W2.drew.setRow w.heap.size (splice (splice ROW (i * 2) cs2) ((i + m) * 2) cs1).toArray) base 54 2 (.slice (some ⟨w.heap.size,0,none⟩) tot G) tot F':=by
  refine OwnS.ofRow hr2.drew.set (by omega) hGn hG63 (by rw [length_splice _ _ _ hfit3,hle2,hRl]) (fun k hk=>?_)
  rw [splice_get hfit3]
  by_cases c1 : (i + m) * 2≤k∧k < (i + m) * 2 + cs1.length
  ·rw [if_pos c1,hcs1,cellsF_get (by omega),← f3 _ (by omega)]
   congr 2
   omega
  ·rw [if_neg c1,splice_get hfit2]
   by_cases c2 : i * 2≤k∧k < i * 2 + cs2.length
   ·rw [if_pos c2,hcs2,cellsF_get (by omega),← f2 _ (by omega)]
    congr 2
    omega
   ·rw [if_neg c2,hROW,List.append_assoc,List.getElem?_append_left (by omega),hcs0,cellsF_get (by omega),f1 k (by omega)]
 have hgf : w.grownBy (W2.drew.setRow w.heap.size (splice (splice ROW (i * 2) cs2) ((i + m) * 2) cs1).toArray) none:=by
  have h:=(hg2.trans (grownBy_drew W2 _)).trans (grownBy_setRow W2.drew w.heap.size (splice (splice ROW (i * 2) cs2) ((i + m) * 2) cs1).toArray)
  refine ⟨h.os.trans hg1.os,h.tape.trans hg1.tape,h.output.trans hg1.output,Nat.le_trans hg1.size h.size,fun k hk _=>?_⟩
  rw [h.block k (Nat.lt_of_lt_of_le hk hg1.size) (fun e=>by injection e with e; omega),hg1.block k hk (by simp)]
 have HF:=Lib.hid (And.intro hfin hgf)
 unfold maxLen at hcm hG63
 have hz1 : ¬ ((i : Int)=(j : Int)):=by omega
 have hz2 : ¬ ((j : Int)=(n : Int)):=by omega
 have hw1 : IntKind.i64.wrap ((i : Int) + (m : Int))=(i : Int) + (m : Int):=by rw [IntKind.wrap_i64]; omega
 have hw2 : IntKind.i64.wrap ((i : Int) + (m : Int) + ((n - j : Nat) : Int))=(tot : Int):=by rw [IntKind.wrap_i64]; omega
 have hb0 : i≤j:=by omega
 have hb1 : j≤n:=by omega
 have hb2 : i≤c:=by omega
 have hb3 : j≤c:=by omega
 have hb4 : ¬ c=j:=by omega
 have hb5 : ¬ c=i:=by omega
 have hGi : ¬ G=i:=by omega
 have hGim : ¬ G=i + m:=by omega
 have hb9 : i≤tot:=by omega
 have hb10 : i + m≤tot:=by omega
 have ht1 : ((i : Int) + (m : Int)).toNat=i + m:=by omega
 have ht2 : (0 : Int)≤(i : Int) + (m : Int):=by omega
 have ht4 : (i : Int) + (m : Int)≤(tot : Int):=by omega
 have ht5 : (c : Int) < (tot : Int):=by omega
 clear hfin hgf hcs1 hcs2 hW1 hW2 hl1 hl2 hfit3 hfit2 hr1 hg1 hv1 hle2 hO h1F h1V f1 f2 f3 hcur hcl hv hr hsz hzs hzb hz0 hi0 hkk hik hold hROW hG hRl hs1 hr2 hg2 hs2 hcs0 hl0 hzc hlt hb htot
 go_enter Tryz.func83,Tryz.ntmps83
 go_wp2
 go_region_law (fail)
 go_wp2_with (first
  |(at_builtin; refine Lib.wpList_append_run _ rfl _ _ _ _ rfl _ _ rfl rfl _ _ (hrz _) ?_)
  |(with_reducible refine wpList_copyI _ rfl _ _ 25 25 rfl _ _ rfl rfl (hcp2 _ _) ?_))
 go_region_law (refine step_copyI rfl _ _ 25 25 rfl (.slice (some ⟨w.heap.size,(i + m) * 2,none⟩) (tot - (i + m)) (G - (i + m))) (.slice (some ⟨g,j * 2,none⟩) (n - j) (c - j)) (by simp [Act.eval,Act.put]) (by simp [Act.eval,Act.put]) (hcp3 3 (G - (i + m)) (c - j)) ?_)
 go_wp2
 go_ret
 exact ⟨G,rfl,HF.out.1,HF.out.2⟩
set_option maxHeartbeats 4000000 in
set_option maxRecDepth 100000 in
/-- All behind the place is taken away: what is put fits. -/
theorem repRun_tail (base g n c i m vc : Nat) (B : Option Addr) (F V F' : Nat→Value) (w : World) (hij : i < n) (hroom : i + m≤c) (hn : n + m≤2000000)
  (hO : OwnS w base 54 2 (.slice (some ⟨g,0,none⟩) n c) n F) (hv : VarR w (some ⟨g,0,none⟩) B m vc 2 V) (h1V : ∀ k,k < m * 2→(V k).oneCell'=true)
  (f1 : ∀ k,k < i * 2→F' k=F k) (f2 : ∀ k,k < m * 2→F' (i * 2 + k)=V k) :
  Calls Tryz.prog 83 #[.slice (some ⟨g,0,none⟩) n c,.int .i64 i,.int .i64 n,.slice B m vc] w fun e w' =>
   e=.returned (.slice (some ⟨g,0,none⟩) (i + m) c)∧OwnS w' base 54 2 (.slice (some ⟨g,0,none⟩) (i + m) c) (i + m) F'∧w.grownBy w' (some g):=by
 obtain ⟨i0,hi0,hz0,hzs,hzb⟩:=info_parts Tryz.infoMRun
 obtain ⟨cur,hr,hb,hnc,hcm,hcl,hcur⟩:=hO.row
 obtain ⟨cs2,hcs2⟩ : ∃ cs2,cs2=cellsF (m * 2) V:=⟨_,rfl⟩
 have hl2 : cs2.length=m * 2:=by rw [hcs2,cellsF_length]
 have hfit1 : i * 2 + cs2.length≤cur.length:=by rw [hl2,hcl]; omega
 obtain ⟨W1,hW1⟩ : ∃ W1,W1=w.setRow g (splice cur (i * 2) cs2).toArray:=⟨_,rfl⟩
 have hr1 : RowW W1 g 54 (splice cur (i * 2) cs2):=hW1▸hr.set
 have hg1 : w.grownBy W1 (some g):=hW1▸grownBy_setRow _ _ _
 have hle1 : (splice cur (i * 2) cs2).length=cur.length:=length_splice _ _ _ hfit1
 have hap : ∀ ty,(Builtin.append_ #[25,25] ty #[.slice (some ⟨g,0,none⟩) i c,.slice B m vc]).run Tryz.prog w=.ok (.slice (some ⟨g,0,none⟩) (i + m) c) W1:=fun ty=>by
  have:=run_appendS (P:=Tryz.prog) w 25 25 ty 54 i0 Tryz.underlying25 hi0 g i c cur hr (.slice B m vc) m cs2 (by rw [hzs,hcs2]; exact hv.src Tryz.underlying25 h1V) hroom (by rw [hzs]; exact hfit1)
  rw [hzs] at this
  rw [hW1]
  exact this
 have hzc : (.agg #[.int .i64 0,.int .i64 0] : Value).cells.size=2:=rfl
 have hfinG : ∀ W,(W=W1∨(i + m≤n∧∃ cz,cz=(Builtin.zeroCells (.agg #[.int .i64 0,.int .i64 0] : Value).cells (n - (i + m))).toList∧W=W1.setRow g (splice (splice cur (i * 2) cs2) ((i + m) * 2) cz).toArray))→OwnS W base 54 2 (.slice (some ⟨g,0,none⟩) (i + m) c) (i + m) F'∧w.grownBy W (some g):=by
  have hval : ∀ k,k < (i + m) * 2→(splice cur (i * 2) cs2)[k]?=some (F' k):=fun k hk=>by
   rw [splice_get hfit1]
   by_cases c2 : i * 2≤k∧k < i * 2 + cs2.length
   ·rw [if_pos c2,hcs2,cellsF_get (by omega),← f2 _ (by omega)]
    congr 2
    omega
   ·rw [if_neg c2,hcur k (by omega),f1 k (by omega)]
  rintro W (rfl | ⟨hle,cz,hcz,rfl⟩)
  ·exact ⟨OwnS.ofRow hr1 hb hroom hcm (by rw [hle1,hcl]) hval,hg1⟩
  ·have hlz : cz.length=(n - (i + m)) * 2:=by rw [hcz,zeroCells_F,cellsF_length,hzc]
   have hfit2 : (i + m) * 2 + cz.length≤(splice cur (i * 2) cs2).length:=by rw [hle1,hlz,hcl]; omega
   refine ⟨OwnS.ofRow hr1.set hb hroom hcm (by rw [length_splice _ _ _ hfit2,hle1,hcl]) fun k hk=>?_,hg1.trans (grownBy_setRow _ _ _)⟩
   rw [splice_get hfit2,if_neg (by omega)]
   exact hval k hk
 have hcs : (n≤i + m∧decide (i + m < n)=false)∨(i + m < n∧¬ c=i + m∧i + m≤n∧∃ W,(∀ ty dc,(Builtin.clear_ #[25] ty #[.slice (some ⟨g,(i + m) * 2,none⟩) (n - (i + m)) dc]).run Tryz.prog W1=.ok (.tuple #[]) W)∧Hid (OwnS W base 54 2 (.slice (some ⟨g,0,none⟩) (i + m) c) (i + m) F'∧w.grownBy W (some g))):=by
  rcases Nat.lt_or_ge (i + m) n with h | h
  ·refine .inr ⟨h,by omega,by omega,W1.setRow g (splice (splice cur (i * 2) cs2) ((i + m) * 2) (Builtin.zeroCells (.agg #[.int .i64 0,.int .i64 0] : Value).cells (n - (i + m))).toList).toArray,fun ty dc=>?_,Lib.hid (hfinG _ (.inr ⟨by omega,_,rfl,rfl⟩))⟩
   exact run_clearS W1 _ 54 ty i0 (.agg #[.int .i64 0,.int .i64 0]) Tryz.underlying25 hi0 hz0 (by decide) g _ _ _ _ _ hr1 (by rw [hzc,hle1,hcl]; omega)
  ·exact .inl ⟨h,decide_eq_false (by omega)⟩
 have HF:=Lib.hid (hfinG W1 (.inl rfl))
 unfold maxLen at hcm
 have hz1 : ¬ ((i : Int)=(n : Int)):=by omega
 have hb0 : i≤n:=by omega
 have hb2 : i≤c:=by omega
 have hb5 : ¬ c=i:=by omega
 clear hfinG hcs2 hW1 hl2 hfit1 hr1 hg1 hle1 hO hv h1V f1 f2 hcur hcl hr hzs hzb hz0 hi0 hzc
 rcases hcs with ⟨h1,h2⟩ | ⟨h1,h2,h3,W,hcl1,HW⟩
 ·go_enter Tryz.func83,Tryz.ntmps83
  go_wp2_with (at_builtin; refine Lib.wpList_append_run _ rfl _ _ _ _ rfl _ _ rfl rfl _ _ (hap _) ?_)
  go_ret
  exact ⟨rfl,HF.out.1,HF.out.2⟩
 ·go_enter Tryz.func83,Tryz.ntmps83
  go_wp2_with (first
   |(at_builtin; refine Lib.wpList_append_run _ rfl _ _ _ _ rfl _ _ rfl rfl _ _ (hap _) ?_)
   |(with_reducible refine wpList_clearI _ rfl _ 25 rfl _ rfl (hcl1 _ _) ?_))
  go_ret
  exact ⟨rfl,HW.out.1,HW.out.2⟩
set_option maxHeartbeats 4000000 in
set_option maxRecDepth 100000 in
/-- All behind the place is taken away: what is put does not fit. -/
theorem repRun_tailG (base g n c i m vc : Nat) (B : Option Addr) (F V F' : Nat→Value) (w : World) (hij : i < n) (hroom : c < i + m) (hn : n + m≤2000000) (hbase : base≤w.heap.size)
  (hO : OwnS w base 54 2 (.slice (some ⟨g,0,none⟩) n c) n F) (hv : VarR w (some ⟨g,0,none⟩) B m vc 2 V) (h1V : ∀ k,k < m * 2→(V k).oneCell'=true)
  (f1 : ∀ k,k < i * 2→F' k=F k) (f2 : ∀ k,k < m * 2→F' (i * 2 + k)=V k) :
  Calls Tryz.prog 83 #[.slice (some ⟨g,0,none⟩) n c,.int .i64 i,.int .i64 n,.slice B m vc] w fun e w' =>
   ∃ A' c',e=.returned (.slice A' (i + m) c')∧OwnS w' base 54 2 (.slice A' (i + m) c') (i + m) F'∧w.grownBy w' (some g):=by
 obtain ⟨i0,hi0,hz0,hzs,hzb⟩:=info_parts Tryz.infoMRun
 obtain ⟨cur,hr,hb,hnc,hcm,hcl,hcur⟩:=hO.row
 have HV:=Lib.hid (And.intro (hO.first (i:=i) (by omega)) (And.intro hv.sl (And.intro h1V (And.intro f1 f2))))
 unfold maxLen at hcm
 have hz1 : ¬ ((i : Int)=(n : Int)):=by omega
 have hb0 : i≤n:=by omega
 have hb2 : i≤c:=by omega
 have hb5 : ¬ c=i:=by omega
 have hb6 : ¬ i + m < n:=by omega
 have hb7 : decide (i + m < n)=false:=decide_eq_false hb6
 clear hO hv h1V f1 f2 hcur hcl hr
 go_enter Tryz.func83,Tryz.ntmps83
 go_wp2_with (at_builtin; refine wpList_pushAll rfl _ _ 25 rfl base 54 i0 (.agg #[.int .i64 0,.int .i64 0]) 2 16 Tryz.underlying25 hi0 hz0 hzs hzb rfl (by decide) _ i F rfl HV.out.1 B m vc V rfl HV.out.2.1 HV.out.2.2.1 ?qc4 ?qc5 hbase F' HV.out.2.2.2.1 HV.out.2.2.2.2 _ rfl ?_)
 case qc4=>unfold maxLen; omega
 case qc5=>omega
 intro A'' c'' w1 hown hgrow hE hor
 have HG:=Lib.hid (And.intro hown hgrow)
 clear hown hgrow hE hor
 go_wp2
 go_ret
 exact ⟨A'',c'',rfl,HG.out.1,HG.out.2⟩
set_option maxHeartbeats 4000000 in
set_option maxRecDepth 100000 in
/-- Nothing is taken away: Insert. -/
theorem repRun_ins (base n c i m vc : Nat) (A B : Option Addr) (F V F' : Nat→Value) (w : World) (hi : i≤n) (hm : 0 < m) (hn : n + m≤2000000) (hbase : base≤w.heap.size)
  (hO : OwnS w base 54 2 (.slice A n c) n F) (hv : VarR w A B m vc 2 V) (h1F : ∀ k,k < n * 2→(F k).oneCell'=true) (h1V : ∀ k,k < m * 2→(V k).oneCell'=true)
  (f1 : ∀ k,k < i * 2→F' k=F k) (f2 : ∀ k,k < m * 2→F' (i * 2 + k)=V k) (f3 : ∀ k,k < (n - i) * 2→F' ((i + m) * 2 + k)=F (i * 2 + k)) :
  Calls Tryz.prog 83 #[.slice A n c,.int .i64 i,.int .i64 i,.slice B m vc] w fun e w' =>
   ∃ A' c',e=.returned (.slice A' (n + m) c')∧OwnS w' base 54 2 (.slice A' (n + m) c') (n + m) F'∧w.grownBy w' (A.map (·.block)):=by
 rcases hv with ⟨_,h0,_⟩ | ⟨vb,TV,Lv,rfl,hr,hne,hl⟩
 ·omega
 have HC:=Lib.hid (insRun_any base n c i vb m vc A F V F' TV Lv w hi hm hn hbase hne hO hr hl h1F h1V f1 f2 f3)
 obtain ⟨A0,c0,e1,hnc,_⟩:=hO.form
 injection e1 with e1 e2 e3
 subst e1 e3
 have hb0 : i≤c:=by omega
 have hcs : ¬ c=i∨c=i:=by omega
 have hAc : A.map (fun x=>x.block)=A.map (fun x=>x.block):=rfl
 clear e2 hO hr hl h1F h1V f1 f2 f3 hAc
 rcases hcs with hc | rfl
 all_goals
  go_enter Tryz.func83,Tryz.ntmps83
  go_wp2_with (go_at_call 119; (with_reducible refine HC.out.mono ?_); rintro e w1 ⟨A',c',rfl,hO1,hg1⟩)
  have HG:=Lib.hid (And.intro hO1 hg1)
  clear hO1 hg1
  go_ret
  exact ⟨A',c',rfl,HG.out.1,HG.out.2⟩
/-- slices.Replace. -/
theorem repRun_any (base n c i j m vc : Nat) (A B : Option Addr) (F V F' : Nat→Value) (w : World) (hij : i≤j) (hj : j≤n) (hm : i=j→0 < m) (hn : n + m≤1000000) (hbase : base≤w.heap.size)
  (hO : OwnS w base 54 2 (.slice A n c) n F) (hv : VarR w A B m vc 2 V) (h1F : ∀ k,k < n * 2→(F k).oneCell'=true) (h1V : ∀ k,k < m * 2→(V k).oneCell'=true)
  (f1 : ∀ k,k < i * 2→F' k=F k) (f2 : ∀ k,k < m * 2→F' (i * 2 + k)=V k) (f3 : ∀ k,k < (n - j) * 2→F' ((i + m) * 2 + k)=F (j * 2 + k)) :
  Calls Tryz.prog 83 #[.slice A n c,.int .i64 i,.int .i64 j,.slice B m vc] w fun e w' =>
   ∃ A' c',e=.returned (.slice A' (i + m + (n - j)) c')∧OwnS w' base 54 2 (.slice A' (i + m + (n - j)) c') (i + m + (n - j)) F'∧w.grownBy w' (A.map (·.block)):=by
 rcases Nat.lt_or_ge i j with h | h
 ·obtain ⟨g,c',e1⟩:=hO.form' (by omega)
  injection e1 with e1 e2 e3
  subst e1 e3
  have hnone : ∀ {w' : World},w.grownBy w' none→w.grownBy w' (some g):=fun h3=>⟨h3.os,h3.tape,h3.output,h3.size,fun k hk _=>h3.block k hk (by simp)⟩
  rcases Nat.lt_or_ge j n with hjn | hjn
  ·rcases Nat.lt_or_ge j (i + m) with hw | hw
   ·rcases Nat.lt_or_ge c (i + m + (n - j)) with hc | hc
    ·exact (repRun_grow base g n c i j m vc B F V F' w h hjn hc (by omega) hO hv h1F h1V f1 f2 f3).mono fun e w' ⟨c',h1,h2,h3⟩=>⟨_,c',h1,h2,hnone h3⟩
    ·rcases hv with ⟨_,h0,_⟩ | ⟨vb,TV,Lv,rfl,hr,hne,hl⟩
     ·omega
     ·exact (repRun_wide base g n c i j m vc vb TV Lv F V F' w h hjn hw hc (by omega) hO hr (fun e=>hne (by rw [e]; rfl)) hl h1F h1V f1 f2 f3).mono fun e w' ⟨h1,h2,h3⟩=>⟨_,c,h1,h2,h3⟩
   ·exact (repRun_easy base g n c i j m vc B F V F' w h hjn hw (by omega) hO hv h1F h1V f1 f2 f3).mono fun e w' ⟨h1,h2,h3⟩=>⟨_,c,h1,h2,h3⟩
  ·obtain rfl : j=n:=by omega
   have e : i + m + (j - j)=i + m:=by omega
   rw [e]
   rcases Nat.lt_or_ge c (i + m) with hc | hc
   ·exact repRun_tailG base g j c i m vc B F V F' w h hc (by omega) hbase hO hv h1V f1 f2
   ·exact (repRun_tail base g j c i m vc B F V F' w h hc (by omega) hO hv h1V f1 f2).mono fun e w' ⟨h1,h2,h3⟩=>⟨_,c,h1,h2,h3⟩
 ·obtain rfl : i=j:=by omega
  have e : i + m + (n - i)=n + m:=by omega
  rw [e]
  exact repRun_ins base n c i m vc A B F V F' w hj (hm rfl) (by omega) hbase hO hv h1F h1V f1 f2 f3
end Go.Proofs.YtoolenhnhlfhmaaGreatDoor
