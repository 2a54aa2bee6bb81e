/- Walks: slices.Delete, of hands. Walks: slices.Replace, of runs. Walks: slices.Replace, of runs: more is put than is taken. -/
import Derived.Test.YtoolenhnhlfhmaaGreatDoorMdV
namespace Go.Proofs.YtoolenhnhlfhmaaGreatDoor
open Go.RowKit Go.Sort
set_option linter.unusedVariables false
set_option linter.unusedSimpArgs false
set_option maxHeartbeats 4000000 in
set_option maxRecDepth 100000 in
theorem deleteHand_any (base n c i j : Nat) (A : Option Addr) (F F' : Nat→Value) (w : World) (hij : i < j) (hj : j≤n)
  (hO : OwnS w base 56 3 (.slice A n c) n F) (h1F : ∀ k,k < n * 3→(F k).oneCell'=true)
  (f1 : ∀ k,k < i * 3→F' k=F k) (f2 : ∀ k,k < (n - j) * 3→F' (i * 3 + k)=F (j * 3 + k)) :
  Calls Tryz.prog 95 #[.slice A n c,.int .i64 i,.int .i64 j] w fun e w' =>
   e=.returned (.slice A (i + (n - j)) c)∧OwnS w' base 56 3 (.slice A (i + (n - j)) c) (i + (n - j)) F'∧w.grownBy w' (A.map (·.block)):=by
 obtain ⟨g,c',e1⟩:=hO.form' (by omega)
 injection e1 with e1 e2 e3
 subst e1 e3
 clear e2
 obtain ⟨i0,hi0,hz0,hzs,hzb⟩:=info_parts Tryz.infoMHand
 obtain ⟨cur,hr,hb,hnc,hcm,hcl,hcur⟩:=hO.row
 obtain ⟨cs1,hcs1⟩ : ∃ cs1,cs1=cellsF ((n - j) * 3) (fun k=>F (j * 3 + k)):=⟨_,rfl⟩
 have hl1 : cs1.length=(n - j) * 3:=by rw [hcs1,cellsF_length]
 obtain ⟨W1,hW1⟩ : ∃ W1,W1=w.drew.setRow g (splice cur (i * 3) cs1).toArray:=⟨_,rfl⟩
 have hfit1 : i * 3 + cs1.length≤cur.length:=by rw [hl1,hcl]; omega
 have hr1 : RowW W1 g 56 (splice cur (i * 3) cs1):=hW1▸hr.drew.set
 have hg1 : w.grownBy W1 (some g):=hW1▸(grownBy_drew w _).trans (grownBy_setRow _ _ _)
 have hle1 : (splice cur (i * 3) cs1).length=cur.length:=length_splice _ _ _ hfit1
 have hzc : (.agg #[.int .i64 0,.int .i64 0,.int .i64 0] : Value).cells.size=3:=rfl
 obtain ⟨cz,hcz⟩ : ∃ cz,cz=(Builtin.zeroCells (.agg #[.int .i64 0,.int .i64 0,.int .i64 0] : Value).cells (n - (i + (n - j)))).toList:=⟨_,rfl⟩
 have hlz : cz.length=(n - (i + (n - j))) * 3:=by rw [hcz,zeroCells_F,cellsF_length,hzc]
 have hap : ∀ ty X sc,(X=j * 3∨n - j=0)→(Builtin.append_ #[26,26] ty #[.slice (some ⟨g,0,none⟩) i c,.slice (some ⟨g,X,none⟩) (n - j) sc]).run Tryz.prog w.drew=.ok (.slice (some ⟨g,0,none⟩) (i + (n - j)) c) W1:=fun ty X sc hX=>by
  rw [hW1]
  have:=run_appendS (P:=Tryz.prog) w.drew 26 26 ty 56 i0 Tryz.underlying26 hi0 g i c cur hr.drew (.slice (some ⟨g,X,none⟩) (n - j) sc) (n - j) cs1 (Src.ofSlice w.drew Tryz.underlying26 ⟨g,X,none⟩ (n - j) sc cs1 (by rw [hzs,hl1]) (fun k v hk=>?_) (hcs1▸cellsF_one fun k hk=>h1F _ (by omega))) (by omega) (by rw [hzs]; exact hfit1)
  ·rw [hzs] at this
   exact this
  ·rw [hcs1] at hk
   obtain ⟨hk1,hk2⟩:=cellsF_inv hk
   rw [Addr.add_lit]
   rcases hX with rfl | hX
   ·exact hr.drew.cell (hk2▸hcur _ (by omega))
   ·omega
 have hcl1 : ∀ ty dc,(Builtin.clear_ #[26] ty #[.slice (some ⟨g,(i + (n - j)) * 3,none⟩) (n - (i + (n - j))) dc]).run Tryz.prog W1=.ok (.tuple #[]) (W1.setRow g (splice (splice cur (i * 3) cs1) ((i + (n - j)) * 3) cz).toArray):=fun ty dc=>by
  rw [hcz]
  exact run_clearS W1 _ 56 ty i0 (.agg #[.int .i64 0,.int .i64 0,.int .i64 0]) Tryz.underlying26 hi0 hz0 (by decide) g _ _ _ _ _ hr1 (by rw [hzc,hle1,hcl]; omega)
 have hfit2 : (i + (n - j)) * 3 + cz.length≤(splice cur (i * 3) cs1).length:=by rw [hle1,hlz,hcl]; omega
 have hfin : OwnS (W1.setRow g (splice (splice cur (i * 3) cs1) ((i + (n - j)) * 3) cz).toArray) base 56 3 (.slice (some ⟨g,0,none⟩) (i + (n - j)) c) (i + (n - j)) F':=by
  refine OwnS.ofRow hr1.set hb (by omega) hcm (by rw [length_splice _ _ _ hfit2,hle1,hcl]) (fun k hk=>?_)
  rw [splice_get hfit2,if_neg (by omega),splice_get hfit1]
  by_cases c1 : i * 3≤k∧k < i * 3 + cs1.length
  ·rw [if_pos c1,hcs1,cellsF_get (by omega),← f2 _ (by omega)]
   congr 2
   omega
  ·rw [if_neg c1,hcur k (by omega),f1 k (by omega)]
 have hgf : w.grownBy (W1.setRow g (splice (splice cur (i * 3) cs1) ((i + (n - j)) * 3) cz).toArray) (some g):=hg1.trans (grownBy_setRow _ _ _)
 have HF:=Lib.hid (And.intro hfin hgf)
 have hap1 : ∀ ty sc,(Builtin.append_ #[26,26] ty #[.slice (some ⟨g,0,none⟩) i c,.slice (some ⟨g,j * 3,none⟩) (n - j) sc]).run Tryz.prog w.drew=.ok (.slice (some ⟨g,0,none⟩) (i + (n - j)) c) W1:=fun ty sc=>hap ty (j * 3) sc (.inl rfl)
 unfold maxLen at hcm
 have hz1 : ¬ ((i : Int)=(j : Int)):=by omega
 have hij' : i≤j:=by omega
 have hin : i≤n:=by omega
 have hcs : ¬ c=j∨(c=n∧j=n∧(∀ ty sc,(Builtin.append_ #[26,26] ty #[.slice (some ⟨g,0,none⟩) i n,.slice (some ⟨g,0,none⟩) 0 sc]).run Tryz.prog w.drew=.ok (.slice (some ⟨g,0,none⟩) i n) W1)∧∀ ty dc,(Builtin.clear_ #[26] ty #[.slice (some ⟨g,i * 3,none⟩) (n - i) dc]).run Tryz.prog W1=.ok (.tuple #[]) (W1.setRow g (splice (splice cur (i * 3) cs1) ((i + (n - j)) * 3) cz).toArray)):=by
  rcases Nat.decEq c j with h | h
  ·exact .inl h
  ·have e : n - j=0:=by omega
   have e2 : c=n:=by omega
   refine .inr ⟨e2,by omega,fun ty sc=>?_,fun ty dc=>?_⟩
   ·have:=hap ty 0 sc (.inr e)
    rw [e,Nat.add_zero,e2] at this
    exact this
   ·have h2:=hcl1 ty dc
    rw [e,Nat.add_zero] at h2
    rw [e,Nat.add_zero]
    exact h2
 have hb1 : i + (n - j)≤n:=by omega
 have hic : i≤c:=by omega
 have hb2 : ¬ c=i + (n - j):=by omega
 have hb4 : ¬ c=i:=by omega
 clear hfin hgf hcs1 hW1 hl1 hfit1 hfit2 hr1 hg1 hle1 hO h1F f1 f2 hcur hcl hr hzs hzb hz0 hi0 hcz hlz hzc hap
 rcases hcs with hc | ⟨h1,h2,hap0,hcl0⟩
 ·go_enter Tryz.func95,Tryz.ntmps95
  go_wp2
  go_region_law (refine step_appendI rfl _ _ 26 26 rfl (.slice (some ⟨g,0,none⟩) i c) (.slice (some ⟨g,j * 3,none⟩) (n - j) (c - j)) (by simp [Act.eval,Act.put]) (by simp [Act.eval,Act.put]) (hap1 26 (c - j)) ?_)
  go_wp2_with (with_reducible refine wpList_clearI _ rfl _ 26 rfl _ rfl (hcl1 _ _) ?_)
  go_ret
  exact ⟨rfl,HF.out.1,HF.out.2⟩
 ·subst c
  subst j
  have hz2 : ¬ n=i:=by omega
  go_enter Tryz.func95,Tryz.ntmps95
  go_wp2
  go_region_law (refine step_appendI rfl _ _ 26 26 rfl (.slice (some ⟨g,0,none⟩) i n) (.slice (some ⟨g,0,none⟩) 0 0) (by simp [Act.eval,Act.put]) (by simp [Act.eval,Act.put]) (hap0 26 0) ?_)
  go_wp2_with (with_reducible refine wpList_clearI _ rfl _ 26 rfl _ rfl (hcl0 _ _) ?_)
  go_ret
  rw [show i + (n - n)=i by omega] at HF ⊢
  exact ⟨rfl,HF.out.1,HF.out.2⟩
/-- What a call hands as its last arguments: none, or a row of another block. -/
def VarR (w : World) (A B : Option Addr) (m vc sz : Nat) (V : Nat→Value) : Prop :=
 (B=none∧m=0∧vc=0)∨∃ vb TV Lv,B=some ⟨vb,0,none⟩∧RowW w vb TV Lv∧some vb≠A.map (·.block)∧∀ j,j < m * sz→Lv[j]?=some (V j)
theorem VarR.src {P : Program} {w : World} {A B : Option Addr} {m vc sz : Nat} {V : Nat→Value} {tx e : TypeId} (h : VarR w A B m vc sz V) (hk : P.underlying tx=some (.slice e)) (h1 : ∀ j,j < m * sz→(V j).oneCell'=true) : Src P sz tx (.slice B m vc) m (cellsF (m * sz) V) w:=by
 rcases h with ⟨rfl,rfl,rfl⟩ | ⟨vb,TV,Lv,rfl,hr,_,hl⟩
 ·have e : cellsF (0 * sz) V=[]:=by simp [cellsF]
  rw [e]
  exact Src.ofNil w hk 0
 ·refine Src.ofSlice w hk _ m vc _ (cellsF_length _ _) (fun j v hj=>?_) (cellsF_one h1)
  obtain ⟨hj1,hj2⟩:=cellsF_inv hj
  rw [Addr.add_lit,Nat.zero_add]
  exact hr.cell (hj2▸hl j hj1)
theorem VarR.grown {w w' : World} {A B : Option Addr} {m vc sz : Nat} {V : Nat→Value} (h : VarR w A B m vc sz V) (hg : w.grownBy w' (A.map (·.block))) : VarR w' A B m vc sz V:=by
 rcases h with h | ⟨vb,TV,Lv,h1,h2,h3,h4⟩
 ·exact .inl h
 ·exact .inr ⟨vb,TV,Lv,h1,h2.grown hg h3,h3,h4⟩
theorem VarR.sl {w : World} {A B : Option Addr} {m vc sz : Nat} {V : Nat→Value} (h : VarR w A B m vc sz V) : SlR w B m sz V:=by
 rcases h with ⟨rfl,rfl,rfl⟩ | ⟨vb,TV,Lv,rfl,hr,_,hl⟩
 ·exact SlR.nil
 ·exact fun _=>⟨vb,0,rfl,fun j hj=>by rw [Nat.zero_add]; exact hr.cell (hl j hj)⟩
/-- copy of what was handed. -/
theorem run_copyV {P : Program} (w : World) (dT sT ty elem : TypeId) (sz : Nat) (g off dLen dCap : Nat) (A B : Option Addr) (m vc : Nat) (V : Nat→Value) (cur : List Value) (t : TypeId)
  (hu : P.underlying dT=some (.slice elem)) (hs : (P.info? elem).map (·.size)=some sz) (hg : RowW w g t cur) (hn : m≤dLen) (hv : VarR w A B m vc sz V) (h1 : ∀ j,j < m * sz→(V j).oneCell'=true) (hfit : off + m * sz≤cur.length) :
  (Builtin.copy_ #[dT,sT] ty #[.slice (some ⟨g,off,none⟩) dLen dCap,.slice B m vc]).run P w=.ok (goInt (m : Int)) (w.setRow g (splice cur off (cellsF (m * sz) V)).toArray):=by
 rcases hv with ⟨rfl,rfl,rfl⟩ | ⟨vb,TV,Lv,rfl,hr,_,hl⟩
 ·have e : cellsF (0 * sz) V=[]:=by simp [cellsF]
  rw [e,splice_nil,setRow_self w g _ t _ hg]
  exact run_copy_nil P w dT sT ty elem _ _ _ hu (by rw [hs]; rfl)
 ·refine run_copyS w _ _ ty elem sz g _ _ _ _ _ _ cur t _ m hu hs hg (by simp only [Nat.min_def]; split <;> omega) (cellsF_length _ _) (fun j v hj=>?_) (by rw [cellsF_length]; exact hfit) (cellsF_one h1)
  obtain ⟨hj1,hj2⟩:=cellsF_inv hj
  rw [Addr.add_lit,Nat.zero_add]
  exact hr.cell (hj2▸hl j hj1)
/-- The first of a row. -/
theorem OwnS.first {w : World} {base : Nat} {e : TypeId} {size g n cap : Nat} {F : Nat→Value} (h : OwnS w base e size (.slice (some ⟨g,0,none⟩) n cap) n F) {i : Nat} (hi : i≤n) : OwnS w base e size (.slice (some ⟨g,0,none⟩) i cap) i F:=by
 obtain ⟨cur,hr,hb,hnc,hcm,hcl,hcur⟩:=h.row
 exact OwnS.ofRow hr hb (by omega) hcm hcl fun j hj=>hcur j (Nat.lt_of_lt_of_le hj (Nat.mul_le_mul_right _ hi))
set_option maxHeartbeats 4000000 in
set_option maxRecDepth 100000 in
/-- What is put there fits into what is taken away. -/
theorem repRun_easy (base g n c i j m vc : Nat) (B : Option Addr) (F V F' : Nat→Value) (w : World) (hij : i < j) (hj : j < n) (hfit : i + m≤j) (hn : n≤1000000)
  (hO : OwnS w base 54 2 (.slice (some ⟨g,0,none⟩) n c) n F) (hv : VarR w (some ⟨g,0,none⟩) B m vc 2 V) (h1F : ∀ k,k < n * 2→(F k).oneCell'=true) (h1V : ∀ k,k < m * 2→(V k).oneCell'=true)
  (f1 : ∀ k,k < i * 2→F' k=F k) (f2 : ∀ k,k < m * 2→F' (i * 2 + k)=V k) (f3 : ∀ k,k < (n - j) * 2→F' ((i + m) * 2 + k)=F (j * 2 + k)) :
  Calls Tryz.prog 83 #[.slice (some ⟨g,0,none⟩) n c,.int .i64 i,.int .i64 j,.slice B m vc] w fun e w' =>
   e=.returned (.slice (some ⟨g,0,none⟩) (i + m + (n - j)) c)∧OwnS w' base 54 2 (.slice (some ⟨g,0,none⟩) (i + m + (n - j)) c) (i + m + (n - j)) F'∧w.grownBy w' (some g):=by
 obtain ⟨i0,hi0,hz0,hzs,hzb⟩:=info_parts Tryz.infoMRun
 have hsz : (Tryz.prog.info? 54).map (·.size)=some 2:=by rw [hi0]; simp [hzs]
 obtain ⟨cur,hr,hb,hnc,hcm,hcl,hcur⟩:=hO.row
 obtain ⟨tot,htot⟩ : ∃ tot,tot=i + m + (n - j):=⟨_,rfl⟩
 rw [← htot]
 obtain ⟨cs1,hcs1⟩ : ∃ cs1,cs1=cellsF ((n - j) * 2) (fun k=>F (j * 2 + k)):=⟨_,rfl⟩
 obtain ⟨cs2,hcs2⟩ : ∃ cs2,cs2=cellsF (m * 2) V:=⟨_,rfl⟩
 have hl1 : cs1.length=(n - j) * 2:=by rw [hcs1,cellsF_length]
 have hl2 : cs2.length=m * 2:=by rw [hcs2,cellsF_length]
 have hfit1 : i * 2 + cs2.length≤cur.length:=by rw [hl2,hcl]; omega
 obtain ⟨W1,hW1⟩ : ∃ W1,W1=w.drew.setRow g (splice cur (i * 2) cs2).toArray:=⟨_,rfl⟩
 have hr1 : RowW W1 g 54 (splice cur (i * 2) cs2):=hW1▸hr.drew.set
 have hg1 : w.grownBy W1 (some g):=hW1▸(grownBy_drew w _).trans (grownBy_setRow _ _ _)
 have hle1 : (splice cur (i * 2) cs2).length=cur.length:=length_splice _ _ _ hfit1
 have hcp1 : ∀ ty dc,(Builtin.copy_ #[25,25] ty #[.slice (some ⟨g,i * 2,none⟩) (tot - i) dc,.slice B m vc]).run Tryz.prog w.drew=.ok (goInt (m : Int)) W1:=fun ty dc=>by
  rw [hW1,hcs2]
  exact run_copyV w.drew _ _ ty 54 2 g _ _ _ (some ⟨g,0,none⟩) B m vc V cur _ Tryz.underlying25 hsz hr.drew (by omega) (hv.grown (grownBy_drew w _)) h1V (by rw [hcl]; omega)
 have hfit2 : (i + m) * 2 + cs1.length≤(splice cur (i * 2) cs2).length:=by rw [hle1,hl1,hcl]; omega
 obtain ⟨W2,hW2⟩ : ∃ W2,W2=W1.drew.setRow g (splice (splice cur (i * 2) cs2) ((i + m) * 2) cs1).toArray:=⟨_,rfl⟩
 have hr2 : RowW W2 g 54 (splice (splice cur (i * 2) cs2) ((i + m) * 2) cs1):=hW2▸hr1.drew.set
 have hg2 : w.grownBy W2 (some g):=hW2▸(hg1.trans (grownBy_drew W1 _)).trans (grownBy_setRow _ _ _)
 have hle2 : (splice (splice cur (i * 2) cs2) ((i + m) * 2) cs1).length=cur.length:=by rw [length_splice _ _ _ hfit2,hle1]
 have hcp2 : ∀ ty dc sc,(Builtin.copy_ #[25,25] ty #[.slice (some ⟨g,(i + m) * 2,none⟩) (tot - (i + m)) dc,.slice (some ⟨g,j * 2,none⟩) (n - j) sc]).run Tryz.prog W1.drew=.ok (goInt ((n - j : Nat) : Int)) W2:=fun ty dc sc=>by
  rw [hW2]
  refine run_copyS W1.drew _ _ ty 54 2 g _ _ _ _ _ _ _ _ cs1 (n - j) Tryz.underlying25 hsz hr1.drew (by simp only [Nat.min_def]; split <;> omega) hl1 (fun k v hk=>?_) hfit2 (hcs1▸cellsF_one fun k hk=>h1F _ (by omega))
  rw [hcs1] at hk
  obtain ⟨hk1,hk2⟩:=cellsF_inv hk
  rw [Addr.add_lit]
  refine hr1.drew.cell ?_
  rw [splice_get hfit1,if_neg (by omega),hcur _ (by omega),hk2]
 have hzc : (.agg #[.int .i64 0,.int .i64 0] : Value).cells.size=2:=rfl
 obtain ⟨cz,hcz⟩ : ∃ cz,cz=(Builtin.zeroCells (.agg #[.int .i64 0,.int .i64 0] : Value).cells (n - tot)).toList:=⟨_,rfl⟩
 have hlz : cz.length=(n - tot) * 2:=by rw [hcz,zeroCells_F,cellsF_length,hzc]
 have hfit3 : tot * 2 + cz.length≤(splice (splice cur (i * 2) cs2) ((i + m) * 2) cs1).length:=by rw [hle2,hlz,hcl]; omega
 obtain ⟨W3,hW3⟩ : ∃ W3,W3=W2.setRow g (splice (splice (splice cur (i * 2) cs2) ((i + m) * 2) cs1) (tot * 2) cz).toArray:=⟨_,rfl⟩
 have hcl1 : ∀ ty X dc,(X=tot * 2∨n - tot=0)→(Builtin.clear_ #[25] ty #[.slice (some ⟨g,X,none⟩) (n - tot) dc]).run Tryz.prog W2=.ok (.tuple #[]) W3:=fun ty X dc hX=>by
  rcases hX with rfl | hX
  ·rw [hW3,hcz]
   exact run_clearS W2 _ 54 ty i0 (.agg #[.int .i64 0,.int .i64 0]) Tryz.underlying25 hi0 hz0 (by decide) g _ _ _ _ _ hr2 (by rw [hzc,hle2,hcl]; omega)
  ·have e : cz=[]:=List.eq_nil_of_length_eq_zero (by rw [hlz,hX])
   rw [hW3,e,splice_nil,setRow_self W2 g _ _ _ hr2,hX]
   simp [Builtin.clear_,run_underlying Tryz.underlying25]
 have hfin : OwnS W3 base 54 2 (.slice (some ⟨g,0,none⟩) tot c) tot F':=by
  rw [hW3]
  refine OwnS.ofRow hr2.set hb (by omega) hcm (by rw [length_splice _ _ _ hfit3,hle2,hcl]) (fun k hk=>?_)
  rw [splice_get hfit3,if_neg (by omega),splice_get hfit2]
  by_cases c1 : (i + m) * 2≤k∧k < (i + m) * 2 + cs1.length
  ·rw [if_pos c1,hcs1,cellsF_get (by omega),← f3 _ (by omega)]
   congr 2
   omega
  ·rw [if_neg c1,splice_get hfit1]
   by_cases c2 : i * 2≤k∧k < i * 2 + cs2.length
   ·rw [if_pos c2,hcs2,cellsF_get (by omega),← f2 _ (by omega)]
    congr 2
    omega
   ·rw [if_neg c2,hcur k (by omega),f1 k (by omega)]
 have hgf : w.grownBy W3 (some g):=by rw [hW3]; exact hg2.trans (grownBy_setRow _ _ _)
 have HF:=Lib.hid (And.intro hfin hgf)
 have hcl2 : ∀ ty dc,(Builtin.clear_ #[25] ty #[.slice (some ⟨g,tot * 2,none⟩) (n - tot) dc]).run Tryz.prog W2=.ok (.tuple #[]) W3:=fun ty dc=>hcl1 ty _ dc (.inl rfl)
 unfold maxLen at hcm
 have hcs : ¬ c=tot∨(c=tot∧n=tot∧∀ ty dc,(Builtin.clear_ #[25] ty #[.slice (some ⟨g,0,none⟩) 0 dc]).run Tryz.prog W2=.ok (.tuple #[]) W3):=by
  rcases Nat.decEq c tot with h | h
  ·exact .inl h
  ·have e : n - tot=0:=by omega
   exact .inr ⟨h,by omega,fun ty dc=>by have:=hcl1 ty 0 dc (.inr e); rw [e] at this; exact this⟩
 have hz1 : ¬ ((i : Int)=(j : Int)):=by omega
 have hz2 : ¬ ((j : Int)=(n : Int)):=by omega
 have hw1 : IntKind.i64.wrap ((i : Int) + (m : Int))=(i : Int) + (m : Int):=by rw [IntKind.wrap_i64]; omega
 have hw2 : IntKind.i64.wrap ((i : Int) + (m : Int) + ((n - j : Nat) : Int))=(tot : Int):=by rw [IntKind.wrap_i64]; omega
 have hb0 : i≤j:=by omega
 have hb1 : j≤n:=by omega
 have hb2 : i≤c:=by omega
 have hb3 : j≤c:=by omega
 have hb4 : ¬ c=j:=by omega
 have hb5 : ¬ c=i:=by omega
 have hb6 : ¬ c=i + m:=by omega
 have hb7 : tot≤c:=by omega
 have hb8 : tot≤n:=by omega
 have hb9 : i≤tot:=by omega
 have hb10 : i + m≤tot:=by omega
 have ht1 : ((i : Int) + (m : Int)).toNat=i + m:=by omega
 have ht2 : (0 : Int)≤(i : Int) + (m : Int):=by omega
 have ht3 : (i : Int) + (m : Int)≤(j : Int):=by omega
 have ht4 : (i : Int) + (m : Int)≤(tot : Int):=by omega
 clear hfin hgf hcs1 hcs2 hW1 hW2 hW3 hl1 hl2 hfit1 hfit2 hfit3 hr1 hr2 hg1 hg2 hle1 hle2 hO hv h1F h1V f1 f2 f3 hcur hcl hr hsz hzs hzb hz0 hi0 hcz hlz hzc hcl1 htot
 rcases hcs with hc | ⟨h1,h2,hcl0⟩
 ·go_enter Tryz.func83,Tryz.ntmps83
  go_wp2
  go_region_law (fail)
  go_wp2_with (with_reducible refine wpList_copyI _ rfl _ _ 25 25 rfl _ _ rfl rfl (hcp1 _ _) ?_)
  go_region_law (refine step_copyI rfl _ _ 25 25 rfl (.slice (some ⟨g,(i + m) * 2,none⟩) (tot - (i + m)) (c - (i + m))) (.slice (some ⟨g,j * 2,none⟩) (n - j) (c - j)) (by simp [Act.eval,Act.put]) (by simp [Act.eval,Act.put]) (hcp2 3 (c - (i + m)) (c - j)) ?_)
  go_wp2_with (with_reducible refine wpList_clearI _ rfl _ 25 rfl _ rfl (hcl2 _ _) ?_)
  go_ret
  exact ⟨rfl,HF.out.1,HF.out.2⟩
 ·subst c
  subst tot
  go_enter Tryz.func83,Tryz.ntmps83
  go_wp2
  go_region_law (fail)
  go_wp2_with (with_reducible refine wpList_copyI _ rfl _ _ 25 25 rfl _ _ rfl rfl (hcp1 _ _) ?_)
  go_region_law (refine step_copyI rfl _ _ 25 25 rfl (.slice (some ⟨g,(i + m) * 2,none⟩) (n - (i + m)) (n - (i + m))) (.slice (some ⟨g,j * 2,none⟩) (n - j) (n - j)) (by simp [Act.eval,Act.put]) (by simp [Act.eval,Act.put]) (hcp2 3 (n - (i + m)) (n - j)) ?_)
  go_wp2_with (with_reducible refine wpList_clearI _ rfl _ 25 rfl _ rfl (hcl0 _ _) ?_)
  go_ret
  exact ⟨rfl,HF.out.1,HF.out.2⟩
set_option maxHeartbeats 4000000 in
set_option maxRecDepth 100000 in
/-- More is put there than is taken away; there is room. -/
theorem repRun_wide (base g n c i j m vc vb : Nat) (TV : TypeId) (Lv : List Value) (F V F' : Nat→Value) (w : World) (hij : i < j) (hj : j < n) (hfit : j < i + m) (hroom : i + m + (n - j)≤c) (hn : n + m≤2000000)
  (hO : OwnS w base 54 2 (.slice (some ⟨g,0,none⟩) n c) n F) (hv : RowW w vb TV Lv) (hvb : vb≠g) (hV : ∀ k,k < m * 2→Lv[k]?=some (V k)) (h1F : ∀ k,k < n * 2→(F k).oneCell'=true) (h1V : ∀ k,k < m * 2→(V k).oneCell'=true)
  (f1 : ∀ k,k < i * 2→F' k=F k) (f2 : ∀ k,k < m * 2→F' (i * 2 + k)=V k) (f3 : ∀ k,k < (n - j) * 2→F' ((i + m) * 2 + k)=F (j * 2 + k)) :
  Calls Tryz.prog 83 #[.slice (some ⟨g,0,none⟩) n c,.int .i64 i,.int .i64 j,.slice (some ⟨vb,0,none⟩) m vc] w fun e w' =>
   e=.returned (.slice (some ⟨g,0,none⟩) (i + m + (n - j)) c)∧OwnS w' base 54 2 (.slice (some ⟨g,0,none⟩) (i + m + (n - j)) c) (i + m + (n - j)) F'∧w.grownBy w' (some g):=by
 obtain ⟨i0,hi0,hz0,hzs,hzb⟩:=info_parts Tryz.infoMRun
 have hsz : (Tryz.prog.info? 54).map (·.size)=some 2:=by rw [hi0]; simp [hzs]
 obtain ⟨cur,hr,hb,hnc,hcm,hcl,hcur⟩:=hO.row
 obtain ⟨tot,htot⟩ : ∃ tot,tot=i + m + (n - j):=⟨_,rfl⟩
 have hLv : Lv.length≠0:=fun e=>by
  have:=hV 0 (by omega)
  rw [List.eq_nil_of_length_eq_zero e] at this
  cases this
 rw [← htot] at hroom ⊢
 have hov : ∀ lb cb,Sem.run Tryz.prog (callFunc 120 #[.slice (some ⟨g,(i + m) * 2,none⟩) lb cb,.slice (some ⟨vb,0,none⟩) m vc]) w.drew=.ok (.value (.bool false)) w.drew:=fun lb cb =>
  overRun w.drew ⟨g,(i + m) * 2,none⟩ ⟨vb,0,none⟩ lb cb m vc (fun e=>hvb e.symm) 54 TV cur.length Lv.length hr.drew.shape hv.drew.shape hLv (hr.drew.frozen _) (hr.drew.frozen _)
 obtain ⟨cs1,hcs1⟩ : ∃ cs1,cs1=cellsF ((n - j) * 2) (fun k=>F (j * 2 + k)):=⟨_,rfl⟩
 obtain ⟨cs2,hcs2⟩ : ∃ cs2,cs2=cellsF (m * 2) V:=⟨_,rfl⟩
 have hl1 : cs1.length=(n - j) * 2:=by rw [hcs1,cellsF_length]
 have hl2 : cs2.length=m * 2:=by rw [hcs2,cellsF_length]
 have hfit1 : (i + m) * 2 + cs1.length≤cur.length:=by rw [hl1,hcl]; omega
 obtain ⟨W1,hW1⟩ : ∃ W1,W1=w.drew.drew.setRow g (splice cur ((i + m) * 2) cs1).toArray:=⟨_,rfl⟩
 have hr1 : RowW W1 g 54 (splice cur ((i + m) * 2) cs1):=hW1▸hr.drew.drew.set
 have hg1 : w.grownBy W1 (some g):=hW1▸((grownBy_drew w _).trans (grownBy_drew _ _)).trans (grownBy_setRow _ _ _)
 have hv1 : RowW W1 vb TV Lv:=hv.grown hg1 (fun h=>hvb (by injection h))
 have hle1 : (splice cur ((i + m) * 2) cs1).length=cur.length:=length_splice _ _ _ hfit1
 have hcp1 : ∀ ty dc sc,(Builtin.copy_ #[25,25] ty #[.slice (some ⟨g,(i + m) * 2,none⟩) (tot - (i + m)) dc,.slice (some ⟨g,j * 2,none⟩) (n - j) sc]).run Tryz.prog w.drew.drew=.ok (goInt ((n - j : Nat) : Int)) W1:=fun ty dc sc=>by
  rw [hW1]
  refine run_copyS w.drew.drew _ _ ty 54 2 g _ _ _ _ _ _ _ _ cs1 (n - j) Tryz.underlying25 hsz hr.drew.drew (by simp only [Nat.min_def]; split <;> omega) hl1 (fun k v hk=>?_) hfit1 (hcs1▸cellsF_one fun k hk=>h1F _ (by omega))
  rw [hcs1] at hk
  obtain ⟨hk1,hk2⟩:=cellsF_inv hk
  rw [Addr.add_lit]
  exact hr.drew.drew.cell (hk2▸hcur _ (by omega))
 have hfit2 : i * 2 + cs2.length≤(splice cur ((i + m) * 2) cs1).length:=by rw [hle1,hl2,hcl]; omega
 obtain ⟨W2,hW2⟩ : ∃ W2,W2=W1.setRow g (splice (splice cur ((i + m) * 2) cs1) (i * 2) cs2).toArray:=⟨_,rfl⟩
 have hcp2 : ∀ ty dc,(Builtin.copy_ #[25,25] ty #[.slice (some ⟨g,i * 2,none⟩) (tot - i) dc,.slice (some ⟨vb,0,none⟩) m vc]).run Tryz.prog W1=.ok (goInt (m : Int)) W2:=fun ty dc=>by
  rw [hW2]
  refine run_copyS W1 _ _ ty 54 2 g _ _ _ _ _ _ _ _ cs2 m Tryz.underlying25 hsz hr1 (by simp only [Nat.min_def]; split <;> omega) hl2 (fun k v hk=>?_) hfit2 (hcs2▸cellsF_one h1V)
  rw [hcs2] at hk
  obtain ⟨hk1,hk2⟩:=cellsF_inv hk
  rw [Addr.add_lit,Nat.zero_add]
  exact hv1.cell (hk2▸hV _ hk1)
 have hfin : OwnS W2 base 54 2 (.slice (some ⟨g,0,none⟩) tot c) tot F':=by
  rw [hW2]
  refine OwnS.ofRow hr1.set hb hroom hcm (by rw [length_splice _ _ _ hfit2,hle1,hcl]) (fun k hk=>?_)
  rw [splice_get hfit2]
  by_cases c1 : i * 2≤k∧k < i * 2 + cs2.length
  ·rw [if_pos c1,hcs2,cellsF_get (by omega),← f2 _ (by omega)]
   congr 2
   omega
  ·rw [if_neg c1,splice_get hfit1]
   by_cases c2 : (i + m) * 2≤k∧k < (i + m) * 2 + cs1.length
   ·rw [if_pos c2,hcs1,cellsF_get (by omega),← f3 _ (by omega)]
    congr 2
    omega
   ·rw [if_neg c2,hcur k (by omega),f1 k (by omega)]
 have hgf : w.grownBy W2 (some g):=by rw [hW2]; exact hg1.trans (grownBy_setRow _ _ _)
 have HF:=Lib.hid (And.intro hfin hgf)
 unfold maxLen at hcm
 have hz1 : ¬ ((i : Int)=(j : Int)):=by omega
 have hz2 : ¬ ((j : Int)=(n : Int)):=by omega
 have hw1 : IntKind.i64.wrap ((i : Int) + (m : Int))=(i : Int) + (m : Int):=by rw [IntKind.wrap_i64]; omega
 have hw2 : IntKind.i64.wrap ((i : Int) + (m : Int) + ((n - j : Nat) : Int))=(tot : Int):=by rw [IntKind.wrap_i64]; omega
 have hb0 : i≤j:=by omega
 have hb1 : j≤n:=by omega
 have hb2 : i≤c:=by omega
 have hb3 : j≤c:=by omega
 have hb4 : ¬ c=j:=by omega
 have hb5 : ¬ c=i:=by omega
 have hb6 : ¬ c=i + m:=by omega
 have hb9 : i≤tot:=by omega
 have hb10 : i + m≤tot:=by omega
 have ht1 : ((i : Int) + (m : Int)).toNat=i + m:=by omega
 have ht2 : (0 : Int)≤(i : Int) + (m : Int):=by omega
 have ht3 : (j : Int) < (i : Int) + (m : Int):=by omega
 have ht4 : (i : Int) + (m : Int)≤(tot : Int):=by omega
 clear hfin hgf hcs1 hcs2 hW1 hW2 hl1 hl2 hfit1 hfit2 hr1 hg1 hle1 hO hv h1F h1V f1 f2 f3 hcur hcl hr hsz hzs hzb hz0 hi0 htot hV hv1 hLv
 go_enter Tryz.func83,Tryz.ntmps83
 go_wp2
 go_region_law (fail)
 go_wp2_with (simp only [hov])
 go_region_law (refine step_copyI rfl _ _ 25 25 rfl (.slice (some ⟨g,(i + m) * 2,none⟩) (tot - (i + m)) (c - (i + m))) (.slice (some ⟨g,j * 2,none⟩) (n - j) (c - j)) (by simp [Act.eval,Act.put]) (by simp [Act.eval,Act.put]) (hcp1 3 (c - (i + m)) (c - j)) ?_)
 go_wp2_with (with_reducible refine wpList_copyI _ rfl _ _ 25 25 rfl _ _ rfl rfl (hcp2 _ _) ?_)
 go_ret
 exact ⟨rfl,HF.out.1,HF.out.2⟩
end Go.Proofs.YtoolenhnhlfhmaaGreatDoor
