/- Walks: the document's count of pieces. Walk: dustpanref1.Pages. Walks: the document's spans, one by one. -/
import Derived.Test.YtoolenhnhlfhmaaGreatDoorGC
namespace Go.Proofs.YtoolenhnhlfhmaaGreatDoor
open Go.RowKit
set_option linter.unusedVariables false
set_option linter.unusedSimpArgs false
noncomputable def cntC (L : Nat) (C : Nat→Int) (a n : Int) (p : Nat) : Int:=if B (FitP L (a,n)∧InP (a,n) p) then C p + 1 else C p
set_option maxHeartbeats 2000000 in
set_option maxRecDepth 100000 in
theorem count_any (g L : Nat) (C : Nat→Int) (a n : Int) (base : Nat) (c : Nat) (w : World) (hL : L≤4096) (hC : ∀ p,0≤C p∧C p≤1000000)
  (hO : OwnS w base 3 1 (.slice (some ⟨g,0,none⟩) L c) L (fun j=>.int .i64 (C j))) :
  Calls Tryz.prog 72 #[.slice (some ⟨g,0,none⟩) L c,.int .i64 a,.int .i64 n] w fun e w' =>
   e=.returned (.bool (B (FitP L (a,n))))∧OwnS w' base 3 1 (.slice (some ⟨g,0,none⟩) L c) L (fun j=>.int .i64 (cntC L C a n j))∧∀ W0,Ext W0 w→W0.heap.size≤g→Ext W0 w':=by
 by_cases h0 : 0≤a∧1≤n∧a < L∧n≤L - a
 ·have hF : FitP L (a,n):=h0
  obtain ⟨q0,q1,q3,q4⟩:=h0
  have e0 : decide (a < 0)=false:=decide_eq_false (by omega)
  have e1 : decide (n < 1)=false:=decide_eq_false (by omega)
  have e3 : decide ((L : Int)≤a)=false:=decide_eq_false (by omega)
  have e4 : decide ((L : Int) - a < n)=false:=decide_eq_false (by omega)
  obtain ⟨A,rfl⟩ : ∃ A : Nat,a=(A : Int):=⟨a.toNat,by omega⟩
  obtain ⟨N,rfl⟩ : ∃ N : Nat,n=(N : Int):=⟨n.toNat,by omega⟩
  have HO:=Lib.hid (And.intro hO (And.intro hF hC))
  clear hO hF hC
  go_enter Tryz.func72,Tryz.ntmps72
  go_wp2
  go_loopg [7] N (fun q i wr=>∃ j : Nat,j≤N∧q=N - j∧i=.int .i64 ((A : Int) + (j : Int))∧OwnS wr base 3 1 (.slice (some ⟨g,0,none⟩) L c) L (fun p=>.int .i64 (if A≤p∧p < A + j then C p + 1 else C p))∧∀ W0,Ext W0 w→W0.heap.size≤g→Ext W0 wr)
  case atStart =>
   refine ⟨0,Nat.zero_le _,rfl,by simp,HO.out.1.congr fun p hp=>?_,fun W0 h _=>h⟩
   rw [if_neg (by omega)]
  case round =>
   obtain ⟨j,hj,rfl,rfl,hO,hE⟩:=hrel
   by_cases hlt : j < N
   ·have c0:=hO.cellAt (j:=A + j) (by omega)
    have f0:=hO.frozenAt (A + j)
    rw [if_neg (by omega)] at c0
    have r0 : (0 : Int)≤(A : Int) + (j : Int):=by omega
    have r1 : (A : Int) + (j : Int) < (L : Int):=by omega
    have r2 : (A : Int) + (j : Int) < (A : Int) + (N : Int):=by omega
    have r3 : ((A : Int) + (j : Int)).toNat=A + j:=by omega
    have hb:=HO.out.2.2 (A + j)
    have HR:=Lib.hid (And.intro hO hE)
    clear hO hE
    obtain ⟨x,hx⟩ : ∃ x,C (A + j)=x:=⟨_,rfl⟩
    rw [hx] at c0 hb
    have HX:=Lib.hid hx
    clear hx
    go_wp2
    go_roundg (N - (j + 1))
    case measure=>go_light; omega
    case rel =>
     refine ⟨j + 1,by omega,rfl,by go_num,(HR.out.1.set (A + j) (.int .i64 (x + 1))).congr fun p hp=>?_,fun W0 h k=>(HR.out.2 W0 h k).setCell k _⟩
     by_cases e : p=A + j
     ·rw [if_pos e,if_pos (by omega),e,HX.out]
     ·rw [if_neg e]
      have eq1 : (A≤p∧p < A + j)=(A≤p∧p < A + (j + 1)):=propext (by omega)
      simp only [eq1]
   ·obtain rfl : j=N:=by omega
    have r2 : ¬ (A : Int) + (j : Int) < (A : Int) + (j : Int):=by omega
    have HR:=Lib.hid (And.intro hO hE)
    clear hO hE
    go_wp2
    go_ret
    refine ⟨ret_bool (B_yes HO.out.2.1).symm,HR.out.1.congr fun p hp=>?_,HR.out.2⟩
    unfold cntC
    by_cases e : A≤p∧p < A + j
    ·have eB : B (FitP L ((A : Int),(j : Int))∧InP ((A : Int),(j : Int)) (p : Int))=true:=B_yes ⟨HO.out.2.1,by show (A : Int)≤(p : Int); omega,by show (p : Int) < (A : Int) + (j : Int); omega⟩
     rw [if_pos e,if_pos eB]
    ·have eB : ¬ (B (FitP L ((A : Int),(j : Int))∧InP ((A : Int),(j : Int)) (p : Int))=true):=by
      rw [B_iff]
      intro hh
      have h1:=hh.2.1
      have h2:=hh.2.2
      dsimp only at h1 h2
      omega
     rw [if_neg e,if_neg eB]
 ·have h1 : ¬ FitP L (a,n):=fun h=>h0 h
  have HO:=Lib.hid (And.intro hO h1)
  clear hO h1 hC
  have hds : decide (a < 0)=true∨(decide (a < 0)=false∧decide (n < 1)=true)∨(decide (a < 0)=false∧decide (n < 1)=false∧decide ((L : Int)≤a)=true)∨(decide (a < 0)=false∧decide (n < 1)=false∧decide ((L : Int)≤a)=false∧decide ((L : Int) - a < n)=true∧0≤a∧a < (L : Int)):=by
   simp only [decide_eq_true_eq,decide_eq_false_iff_not]
   omega
  clear h0
  rcases hds with d0 | ⟨d0,d1⟩ | ⟨d0,d1,d3⟩ | ⟨d0,d1,d3,d4,d5,d6⟩
  all_goals
   go_enter Tryz.func72,Tryz.ntmps72
   go_wp2
   go_ret
   refine ⟨ret_bool (B_no HO.out.2).symm,HO.out.1.congr fun p hp=>?_,fun W0 h _=>h⟩
   unfold cntC
   have eB : ¬ (B (FitP L (a,n)∧InP (a,n) (p : Int))=true):=by
    rw [B_iff]
    exact fun hh=>HO.out.2 hh.1
   rw [if_neg eB]
theorem ix3 (a b c : Int) : ∀ w,(Instr.index 84 (.agg #[.int .i64 a,.int .i64 b,.int .i64 c]) (.int .i64 1)).run Tryz.prog w=.ok (.int .i64 b) w:=fun _=>by kernel_rfl
set_option maxHeartbeats 400000 in
theorem pages1_any (c : Int) (w : World) : Calls Tryz.prog 23 #[.int .i64 c] w fun e w'=>e=.returned (.int .i64 (clsP c))∧Ext w w':=by
 have h3:=ix3 (clsB c) (clsP c) (clsS c)
 go_enter Tryz.func23,Tryz.ntmps23
 go_wp2_with (go_at_call 49; refine (row_any _ _).mono ?_; rintro e w' ⟨rfl,hE⟩)
 go_ret
 exact ⟨rfl,hE⟩
end Go.Proofs.YtoolenhnhlfhmaaGreatDoor
namespace Go.Proofs.YtoolenhnhlfhmaaGreatDoor
open Go.RowKit Go.Sort
set_option linter.unusedVariables false
set_option linter.unusedSimpArgs false
set_option maxHeartbeats 400000 in
theorem thread28_any (t : Int) (w : World) : Calls Tryz.prog 29 #[.int .i64 t] w fun e w'=>e=.returned (.bool (B (ThreadP t)))∧Ext w w':=by
 go_enter Tryz.func29,Tryz.ntmps29
 go_wp2
 all_goals go_ret
 all_goals exact ⟨ret_B (by unfold ThreadP; simp; omega),Ext.refl _⟩
theorem or_ones (j : Nat) (hj : j < 64) : bits .or .u64 ((2 ^ j - 1 : Nat) : Int) ((2 ^ j : Nat) : Int)=((2 ^ (j + 1) - 1 : Nat) : Int):=by
 have h0 : 0 < 2 ^ j:=Nat.two_pow_pos j
 have h1 : 2 ^ j≤2 ^ 63:=Nat.pow_le_pow_right (by decide) (by omega)
 rw [u64_or_nat _ _ (by omega) (by omega)]
 have h2:=Nat.two_pow_add_eq_or_of_lt (i:=j) (b:=2 ^ j - 1) (by omega) 1
 rw [Nat.mul_one] at h2
 rw [Nat.or_comm,← h2,Nat.pow_succ]
 congr 1
 omega
theorem wrap_pow (j : Nat) (hj : j < 64) : IntKind.u64.wrap ((2 : Int) ^ j)=((2 ^ j : Nat) : Int):=by
 have h1 : 2 ^ j≤2 ^ 63:=Nat.pow_le_pow_right (by decide) (by omega)
 have e : ((2 : Int) ^ j)=((2 ^ j : Nat) : Int):=by simp
 rw [e,IntKind.wrap_u64]
 generalize 2 ^ j=q at h1
 omega
set_option maxHeartbeats 1000000 in
theorem ones1_any (n : Nat) (w : World) (hn : n≤64) : Calls Tryz.prog 24 #[.int .i64 (n : Int)] w fun e w'=>e=.returned (.int .u64 ((2 ^ n - 1 : Nat) : Int))∧Ext w w':=by
 have k0 : decide ((n : Int) < 0)=false:=decide_eq_false (by omega)
 have k1 : decide ((64 : Int) < (n : Int))=false:=decide_eq_false (by omega)
 go_enter Tryz.func24,Tryz.ntmps24
 go_wp2
 go_loopg [3,4] n (fun q x i wr=>∃ j : Nat,j≤n∧q=n - j∧x=.int .u64 ((2 ^ j - 1 : Nat) : Int)∧i=.int .i64 (j : Int)∧Ext w wr)
 case atStart=>exact ⟨0,Nat.zero_le _,rfl,by simp,rfl,Ext.refl _⟩
 case round =>
  obtain ⟨j,hj,rfl,rfl,rfl,hE⟩:=hrel
  by_cases hlt : j < n
  ·have r1 : (j : Int) < (n : Int):=by omega
   go_wp2
   go_roundg (n - (j + 1))
   case measure=>go_light; omega
   case rel=>exact ⟨j + 1,by omega,rfl,by rw [wrap_pow j (by omega),or_ones j (by omega)],by go_num,hE⟩
  ·obtain rfl : j=n:=by omega
   go_wp2
   all_goals (go_ret; exact ⟨rfl,hE⟩)
theorem slots1N_any (c : Int) (w : World) : Calls Tryz.prog 25 #[.int .i64 c] w fun e w'=>e=.returned (.int .i64 (slN c : Int))∧Ext w w' :=
 (slots1_any c w).mono fun _ _ ⟨he,hE⟩=>⟨by rw [he,slN_eq c],hE⟩
set_option maxHeartbeats 4000000 in
set_option maxRecDepth 100000 in
theorem mayHold_any (h : HoldD) (w : World) : Calls Tryz.prog 40 #[holdV h] w fun e w'=>e=.returned (.bool (B (HoldOk h)))∧Ext w w':=by
 obtain ⟨pg,n,c,ho,cl,sw,al,mk⟩:=h
 unfold holdV
 dsimp only
 have hE0 : Ext w (w.alloc (.cells #[.int .i64 pg,.int .i64 n,.int .i64 c,.int .i64 ho,.int .i64 cl,.bool sw,.int .u64 (al : Int),.int .u64 (mk : Int)] 51)):=(Ext.refl _).alloc _
 have b0 : Blk (w.alloc (.cells #[.int .i64 pg,.int .i64 n,.int .i64 c,.int .i64 ho,.int .i64 cl,.bool sw,.int .u64 (al : Int),.int .u64 (mk : Int)] 51)) w.heap.size 51 #[.int .i64 pg,.int .i64 n,.int .i64 c,.int .i64 ho,.int .i64 cl,.bool sw,.int .u64 (al : Int),.int .u64 (mk : Int)]:=Blk.new _ _ _ _ rfl
 have hcs : decide (c < 0)=true∨(decide (c < 0)=false∧decide (14 < c)=true)∨(decide (c < 0)=false∧decide (14 < c)=false∧decide (c < 14)=false)∨(decide (c < 0)=false∧decide (14 < c)=false∧decide (c < 14)=true∧(n == clsP c)=true∧(n != clsP c)=false)∨(decide (c < 0)=false∧decide (14 < c)=false∧decide (c < 14)=true∧(n == clsP c)=false∧(n != clsP c)=true):=by
  by_cases k0 : c < 0
  ·exact .inl (decide_eq_true k0)
  ·by_cases k1 : 14 < c
   ·exact .inr (.inl ⟨decide_eq_false k0,decide_eq_true k1⟩)
   ·by_cases k2 : c < 14
    ·by_cases k3 : n=clsP c
     ·exact .inr (.inr (.inr (.inl ⟨decide_eq_false k0,decide_eq_false k1,decide_eq_true k2,by simpa using k3,by simpa using k3⟩)))
     ·exact .inr (.inr (.inr (.inr ⟨decide_eq_false k0,decide_eq_false k1,decide_eq_true k2,by simpa using k3,by simpa using k3⟩)))
    ·exact .inr (.inr (.inl ⟨decide_eq_false k0,decide_eq_false k1,decide_eq_false k2⟩))
 go_enter Tryz.func40,Tryz.ntmps40
 go_wp2
 generalize hW : w.alloc (.cells #[.int .i64 pg,.int .i64 n,.int .i64 c,.int .i64 ho,.int .i64 cl,.bool sw,.int .u64 (al : Int),.int .u64 (mk : Int)] 51)=W at b0 hE0 ⊢
 have x1:=fun d os=>cell_regrown (b0.cell (i:=1) (v:=.int .i64 n) rfl) d os
 have x2:=fun d os=>cell_regrown (b0.cell (i:=2) (v:=.int .i64 c) rfl) d os
 have HT:=Lib.hid (And.intro b0 hE0)
 clear b0 hE0 hW
 rcases hcs with e0 | ⟨e0,e1⟩ | ⟨e0,e1,e2⟩ | ⟨e0,e1,e2,e3,e4⟩ | ⟨e0,e1,e2,e3,e4⟩
 all_goals
  refine wp_region_quiet_below (by kernel_rfl) (by kernel_rfl) ?_
  repeat (go_big_quiet_step ((go_at_call 23; exact Calls.regrown_of (pages1_any c _))))
  refine wpQuiet_nil ?_
  intro _ hw'
  obtain ⟨⟨dq,osq⟩,hw''⟩:=hw'
  subst hw''
  go_wp2
 ·go_ret
  exact ⟨ret_bool (B_no fun h=>by have:=h.1.1; dsimp only at this; simp only [decide_eq_true_eq] at e0; omega).symm,HT.out.2.trans (below_regrown W dq osq)⟩
 ·go_ret
  exact ⟨ret_bool (B_no fun h=>by have:=h.1.2.1; dsimp only at this; simp only [decide_eq_true_eq] at e1; omega).symm,HT.out.2.trans (below_regrown W dq osq)⟩
 rotate_left 2
 ·go_ret
  refine ⟨ret_bool (B_no fun h=>?_).symm,HT.out.2.trans (below_regrown W dq osq)⟩
  have h2:=h.2.1
  dsimp only at h2
  simp only [decide_eq_true_eq,decide_eq_false_iff_not,beq_eq_false_iff_ne,ne_eq] at e0 e1 e2 e3
  refine e3 ((h2 (by omega)).trans ?_)
  unfold pagC
  rw [if_pos ⟨by omega,e2⟩]
 all_goals
  have hc : (0≤c∧c≤14)∧(c≠14→n=pagC c):=by
   simp only [decide_eq_true_eq,decide_eq_false_iff_not,beq_iff_eq] at *
   refine ⟨by omega,fun h14=>?_⟩
   first
   | omega
   |(rw [e3]; unfold pagC; rw [if_pos ⟨by omega,e2⟩])
  have hE2 : Ext W (grow (redrawn W dq) osq):=below_regrown _ _ _
  generalize grow (redrawn W dq) osq=W2 at hE2 ⊢
  have b2:=HT.out.1.ext hE2
  have y2:=fun d os=>cell_regrown (b2.cell (i:=2) (v:=.int .i64 c) rfl) d os
  have y3:=fun d os=>cell_regrown (b2.cell (i:=3) (v:=.int .i64 ho) rfl) d os
  have y4:=fun d os=>cell_regrown (b2.cell (i:=4) (v:=.int .i64 cl) rfl) d os
  have y6:=fun d os=>cell_regrown (b2.cell (i:=6) (v:=.int .u64 (al : Int)) rfl) d os
  have y7:=fun d os=>cell_regrown (b2.cell (i:=7) (v:=.int .u64 (mk : Int)) rfl) d os
  have HT2:=Lib.hid (And.intro (HT.out.2.trans hE2) hc)
  clear b2 x1 x2 hE2 hc
  have who3 : ∀ x : Int,((x == -1)=true∧WhoP x)∨((x == -1)=false∧B (ThreadP x)=true∧WhoP x)∨((x == -1)=false∧B (ThreadP x)=false∧¬ WhoP x):=by
   intro x
   by_cases k0 : x=-1
   ·exact .inl ⟨by simpa using k0,.inl k0⟩
   ·by_cases k1 : ThreadP x
    ·exact .inr (.inl ⟨by simpa using k0,B_yes k1,.inr k1⟩)
    ·exact .inr (.inr ⟨by simpa using k0,B_no k1,fun h=>h.elim k0 k1⟩)
  have hal : decide (al≤2 ^ slN c - 1)=true∨decide (al≤2 ^ slN c - 1)=false:=by
   by_cases k1 : al≤2 ^ slN c - 1
   ·exact .inl (decide_eq_true k1)
   ·exact .inr (decide_eq_false k1)
  rcases who3 ho with ⟨w0,w1⟩ | ⟨w0,w2,w1⟩ | ⟨w0,w2,w1⟩ <;> rcases who3 cl with ⟨v0,v1⟩ | ⟨v0,v2,v1⟩ | ⟨v0,v2,v1⟩ <;> rcases hal with ha | ha
  all_goals
   have HW:=Lib.hid (And.intro w1 v1)
   clear w1 v1 who3
   refine wp_region_quiet_below (by kernel_rfl) (by kernel_rfl) ?_
   repeat (go_big_quiet_step ((first
    |(go_at_call 29; exact Calls.regrown_of (thread28_any _ _))
    |(go_at_call 25; exact Calls.regrown_of (slots1N_any c _))
    |(go_at_call 24; exact Calls.regrown_of (ones1_any (slN c) _ (slN_le c))))))
   refine wpQuiet_nil ?_
   intro _ hw'
   obtain ⟨⟨dq,osq⟩,hw''⟩:=hw'
   subst hw''
   go_wp2
   go_ret
   refine ⟨ret_B ?_,HT2.out.1.trans (below_regrown _ _ _)⟩
   unfold HoldOk
   dsimp only
   simp only [decide_eq_true_eq,decide_eq_false_iff_not,beq_iff_eq] at ha ⊢
   first
   | exact ⟨fun h=>⟨⟨HT2.out.2.1.1,HT2.out.2.1.2,HW.out.1,HW.out.2⟩,HT2.out.2.2,by omega,h⟩,fun h=>h.2.2.2⟩
   | exact ⟨fun h=>(by cases h),fun h=>absurd h.1.2.2.1 HW.out.1⟩
   | exact ⟨fun h=>(by cases h),fun h=>absurd h.1.2.2.2 HW.out.2⟩
   | exact ⟨fun h=>(by cases h),fun h=>absurd h.2.2.1 (by omega)⟩
end Go.Proofs.YtoolenhnhlfhmaaGreatDoor
