/- Walks: slices.BinarySearchFunc of rows that rise by a key (printed by gen_mdq.py). -/
import Derived.Test.YtoolenhnhlfhmaaGreatDoorGG
namespace Go.Proofs.YtoolenhnhlfhmaaGreatDoor
open Go.RowKit Go.Sort
set_option linter.unusedVariables false
set_option linter.unusedSimpArgs false
/-- A row rises by a key. -/
def Rises {α : Type} (d : α) (l : List α) (key : α→Int) : Prop:=∀ a b,a < b→b < l.length→key (ix d l a) < key (ix d l b)
theorem rises_of {α : Type} {d : α} {l : List α} {key : α→Int} (h : ∀ i,i < l.length→0 < i→key (ix d l (i - 1)) < key (ix d l i)) : Rises d l key:=by
 intro a b
 induction b with
 | zero=>intro h1; exact absurd h1 (by omega)
 | succ b ih =>
  intro h1 h2
  have h3:=h (b + 1) h2 (by omega)
  rw [Nat.add_sub_cancel] at h3
  by_cases e : a=b
  ·rw [e]; exact h3
  ·exact Int.lt_trans (ih (by omega) (by omega)) h3
theorem Rises.le {α : Type} {d : α} {l : List α} {key : α→Int} (h : Rises d l key) {a b : Nat} (h1 : a≤b) (h2 : b < l.length) : key (ix d l a)≤key (ix d l b):=by
 by_cases e : a=b
 ·rw [e]; exact Int.le_refl _
 ·exact Int.le_of_lt (h a b (by omega) h2)
theorem cmpI_lt {a b : Int} (h : a < b) : cmpI a b=-1:=if_pos h
theorem cmpI_gt {a b : Int} (h : b < a) : cmpI a b=1:=by rw [cmpI,if_neg (by omega),if_pos h]
theorem cmpI_eq {a b : Int} (h : a=b) : cmpI a b=0:=by rw [cmpI,if_neg (by omega),if_neg (by omega)]
set_option maxHeartbeats 4000000 in
set_option maxRecDepth 100000 in
theorem searchRun_any (A : Option Addr) (l : List RunD) (c : Nat) (g : FuncId) (x : Int) (key : RunD→Int) (w : World) (hL : l.length≤1000000) (hcf : ∀ (xs : Array Value) (w : World),Sem.run Tryz.prog (callFunc g xs) w=.ok (.enter g xs) w) (hR : SlR w A l.length 2 (runV l)) (hs : Rises noRun l key)
  (hg : ∀ r w',Calls Tryz.prog g #[.agg #[.int .i64 r.at_,.int .i64 r.n],.int .i64 x] w' fun e w''=>e=.returned (.int .i64 (cmpI (key r) x))∧Ext w' w'') :
  Calls Tryz.prog 102 #[.slice A l.length c,.int .i64 x,.func (.func g) #[] #[]] w fun e w'=>∃ i : Nat,i≤l.length∧e=.returned (.tuple #[.int .i64 (i : Int),.bool (B (i < l.length∧key (ix noRun l i)=x))])∧(∀ k,k < i→key (ix noRun l k) < x)∧(∀ k,i≤k→k < l.length→x≤key (ix noRun l k))∧Ext w w':=by
 have HS:=Lib.hid (And.intro hR (And.intro hg hs))
 clear hR hg hs
 go_enter Tryz.func102,Tryz.ntmps102
 go_wp2
 go_loopg [9,10] l.length (fun q u v wr=>∃ i j : Nat,i≤j∧j≤l.length∧q=j - i∧u=.int .i64 (i : Int)∧v=.int .i64 (j : Int)∧Ext w wr∧(∀ k,k < i→key (ix noRun l k) < x)∧∀ k,j≤k→k < l.length→x≤key (ix noRun l k))
 case atStart=>exact ⟨0,l.length,Nat.zero_le _,Nat.le_refl _,rfl,rfl,rfl,Ext.refl _,fun k hk=>absurd hk (by omega),fun k h1 h2=>absurd h1 (by omega)⟩
 case round =>
  obtain ⟨i,j,hij,hj,rfl,rfl,rfl,hE,hlo,hhi⟩:=hrel
  have HZ:=Lib.hid (And.intro hlo (And.intro hhi hE))
  clear hlo hhi
  by_cases hlt : i < j
  ·have q0 : (i : Int) < (j : Int):=by omega
   obtain ⟨h,hh⟩ : ∃ h : Nat,((i : Int) + (j : Int)) / 2=(h : Int):=⟨(i + j) / 2,by omega⟩
   have q1 : (0 : Int)≤(h : Int):=by omega
   have q2 : (h : Int) < (l.length : Int):=by omega
   have q4 : i≤h∧h < j:=by omega
   obtain ⟨b,off,rfl,hcl⟩:=HS.out.1 (by omega)
   have a0:=hE.cell (hcl (h * 2 + 0) (by omega))
   rw [Nat.add_zero,runV0] at a0
   have a1:=hE.cell (hcl (h * 2 + 1) (by omega))
   rw [runV1,← Nat.add_assoc] at a1
   obtain ⟨r,hr⟩ : ∃ r,ix noRun l h=r:=⟨_,rfl⟩
   rw [hr] at a0 a1
   have hcall:=HS.out.2.1 r wr
   have H4:=Lib.hid (And.intro q4 (And.intro hlt (And.intro hj hij)))
   clear hcl q4
   by_cases hk : key r < x
   ·rw [cmpI_lt hk] at hcall
    have HC:=Lib.hid (And.intro hcall (And.intro hk hr))
    clear hcall hk hr hE
    go_wp2_with (refine HC.out.1.mono ?_; rintro e w2 ⟨rfl,hE2⟩)
    go_roundg (j - (h + 1))
    case measure=>go_light; have:=H4.out; omega
    case rel =>
     have h4:=H4.out
     refine ⟨h + 1,j,by omega,h4.2.2.1,rfl,by go_num,rfl,HZ.out.2.2.trans hE2,fun k hk=>?_,HZ.out.2.1⟩
     have h5:=HS.out.2.2.le (a:=k) (b:=h) (by omega) (by omega)
     rw [HC.out.2.2] at h5
     exact Int.lt_of_le_of_lt h5 HC.out.2.1
   ·have hge : cmpI (key r) x=0∨cmpI (key r) x=1:=by
     by_cases e : x < key r
     ·exact .inr (cmpI_gt e)
     ·exact .inl (cmpI_eq (by omega))
    have HK:=Lib.hid (And.intro hk hr)
    clear hk hr hE
    rcases hge with hv | hv
    all_goals
     rw [hv] at hcall
     have HC:=Lib.hid hcall
     clear hcall hv
     go_wp2_with (refine HC.out.mono ?_; rintro e w2 ⟨rfl,hE2⟩)
     go_roundg (h - i)
     case measure=>go_light; have:=H4.out; omega
     case rel =>
      have h4:=H4.out
      refine ⟨i,h,h4.1.1,by omega,rfl,rfl,by go_num,HZ.out.2.2.trans hE2,HZ.out.1,fun k h5 h6=>?_⟩
      have h7:=HS.out.2.2.le (a:=h) (b:=k) h5 h6
      rw [HK.out.2] at h7
      have h8:=HK.out.1
      omega
  ·obtain rfl : i=j:=by omega
   by_cases hn : i < l.length
   ·have q2 : (i : Int) < (l.length : Int):=by omega
    have q1 : (0 : Int)≤(i : Int):=by omega
    obtain ⟨b,off,rfl,hcl⟩:=HS.out.1 (by omega)
    have a0:=hE.cell (hcl (i * 2 + 0) (by omega))
    rw [Nat.add_zero,runV0] at a0
    have a1:=hE.cell (hcl (i * 2 + 1) (by omega))
    rw [runV1,← Nat.add_assoc] at a1
    obtain ⟨r,hr⟩ : ∃ r,ix noRun l i=r:=⟨_,rfl⟩
    rw [hr] at a0 a1
    have hcall:=HS.out.2.1 r wr
    by_cases e : key r=x
    ·rw [cmpI_eq e] at hcall
     have HC:=Lib.hid (And.intro hcall (And.intro e hr))
     clear hcall e hr hE hcl
     go_wp2_with (refine HC.out.1.mono ?_; rintro e w2 ⟨rfl,hE2⟩)
     go_ret2
     exact ⟨i,hj,by rw [B_yes ⟨hn,by rw [HC.out.2.2]; exact HC.out.2.1⟩]; rfl,HZ.out.1,HZ.out.2.1,HZ.out.2.2.trans hE2⟩
    ·have hge : cmpI (key r) x=-1∨cmpI (key r) x=1:=by
      by_cases e2 : x < key r
      ·exact .inr (cmpI_gt e2)
      ·exact .inl (cmpI_lt (by omega))
     have HK:=Lib.hid (And.intro e hr)
     clear e hr hE hcl
     rcases hge with hv | hv
     all_goals
      rw [hv] at hcall
      have HC:=Lib.hid hcall
      clear hcall hv
      go_wp2_with (refine HC.out.mono ?_; rintro e w2 ⟨rfl,hE2⟩)
      go_ret2
      exact ⟨i,hj,by rw [B_no fun h=>HK.out.1 (by have:=h.2; rwa [HK.out.2] at this)]; rfl,HZ.out.1,HZ.out.2.1,HZ.out.2.2.trans hE2⟩
   ·obtain rfl : i=l.length:=by omega
    clear hE
    go_wp2
    go_ret2
    exact ⟨_,hj,by rw [B_no fun h=>hn h.1]; rfl,HZ.out.1,HZ.out.2.1,HZ.out.2.2⟩
set_option maxHeartbeats 4000000 in
set_option maxRecDepth 100000 in
theorem searchHand_any (A : Option Addr) (l : List HandD) (c : Nat) (g : FuncId) (x : Int) (key : HandD→Int) (w : World) (hL : l.length≤1000000) (hcf : ∀ (xs : Array Value) (w : World),Sem.run Tryz.prog (callFunc g xs) w=.ok (.enter g xs) w) (hR : SlR w A l.length 3 (handV l)) (hs : Rises noHand l key)
  (hg : ∀ r w',Calls Tryz.prog g #[.agg #[.int .i64 r.t,.int .i64 r.at_,.int .i64 r.n],.int .i64 x] w' fun e w''=>e=.returned (.int .i64 (cmpI (key r) x))∧Ext w' w'') :
  Calls Tryz.prog 123 #[.slice A l.length c,.int .i64 x,.func (.func g) #[] #[]] w fun e w'=>∃ i : Nat,i≤l.length∧e=.returned (.tuple #[.int .i64 (i : Int),.bool (B (i < l.length∧key (ix noHand l i)=x))])∧(∀ k,k < i→key (ix noHand l k) < x)∧(∀ k,i≤k→k < l.length→x≤key (ix noHand l k))∧Ext w w':=by
 have HS:=Lib.hid (And.intro hR (And.intro hg hs))
 clear hR hg hs
 go_enter Tryz.func123,Tryz.ntmps123
 go_wp2
 go_loopg [9,10] l.length (fun q u v wr=>∃ i j : Nat,i≤j∧j≤l.length∧q=j - i∧u=.int .i64 (i : Int)∧v=.int .i64 (j : Int)∧Ext w wr∧(∀ k,k < i→key (ix noHand l k) < x)∧∀ k,j≤k→k < l.length→x≤key (ix noHand l k))
 case atStart=>exact ⟨0,l.length,Nat.zero_le _,Nat.le_refl _,rfl,rfl,rfl,Ext.refl _,fun k hk=>absurd hk (by omega),fun k h1 h2=>absurd h1 (by omega)⟩
 case round =>
  obtain ⟨i,j,hij,hj,rfl,rfl,rfl,hE,hlo,hhi⟩:=hrel
  have HZ:=Lib.hid (And.intro hlo (And.intro hhi hE))
  clear hlo hhi
  by_cases hlt : i < j
  ·have q0 : (i : Int) < (j : Int):=by omega
   obtain ⟨h,hh⟩ : ∃ h : Nat,((i : Int) + (j : Int)) / 2=(h : Int):=⟨(i + j) / 2,by omega⟩
   have q1 : (0 : Int)≤(h : Int):=by omega
   have q2 : (h : Int) < (l.length : Int):=by omega
   have q4 : i≤h∧h < j:=by omega
   obtain ⟨b,off,rfl,hcl⟩:=HS.out.1 (by omega)
   have a0:=hE.cell (hcl (h * 3 + 0) (by omega))
   rw [Nat.add_zero,handV0] at a0
   have a1:=hE.cell (hcl (h * 3 + 1) (by omega))
   rw [handV1,← Nat.add_assoc] at a1
   have a2:=hE.cell (hcl (h * 3 + 2) (by omega))
   rw [handV2,← Nat.add_assoc] at a2
   obtain ⟨r,hr⟩ : ∃ r,ix noHand l h=r:=⟨_,rfl⟩
   rw [hr] at a0 a1 a2
   have hcall:=HS.out.2.1 r wr
   have H4:=Lib.hid (And.intro q4 (And.intro hlt (And.intro hj hij)))
   clear hcl q4
   by_cases hk : key r < x
   ·rw [cmpI_lt hk] at hcall
    have HC:=Lib.hid (And.intro hcall (And.intro hk hr))
    clear hcall hk hr hE
    go_wp2_with (refine HC.out.1.mono ?_; rintro e w2 ⟨rfl,hE2⟩)
    go_roundg (j - (h + 1))
    case measure=>go_light; have:=H4.out; omega
    case rel =>
     have h4:=H4.out
     refine ⟨h + 1,j,by omega,h4.2.2.1,rfl,by go_num,rfl,HZ.out.2.2.trans hE2,fun k hk=>?_,HZ.out.2.1⟩
     have h5:=HS.out.2.2.le (a:=k) (b:=h) (by omega) (by omega)
     rw [HC.out.2.2] at h5
     exact Int.lt_of_le_of_lt h5 HC.out.2.1
   ·have hge : cmpI (key r) x=0∨cmpI (key r) x=1:=by
     by_cases e : x < key r
     ·exact .inr (cmpI_gt e)
     ·exact .inl (cmpI_eq (by omega))
    have HK:=Lib.hid (And.intro hk hr)
    clear hk hr hE
    rcases hge with hv | hv
    all_goals
     rw [hv] at hcall
     have HC:=Lib.hid hcall
     clear hcall hv
     go_wp2_with (refine HC.out.mono ?_; rintro e w2 ⟨rfl,hE2⟩)
     go_roundg (h - i)
     case measure=>go_light; have:=H4.out; omega
     case rel =>
      have h4:=H4.out
      refine ⟨i,h,h4.1.1,by omega,rfl,rfl,by go_num,HZ.out.2.2.trans hE2,HZ.out.1,fun k h5 h6=>?_⟩
      have h7:=HS.out.2.2.le (a:=h) (b:=k) h5 h6
      rw [HK.out.2] at h7
      have h8:=HK.out.1
      omega
  ·obtain rfl : i=j:=by omega
   by_cases hn : i < l.length
   ·have q2 : (i : Int) < (l.length : Int):=by omega
    have q1 : (0 : Int)≤(i : Int):=by omega
    obtain ⟨b,off,rfl,hcl⟩:=HS.out.1 (by omega)
    have a0:=hE.cell (hcl (i * 3 + 0) (by omega))
    rw [Nat.add_zero,handV0] at a0
    have a1:=hE.cell (hcl (i * 3 + 1) (by omega))
    rw [handV1,← Nat.add_assoc] at a1
    have a2:=hE.cell (hcl (i * 3 + 2) (by omega))
    rw [handV2,← Nat.add_assoc] at a2
    obtain ⟨r,hr⟩ : ∃ r,ix noHand l i=r:=⟨_,rfl⟩
    rw [hr] at a0 a1 a2
    have hcall:=HS.out.2.1 r wr
    by_cases e : key r=x
    ·rw [cmpI_eq e] at hcall
     have HC:=Lib.hid (And.intro hcall (And.intro e hr))
     clear hcall e hr hE hcl
     go_wp2_with (refine HC.out.1.mono ?_; rintro e w2 ⟨rfl,hE2⟩)
     go_ret2
     exact ⟨i,hj,by rw [B_yes ⟨hn,by rw [HC.out.2.2]; exact HC.out.2.1⟩]; rfl,HZ.out.1,HZ.out.2.1,HZ.out.2.2.trans hE2⟩
    ·have hge : cmpI (key r) x=-1∨cmpI (key r) x=1:=by
      by_cases e2 : x < key r
      ·exact .inr (cmpI_gt e2)
      ·exact .inl (cmpI_lt (by omega))
     have HK:=Lib.hid (And.intro e hr)
     clear e hr hE hcl
     rcases hge with hv | hv
     all_goals
      rw [hv] at hcall
      have HC:=Lib.hid hcall
      clear hcall hv
      go_wp2_with (refine HC.out.mono ?_; rintro e w2 ⟨rfl,hE2⟩)
      go_ret2
      exact ⟨i,hj,by rw [B_no fun h=>HK.out.1 (by have:=h.2; rwa [HK.out.2] at this)]; rfl,HZ.out.1,HZ.out.2.1,HZ.out.2.2.trans hE2⟩
   ·obtain rfl : i=l.length:=by omega
    clear hE
    go_wp2
    go_ret2
    exact ⟨_,hj,by rw [B_no fun h=>hn h.1]; rfl,HZ.out.1,HZ.out.2.1,HZ.out.2.2⟩
set_option maxHeartbeats 4000000 in
set_option maxRecDepth 100000 in
theorem searchHold_any (A : Option Addr) (l : List HoldD) (c : Nat) (g : FuncId) (x : Int) (key : HoldD→Int) (w : World) (hL : l.length≤1000000) (hcf : ∀ (xs : Array Value) (w : World),Sem.run Tryz.prog (callFunc g xs) w=.ok (.enter g xs) w) (hR : SlR w A l.length 8 (holdsV l)) (hs : Rises noHold l key)
  (hg : ∀ r w',Calls Tryz.prog g #[.agg #[.int .i64 r.page,.int .i64 r.pages,.int .i64 r.cls,.int .i64 r.holder,.int .i64 r.claim,.bool r.swept,.int .u64 (r.alloc : Int),.int .u64 (r.marks : Int)],.int .i64 x] w' fun e w''=>e=.returned (.int .i64 (cmpI (key r) x))∧Ext w' w'') :
  Calls Tryz.prog 96 #[.slice A l.length c,.int .i64 x,.func (.func g) #[] #[]] w fun e w'=>∃ i : Nat,i≤l.length∧e=.returned (.tuple #[.int .i64 (i : Int),.bool (B (i < l.length∧key (ix noHold l i)=x))])∧(∀ k,k < i→key (ix noHold l k) < x)∧(∀ k,i≤k→k < l.length→x≤key (ix noHold l k))∧Ext w w':=by
 have HS:=Lib.hid (And.intro hR (And.intro hg hs))
 clear hR hg hs
 go_enter Tryz.func96,Tryz.ntmps96
 go_wp2
 go_loopg [9,10] l.length (fun q u v wr=>∃ i j : Nat,i≤j∧j≤l.length∧q=j - i∧u=.int .i64 (i : Int)∧v=.int .i64 (j : Int)∧Ext w wr∧(∀ k,k < i→key (ix noHold l k) < x)∧∀ k,j≤k→k < l.length→x≤key (ix noHold l k))
 case atStart=>exact ⟨0,l.length,Nat.zero_le _,Nat.le_refl _,rfl,rfl,rfl,Ext.refl _,fun k hk=>absurd hk (by omega),fun k h1 h2=>absurd h1 (by omega)⟩
 case round =>
  obtain ⟨i,j,hij,hj,rfl,rfl,rfl,hE,hlo,hhi⟩:=hrel
  have HZ:=Lib.hid (And.intro hlo (And.intro hhi hE))
  clear hlo hhi
  by_cases hlt : i < j
  ·have q0 : (i : Int) < (j : Int):=by omega
   obtain ⟨h,hh⟩ : ∃ h : Nat,((i : Int) + (j : Int)) / 2=(h : Int):=⟨(i + j) / 2,by omega⟩
   have q1 : (0 : Int)≤(h : Int):=by omega
   have q2 : (h : Int) < (l.length : Int):=by omega
   have q4 : i≤h∧h < j:=by omega
   obtain ⟨b,off,rfl,hcl⟩:=HS.out.1 (by omega)
   have a0:=hE.cell (hcl (h * 8 + 0) (by omega))
   rw [holdsV_at _ _ _ (by omega),Nat.add_zero] at a0
   have a1:=hE.cell (hcl (h * 8 + 1) (by omega))
   rw [holdsV_at _ _ _ (by omega),← Nat.add_assoc] at a1
   have a2:=hE.cell (hcl (h * 8 + 2) (by omega))
   rw [holdsV_at _ _ _ (by omega),← Nat.add_assoc] at a2
   have a3:=hE.cell (hcl (h * 8 + 3) (by omega))
   rw [holdsV_at _ _ _ (by omega),← Nat.add_assoc] at a3
   have a4:=hE.cell (hcl (h * 8 + 4) (by omega))
   rw [holdsV_at _ _ _ (by omega),← Nat.add_assoc] at a4
   have a5:=hE.cell (hcl (h * 8 + 5) (by omega))
   rw [holdsV_at _ _ _ (by omega),← Nat.add_assoc] at a5
   have a6:=hE.cell (hcl (h * 8 + 6) (by omega))
   rw [holdsV_at _ _ _ (by omega),← Nat.add_assoc] at a6
   have a7:=hE.cell (hcl (h * 8 + 7) (by omega))
   rw [holdsV_at _ _ _ (by omega),← Nat.add_assoc] at a7
   obtain ⟨r,hr⟩ : ∃ r,ix noHold l h=r:=⟨_,rfl⟩
   rw [hr] at a0 a1 a2 a3 a4 a5 a6 a7
   replace a0:=a0.trans (show some (holdC r 0)=some (.int .i64 r.page) from rfl)
   replace a1:=a1.trans (show some (holdC r 1)=some (.int .i64 r.pages) from rfl)
   replace a2:=a2.trans (show some (holdC r 2)=some (.int .i64 r.cls) from rfl)
   replace a3:=a3.trans (show some (holdC r 3)=some (.int .i64 r.holder) from rfl)
   replace a4:=a4.trans (show some (holdC r 4)=some (.int .i64 r.claim) from rfl)
   replace a5:=a5.trans (show some (holdC r 5)=some (.bool r.swept) from rfl)
   replace a6:=a6.trans (show some (holdC r 6)=some (.int .u64 (r.alloc : Int)) from rfl)
   replace a7:=a7.trans (show some (holdC r 7)=some (.int .u64 (r.marks : Int)) from rfl)
   have hcall:=HS.out.2.1 r wr
   have H4:=Lib.hid (And.intro q4 (And.intro hlt (And.intro hj hij)))
   clear hcl q4
   by_cases hk : key r < x
   ·rw [cmpI_lt hk] at hcall
    have HC:=Lib.hid (And.intro hcall (And.intro hk hr))
    clear hcall hk hr hE
    go_wp2_with (refine HC.out.1.mono ?_; rintro e w2 ⟨rfl,hE2⟩)
    go_roundg (j - (h + 1))
    case measure=>go_light; have:=H4.out; omega
    case rel =>
     have h4:=H4.out
     refine ⟨h + 1,j,by omega,h4.2.2.1,rfl,by go_num,rfl,HZ.out.2.2.trans hE2,fun k hk=>?_,HZ.out.2.1⟩
     have h5:=HS.out.2.2.le (a:=k) (b:=h) (by omega) (by omega)
     rw [HC.out.2.2] at h5
     exact Int.lt_of_le_of_lt h5 HC.out.2.1
   ·have hge : cmpI (key r) x=0∨cmpI (key r) x=1:=by
     by_cases e : x < key r
     ·exact .inr (cmpI_gt e)
     ·exact .inl (cmpI_eq (by omega))
    have HK:=Lib.hid (And.intro hk hr)
    clear hk hr hE
    rcases hge with hv | hv
    all_goals
     rw [hv] at hcall
     have HC:=Lib.hid hcall
     clear hcall hv
     go_wp2_with (refine HC.out.mono ?_; rintro e w2 ⟨rfl,hE2⟩)
     go_roundg (h - i)
     case measure=>go_light; have:=H4.out; omega
     case rel =>
      have h4:=H4.out
      refine ⟨i,h,h4.1.1,by omega,rfl,rfl,by go_num,HZ.out.2.2.trans hE2,HZ.out.1,fun k h5 h6=>?_⟩
      have h7:=HS.out.2.2.le (a:=h) (b:=k) h5 h6
      rw [HK.out.2] at h7
      have h8:=HK.out.1
      omega
  ·obtain rfl : i=j:=by omega
   by_cases hn : i < l.length
   ·have q2 : (i : Int) < (l.length : Int):=by omega
    have q1 : (0 : Int)≤(i : Int):=by omega
    obtain ⟨b,off,rfl,hcl⟩:=HS.out.1 (by omega)
    have a0:=hE.cell (hcl (i * 8 + 0) (by omega))
    rw [holdsV_at _ _ _ (by omega),Nat.add_zero] at a0
    have a1:=hE.cell (hcl (i * 8 + 1) (by omega))
    rw [holdsV_at _ _ _ (by omega),← Nat.add_assoc] at a1
    have a2:=hE.cell (hcl (i * 8 + 2) (by omega))
    rw [holdsV_at _ _ _ (by omega),← Nat.add_assoc] at a2
    have a3:=hE.cell (hcl (i * 8 + 3) (by omega))
    rw [holdsV_at _ _ _ (by omega),← Nat.add_assoc] at a3
    have a4:=hE.cell (hcl (i * 8 + 4) (by omega))
    rw [holdsV_at _ _ _ (by omega),← Nat.add_assoc] at a4
    have a5:=hE.cell (hcl (i * 8 + 5) (by omega))
    rw [holdsV_at _ _ _ (by omega),← Nat.add_assoc] at a5
    have a6:=hE.cell (hcl (i * 8 + 6) (by omega))
    rw [holdsV_at _ _ _ (by omega),← Nat.add_assoc] at a6
    have a7:=hE.cell (hcl (i * 8 + 7) (by omega))
    rw [holdsV_at _ _ _ (by omega),← Nat.add_assoc] at a7
    obtain ⟨r,hr⟩ : ∃ r,ix noHold l i=r:=⟨_,rfl⟩
    rw [hr] at a0 a1 a2 a3 a4 a5 a6 a7
    replace a0:=a0.trans (show some (holdC r 0)=some (.int .i64 r.page) from rfl)
    replace a1:=a1.trans (show some (holdC r 1)=some (.int .i64 r.pages) from rfl)
    replace a2:=a2.trans (show some (holdC r 2)=some (.int .i64 r.cls) from rfl)
    replace a3:=a3.trans (show some (holdC r 3)=some (.int .i64 r.holder) from rfl)
    replace a4:=a4.trans (show some (holdC r 4)=some (.int .i64 r.claim) from rfl)
    replace a5:=a5.trans (show some (holdC r 5)=some (.bool r.swept) from rfl)
    replace a6:=a6.trans (show some (holdC r 6)=some (.int .u64 (r.alloc : Int)) from rfl)
    replace a7:=a7.trans (show some (holdC r 7)=some (.int .u64 (r.marks : Int)) from rfl)
    have hcall:=HS.out.2.1 r wr
    by_cases e : key r=x
    ·rw [cmpI_eq e] at hcall
     have HC:=Lib.hid (And.intro hcall (And.intro e hr))
     clear hcall e hr hE hcl
     go_wp2_with (refine HC.out.1.mono ?_; rintro e w2 ⟨rfl,hE2⟩)
     go_ret2
     exact ⟨i,hj,by rw [B_yes ⟨hn,by rw [HC.out.2.2]; exact HC.out.2.1⟩]; rfl,HZ.out.1,HZ.out.2.1,HZ.out.2.2.trans hE2⟩
    ·have hge : cmpI (key r) x=-1∨cmpI (key r) x=1:=by
      by_cases e2 : x < key r
      ·exact .inr (cmpI_gt e2)
      ·exact .inl (cmpI_lt (by omega))
     have HK:=Lib.hid (And.intro e hr)
     clear e hr hE hcl
     rcases hge with hv | hv
     all_goals
      rw [hv] at hcall
      have HC:=Lib.hid hcall
      clear hcall hv
      go_wp2_with (refine HC.out.mono ?_; rintro e w2 ⟨rfl,hE2⟩)
      go_ret2
      exact ⟨i,hj,by rw [B_no fun h=>HK.out.1 (by have:=h.2; rwa [HK.out.2] at this)]; rfl,HZ.out.1,HZ.out.2.1,HZ.out.2.2.trans hE2⟩
   ·obtain rfl : i=l.length:=by omega
    clear hE
    go_wp2
    go_ret2
    exact ⟨_,hj,by rw [B_no fun h=>hn h.1]; rfl,HZ.out.1,HZ.out.2.1,HZ.out.2.2⟩
end Go.Proofs.YtoolenhnhlfhmaaGreatDoor
