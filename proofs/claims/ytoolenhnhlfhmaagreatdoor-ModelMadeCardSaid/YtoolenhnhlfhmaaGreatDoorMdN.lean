/- Walks: slices.IndexFunc and slices.ContainsFunc, over a closure that tells a predicate (printed by gen_mdn.py). -/
import Derived.Test.YtoolenhnhlfhmaaGreatDoorMdL
namespace Go.Proofs.YtoolenhnhlfhmaaGreatDoor
open Go.RowKit Go.Sort
set_option linter.unusedVariables false
set_option linter.unusedSimpArgs false
/-- The first place at which something holds, or -1. -/
def FirstP (n : Nat) (p : Nat→Prop) (r : Int) : Prop:=(r=-1∧∀ j,j < n→¬ p j)∨∃ j : Nat,j < n∧r=(j : Int)∧p j∧∀ q,q < j→¬ p q
set_option maxHeartbeats 4000000 in
set_option maxRecDepth 100000 in
theorem indexRun_any (A : Option Addr) (l : List RunD) (c : Nat) (g : FuncId) (caps : Array Value) (p : Nat→Prop) (w : World) (hL : l.length≤1000000) (hcf : ∀ (xs : Array Value) (w : World),Sem.run Tryz.prog (callFunc g xs) w=.ok (.enter g xs) w) (hR : SlR w A l.length 2 (runV l))
  (hg : ∀ j,j < l.length→∀ w',Ext w w'→Calls Tryz.prog g (#[.agg #[.int .i64 (ix noRun l j).at_,.int .i64 (ix noRun l j).n]] ++ caps) w' fun e w''=>e=.returned (.bool (B (p j)))∧Ext w' w'') :
  Calls Tryz.prog 133 #[.slice A l.length c,.func (.func g) #[] caps] w fun e w'=>∃ r,e=.returned (.int .i64 r)∧FirstP l.length p r∧Ext w w':=by
 have HS:=Lib.hid (And.intro hR hg)
 clear hR hg
 go_enter Tryz.func133,Tryz.ntmps133
 go_wp2
 go_loopg [8] l.length (fun q i wr=>∃ k : Nat,k≤l.length∧q=l.length - k∧i=.int .i64 (k : Int)∧Ext w wr∧∀ j,j < k→¬ p j)
 case atStart=>exact ⟨0,Nat.zero_le _,rfl,rfl,Ext.refl _,fun p hp=>absurd hp (by omega)⟩
 case round =>
  obtain ⟨k,hk,rfl,rfl,hE,hz⟩:=hrel
  have HZ:=Lib.hid (And.intro hz hE)
  clear hz
  by_cases hlt : k < l.length
  ·obtain ⟨b,off,rfl,hcl⟩:=HS.out.1 (by omega)
   have q0 : (0 : Int)≤(k : Int):=by omega
   have q1 : (k : Int) < (l.length : Int):=by omega
   have hcall:=HS.out.2 k hlt wr hE
   have a0:=hE.cell (hcl (k * 2 + 0) (by omega))
   rw [Nat.add_zero,runV0] at a0
   have a1:=hE.cell (hcl (k * 2 + 1) (by omega))
   rw [runV1,← Nat.add_assoc] at a1
   obtain ⟨r,hr⟩ : ∃ r,ix noRun l k=r:=⟨_,rfl⟩
   rw [hr] at hcall a0 a1
   clear hcl hr hE
   by_cases hp : p k
   ·rw [B_yes hp] at hcall
    have HC:=Lib.hid (And.intro hcall hp)
    clear hcall hp
    go_wp2_with (first | (refine HC.out.1.mono ?_; rintro e w2 ⟨rfl,hE2⟩))
    go_ret
    exact ⟨_,rfl,.inr ⟨k,hlt,rfl,HC.out.2,HZ.out.1⟩,HZ.out.2.trans hE2⟩
   ·rw [B_no hp] at hcall
    have HC:=Lib.hid (And.intro hcall hp)
    clear hcall hp
    go_wp2_with (first | (refine HC.out.1.mono ?_; rintro e w2 ⟨rfl,hE2⟩))
    go_roundg (l.length - (k + 1))
    case measure=>go_light; omega
    case rel =>
     refine ⟨k + 1,by omega,rfl,by go_num,HZ.out.2.trans hE2,fun j hj=>?_⟩
     by_cases e : j=k
     ·rw [e]; exact HC.out.2
     ·exact HZ.out.1 j (by omega)
  ·obtain rfl : k=l.length:=by omega
   go_wp2
   go_ret
   exact ⟨_,rfl,.inl ⟨rfl,HZ.out.1⟩,HZ.out.2⟩
set_option maxHeartbeats 1000000 in
theorem containsRun_any (A : Option Addr) (l : List RunD) (c : Nat) (g : FuncId) (caps : Array Value) (p : Nat→Prop) (w : World) (hL : l.length≤1000000) (hcf : ∀ (xs : Array Value) (w : World),Sem.run Tryz.prog (callFunc g xs) w=.ok (.enter g xs) w) (hR : SlR w A l.length 2 (runV l))
  (hg : ∀ j,j < l.length→∀ w',Ext w w'→Calls Tryz.prog g (#[.agg #[.int .i64 (ix noRun l j).at_,.int .i64 (ix noRun l j).n]] ++ caps) w' fun e w''=>e=.returned (.bool (B (p j)))∧Ext w' w'') :
  Calls Tryz.prog 107 #[.slice A l.length c,.func (.func g) #[] caps] w fun e w'=>e=.returned (.bool (B (∃ j,j < l.length∧p j)))∧Ext w w':=by
 go_enter Tryz.func107,Tryz.ntmps107
 go_wp2_with (go_at_call 133; refine (indexRun_any A l c g caps p _ hL hcf hR hg).mono ?_; rintro e w1 ⟨r,rfl,hr,hE1⟩)
 go_ret
 refine ⟨ret_B ?_,hE1⟩
 rcases hr with ⟨rfl,hn⟩ | ⟨j,hj,rfl,hc,_⟩
 ·simp only [decide_eq_true_eq]
  exact ⟨fun h=>absurd h (by omega),fun ⟨p,hp,hc⟩=>absurd hc (hn p hp)⟩
 ·simp only [decide_eq_true_eq]
  exact ⟨fun _=>⟨j,hj,hc⟩,fun _=>by omega⟩
set_option maxHeartbeats 4000000 in
set_option maxRecDepth 100000 in
theorem indexHand_any (A : Option Addr) (l : List HandD) (c : Nat) (g : FuncId) (caps : Array Value) (p : Nat→Prop) (w : World) (hL : l.length≤1000000) (hcf : ∀ (xs : Array Value) (w : World),Sem.run Tryz.prog (callFunc g xs) w=.ok (.enter g xs) w) (hR : SlR w A l.length 3 (handV l))
  (hg : ∀ j,j < l.length→∀ w',Ext w w'→Calls Tryz.prog g (#[.agg #[.int .i64 (ix noHand l j).t,.int .i64 (ix noHand l j).at_,.int .i64 (ix noHand l j).n]] ++ caps) w' fun e w''=>e=.returned (.bool (B (p j)))∧Ext w' w'') :
  Calls Tryz.prog 127 #[.slice A l.length c,.func (.func g) #[] caps] w fun e w'=>∃ r,e=.returned (.int .i64 r)∧FirstP l.length p r∧Ext w w':=by
 have HS:=Lib.hid (And.intro hR hg)
 clear hR hg
 go_enter Tryz.func127,Tryz.ntmps127
 go_wp2
 go_loopg [8] l.length (fun q i wr=>∃ k : Nat,k≤l.length∧q=l.length - k∧i=.int .i64 (k : Int)∧Ext w wr∧∀ j,j < k→¬ p j)
 case atStart=>exact ⟨0,Nat.zero_le _,rfl,rfl,Ext.refl _,fun p hp=>absurd hp (by omega)⟩
 case round =>
  obtain ⟨k,hk,rfl,rfl,hE,hz⟩:=hrel
  have HZ:=Lib.hid (And.intro hz hE)
  clear hz
  by_cases hlt : k < l.length
  ·obtain ⟨b,off,rfl,hcl⟩:=HS.out.1 (by omega)
   have q0 : (0 : Int)≤(k : Int):=by omega
   have q1 : (k : Int) < (l.length : Int):=by omega
   have hcall:=HS.out.2 k hlt wr hE
   have a0:=hE.cell (hcl (k * 3 + 0) (by omega))
   rw [Nat.add_zero,handV0] at a0
   have a1:=hE.cell (hcl (k * 3 + 1) (by omega))
   rw [handV1,← Nat.add_assoc] at a1
   have a2:=hE.cell (hcl (k * 3 + 2) (by omega))
   rw [handV2,← Nat.add_assoc] at a2
   obtain ⟨r,hr⟩ : ∃ r,ix noHand l k=r:=⟨_,rfl⟩
   rw [hr] at hcall a0 a1 a2
   clear hcl hr hE
   by_cases hp : p k
   ·rw [B_yes hp] at hcall
    have HC:=Lib.hid (And.intro hcall hp)
    clear hcall hp
    go_wp2_with (first | (refine HC.out.1.mono ?_; rintro e w2 ⟨rfl,hE2⟩))
    go_ret
    exact ⟨_,rfl,.inr ⟨k,hlt,rfl,HC.out.2,HZ.out.1⟩,HZ.out.2.trans hE2⟩
   ·rw [B_no hp] at hcall
    have HC:=Lib.hid (And.intro hcall hp)
    clear hcall hp
    go_wp2_with (first | (refine HC.out.1.mono ?_; rintro e w2 ⟨rfl,hE2⟩))
    go_roundg (l.length - (k + 1))
    case measure=>go_light; omega
    case rel =>
     refine ⟨k + 1,by omega,rfl,by go_num,HZ.out.2.trans hE2,fun j hj=>?_⟩
     by_cases e : j=k
     ·rw [e]; exact HC.out.2
     ·exact HZ.out.1 j (by omega)
  ·obtain rfl : k=l.length:=by omega
   go_wp2
   go_ret
   exact ⟨_,rfl,.inl ⟨rfl,HZ.out.1⟩,HZ.out.2⟩
set_option maxHeartbeats 1000000 in
theorem containsHand_any (A : Option Addr) (l : List HandD) (c : Nat) (g : FuncId) (caps : Array Value) (p : Nat→Prop) (w : World) (hL : l.length≤1000000) (hcf : ∀ (xs : Array Value) (w : World),Sem.run Tryz.prog (callFunc g xs) w=.ok (.enter g xs) w) (hR : SlR w A l.length 3 (handV l))
  (hg : ∀ j,j < l.length→∀ w',Ext w w'→Calls Tryz.prog g (#[.agg #[.int .i64 (ix noHand l j).t,.int .i64 (ix noHand l j).at_,.int .i64 (ix noHand l j).n]] ++ caps) w' fun e w''=>e=.returned (.bool (B (p j)))∧Ext w' w'') :
  Calls Tryz.prog 88 #[.slice A l.length c,.func (.func g) #[] caps] w fun e w'=>e=.returned (.bool (B (∃ j,j < l.length∧p j)))∧Ext w w':=by
 go_enter Tryz.func88,Tryz.ntmps88
 go_wp2_with (go_at_call 127; refine (indexHand_any A l c g caps p _ hL hcf hR hg).mono ?_; rintro e w1 ⟨r,rfl,hr,hE1⟩)
 go_ret
 refine ⟨ret_B ?_,hE1⟩
 rcases hr with ⟨rfl,hn⟩ | ⟨j,hj,rfl,hc,_⟩
 ·simp only [decide_eq_true_eq]
  exact ⟨fun h=>absurd h (by omega),fun ⟨p,hp,hc⟩=>absurd hc (hn p hp)⟩
 ·simp only [decide_eq_true_eq]
  exact ⟨fun _=>⟨j,hj,hc⟩,fun _=>by omega⟩
set_option maxHeartbeats 4000000 in
set_option maxRecDepth 100000 in
theorem indexHold_any (A : Option Addr) (l : List HoldD) (c : Nat) (g : FuncId) (caps : Array Value) (p : Nat→Prop) (w : World) (hL : l.length≤1000000) (hcf : ∀ (xs : Array Value) (w : World),Sem.run Tryz.prog (callFunc g xs) w=.ok (.enter g xs) w) (hR : SlR w A l.length 8 (holdsV l))
  (hg : ∀ j,j < l.length→∀ w',Ext w w'→Calls Tryz.prog g (#[.agg #[.int .i64 (ix noHold l j).page,.int .i64 (ix noHold l j).pages,.int .i64 (ix noHold l j).cls,.int .i64 (ix noHold l j).holder,.int .i64 (ix noHold l j).claim,.bool (ix noHold l j).swept,.int .u64 ((ix noHold l j).alloc : Int),.int .u64 ((ix noHold l j).marks : Int)]] ++ caps) w' fun e w''=>e=.returned (.bool (B (p j)))∧Ext w' w'') :
  Calls Tryz.prog 114 #[.slice A l.length c,.func (.func g) #[] caps] w fun e w'=>∃ r,e=.returned (.int .i64 r)∧FirstP l.length p r∧Ext w w':=by
 have HS:=Lib.hid (And.intro hR hg)
 clear hR hg
 go_enter Tryz.func114,Tryz.ntmps114
 go_wp2
 go_loopg [8] l.length (fun q i wr=>∃ k : Nat,k≤l.length∧q=l.length - k∧i=.int .i64 (k : Int)∧Ext w wr∧∀ j,j < k→¬ p j)
 case atStart=>exact ⟨0,Nat.zero_le _,rfl,rfl,Ext.refl _,fun p hp=>absurd hp (by omega)⟩
 case round =>
  obtain ⟨k,hk,rfl,rfl,hE,hz⟩:=hrel
  have HZ:=Lib.hid (And.intro hz hE)
  clear hz
  by_cases hlt : k < l.length
  ·obtain ⟨b,off,rfl,hcl⟩:=HS.out.1 (by omega)
   have q0 : (0 : Int)≤(k : Int):=by omega
   have q1 : (k : Int) < (l.length : Int):=by omega
   have hcall:=HS.out.2 k hlt wr hE
   have a0:=hE.cell (hcl (k * 8 + 0) (by omega))
   rw [holdsV_at _ _ _ (by omega),Nat.add_zero] at a0
   have a1:=hE.cell (hcl (k * 8 + 1) (by omega))
   rw [holdsV_at _ _ _ (by omega),← Nat.add_assoc] at a1
   have a2:=hE.cell (hcl (k * 8 + 2) (by omega))
   rw [holdsV_at _ _ _ (by omega),← Nat.add_assoc] at a2
   have a3:=hE.cell (hcl (k * 8 + 3) (by omega))
   rw [holdsV_at _ _ _ (by omega),← Nat.add_assoc] at a3
   have a4:=hE.cell (hcl (k * 8 + 4) (by omega))
   rw [holdsV_at _ _ _ (by omega),← Nat.add_assoc] at a4
   have a5:=hE.cell (hcl (k * 8 + 5) (by omega))
   rw [holdsV_at _ _ _ (by omega),← Nat.add_assoc] at a5
   have a6:=hE.cell (hcl (k * 8 + 6) (by omega))
   rw [holdsV_at _ _ _ (by omega),← Nat.add_assoc] at a6
   have a7:=hE.cell (hcl (k * 8 + 7) (by omega))
   rw [holdsV_at _ _ _ (by omega),← Nat.add_assoc] at a7
   obtain ⟨r,hr⟩ : ∃ r,ix noHold l k=r:=⟨_,rfl⟩
   rw [hr] at hcall a0 a1 a2 a3 a4 a5 a6 a7
   replace a0:=a0.trans (show some (holdC r 0)=some (.int .i64 r.page) from rfl)
   replace a1:=a1.trans (show some (holdC r 1)=some (.int .i64 r.pages) from rfl)
   replace a2:=a2.trans (show some (holdC r 2)=some (.int .i64 r.cls) from rfl)
   replace a3:=a3.trans (show some (holdC r 3)=some (.int .i64 r.holder) from rfl)
   replace a4:=a4.trans (show some (holdC r 4)=some (.int .i64 r.claim) from rfl)
   replace a5:=a5.trans (show some (holdC r 5)=some (.bool r.swept) from rfl)
   replace a6:=a6.trans (show some (holdC r 6)=some (.int .u64 (r.alloc : Int)) from rfl)
   replace a7:=a7.trans (show some (holdC r 7)=some (.int .u64 (r.marks : Int)) from rfl)
   clear hcl hr hE
   by_cases hp : p k
   ·rw [B_yes hp] at hcall
    have HC:=Lib.hid (And.intro hcall hp)
    clear hcall hp
    go_wp2_with (first | (refine HC.out.1.mono ?_; rintro e w2 ⟨rfl,hE2⟩))
    go_ret
    exact ⟨_,rfl,.inr ⟨k,hlt,rfl,HC.out.2,HZ.out.1⟩,HZ.out.2.trans hE2⟩
   ·rw [B_no hp] at hcall
    have HC:=Lib.hid (And.intro hcall hp)
    clear hcall hp
    go_wp2_with (first | (refine HC.out.1.mono ?_; rintro e w2 ⟨rfl,hE2⟩))
    go_roundg (l.length - (k + 1))
    case measure=>go_light; omega
    case rel =>
     refine ⟨k + 1,by omega,rfl,by go_num,HZ.out.2.trans hE2,fun j hj=>?_⟩
     by_cases e : j=k
     ·rw [e]; exact HC.out.2
     ·exact HZ.out.1 j (by omega)
  ·obtain rfl : k=l.length:=by omega
   go_wp2
   go_ret
   exact ⟨_,rfl,.inl ⟨rfl,HZ.out.1⟩,HZ.out.2⟩
set_option maxHeartbeats 1000000 in
theorem containsHold_any (A : Option Addr) (l : List HoldD) (c : Nat) (g : FuncId) (caps : Array Value) (p : Nat→Prop) (w : World) (hL : l.length≤1000000) (hcf : ∀ (xs : Array Value) (w : World),Sem.run Tryz.prog (callFunc g xs) w=.ok (.enter g xs) w) (hR : SlR w A l.length 8 (holdsV l))
  (hg : ∀ j,j < l.length→∀ w',Ext w w'→Calls Tryz.prog g (#[.agg #[.int .i64 (ix noHold l j).page,.int .i64 (ix noHold l j).pages,.int .i64 (ix noHold l j).cls,.int .i64 (ix noHold l j).holder,.int .i64 (ix noHold l j).claim,.bool (ix noHold l j).swept,.int .u64 ((ix noHold l j).alloc : Int),.int .u64 ((ix noHold l j).marks : Int)]] ++ caps) w' fun e w''=>e=.returned (.bool (B (p j)))∧Ext w' w'') :
  Calls Tryz.prog 73 #[.slice A l.length c,.func (.func g) #[] caps] w fun e w'=>e=.returned (.bool (B (∃ j,j < l.length∧p j)))∧Ext w w':=by
 go_enter Tryz.func73,Tryz.ntmps73
 go_wp2_with (go_at_call 114; refine (indexHold_any A l c g caps p _ hL hcf hR hg).mono ?_; rintro e w1 ⟨r,rfl,hr,hE1⟩)
 go_ret
 refine ⟨ret_B ?_,hE1⟩
 rcases hr with ⟨rfl,hn⟩ | ⟨j,hj,rfl,hc,_⟩
 ·simp only [decide_eq_true_eq]
  exact ⟨fun h=>absurd h (by omega),fun ⟨p,hp,hc⟩=>absurd hc (hn p hp)⟩
 ·simp only [decide_eq_true_eq]
  exact ⟨fun _=>⟨j,hj,hc⟩,fun _=>by omega⟩
set_option maxHeartbeats 4000000 in
set_option maxRecDepth 100000 in
theorem indexInt_any (A : Option Addr) (l : List Int) (c : Nat) (g : FuncId) (caps : Array Value) (p : Nat→Prop) (w : World) (hL : l.length≤1000000) (hcf : ∀ (xs : Array Value) (w : World),Sem.run Tryz.prog (callFunc g xs) w=.ok (.enter g xs) w) (hR : SlR w A l.length 1 (fun j=>.int .i64 (ix 0 l j)))
  (hg : ∀ j,j < l.length→∀ w',Ext w w'→Calls Tryz.prog g (#[.int .i64 (ix 0 l j)] ++ caps) w' fun e w''=>e=.returned (.bool (B (p j)))∧Ext w' w'') :
  Calls Tryz.prog 128 #[.slice A l.length c,.func (.func g) #[] caps] w fun e w'=>∃ r,e=.returned (.int .i64 r)∧FirstP l.length p r∧Ext w w':=by
 have HS:=Lib.hid (And.intro hR hg)
 clear hR hg
 go_enter Tryz.func128,Tryz.ntmps128
 go_wp2
 go_loopg [8] l.length (fun q i wr=>∃ k : Nat,k≤l.length∧q=l.length - k∧i=.int .i64 (k : Int)∧Ext w wr∧∀ j,j < k→¬ p j)
 case atStart=>exact ⟨0,Nat.zero_le _,rfl,rfl,Ext.refl _,fun p hp=>absurd hp (by omega)⟩
 case round =>
  obtain ⟨k,hk,rfl,rfl,hE,hz⟩:=hrel
  have HZ:=Lib.hid (And.intro hz hE)
  clear hz
  by_cases hlt : k < l.length
  ·obtain ⟨b,off,rfl,hcl⟩:=HS.out.1 (by omega)
   have q0 : (0 : Int)≤(k : Int):=by omega
   have q1 : (k : Int) < (l.length : Int):=by omega
   have hcall:=HS.out.2 k hlt wr hE
   have a0:=hE.cell (hcl (k * 1) (by omega))
   rw [Nat.mul_one] at a0
   dsimp only at a0
   obtain ⟨r,hr⟩ : ∃ r,ix 0 l k=r:=⟨_,rfl⟩
   rw [hr] at hcall a0
   clear hcl hr hE
   by_cases hp : p k
   ·rw [B_yes hp] at hcall
    have HC:=Lib.hid (And.intro hcall hp)
    clear hcall hp
    go_wp2_with (first | (refine HC.out.1.mono ?_; rintro e w2 ⟨rfl,hE2⟩))
    go_ret
    exact ⟨_,rfl,.inr ⟨k,hlt,rfl,HC.out.2,HZ.out.1⟩,HZ.out.2.trans hE2⟩
   ·rw [B_no hp] at hcall
    have HC:=Lib.hid (And.intro hcall hp)
    clear hcall hp
    go_wp2_with (first | (refine HC.out.1.mono ?_; rintro e w2 ⟨rfl,hE2⟩))
    go_roundg (l.length - (k + 1))
    case measure=>go_light; omega
    case rel =>
     refine ⟨k + 1,by omega,rfl,by go_num,HZ.out.2.trans hE2,fun j hj=>?_⟩
     by_cases e : j=k
     ·rw [e]; exact HC.out.2
     ·exact HZ.out.1 j (by omega)
  ·obtain rfl : k=l.length:=by omega
   go_wp2
   go_ret
   exact ⟨_,rfl,.inl ⟨rfl,HZ.out.1⟩,HZ.out.2⟩
set_option maxHeartbeats 1000000 in
theorem containsInt_any (A : Option Addr) (l : List Int) (c : Nat) (g : FuncId) (caps : Array Value) (p : Nat→Prop) (w : World) (hL : l.length≤1000000) (hcf : ∀ (xs : Array Value) (w : World),Sem.run Tryz.prog (callFunc g xs) w=.ok (.enter g xs) w) (hR : SlR w A l.length 1 (fun j=>.int .i64 (ix 0 l j)))
  (hg : ∀ j,j < l.length→∀ w',Ext w w'→Calls Tryz.prog g (#[.int .i64 (ix 0 l j)] ++ caps) w' fun e w''=>e=.returned (.bool (B (p j)))∧Ext w' w'') :
  Calls Tryz.prog 93 #[.slice A l.length c,.func (.func g) #[] caps] w fun e w'=>e=.returned (.bool (B (∃ j,j < l.length∧p j)))∧Ext w w':=by
 go_enter Tryz.func93,Tryz.ntmps93
 go_wp2_with (go_at_call 128; refine (indexInt_any A l c g caps p _ hL hcf hR hg).mono ?_; rintro e w1 ⟨r,rfl,hr,hE1⟩)
 go_ret
 refine ⟨ret_B ?_,hE1⟩
 rcases hr with ⟨rfl,hn⟩ | ⟨j,hj,rfl,hc,_⟩
 ·simp only [decide_eq_true_eq]
  exact ⟨fun h=>absurd h (by omega),fun ⟨p,hp,hc⟩=>absurd hc (hn p hp)⟩
 ·simp only [decide_eq_true_eq]
  exact ⟨fun _=>⟨j,hj,hc⟩,fun _=>by omega⟩
end Go.Proofs.YtoolenhnhlfhmaaGreatDoor
