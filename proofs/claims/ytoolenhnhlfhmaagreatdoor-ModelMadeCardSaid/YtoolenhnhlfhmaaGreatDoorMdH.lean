/- Walks: covered. -/
import Derived.Test.YtoolenhnhlfhmaaGreatDoorGE
import Derived.Test.YtoolenhnhlfhmaaGreatDoorGB
namespace Go.Proofs.YtoolenhnhlfhmaaGreatDoor
open Go.RowKit Go.Sort
set_option linter.unusedVariables false
set_option linter.unusedSimpArgs false
theorem cell_drewN (w : World) (m : Nat) (a : Addr) : (w.drewN m).cell? a=w.cell? a:=rfl
theorem rowAt {wr w3 : World} {g P i : Nat} {C : Nat→Int} {vs : Array Value} {v : Value} {t : TypeId} (hO : OwnS wr g 3 1 (.slice (some ⟨g,0,none⟩) P P) P (fun j=>.int .i64 (C j))) (hg : (wr.alloc (.cells vs t)).grownBy w3 (some g)) (hv : vs[i]?=some v) : w3.cell? ⟨wr.heap.size,i,none⟩=some v:=by
 have hgl:=(World.ownsRow.lt hO g rfl).2
 exact hg.cell (cell_new _ _ _ _ _ hv) (by simp; omega)
theorem own_sl {w : World} {b g n c sz : Nat} {e : TypeId} {F : Nat→Value} (h : OwnS w b e sz (.slice (some ⟨g,0,none⟩) n c) n F) : SlR w (some ⟨g,0,none⟩) n sz F:=by
 obtain ⟨A,c',e1,_,hs⟩:=h.form
 injection e1 with e1 e2 e3
 rw [e1]
 exact hs
set_option maxHeartbeats 4000000 in
set_option maxRecDepth 100000 in
theorem covered_any (m : ModelD) (P : Nat) (F H S G : Option Addr) (fc hc sc gc : Nat) (w : World) (hP : m.pages=(P : Int)) (h1 : 1≤P) (h2 : P≤4096) (hlen : m.free.length≤1000000∧m.hands.length≤1000000∧m.spans.length≤1000000) (hm : ModelR w m F H S G) (hT : Tab w) :
  Calls Tryz.prog 38 #[modelV m F H S G fc hc sc gc] w fun e w' =>
   (∃ v ok,e=.returned (.tuple #[v,.bool ok])∧(ok=true↔CovOk HoldOk m)∧(ok=true→∃ g C,v=.slice (some ⟨g,0,none⟩) P P∧OwnS w' w.heap.size 3 1 v P (fun j=>.int .i64 (C j))∧CovK m (pcs m).length C))∧Ext w w':=by
 unfold modelV
 rw [hP]
 have HM:=Lib.hid (And.intro hm hT)
 have hmk:=run_make_row' (P:=Tryz.prog) 71 3 (.int .i64 0) 8 Tryz.underlying71 Tryz.infoIntE rfl .i64 .i64 P (by omega) (by omega)
 have b0 : Blk (w.alloc (.cells #[.int .i64 (P : Int),.slice F m.free.length fc,.slice H m.hands.length hc,.slice S m.spans.length sc,.slice G m.gone.length gc] 30)) w.heap.size 30 #[.int .i64 (P : Int),.slice F m.free.length fc,.slice H m.hands.length hc,.slice S m.spans.length sc,.slice G m.gone.length gc]:=Blk.new _ _ _ _ rfl
 clear hm hT
 obtain ⟨Wb,hWb⟩ : ∃ Wb,w.alloc (.cells #[.int .i64 (P : Int),.slice F m.free.length fc,.slice H m.hands.length hc,.slice S m.spans.length sc,.slice G m.gone.length gc] 30)=Wb:=⟨_,rfl⟩
 have hEb : Ext w Wb:=hWb▸(Ext.refl _).alloc _
 have hsz : Wb.heap.size=w.heap.size + 1:=by rw [← hWb]; simp
 have hO0:=own_made Wb P (by unfold maxLen; omega) 3 (.int .i64 0) (w.heap.size + 1) hsz
 have hEm : Ext Wb (Wb.alloc (.cells (madeCells #[.int .i64 0] P) 3)):=(Ext.refl _).alloc _
 rw [hWb] at b0
 have HB:=Lib.hid (And.intro b0 (And.intro hEb (And.intro hO0 (And.intro hEm (And.intro HM.out.1 (And.intro hsz HM.out.2))))))
 have HWb:=Lib.hid hWb
 clear b0 hEb hO0 hEm hsz hWb
 go_enter Tryz.func38,Tryz.ntmps38
 go_wp2
 rw [HWb.out]
 go_loopg [5,18] m.free.length (fun q last i wr=>∃ k C,k≤m.free.length∧q=m.free.length - k∧last=.int .i64 (lastR m k)∧i=.int .i64 (k : Int)∧Ext Wb wr∧OwnS wr (w.heap.size + 1) 3 1 (.slice (some ⟨w.heap.size + 1,0,none⟩) P P) P (fun j=>.int .i64 (C j))∧CovK m k C∧FreeTo m k)
 case atStart=>exact ⟨0,fun _=>0,Nat.zero_le _,rfl,rfl,rfl,HB.out.2.2.2.1,HB.out.2.2.1,CovK.nil _,fun i hi=>absurd hi (by omega)⟩
 case round =>
  obtain ⟨k,C,hk,rfl,rfl,rfl,hE,hO,hC,hF⟩:=hrel
  have bx:=HB.out.1.ext hE
  have cx:=bx.cell (i:=1) (v:=.slice F m.free.length fc) rfl
  by_cases hlt : k < m.free.length
  ·obtain ⟨b,off,rfl,hcl⟩:=HB.out.2.2.2.2.1.free (by omega)
   have hEw:=HB.out.2.1.trans hE
   have hbw : b < w.heap.size:=by
    have:=World.block_lt_of_cell? _ _ (hcl (k * 2 + 0) (by omega))
    simpa using this
   have a0:=hEw.cell (hcl (k * 2 + 0) (by omega))
   have a1:=hEw.cell (hcl (k * 2 + 1) (by omega))
   have p0 : 0 < k→wr.cell? ⟨b,off + (k - 1) * 2,none⟩=some (.int .i64 (ix noRun m.free (k - 1)).at_):=fun h0=>by
    have:=hEw.cell (hcl ((k - 1) * 2 + 0) (by omega))
    rwa [Nat.add_zero,runV0] at this
   have p1 : 0 < k→wr.cell? ⟨b,off + (k - 1) * 2 + 1,none⟩=some (.int .i64 (ix noRun m.free (k - 1)).n):=fun h0=>by
    have:=hEw.cell (hcl ((k - 1) * 2 + 1) (by omega))
    rwa [runV1,← Nat.add_assoc] at this
   rw [Nat.add_zero,runV0] at a0
   rw [runV1,← Nat.add_assoc] at a1
   have hpc:=pcs_free hlt
   obtain ⟨r,hr⟩ : ∃ r,ix noRun m.free k=r:=⟨_,rfl⟩
   rw [hr] at a0 a1 hpc
   have q0 : (0 : Int)≤(k : Int):=by omega
   have q1 : (k : Int) < (m.free.length : Int):=by omega
   have hbk : b≠wr.heap.size:=by
    have:=World.block_lt_of_cell? _ _ a0
    dsimp only at this
    omega
   have HR:=Lib.hid (And.intro hE (And.intro hO (And.intro hC (And.intro hF (And.intro hpc hr)))))
   clear hE hO hC hF hpc hr bx hcl hEw
   go_wp2
   refine wp_region_loud 6 _ rfl rfl (by kernel_rfl) (by kernel_rfl) ?_
   simp only [List.take_succ_cons,List.take_zero]
   repeat (go_big_quiet_step (fail))
   refine wpQuiet_nil ?_
   intro mm
   refine wp_enter 69 #[.slice (some ⟨w.heap.size + 1,0,none⟩) P P,.int .i64 1,.int .i64 (lastR m k),.int .i64 r.at_,.int .i64 r.n] (by kernel_rfl) ?_
   refine (lay_any (w.heap.size + 1) P C 1 (lastR m k) r.at_ r.n (w.heap.size + 1) P _ h2 (by decide) (HR.out.2.1.ext (((Ext.refl _).alloc _).drewN _))).mono ?_
   rintro e w3 ⟨C',rfl,hO3,hC3,hg3⟩
   have c3 : w3.cell? ⟨w.heap.size,1,none⟩=some (.slice (some ⟨b,off,none⟩) m.free.length fc):=hg3.cell (((Ext.refl _).alloc _).drewN _ |>.cell cx) (by simp)
   have hgl:=(World.ownsRow.lt HR.out.2.1 (w.heap.size + 1) rfl).2
   have x0 : w3.cell? ⟨wr.heap.size,0,none⟩=some (.int .i64 r.at_):=hg3.cell (by rw [cell_drewN]; exact cell_new _ _ _ _ _ rfl) (by simp; omega)
   have x1 : w3.cell? ⟨wr.heap.size,1,none⟩=some (.int .i64 r.n):=hg3.cell (by rw [cell_drewN]; exact cell_new _ _ _ _ _ rfl) (by simp; omega)
   by_cases hok : LayOk P C (lastR m k) r.at_ r.n
   ·rw [B_yes hok]
    by_cases hk0 : k=0
    ·have e0 : decide ((0 : Int) < (k : Int))=false:=decide_eq_false (by omega)
     clear p0 p1
     refine ⟨_,rfl,fun w'=>∃ m,w'=w3.drewN m,⟨0,rfl⟩,?_⟩
     simp only [List.drop_succ_cons,List.drop_zero,Act.put,List.setIfInBounds_toArray,List.set_cons_succ,List.set_cons_zero]
     repeat (go_big_quiet_step (fail))
     refine wpQuiet_nil ?_
     rintro w' ⟨mm2,rfl⟩
     go_wp2
     go_roundg (m.free.length - (k + 1))
     case measure=>go_light; omega
     case rel =>
      have hpc:=HR.out.2.2.2.2.1
      have hrr:=HR.out.2.2.2.2.2
      have hok2 : LayOk P C (lastR m k) (ix noRun m.free k).at_ (ix noRun m.free k).n:=by rw [hrr]; exact hok
      refine ⟨k + 1,C',by omega,rfl,by rw [lastR_s,hrr],by go_num,?_,hO3.ext ((Ext.refl _).drewN _),CovK.step HR.out.2.2.1 hP hpc hok (hC3 hok) (by decide) ⟨fun h=>(by cases h),fun h=>absurd h (by omega)⟩,CovK.free_step (C':=C') HR.out.2.2.1 HR.out.2.2.2.1 hlt hok2 hP ?_⟩
      ·exact (Ext.grownG ((HR.out.1.alloc _).drewN _) hg3 (Nat.le_of_eq HB.out.2.2.2.2.2.1)).drewN _
      ·exact fun h=>absurd h (by omega)
    ·have e0 : decide ((0 : Int) < (k : Int))=true:=decide_eq_true (by omega)
     have e2 : decide (0 < k)=true:=decide_eq_true (by omega)
     have q2 : (0 : Int)≤(k : Int) - 1:=by omega
     have q3 : (k : Int) - 1 < (m.free.length : Int):=by omega
     have q4 : ((k : Int) - 1).toNat=k - 1:=by omega
     have z0:=hg3.cell (by rw [cell_drewN]; exact ((Ext.refl _).alloc _).cell (p0 (by omega))) (show some b≠some (w.heap.size + 1) by simp; omega)
     have z1:=hg3.cell (by rw [cell_drewN]; exact ((Ext.refl _).alloc _).cell (p1 (by omega))) (show some b≠some (w.heap.size + 1) by simp; omega)
     obtain ⟨rp,hrp⟩ : ∃ rp,ix noRun m.free (k - 1)=rp:=⟨_,rfl⟩
     rw [hrp] at z0 z1
     have hfp:=(HR.out.2.2.1.laid (k - 1) (by omega)).1
     rw [pcs_free (by omega),hrp,hP] at hfp
     obtain ⟨t0,t1,t2,t3⟩:=hfp
     dsimp only at t0 t1 t2 t3
     have HRP:=Lib.hid hrp
     clear p0 p1 hrp
     by_cases he : rp.at_ + rp.n=r.at_
     ·have e1 : (rp.at_ + rp.n == r.at_)=true:=by simpa using he
      have HE:=Lib.hid he
      clear he
      refine ⟨_,rfl,fun w'=>∃ m,w'=w3.drewN m,⟨0,rfl⟩,?_⟩
      simp only [List.drop_succ_cons,List.drop_zero,Act.put,List.setIfInBounds_toArray,List.set_cons_succ,List.set_cons_zero]
      repeat (go_big_quiet_step (fail))
      refine wpQuiet_nil ?_
      rintro w' ⟨mm2,rfl⟩
      go_wp2
      go_ret2
      refine ⟨⟨_,false,rfl,⟨fun h=>(by cases h),fun hc=>?_⟩,fun h=>(by cases h)⟩,HB.out.2.1.trans ((Ext.grownG ((HR.out.1.alloc _).drewN _) hg3 (Nat.le_of_eq HB.out.2.2.2.2.2.1)).drewN _)⟩
      have h1:=hc.free k hlt (by omega)
      have h2:=HE.out
      rw [HRP.out,HR.out.2.2.2.2.2] at h1
      omega
     ·have e1 : (rp.at_ + rp.n == r.at_)=false:=by simpa using he
      have HE:=Lib.hid he
      clear he
      refine ⟨_,rfl,fun w'=>∃ m,w'=w3.drewN m,⟨0,rfl⟩,?_⟩
      simp only [List.drop_succ_cons,List.drop_zero,Act.put,List.setIfInBounds_toArray,List.set_cons_succ,List.set_cons_zero]
      repeat (go_big_quiet_step (fail))
      refine wpQuiet_nil ?_
      rintro w' ⟨mm2,rfl⟩
      go_wp2
      go_roundg (m.free.length - (k + 1))
      case measure=>go_light; omega
      case rel =>
       have hpc:=HR.out.2.2.2.2.1
       have hrr:=HR.out.2.2.2.2.2
       have hok2 : LayOk P C (lastR m k) (ix noRun m.free k).at_ (ix noRun m.free k).n:=by rw [hrr]; exact hok
       refine ⟨k + 1,C',by omega,rfl,by rw [lastR_s,hrr],by go_num,?_,hO3.ext ((Ext.refl _).drewN _),CovK.step HR.out.2.2.1 hP hpc hok (hC3 hok) (by decide) ⟨fun h=>(by cases h),fun h=>absurd h (by omega)⟩,CovK.free_step (C':=C') HR.out.2.2.1 HR.out.2.2.2.1 hlt hok2 hP ?_⟩
       ·exact (Ext.grownG ((HR.out.1.alloc _).drewN _) hg3 (Nat.le_of_eq HB.out.2.2.2.2.2.1)).drewN _
       ·exact fun _=>by rw [HRP.out,hrr]; exact HE.out
   ·rw [B_no hok]
    clear p0 p1
    refine ⟨_,rfl,fun w'=>∃ m,w'=w3.drewN m,⟨0,rfl⟩,?_⟩
    simp only [List.drop_succ_cons,List.drop_zero,Act.put,List.setIfInBounds_toArray,List.set_cons_succ,List.set_cons_zero]
    repeat (go_big_quiet_step (fail))
    refine wpQuiet_nil ?_
    rintro w' ⟨mm2,rfl⟩
    go_wp2
    go_ret2
    refine ⟨⟨_,false,rfl,⟨fun h=>(by cases h),fun hc=>?_⟩,fun h=>(by cases h)⟩,HB.out.2.1.trans ((Ext.grownG ((HR.out.1.alloc _).drewN _) hg3 (Nat.le_of_eq HB.out.2.2.2.2.2.1)).drewN _)⟩
    refine absurd (CovK.ok HR.out.2.2.1 hP HR.out.2.2.2.2.1 (LaidTo.le hc.laid (by rw [pcs_length]; omega)) ?_) hok
    have h3:=hc.lastR hlt
    rw [HR.out.2.2.2.2.2] at h3
    exact h3
  ·obtain rfl : k=m.free.length:=by omega
   have HA:=Lib.hid hF
   have hO1:=hO
   have hC1:=hC
   have hE1:=hE
   have cy:=bx.cell (i:=2) (v:=.slice H m.hands.length hc) rfl
   clear hF hO hC hE bx cx
   go_wp2
   go_loopg [5,61] m.hands.length (fun q last i wr=>∃ k C,k≤m.hands.length∧q=m.hands.length - k∧last=.int .i64 (lastH m k)∧i=.int .i64 (k : Int)∧Ext Wb wr∧OwnS wr (w.heap.size + 1) 3 1 (.slice (some ⟨w.heap.size + 1,0,none⟩) P P) P (fun j=>.int .i64 (C j))∧CovK m (m.free.length + k) C∧HandTo m k)
   case atStart=>exact ⟨0,C,Nat.zero_le _,rfl,rfl,rfl,hE1,hO1,hC1,fun i hi=>absurd hi (by omega)⟩
   case round =>
    clear hO1 hC1 hE1 cy
    obtain ⟨k,C,hk,rfl,rfl,rfl,hE,hO,hC,hF⟩:=hrel
    have bx:=HB.out.1.ext hE
    have cx:=bx.cell (i:=2) (v:=.slice H m.hands.length hc) rfl
    by_cases hlt : k < m.hands.length
    ·obtain ⟨b,off,rfl,hcl⟩:=HB.out.2.2.2.2.1.hands (by omega)
     have hEw:=HB.out.2.1.trans hE
     have a0:=hEw.cell (hcl (k * 3 + 0) (by omega))
     have a1:=hEw.cell (hcl (k * 3 + 1) (by omega))
     have a2:=hEw.cell (hcl (k * 3 + 2) (by omega))
     rw [Nat.add_zero,handV0] at a0
     rw [handV1,← Nat.add_assoc] at a1
     rw [handV2,← Nat.add_assoc] at a2
     have hpc:=pcs_hand hlt
     obtain ⟨r,hr⟩ : ∃ r,ix noHand m.hands k=r:=⟨_,rfl⟩
     rw [hr] at a0 a1 a2 hpc
     have q0 : (0 : Int)≤(k : Int):=by omega
     have q1 : (k : Int) < (m.hands.length : Int):=by omega
     have HR:=Lib.hid (And.intro hE (And.intro hO (And.intro hC (And.intro hF (And.intro hpc hr)))))
     clear hE hO hC hF hpc hr bx hcl hEw
     by_cases hok : LayOk P C (lastH m k) r.at_ r.n
     ·have hL:=B_yes hok
      have HK:=Lib.hid hok
      clear hok
      by_cases hth : ThreadP r.t
      ·have hB:=B_yes hth
       have HTh:=Lib.hid hth
       clear hth
       go_wp2_with (first | (go_at_call 69; refine (lay_any (w.heap.size + 1) P C 2 (lastH m k) r.at_ r.n (w.heap.size + 1) P _ h2 (by decide) (HR.out.2.1.ext ((Ext.refl _).alloc _))).mono ?_; rintro e w3 ⟨C',rfl,H3⟩; have H3:=Lib.hid H3; have hE3:=Lib.hid (Ext.grownG (HR.out.1.alloc _) H3.out.2.2 (Nat.le_of_eq HB.out.2.2.2.2.2.1)); have x0:=rowAt (i:=0) HR.out.2.1 H3.out.2.2 rfl; have x1:=rowAt (i:=1) HR.out.2.1 H3.out.2.2 rfl; simp only [hL]) | (go_at_call 55; refine (anybody_any r.t _).mono ?_; rintro e w4 ⟨rfl,rfl⟩; simp only [hB]))
       go_roundg (m.hands.length - (k + 1))
       case measure=>go_light; omega
       case rel =>
        have hpc:=HR.out.2.2.2.2.1
        have hrr:=HR.out.2.2.2.2.2
        refine ⟨k + 1,C',by omega,rfl,by rw [lastH_s,hrr],by go_num,hE3.out,H3.out.1,CovK.step HR.out.2.2.1 hP hpc HK.out (H3.out.2.1 HK.out) (by decide) ⟨fun h=>(by cases h),fun h=>absurd (show m.free.length + m.hands.length≤m.free.length + k from h) (by omega)⟩,HandTo.step HR.out.2.2.2.1 (by rw [hrr]; exact HTh.out) (by rw [hrr]; exact HK.out.2.2.1)⟩
      ·have hB:=B_no hth
       have HTh:=Lib.hid hth
       clear hth
       go_wp2_with (first | (go_at_call 69; refine (lay_any (w.heap.size + 1) P C 2 (lastH m k) r.at_ r.n (w.heap.size + 1) P _ h2 (by decide) (HR.out.2.1.ext ((Ext.refl _).alloc _))).mono ?_; rintro e w3 ⟨C',rfl,H3⟩; have H3:=Lib.hid H3; have hE3:=Lib.hid (Ext.grownG (HR.out.1.alloc _) H3.out.2.2 (Nat.le_of_eq HB.out.2.2.2.2.2.1)); have x0:=rowAt (i:=0) HR.out.2.1 H3.out.2.2 rfl; have x1:=rowAt (i:=1) HR.out.2.1 H3.out.2.2 rfl; simp only [hL]) | (go_at_call 55; refine (anybody_any r.t _).mono ?_; rintro e w4 ⟨rfl,rfl⟩; simp only [hB]))
       go_ret2
       refine ⟨⟨_,false,rfl,⟨fun h=>(by cases h),fun hc=>?_⟩,fun h=>(by cases h)⟩,HB.out.2.1.trans (hE3.out)⟩
       have h1:=(hc.hand k hlt).1
       rw [HR.out.2.2.2.2.2] at h1
       exact absurd h1 HTh.out
     ·have hL:=B_no hok
      have HK:=Lib.hid hok
      clear hok
      go_wp2_with (first | (go_at_call 69; refine (lay_any (w.heap.size + 1) P C 2 (lastH m k) r.at_ r.n (w.heap.size + 1) P _ h2 (by decide) (HR.out.2.1.ext ((Ext.refl _).alloc _))).mono ?_; rintro e w3 ⟨C',rfl,H3⟩; have H3:=Lib.hid H3; have hE3:=Lib.hid (Ext.grownG (HR.out.1.alloc _) H3.out.2.2 (Nat.le_of_eq HB.out.2.2.2.2.2.1)); have x0:=rowAt (i:=0) HR.out.2.1 H3.out.2.2 rfl; have x1:=rowAt (i:=1) HR.out.2.1 H3.out.2.2 rfl; simp only [hL]) | (go_at_call 55; refine (anybody_any r.t _).mono ?_; rintro e w4 ⟨rfl,rfl⟩; simp only [hL]))
      go_ret2
      refine ⟨⟨_,false,rfl,⟨fun h=>(by cases h),fun hc=>?_⟩,fun h=>(by cases h)⟩,HB.out.2.1.trans hE3.out⟩
      refine absurd (CovK.ok HR.out.2.2.1 hP HR.out.2.2.2.2.1 (LaidTo.le hc.laid (by rw [pcs_length]; omega)) ?_) HK.out
      have h3:=hc.lastH hlt
      rw [HR.out.2.2.2.2.2] at h3
      exact h3
    ·obtain rfl : k=m.hands.length:=by omega
     have HA2:=Lib.hid hF
     have hO1:=hO
     have hC1:=hC
     have hE1:=hE
     have cz:=bx.cell (i:=3) (v:=.slice S m.spans.length sc) rfl
     clear hF hO hC hE bx cx
     go_wp2
     go_loopg [5,85] m.spans.length (fun q last i wr=>∃ k C,k≤m.spans.length∧q=m.spans.length - k∧last=.int .i64 (lastS m k)∧i=.int .i64 (k : Int)∧Ext Wb wr∧OwnS wr (w.heap.size + 1) 3 1 (.slice (some ⟨w.heap.size + 1,0,none⟩) P P) P (fun j=>.int .i64 (C j))∧CovK m (m.free.length + (m.hands.length + k)) C∧SpanTo HoldOk m k)
     case atStart=>exact ⟨0,C,Nat.zero_le _,rfl,rfl,rfl,hE1,hO1,hC1,fun i hi=>absurd hi (by omega)⟩
     case round =>
      clear hO1 hC1 hE1 cz
      obtain ⟨k,C,hk,rfl,rfl,rfl,hE,hO,hC,hF⟩:=hrel
      have bx:=HB.out.1.ext hE
      have cx:=bx.cell (i:=3) (v:=.slice S m.spans.length sc) rfl
      by_cases hlt : k < m.spans.length
      ·obtain ⟨b,off,rfl,hcl⟩:=HB.out.2.2.2.2.1.spans (by omega)
       have hEw:=HB.out.2.1.trans hE
       have a0:=hEw.cell (hcl (k * 8 + 0) (by omega))
       rw [holdsV_at _ _ _ (by omega),Nat.add_zero] at a0
       have a1:=hEw.cell (hcl (k * 8 + 1) (by omega))
       rw [holdsV_at _ _ _ (by omega),← Nat.add_assoc] at a1
       have a2:=hEw.cell (hcl (k * 8 + 2) (by omega))
       rw [holdsV_at _ _ _ (by omega),← Nat.add_assoc] at a2
       have a3:=hEw.cell (hcl (k * 8 + 3) (by omega))
       rw [holdsV_at _ _ _ (by omega),← Nat.add_assoc] at a3
       have a4:=hEw.cell (hcl (k * 8 + 4) (by omega))
       rw [holdsV_at _ _ _ (by omega),← Nat.add_assoc] at a4
       have a5:=hEw.cell (hcl (k * 8 + 5) (by omega))
       rw [holdsV_at _ _ _ (by omega),← Nat.add_assoc] at a5
       have a6:=hEw.cell (hcl (k * 8 + 6) (by omega))
       rw [holdsV_at _ _ _ (by omega),← Nat.add_assoc] at a6
       have a7:=hEw.cell (hcl (k * 8 + 7) (by omega))
       rw [holdsV_at _ _ _ (by omega),← Nat.add_assoc] at a7
       have hpc:=pcs_span hlt
       obtain ⟨r,hr⟩ : ∃ r,ix noHold m.spans k=r:=⟨_,rfl⟩
       rw [hr] at a0 a1 a2 a3 a4 a5 a6 a7 hpc
       have q0 : (0 : Int)≤(k : Int):=by omega
       have q1 : (k : Int) < (m.spans.length : Int):=by omega
       have HR:=Lib.hid (And.intro hE (And.intro hO (And.intro hC (And.intro hF (And.intro hpc hr)))))
       clear hE hO hC hF hpc hr bx hcl hEw
       replace a0:=a0.trans (show some (holdC r 0)=some (.int .i64 r.page) from rfl)
       replace a1:=a1.trans (show some (holdC r 1)=some (.int .i64 r.pages) from rfl)
       replace a2:=a2.trans (show some (holdC r 2)=some (.int .i64 r.cls) from rfl)
       replace a3:=a3.trans (show some (holdC r 3)=some (.int .i64 r.holder) from rfl)
       replace a4:=a4.trans (show some (holdC r 4)=some (.int .i64 r.claim) from rfl)
       replace a5:=a5.trans (show some (holdC r 5)=some (.bool r.swept) from rfl)
       replace a6:=a6.trans (show some (holdC r 6)=some (.int .u64 (r.alloc : Int)) from rfl)
       replace a7:=a7.trans (show some (holdC r 7)=some (.int .u64 (r.marks : Int)) from rfl)
       by_cases hok : LayOk P C (lastS m k) r.page r.pages
       ·have hL:=B_yes hok
        have HK:=Lib.hid hok
        clear hok
        by_cases hth : HoldOk r
        ·have hB:=B_yes hth
         have HTh:=Lib.hid hth
         clear hth
         go_wp2_with (first | (go_at_call 69; refine (lay_any (w.heap.size + 1) P C 3 (lastS m k) r.page r.pages (w.heap.size + 1) P _ h2 (by decide) (HR.out.2.1.ext ((Ext.refl _).alloc _))).mono ?_; rintro e w3 ⟨C',rfl,H3⟩; have H3:=Lib.hid H3; have hE3:=Lib.hid (Ext.grownG (HR.out.1.alloc _) H3.out.2.2 (Nat.le_of_eq HB.out.2.2.2.2.2.1)); have x0:=rowAt (i:=0) HR.out.2.1 H3.out.2.2 rfl; have x1:=rowAt (i:=1) HR.out.2.1 H3.out.2.2 rfl; have x2:=rowAt (i:=2) HR.out.2.1 H3.out.2.2 rfl; have x3:=rowAt (i:=3) HR.out.2.1 H3.out.2.2 rfl; have x4:=rowAt (i:=4) HR.out.2.1 H3.out.2.2 rfl; have x5:=rowAt (i:=5) HR.out.2.1 H3.out.2.2 rfl; have x6:=rowAt (i:=6) HR.out.2.1 H3.out.2.2 rfl; have x7:=rowAt (i:=7) HR.out.2.1 H3.out.2.2 rfl; simp only [hL]) | (go_at_call 70; refine (spanM_any r _ (HB.out.2.2.2.2.2.2.ext (HB.out.2.1.trans hE3.out))).mono ?_; rintro e w4 ⟨rfl,hE4⟩; have z0:=hE4.cell x0; have hE4:=Lib.hid hE4; simp only [hB]))
         go_roundg (m.spans.length - (k + 1))
         case measure=>go_light; omega
         case rel =>
          have hpc:=HR.out.2.2.2.2.1
          have hrr:=HR.out.2.2.2.2.2
          refine ⟨k + 1,C',by omega,rfl,by rw [lastS_s,hrr],by go_num,hE3.out.trans hE4.out,H3.out.1.ext hE4.out,CovK.step HR.out.2.2.1 hP hpc HK.out (H3.out.2.1 HK.out) (by decide) ⟨fun h=>show m.free.length + m.hands.length≤m.free.length + (m.hands.length + k) by omega,fun h=>rfl⟩,SpanTo.step HR.out.2.2.2.1 (by rw [hrr]; exact HTh.out) (by rw [hrr]; exact HK.out.2.2.1)⟩
        ·have hB:=B_no hth
         have HTh:=Lib.hid hth
         clear hth
         go_wp2_with (first | (go_at_call 69; refine (lay_any (w.heap.size + 1) P C 3 (lastS m k) r.page r.pages (w.heap.size + 1) P _ h2 (by decide) (HR.out.2.1.ext ((Ext.refl _).alloc _))).mono ?_; rintro e w3 ⟨C',rfl,H3⟩; have H3:=Lib.hid H3; have hE3:=Lib.hid (Ext.grownG (HR.out.1.alloc _) H3.out.2.2 (Nat.le_of_eq HB.out.2.2.2.2.2.1)); have x0:=rowAt (i:=0) HR.out.2.1 H3.out.2.2 rfl; have x1:=rowAt (i:=1) HR.out.2.1 H3.out.2.2 rfl; have x2:=rowAt (i:=2) HR.out.2.1 H3.out.2.2 rfl; have x3:=rowAt (i:=3) HR.out.2.1 H3.out.2.2 rfl; have x4:=rowAt (i:=4) HR.out.2.1 H3.out.2.2 rfl; have x5:=rowAt (i:=5) HR.out.2.1 H3.out.2.2 rfl; have x6:=rowAt (i:=6) HR.out.2.1 H3.out.2.2 rfl; have x7:=rowAt (i:=7) HR.out.2.1 H3.out.2.2 rfl; simp only [hL]) | (go_at_call 70; refine (spanM_any r _ (HB.out.2.2.2.2.2.2.ext (HB.out.2.1.trans hE3.out))).mono ?_; rintro e w4 ⟨rfl,hE4⟩; have z0:=hE4.cell x0; have hE4:=Lib.hid hE4; simp only [hB]))
         go_ret2
         refine ⟨⟨_,false,rfl,⟨fun h=>(by cases h),fun hc=>?_⟩,fun h=>(by cases h)⟩,HB.out.2.1.trans (hE3.out.trans hE4.out)⟩
         have h1:=(hc.span k hlt).1
         rw [HR.out.2.2.2.2.2] at h1
         exact absurd h1 HTh.out
       ·have hL:=B_no hok
        have HK:=Lib.hid hok
        clear hok
        go_wp2_with (first | (go_at_call 69; refine (lay_any (w.heap.size + 1) P C 3 (lastS m k) r.page r.pages (w.heap.size + 1) P _ h2 (by decide) (HR.out.2.1.ext ((Ext.refl _).alloc _))).mono ?_; rintro e w3 ⟨C',rfl,H3⟩; have H3:=Lib.hid H3; have hE3:=Lib.hid (Ext.grownG (HR.out.1.alloc _) H3.out.2.2 (Nat.le_of_eq HB.out.2.2.2.2.2.1)); have x0:=rowAt (i:=0) HR.out.2.1 H3.out.2.2 rfl; have x1:=rowAt (i:=1) HR.out.2.1 H3.out.2.2 rfl; have x2:=rowAt (i:=2) HR.out.2.1 H3.out.2.2 rfl; have x3:=rowAt (i:=3) HR.out.2.1 H3.out.2.2 rfl; have x4:=rowAt (i:=4) HR.out.2.1 H3.out.2.2 rfl; have x5:=rowAt (i:=5) HR.out.2.1 H3.out.2.2 rfl; have x6:=rowAt (i:=6) HR.out.2.1 H3.out.2.2 rfl; have x7:=rowAt (i:=7) HR.out.2.1 H3.out.2.2 rfl; simp only [hL]) | (go_at_call 70; refine (spanM_any r _ (HB.out.2.2.2.2.2.2.ext (HB.out.2.1.trans hE3.out))).mono ?_; rintro e w4 ⟨rfl,hE4⟩; have z0:=hE4.cell x0; have hE4:=Lib.hid hE4; simp only [hL]))
        go_ret2
        refine ⟨⟨_,false,rfl,⟨fun h=>(by cases h),fun hc=>?_⟩,fun h=>(by cases h)⟩,HB.out.2.1.trans hE3.out⟩
        refine absurd (CovK.ok HR.out.2.2.1 hP HR.out.2.2.2.2.1 (LaidTo.le hc.laid (by rw [pcs_length]; omega)) ?_) HK.out
        have h3:=hc.lastS hlt
        rw [HR.out.2.2.2.2.2] at h3
        exact h3
      ·obtain rfl : k=m.spans.length:=by omega
       have HA3:=Lib.hid (And.intro hF (And.intro hC hE))
       have hsl:=own_sl hO
       have HO:=Lib.hid hO
       have hcv : CovOk HoldOk m↔∀ p : Nat,p < P→C p≠0:=hC.all (by rw [pcs_length]) hP HA.out HA2.out hF
       clear hF hC hE hO bx cx
       by_cases hz : ∃ p,p < P∧C p=0
       ·have hB:=B_yes hz
        have HZ:=Lib.hid hz
        clear hz
        go_wp2_with (go_at_call 71; refine (containsC_any (some ⟨w.heap.size + 1,0,none⟩) P P C 0 _ (by omega) hsl).mono ?_; rintro e w4 ⟨rfl,rfl⟩; simp only [hB])
        go_ret2
        refine ⟨⟨_,false,rfl,⟨fun h=>(by cases h),fun hc=>?_⟩,fun h=>(by cases h)⟩,HB.out.2.1.trans HA3.out.2.2⟩
        obtain ⟨p,hp,hz⟩:=HZ.out
        exact absurd hz (hcv.1 hc p hp)
       ·have hB:=B_no hz
        have HZ:=Lib.hid hz
        clear hz
        go_wp2_with (go_at_call 71; refine (containsC_any (some ⟨w.heap.size + 1,0,none⟩) P P C 0 _ (by omega) hsl).mono ?_; rintro e w4 ⟨rfl,rfl⟩; simp only [hB])
        go_ret2
        exact ⟨⟨_,true,rfl,⟨fun _=>hcv.2 fun p hp hz=>HZ.out ⟨p,hp,hz⟩,fun _=>rfl⟩,fun _=>⟨_,C,rfl,HO.out.mono (by omega),by rw [pcs_length]; exact HA3.out.2.1⟩⟩,HB.out.2.1.trans HA3.out.2.2⟩
end Go.Proofs.YtoolenhnhlfhmaaGreatDoor
