/- Walks: what the desk does with a mark. Walks: what the desk does with a mark (the others). Walks: Accepts. -/
import Derived.Test.YtoolenhnhlfhmaaGreatDoorGN
import Derived.Laws.ResultCell
namespace Go.Proofs.YtoolenhnhlfhmaaGreatDoor
open Go.RowKit Go.Sort
set_option linter.unusedVariables false
set_option linter.unusedSimpArgs false
/-- A desk's model is one whose rows may be looked into. -/
structure DeskOk (m : ModelD) : Prop where
 l1 : m.free.length≤900000
 l2 : m.hands.length≤900000
 l3 : m.spans.length≤900000
 l4 : m.gone.length≤900000
 fr : ∀ i,i < m.free.length→0≤(ix noRun m.free i).at_∧1≤(ix noRun m.free i).n∧(ix noRun m.free i).at_ + (ix noRun m.free i).n≤4096
 hd : ∀ i,i < m.hands.length→0≤(ix noHand m.hands i).at_∧1≤(ix noHand m.hands i).n∧(ix noHand m.hands i).at_ + (ix noHand m.hands i).n≤4096
 r1 : Rises noRun m.free runK
 r2 : Rises noHand m.hands handK
 r3 : Rises noHold m.spans pageK
 gn : sortI m.gone=m.gone
 al : ∀ i,i < m.spans.length→(ix noHold m.spans i).alloc < 18446744073709551616
def GetR (m : ModelD) (x : MarkD) (m' : ModelD) : Prop:=∃ i k,i < m.free.length∧FitG (ix noRun m.free i) x∧(∀ j,j < i→¬ FitG (ix noRun m.free j) x)∧PlaceH m.hands k x.page∧m'={ m with free:=cutIn m.free i (i + 1) (leftR (ix noRun m.free i) x),hands:=cutIn m.hands k k [⟨x.thread,x.page,x.n⟩] }
def GetN (m : ModelD) (x : MarkD) : Prop:=∀ i,i < m.free.length→¬ FitG (ix noRun m.free i) x
def BackR (m : ModelD) (x : MarkD) (m' : ModelD) : Prop:=∃ j k,j < m.hands.length∧HandP m x j∧(ix noHand m.hands j).n=x.n∧PlaceR m.free k x.page∧m'={ m with free:=cutIn m.free (backFrom m.free k x) (backTo m.free k x) [backRun m.free k x],hands:=cutIn m.hands j (j + 1) [] }
def BackN (m : ModelD) (x : MarkD) : Prop:=∀ j,j < m.hands.length→HandP m x j→(∀ q,q < j→¬ HandP m x q)→(ix noHand m.hands j).n≠x.n
def LayR (m : ModelD) (x : MarkD) (m' : ModelD) : Prop:=∃ j k,j < m.hands.length∧HandP m x j∧LayC m x (ix noHand m.hands j)∧PlaceS m.spans k (ix noHand m.hands j).at_∧m'={ m with spans:=cutIn m.spans k k [layHold x (ix noHand m.hands j)],hands:=cutIn m.hands j (j + 1) [] }
def LayN (m : ModelD) (x : MarkD) : Prop:=∀ j,j < m.hands.length→HandP m x j→(∀ q,q < j→¬ HandP m x q)→¬ LayC m x (ix noHand m.hands j)
def DropR (m : ModelD) (x : MarkD) (m' : ModelD) : Prop:=∃ i k,i < m.spans.length∧(ix noHold m.spans i).page=x.page∧DropC x (ix noHold m.spans i)∧PlaceH m.hands k x.page∧m'={ m with spans:=stayL (fun h=>h.page=x.page) m.spans,hands:=cutIn m.hands k k [⟨x.thread,x.page,x.n⟩] }
def DropN (m : ModelD) (x : MarkD) : Prop:=∀ i,i < m.spans.length→(ix noHold m.spans i).page=x.page→¬ DropC x (ix noHold m.spans i)
def TurnR (m : ModelD) (x : MarkD) (m' : ModelD) : Prop:=∃ i h',i < m.spans.length∧(ix noHold m.spans i).page=x.page∧turnO (ix noHold m.spans i) x=some h'∧m'={ m with spans:=m.spans.set i h' }
def TurnN (m : ModelD) (x : MarkD) : Prop:=(∀ j,j < m.spans.length→(ix noHold m.spans j).page≠x.page)∨∃ i,i < m.spans.length∧(ix noHold m.spans i).page=x.page∧turnO (ix noHold m.spans i) x=none
def OtherK (x : MarkD) : Prop:=x.kind≠1∧x.kind≠15∧x.kind≠2∧x.kind≠9∧x.kind≠10∧x.kind≠12∧x.kind≠13∧x.kind≠14
/-- What a desk's model is behind a mark that may be. -/
def DoesR (m : ModelD) (x : MarkD) (m' : ModelD) : Prop:=ThreadP x.thread∧((x.kind=1∧GetR m x m')∨(x.kind=15∧CommitC m x∧m'={ m with gone:=stayL (ToldOf x) m.gone })∨(x.kind=2∧LayR m x m')∨(x.kind=9∧DropR m x m')∨(x.kind=10∧BackR m x m') ∨
 (x.kind=12∧CycC m∧m'={ m with spans:=m.spans.map waits })∨(x.kind=13∧¬ HasP m x.thread x.page x.n∧m'=m)∨(x.kind=14∧RelC m x∧m'={ m with gone:=goneTo m x })∨(OtherK x∧TurnR m x m'))
/-- Why a mark may not be. -/
def DoesN (m : ModelD) (x : MarkD) : Prop:=¬ ThreadP x.thread∨(x.kind=1∧GetN m x)∨(x.kind=15∧¬ CommitC m x)∨(x.kind=2∧LayN m x)∨(x.kind=9∧DropN m x)∨(x.kind=10∧BackN m x) ∨
 (x.kind=12∧¬ CycC m)∨(x.kind=13∧HasP m x.thread x.page x.n)∨(x.kind=14∧¬ RelC m x)∨(OtherK x∧TurnN m x)
def DoesP (m : ModelD) (d base : Nat) (x : MarkD) (w : World) (e : Ending) (w' : World) : Prop :=
 KeepD base d w w'∧w.heap.size≤w'.heap.size∧((e=.returned (.bool false)∧DoesN m x∧∃ F' H' S' G',DeskR w' d base m F' H' S' G')∨(e=.returned (.bool true)∧∃ m' F' H' S' G',DoesR m x m'∧DeskR w' d base m' F' H' S' G'))
theorem DoesP.from {m : ModelD} {d base : Nat} {x : MarkD} {w w1 : World} {e : Ending} {w' : World} (h : DoesP m d base x w1 e w') (hE : Ext w w1) : DoesP m d base x w e w':=⟨(KeepD.ext hE).trans h.1,Nat.le_trans hE.size h.2.1,h.2.2⟩
theorem DoesP.bool {m : ModelD} {d base : Nat} {x : MarkD} {w : World} {e : Ending} {w' : World} (h : DoesP m d base x w e w') : ∃ b,e=.returned (.bool b):=h.2.2.elim (fun h=>⟨_,h.1⟩) (fun h=>⟨_,h.1⟩)
set_option maxHeartbeats 4000000 in
set_option maxRecDepth 100000 in
theorem does1_any (m : ModelD) (d base : Nat) (F H S G : Value) (x : MarkD) (w : World) (ho : DeskOk m) (hx : MarkOk x) (hT : Tab w) (hB : TabB w) (hbase : base≤w.heap.size) (hD : DeskR w d base m F H S G) (ht : ThreadP x.thread) (hk : x.kind=1) :
  Calls Tryz.prog 27 #[.pointer (some ⟨d,0,none⟩),markV x] w (DoesP m d base x w):=by
 obtain ⟨W0,hW0⟩ : ∃ W0,W0=w.alloc (.cells (markA x) 34):=⟨_,rfl⟩
 have hE0 : Ext w W0:=hW0▸(Ext.refl w).alloc _
 have hbx : Blk W0 w.heap.size 34 (markA x):=hW0▸Blk.new _ _ _ _ rfl
 have hp : Calls Tryz.prog 56 #[.pointer (some ⟨d,0,none⟩),markV x] W0 fun e w'=>∃ b,e=.returned (.bool b)∧Hid (DoesP m d base x w e w'):=by
  refine (get_any m d base F H S G x W0 ⟨ho.l1,ho.l2⟩ hx ho.fr ho.r2 (Nat.le_trans hbase hE0.size) (hD.ext hE0)).mono fun e w' hs=>?_
  have hq : DoesP m d base x W0 e w':=by
   obtain ⟨h1,h2,⟨rfl,hn,hD'⟩ | ⟨rfl,i,k,F1,H1,q1,q2,q3,q4,hD'⟩⟩:=hs
   ·exact ⟨h1,h2,.inl ⟨rfl,.inr (.inl ⟨hk,hn⟩),_,_,_,_,hD'⟩⟩
   ·exact ⟨h1,h2,.inr ⟨rfl,_,F1,H1,S,G,⟨ht,.inl ⟨hk,i,k,q1,q2,q3,q4,rfl⟩⟩,hD'⟩⟩
  obtain ⟨b,rfl⟩:=hq.bool
  exact ⟨b,rfl,Lib.hid (hq.from hE0)⟩
 have HA : Hid (∀ W,Calls Tryz.prog 55 #[.int .i64 x.thread] W fun e w'=>e=.returned (.bool true)∧W=w'):=Lib.hid fun W=>by have:=anybody_any x.thread W; rw [B_yes ht] at this; exact this
 obtain ⟨x0,x1,x2,x3,x4,x5⟩:=Blk.c6 hbx
 have HP:=Lib.hid hp
 clear hp hbx hE0 hD ho hx hT hB ht hbase
 unfold markA at hW0
 unfold markV at HP ⊢
 rw [hk] at x0 HP hW0 ⊢
 have HW0:=Lib.hid hW0
 clear hW0 hk
 go_enter Tryz.func27,Tryz.ntmps27
 go_upto_region 1 with fail
 rw [← HW0.out]
 go_wp2_with (first
  |(go_at_call 55; (with_reducible refine (HA.out _).mono ?_); rintro e w1 ⟨rfl,rfl⟩)
  |(go_at_call 56; (with_reducible refine HP.out.mono ?_); rintro e w1 ⟨b,rfl,hs⟩; have HS:=Lib.hid hs; clear hs))
 go_ret
 exact HS.out.out
set_option maxHeartbeats 4000000 in
set_option maxRecDepth 100000 in
theorem does15_any (m : ModelD) (d base : Nat) (F H S G : Value) (x : MarkD) (w : World) (ho : DeskOk m) (hx : MarkOk x) (hT : Tab w) (hB : TabB w) (hbase : base≤w.heap.size) (hD : DeskR w d base m F H S G) (ht : ThreadP x.thread) (hk : x.kind=15) :
  Calls Tryz.prog 27 #[.pointer (some ⟨d,0,none⟩),markV x] w (DoesP m d base x w):=by
 obtain ⟨W0,hW0⟩ : ∃ W0,W0=w.alloc (.cells (markA x) 34):=⟨_,rfl⟩
 have hE0 : Ext w W0:=hW0▸(Ext.refl w).alloc _
 have hbx : Blk W0 w.heap.size 34 (markA x):=hW0▸Blk.new _ _ _ _ rfl
 have hp : Calls Tryz.prog 57 #[.pointer (some ⟨d,0,none⟩),markV x] W0 fun e w'=>∃ b,e=.returned (.bool b)∧Hid (DoesP m d base x w e w'):=by
  refine (commit_any m d base F H S G x W0 ⟨ho.l2,ho.l4⟩ hx ho.hd (hB.ext hE0) (Nat.le_trans hbase hE0.size) (hD.ext hE0)).mono fun e w' hs=>?_
  have hq : DoesP m d base x W0 e w':=by
   obtain ⟨h1,h2,⟨rfl,hn,G1,hD'⟩ | ⟨rfl,q1,G1,hD'⟩⟩:=hs
   ·exact ⟨h1,h2,.inl ⟨rfl,.inr (.inr (.inl ⟨hk,hn⟩)),_,_,_,_,hD'⟩⟩
   ·exact ⟨h1,h2,.inr ⟨rfl,_,F,H,S,G1,⟨ht,.inr (.inl ⟨hk,q1,rfl⟩)⟩,hD'⟩⟩
  obtain ⟨b,rfl⟩:=hq.bool
  exact ⟨b,rfl,Lib.hid (hq.from hE0)⟩
 have HA : Hid (∀ W,Calls Tryz.prog 55 #[.int .i64 x.thread] W fun e w'=>e=.returned (.bool true)∧W=w'):=Lib.hid fun W=>by have:=anybody_any x.thread W; rw [B_yes ht] at this; exact this
 obtain ⟨x0,x1,x2,x3,x4,x5⟩:=Blk.c6 hbx
 have HP:=Lib.hid hp
 clear hp hbx hE0 hD ho hx hT hB ht hbase
 unfold markA at hW0
 unfold markV at HP ⊢
 rw [hk] at x0 HP hW0 ⊢
 have HW0:=Lib.hid hW0
 clear hW0 hk
 go_enter Tryz.func27,Tryz.ntmps27
 go_upto_region 1 with fail
 rw [← HW0.out]
 go_wp2_with (first
  |(go_at_call 55; (with_reducible refine (HA.out _).mono ?_); rintro e w1 ⟨rfl,rfl⟩)
  |(go_at_call 57; (with_reducible refine HP.out.mono ?_); rintro e w1 ⟨b,rfl,hs⟩; have HS:=Lib.hid hs; clear hs))
 go_ret
 exact HS.out.out
set_option maxHeartbeats 4000000 in
set_option maxRecDepth 100000 in
theorem does2_any (m : ModelD) (d base : Nat) (F H S G : Value) (x : MarkD) (w : World) (ho : DeskOk m) (hx : MarkOk x) (hT : Tab w) (hB : TabB w) (hbase : base≤w.heap.size) (hD : DeskR w d base m F H S G) (ht : ThreadP x.thread) (hk : x.kind=2) :
  Calls Tryz.prog 27 #[.pointer (some ⟨d,0,none⟩),markV x] w (DoesP m d base x w):=by
 obtain ⟨W0,hW0⟩ : ∃ W0,W0=w.alloc (.cells (markA x) 34):=⟨_,rfl⟩
 have hE0 : Ext w W0:=hW0▸(Ext.refl w).alloc _
 have hbx : Blk W0 w.heap.size 34 (markA x):=hW0▸Blk.new _ _ _ _ rfl
 have hp : Calls Tryz.prog 58 #[.pointer (some ⟨d,0,none⟩),markV x] W0 fun e w'=>∃ b,e=.returned (.bool b)∧Hid (DoesP m d base x w e w'):=by
  refine (layD_any m d base F H S G x W0 ⟨ho.l2,ho.l3,ho.l4⟩ hx ho.hd ho.r3 (hT.ext hE0) (Nat.le_trans hbase hE0.size) (hD.ext hE0)).mono fun e w' hs=>?_
  have hq : DoesP m d base x W0 e w':=by
   obtain ⟨h1,h2,⟨rfl,hn,hD'⟩ | ⟨rfl,j,k,H1,S1,q1,q2,q3,q4,hD'⟩⟩:=hs
   ·exact ⟨h1,h2,.inl ⟨rfl,.inr (.inr (.inr (.inl ⟨hk,hn⟩))),_,_,_,_,hD'⟩⟩
   ·exact ⟨h1,h2,.inr ⟨rfl,_,F,H1,S1,G,⟨ht,.inr (.inr (.inl ⟨hk,j,k,q1,q2,q3,q4,rfl⟩))⟩,hD'⟩⟩
  obtain ⟨b,rfl⟩:=hq.bool
  exact ⟨b,rfl,Lib.hid (hq.from hE0)⟩
 have HA : Hid (∀ W,Calls Tryz.prog 55 #[.int .i64 x.thread] W fun e w'=>e=.returned (.bool true)∧W=w'):=Lib.hid fun W=>by have:=anybody_any x.thread W; rw [B_yes ht] at this; exact this
 obtain ⟨x0,x1,x2,x3,x4,x5⟩:=Blk.c6 hbx
 have HP:=Lib.hid hp
 clear hp hbx hE0 hD ho hx hT hB ht hbase
 unfold markA at hW0
 unfold markV at HP ⊢
 rw [hk] at x0 HP hW0 ⊢
 have HW0:=Lib.hid hW0
 clear hW0 hk
 go_enter Tryz.func27,Tryz.ntmps27
 go_upto_region 1 with fail
 rw [← HW0.out]
 go_wp2_with (first
  |(go_at_call 55; (with_reducible refine (HA.out _).mono ?_); rintro e w1 ⟨rfl,rfl⟩)
  |(go_at_call 58; (with_reducible refine HP.out.mono ?_); rintro e w1 ⟨b,rfl,hs⟩; have HS:=Lib.hid hs; clear hs))
 go_ret
 exact HS.out.out
set_option maxHeartbeats 4000000 in
set_option maxRecDepth 100000 in
theorem does9_any (m : ModelD) (d base : Nat) (F H S G : Value) (x : MarkD) (w : World) (ho : DeskOk m) (hx : MarkOk x) (hT : Tab w) (hB : TabB w) (hbase : base≤w.heap.size) (hD : DeskR w d base m F H S G) (ht : ThreadP x.thread) (hk : x.kind=9) :
  Calls Tryz.prog 27 #[.pointer (some ⟨d,0,none⟩),markV x] w (DoesP m d base x w):=by
 obtain ⟨W0,hW0⟩ : ∃ W0,W0=w.alloc (.cells (markA x) 34):=⟨_,rfl⟩
 have hE0 : Ext w W0:=hW0▸(Ext.refl w).alloc _
 have hbx : Blk W0 w.heap.size 34 (markA x):=hW0▸Blk.new _ _ _ _ rfl
 have hp : Calls Tryz.prog 59 #[.pointer (some ⟨d,0,none⟩),markV x] W0 fun e w'=>∃ b,e=.returned (.bool b)∧Hid (DoesP m d base x w e w'):=by
  refine (dropD_any m d base F H S G x W0 ⟨ho.l2,ho.l3⟩ hx ho.r2 ho.r3 (Nat.le_trans hbase hE0.size) (hD.ext hE0)).mono fun e w' hs=>?_
  have hq : DoesP m d base x W0 e w':=by
   obtain ⟨h1,h2,⟨rfl,hn,hD'⟩ | ⟨rfl,j,k,H1,S1,q1,q2,q3,q4,hD'⟩⟩:=hs
   ·exact ⟨h1,h2,.inl ⟨rfl,.inr (.inr (.inr (.inr (.inl ⟨hk,hn⟩)))),_,_,_,_,hD'⟩⟩
   ·exact ⟨h1,h2,.inr ⟨rfl,_,F,H1,S1,G,⟨ht,.inr (.inr (.inr (.inl ⟨hk,j,k,q1,q2,q3,q4,rfl⟩)))⟩,hD'⟩⟩
  obtain ⟨b,rfl⟩:=hq.bool
  exact ⟨b,rfl,Lib.hid (hq.from hE0)⟩
 have HA : Hid (∀ W,Calls Tryz.prog 55 #[.int .i64 x.thread] W fun e w'=>e=.returned (.bool true)∧W=w'):=Lib.hid fun W=>by have:=anybody_any x.thread W; rw [B_yes ht] at this; exact this
 obtain ⟨x0,x1,x2,x3,x4,x5⟩:=Blk.c6 hbx
 have HP:=Lib.hid hp
 clear hp hbx hE0 hD ho hx hT hB ht hbase
 unfold markA at hW0
 unfold markV at HP ⊢
 rw [hk] at x0 HP hW0 ⊢
 have HW0:=Lib.hid hW0
 clear hW0 hk
 go_enter Tryz.func27,Tryz.ntmps27
 go_upto_region 1 with fail
 rw [← HW0.out]
 go_wp2_with (first
  |(go_at_call 55; (with_reducible refine (HA.out _).mono ?_); rintro e w1 ⟨rfl,rfl⟩)
  |(go_at_call 59; (with_reducible refine HP.out.mono ?_); rintro e w1 ⟨b,rfl,hs⟩; have HS:=Lib.hid hs; clear hs))
 go_ret
 exact HS.out.out
set_option maxHeartbeats 4000000 in
set_option maxRecDepth 100000 in
theorem does10_any (m : ModelD) (d base : Nat) (F H S G : Value) (x : MarkD) (w : World) (ho : DeskOk m) (hx : MarkOk x) (hT : Tab w) (hB : TabB w) (hbase : base≤w.heap.size) (hD : DeskR w d base m F H S G) (ht : ThreadP x.thread) (hk : x.kind=10) :
  Calls Tryz.prog 27 #[.pointer (some ⟨d,0,none⟩),markV x] w (DoesP m d base x w):=by
 obtain ⟨W0,hW0⟩ : ∃ W0,W0=w.alloc (.cells (markA x) 34):=⟨_,rfl⟩
 have hE0 : Ext w W0:=hW0▸(Ext.refl w).alloc _
 have hbx : Blk W0 w.heap.size 34 (markA x):=hW0▸Blk.new _ _ _ _ rfl
 have hp : Calls Tryz.prog 60 #[.pointer (some ⟨d,0,none⟩),markV x] W0 fun e w'=>∃ b,e=.returned (.bool b)∧Hid (DoesP m d base x w e w'):=by
  refine (back_any m d base F H S G x W0 ⟨ho.l1,ho.l2⟩ hx ho.fr ho.hd ho.r1 (Nat.le_trans hbase hE0.size) (hD.ext hE0)).mono fun e w' hs=>?_
  have hq : DoesP m d base x W0 e w':=by
   obtain ⟨h1,h2,⟨rfl,hn,hD'⟩ | ⟨rfl,j,k,F1,H1,q1,q2,q3,q4,hD'⟩⟩:=hs
   ·exact ⟨h1,h2,.inl ⟨rfl,.inr (.inr (.inr (.inr (.inr (.inl ⟨hk,hn⟩))))),_,_,_,_,hD'⟩⟩
   ·exact ⟨h1,h2,.inr ⟨rfl,_,F1,H1,S,G,⟨ht,.inr (.inr (.inr (.inr (.inl ⟨hk,j,k,q1,q2,q3,q4,rfl⟩))))⟩,hD'⟩⟩
  obtain ⟨b,rfl⟩:=hq.bool
  exact ⟨b,rfl,Lib.hid (hq.from hE0)⟩
 have HA : Hid (∀ W,Calls Tryz.prog 55 #[.int .i64 x.thread] W fun e w'=>e=.returned (.bool true)∧W=w'):=Lib.hid fun W=>by have:=anybody_any x.thread W; rw [B_yes ht] at this; exact this
 obtain ⟨x0,x1,x2,x3,x4,x5⟩:=Blk.c6 hbx
 have HP:=Lib.hid hp
 clear hp hbx hE0 hD ho hx hT hB ht hbase
 unfold markA at hW0
 unfold markV at HP ⊢
 rw [hk] at x0 HP hW0 ⊢
 have HW0:=Lib.hid hW0
 clear hW0 hk
 go_enter Tryz.func27,Tryz.ntmps27
 go_upto_region 1 with fail
 rw [← HW0.out]
 go_wp2_with (first
  |(go_at_call 55; (with_reducible refine (HA.out _).mono ?_); rintro e w1 ⟨rfl,rfl⟩)
  |(go_at_call 60; (with_reducible refine HP.out.mono ?_); rintro e w1 ⟨b,rfl,hs⟩; have HS:=Lib.hid hs; clear hs))
 go_ret
 exact HS.out.out
set_option maxHeartbeats 4000000 in
set_option maxRecDepth 100000 in
theorem does14_any (m : ModelD) (d base : Nat) (F H S G : Value) (x : MarkD) (w : World) (ho : DeskOk m) (hx : MarkOk x) (hT : Tab w) (hB : TabB w) (hbase : base≤w.heap.size) (hD : DeskR w d base m F H S G) (ht : ThreadP x.thread) (hk : x.kind=14) :
  Calls Tryz.prog 27 #[.pointer (some ⟨d,0,none⟩),markV x] w (DoesP m d base x w):=by
 obtain ⟨W0,hW0⟩ : ∃ W0,W0=w.alloc (.cells (markA x) 34):=⟨_,rfl⟩
 have hE0 : Ext w W0:=hW0▸(Ext.refl w).alloc _
 have hbx : Blk W0 w.heap.size 34 (markA x):=hW0▸Blk.new _ _ _ _ rfl
 have hp : Calls Tryz.prog 62 #[.pointer (some ⟨d,0,none⟩),markV x] W0 fun e w'=>∃ b,e=.returned (.bool b)∧Hid (DoesP m d base x w e w'):=by
  refine (release_any m d base F H S G x W0 ⟨ho.l1,ho.l4⟩ hx ho.fr ho.gn (hB.ext hE0) (Nat.le_trans hbase hE0.size) (hD.ext hE0)).mono fun e w' hs=>?_
  have hq : DoesP m d base x W0 e w':=by
   obtain ⟨h1,h2,⟨rfl,hn,G1,hD'⟩ | ⟨rfl,q1,G1,hD'⟩⟩:=hs
   ·exact ⟨h1,h2,.inl ⟨rfl,.inr (.inr (.inr (.inr (.inr (.inr (.inr (.inr (.inl ⟨hk,hn⟩)))))))),_,_,_,_,hD'⟩⟩
   ·exact ⟨h1,h2,.inr ⟨rfl,_,F,H,S,G1,⟨ht,.inr (.inr (.inr (.inr (.inr (.inr (.inr (.inl ⟨hk,q1,rfl⟩)))))))⟩,hD'⟩⟩
  obtain ⟨b,rfl⟩:=hq.bool
  exact ⟨b,rfl,Lib.hid (hq.from hE0)⟩
 have HA : Hid (∀ W,Calls Tryz.prog 55 #[.int .i64 x.thread] W fun e w'=>e=.returned (.bool true)∧W=w'):=Lib.hid fun W=>by have:=anybody_any x.thread W; rw [B_yes ht] at this; exact this
 obtain ⟨x0,x1,x2,x3,x4,x5⟩:=Blk.c6 hbx
 have HP:=Lib.hid hp
 clear hp hbx hE0 hD ho hx hT hB ht hbase
 unfold markA at hW0
 unfold markV at HP ⊢
 rw [hk] at x0 HP hW0 ⊢
 have HW0:=Lib.hid hW0
 clear hW0 hk
 go_enter Tryz.func27,Tryz.ntmps27
 go_upto_region 1 with fail
 rw [← HW0.out]
 go_wp2_with (first
  |(go_at_call 55; (with_reducible refine (HA.out _).mono ?_); rintro e w1 ⟨rfl,rfl⟩)
  |(go_at_call 62; (with_reducible refine HP.out.mono ?_); rintro e w1 ⟨b,rfl,hs⟩; have HS:=Lib.hid hs; clear hs))
 go_ret
 exact HS.out.out
set_option maxHeartbeats 4000000 in
set_option maxRecDepth 100000 in
theorem does12_any (m : ModelD) (d base : Nat) (F H S G : Value) (x : MarkD) (w : World) (ho : DeskOk m) (hx : MarkOk x) (hT : Tab w) (hB : TabB w) (hbase : base≤w.heap.size) (hD : DeskR w d base m F H S G) (ht : ThreadP x.thread) (hk : x.kind=12) :
  Calls Tryz.prog 27 #[.pointer (some ⟨d,0,none⟩),markV x] w (DoesP m d base x w):=by
 obtain ⟨W0,hW0⟩ : ∃ W0,W0=w.alloc (.cells (markA x) 34):=⟨_,rfl⟩
 have hE0 : Ext w W0:=hW0▸(Ext.refl w).alloc _
 have hbx : Blk W0 w.heap.size 34 (markA x):=hW0▸Blk.new _ _ _ _ rfl
 have hp : Calls Tryz.prog 61 #[.pointer (some ⟨d,0,none⟩)] W0 fun e w'=>∃ b,e=.returned (.bool b)∧Hid (DoesP m d base x w e w'):=by
  refine (cycle_any m d base F H S G W0 ⟨ho.l2,ho.l3⟩ (hD.ext hE0)).mono fun e w' hs=>?_
  have hq : DoesP m d base x W0 e w':=by
   obtain ⟨h1,h2,⟨rfl,hn,hD'⟩ | ⟨rfl,q1,hD'⟩⟩:=hs
   ·exact ⟨h1,h2,.inl ⟨rfl,.inr (.inr (.inr (.inr (.inr (.inr (.inl ⟨hk,hn⟩)))))),_,_,_,_,hD'⟩⟩
   ·exact ⟨h1,h2,.inr ⟨rfl,_,F,H,S,G,⟨ht,.inr (.inr (.inr (.inr (.inr (.inl ⟨hk,q1,rfl⟩)))))⟩,hD'⟩⟩
  obtain ⟨b,rfl⟩:=hq.bool
  exact ⟨b,rfl,Lib.hid (hq.from hE0)⟩
 have HA : Hid (∀ W,Calls Tryz.prog 55 #[.int .i64 x.thread] W fun e w'=>e=.returned (.bool true)∧W=w'):=Lib.hid fun W=>by have:=anybody_any x.thread W; rw [B_yes ht] at this; exact this
 obtain ⟨x0,x1,x2,x3,x4,x5⟩:=Blk.c6 hbx
 have HP:=Lib.hid hp
 clear hp hbx hE0 hD ho hx hT hB ht hbase
 unfold markA at hW0
 unfold markV at ⊢
 rw [hk] at x0 hW0 ⊢
 have HW0:=Lib.hid hW0
 clear hW0 hk
 go_enter Tryz.func27,Tryz.ntmps27
 go_upto_region 1 with fail
 rw [← HW0.out]
 go_wp2_with (first
  |(go_at_call 55; (with_reducible refine (HA.out _).mono ?_); rintro e w1 ⟨rfl,rfl⟩)
  |(go_at_call 61; (with_reducible refine HP.out.mono ?_); rintro e w1 ⟨b,rfl,hs⟩; have HS:=Lib.hid hs; clear hs))
 go_ret
 exact HS.out.out
set_option maxHeartbeats 4000000 in
set_option maxRecDepth 100000 in
theorem doesNo_any (m : ModelD) (d base : Nat) (F H S G : Value) (x : MarkD) (w : World) (ho : DeskOk m) (hx : MarkOk x) (hT : Tab w) (hB : TabB w) (hbase : base≤w.heap.size) (hD : DeskR w d base m F H S G) (ht : ¬ ThreadP x.thread) :
  Calls Tryz.prog 27 #[.pointer (some ⟨d,0,none⟩),markV x] w (DoesP m d base x w):=by
 obtain ⟨W0,hW0⟩ : ∃ W0,W0=w.alloc (.cells (markA x) 34):=⟨_,rfl⟩
 have hE0 : Ext w W0:=hW0▸(Ext.refl w).alloc _
 have hbx : Blk W0 w.heap.size 34 (markA x):=hW0▸Blk.new _ _ _ _ rfl
 obtain ⟨x0,x1,x2,x3,x4,x5⟩:=Blk.c6 hbx
 have HA : Hid (∀ W,Calls Tryz.prog 55 #[.int .i64 x.thread] W fun e w'=>e=.returned (.bool false)∧W=w'):=Lib.hid fun W=>by have:=anybody_any x.thread W; rw [B_no ht] at this; exact this
 have HE0:=Lib.hid (And.intro hE0 (And.intro ht (hD.ext hE0)))
 clear hbx hE0 hD ho hx hT hB ht hbase
 unfold markA at hW0
 unfold markV
 have HW0:=Lib.hid hW0
 clear hW0
 go_enter Tryz.func27,Tryz.ntmps27
 go_upto_region 1 with fail
 rw [← HW0.out]
 go_wp2_with (go_at_call 55; (with_reducible refine (HA.out _).mono ?_); rintro e w1 ⟨rfl,rfl⟩)
 go_ret
 exact ⟨KeepD.ext HE0.out.1,HE0.out.1.size,.inl ⟨rfl,.inl HE0.out.2.1,_,_,_,_,HE0.out.2.2⟩⟩
set_option maxHeartbeats 4000000 in
set_option maxRecDepth 100000 in
theorem does13_any (m : ModelD) (d base : Nat) (F H S G : Value) (x : MarkD) (w : World) (ho : DeskOk m) (hx : MarkOk x) (hT : Tab w) (hB : TabB w) (hbase : base≤w.heap.size) (hD : DeskR w d base m F H S G) (ht : ThreadP x.thread) (hk : x.kind=13) :
  Calls Tryz.prog 27 #[.pointer (some ⟨d,0,none⟩),markV x] w (DoesP m d base x w):=by
 obtain ⟨FA,fc,rfl,hfc⟩:=hD.own.free.ofSlice
 obtain ⟨HA',hc,rfl,hhc⟩:=hD.own.hands.ofSlice
 obtain ⟨SA,sc,rfl,hsc⟩:=hD.own.spans.ofSlice
 obtain ⟨GA,gc,rfl,hgc⟩:=hD.own.gone.ofSlice
 obtain ⟨W0,hW0⟩ : ∃ W0,W0=w.alloc (.cells (markA x) 34):=⟨_,rfl⟩
 have hE0 : Ext w W0:=hW0▸(Ext.refl w).alloc _
 have hbx : Blk W0 w.heap.size 34 (markA x):=hW0▸Blk.new _ _ _ _ rfl
 have hp : ∀ W,Ext W0 W→Calls Tryz.prog 43 #[modelV m FA HA' SA GA fc hc sc gc,.int .i64 x.thread,.int .i64 x.page,.int .i64 x.n] W fun e w'=>e=.returned (.bool (B (HasP m x.thread x.page x.n)))∧Ext W w':=fun W hE =>
  has_any m FA HA' SA GA fc hc sc gc x.thread x.page x.n W (hT.ext (hE0.trans hE)) ⟨by have:=ho.l1; omega,by have:=ho.l3; omega⟩ (own_sl' (hD.ext (hE0.trans hE)).own.free) (own_sl' (hD.ext (hE0.trans hE)).own.spans)
 have HA : Hid (∀ W,Calls Tryz.prog 55 #[.int .i64 x.thread] W fun e w'=>e=.returned (.bool true)∧W=w'):=Lib.hid fun W=>by have:=anybody_any x.thread W; rw [B_yes ht] at this; exact this
 obtain ⟨x0,x1,x2,x3,x4,x5⟩:=Blk.c6 hbx
 have hb:=(hD.ext hE0).blk
 obtain ⟨d0,d1,d2,d3,d4⟩:=Blk.c5 hb
 have y0:=fun d os=>cell_regrown d0 d os
 have y1:=fun d os=>cell_regrown d1 d os
 have y2:=fun d os=>cell_regrown d2 d os
 have y3:=fun d os=>cell_regrown d3 d os
 have y4:=fun d os=>cell_regrown d4 d os
 have z1:=fun d os=>cell_regrown x1 d os
 have z3:=fun d os=>cell_regrown x3 d os
 have z4:=fun d os=>cell_regrown x4 d os
 have HQ:=Lib.hid (And.intro hE0 (And.intro hD (And.intro ht hk)))
 clear hbx hE0 hD ho hx hT hB ht hbase hb
 unfold markA at hW0
 unfold markV
 unfold modelV at hp
 rw [hk] at x0 hW0 ⊢
 have HW0:=Lib.hid hW0
 clear hW0 hk
 by_cases hh : HasP m x.thread x.page x.n
 ·rw [B_yes hh] at hp
  have HP:=Lib.hid hp
  have HH:=Lib.hid hh
  clear hp hh
  go_enter Tryz.func27,Tryz.ntmps27
  go_upto_region 1 with fail
  rw [← HW0.out]
  go_upto_region 17 with (go_at_call 55; (with_reducible refine (HA.out _).mono ?_); rintro e w1 ⟨rfl,rfl⟩)
  refine wp_region_quiet_below (by kernel_rfl) (by kernel_rfl) ?_
  repeat (go_big_quiet_step ((go_at_call 43; exact Calls.regrown_of (HP.out _ (below_regrown _ _ _)))))
  refine wpQuiet_nil ?_
  intro _ hw'
  obtain ⟨⟨dq,osq⟩,hw''⟩:=hw'
  subst hw''
  have HE3:=Lib.hid (show Ext W0 (grow (redrawn W0 dq) osq) from below_regrown _ _ _)
  go_wp2
  go_ret
  exact ⟨KeepD.ext (HQ.out.1.trans HE3.out),(HQ.out.1.trans HE3.out).size,.inl ⟨rfl,.inr (.inr (.inr (.inr (.inr (.inr (.inr (.inl ⟨HQ.out.2.2.2,HH.out⟩))))))),_,_,_,_,HQ.out.2.1.ext (HQ.out.1.trans HE3.out)⟩⟩
 ·rw [B_no hh] at hp
  have HP:=Lib.hid hp
  have HH:=Lib.hid hh
  clear hp hh
  go_enter Tryz.func27,Tryz.ntmps27
  go_upto_region 1 with fail
  rw [← HW0.out]
  go_upto_region 17 with (go_at_call 55; (with_reducible refine (HA.out _).mono ?_); rintro e w1 ⟨rfl,rfl⟩)
  refine wp_region_quiet_below (by kernel_rfl) (by kernel_rfl) ?_
  repeat (go_big_quiet_step ((go_at_call 43; exact Calls.regrown_of (HP.out _ (below_regrown _ _ _)))))
  refine wpQuiet_nil ?_
  intro _ hw'
  obtain ⟨⟨dq,osq⟩,hw''⟩:=hw'
  subst hw''
  have HE3:=Lib.hid (show Ext W0 (grow (redrawn W0 dq) osq) from below_regrown _ _ _)
  go_wp2
  go_ret
  exact ⟨KeepD.ext (HQ.out.1.trans HE3.out),(HQ.out.1.trans HE3.out).size,.inr ⟨rfl,_,_,_,_,_,⟨HQ.out.2.2.1,.inr (.inr (.inr (.inr (.inr (.inr (.inl ⟨HQ.out.2.2.2,HH.out,rfl⟩))))))⟩,HQ.out.2.1.ext (HQ.out.1.trans HE3.out)⟩⟩
set_option maxHeartbeats 8000000 in
set_option maxRecDepth 100000 in
theorem doesT_any (m : ModelD) (d base : Nat) (F H S G : Value) (x : MarkD) (w : World) (ho : DeskOk m) (hx : MarkOk x) (hT : Tab w) (hB : TabB w) (hbase : base≤w.heap.size) (hD : DeskR w d base m F H S G) (ht : ThreadP x.thread) (hk : OtherK x) :
  Calls Tryz.prog 27 #[.pointer (some ⟨d,0,none⟩),markV x] w (DoesP m d base x w):=by
 obtain ⟨SA,sc,rfl,hsc⟩:=hD.own.spans.ofSlice
 obtain ⟨W0,hW0⟩ : ∃ W0,W0=w.alloc (.cells (markA x) 34):=⟨_,rfl⟩
 have hE0 : Ext w W0:=hW0▸(Ext.refl w).alloc _
 have hbx : Blk W0 w.heap.size 34 (markA x):=hW0▸Blk.new _ _ _ _ rfl
 have hp : Calls Tryz.prog 63 #[.pointer (some ⟨d,0,none⟩),.int .i64 x.page] W0 fun e w'=>∃ q,e=.returned (.pointer q)∧Hid (((q=none∧∀ j,j < m.spans.length→(ix noHold m.spans j).page≠x.page)∨∃ i g,i < m.spans.length∧(ix noHold m.spans i).page=x.page∧SA=some ⟨g,0,none⟩∧q=some ⟨g,i * 8,none⟩)∧Ext W0 w'):=by
  refine (spanD_any m d base F H G SA sc x.page W0 (by have:=ho.l3; omega) ho.r3 (hD.ext hE0)).mono fun e w' ⟨h1,h2⟩=>?_
  rcases h1 with ⟨rfl,h3⟩ | ⟨i,g,h3,h4,h5,rfl⟩
  ·exact ⟨none,rfl,Lib.hid ⟨.inl ⟨rfl,h3⟩,h2⟩⟩
  ·exact ⟨_,rfl,Lib.hid ⟨.inr ⟨i,g,h3,h4,h5,rfl⟩,h2⟩⟩
 have HA : Hid (∀ W,Calls Tryz.prog 55 #[.int .i64 x.thread] W fun e w'=>e=.returned (.bool true)∧W=w'):=Lib.hid fun W=>by have:=anybody_any x.thread W; rw [B_yes ht] at this; exact this
 obtain ⟨x0,x1,x2,x3,x4,x5⟩:=Blk.c6 hbx
 have HP:=Lib.hid hp
 have HQ:=Lib.hid (And.intro hE0 (And.intro hD (And.intro ht (And.intro hk (And.intro ho (And.intro hT hbx))))))
 have HB:=Lib.hid hbase
 obtain ⟨k1,k2,k3,k4,k5,k6,k7,k8⟩:=hk
 have e1 : (x.kind == 1)=false:=by simpa using k1
 have e2 : (x.kind == 15)=false:=by simpa using k2
 have e3 : (x.kind == 2)=false:=by simpa using k3
 have e4 : (x.kind == 9)=false:=by simpa using k4
 have e5 : (x.kind == 10)=false:=by simpa using k5
 have e6 : (x.kind == 12)=false:=by simpa using k6
 have e7 : (x.kind == 13)=false:=by simpa using k7
 have e8 : (x.kind == 14)=false:=by simpa using k8
 clear hbx hE0 hD ho hx hT hB ht hbase k1 k2 k3 k4 k5 k6 k7 k8 hp
 unfold markA at hW0
 unfold markV
 have HW0:=Lib.hid hW0
 clear hW0
 go_enter Tryz.func27,Tryz.ntmps27
 go_upto_region 1 with fail
 rw [← HW0.out]
 go_upto_region 21 with (first
  |(go_at_call 55; (with_reducible refine (HA.out _).mono ?_); rintro e w1 ⟨rfl,rfl⟩)
  |(go_at_call 63; (with_reducible refine HP.out.mono ?_); rintro e w1 ⟨q,rfl,hs⟩; have HS:=Lib.hid hs; clear hs))
 obtain ⟨hr,hE1⟩:=HS.out.out
 have hEw : Ext w w1:=HQ.out.1.trans hE1
 rcases hr with ⟨rfl,hno⟩ | ⟨i,g,hi,hpg,rfl,rfl⟩
 ·have HN:=Lib.hid (And.intro hno hEw)
  clear hno hE1 hEw
  go_wp2
  go_ret
  exact ⟨KeepD.ext HN.out.2,HN.out.2.size,.inl ⟨rfl,.inr (.inr (.inr (.inr (.inr (.inr (.inr (.inr (.inr ⟨HQ.out.2.2.2.1,.inl HN.out.1⟩)))))))),_,_,_,_,HQ.out.2.1.ext HN.out.2⟩⟩
 ·have hD1:=HQ.out.2.1.ext hEw
  have hbx1:=HQ.out.2.2.2.2.2.2.ext hE1
  obtain ⟨c0,c1,c2,c3,c4,c5⟩:=Blk.c6 hbx1
  have htn : Calls Tryz.prog 64 #[.pointer (some ⟨g,i * 8,none⟩),markV x] w1 fun e w'=>∃ b,e=.returned (.bool b)∧Hid (DoesP m d base x w e w'):=by
   refine (turns_any (ix noHold m.spans i) x base g m.spans.length sc i m.spans w1 rfl hi rfl (HQ.out.2.2.2.2.2.1.ext hEw) (HQ.out.2.2.2.2.1.al i hi) hD1.own.spans).mono fun e w' hs=>?_
   rcases hs with ⟨rfl,h1,h2⟩ | ⟨rfl,h',h1,h2,h3⟩
   ·exact ⟨_,rfl,Lib.hid ⟨KeepD.ext (hEw.trans h2),(hEw.trans h2).size,.inl ⟨rfl,.inr (.inr (.inr (.inr (.inr (.inr (.inr (.inr (.inr ⟨HQ.out.2.2.2.1,.inr ⟨i,hi,hpg,h1⟩⟩)))))))),_,_,_,_,hD1.ext h2⟩⟩⟩
   ·have hD2:=hD1.putSpans h3 (m.spans.set i h') (by rw [List.length_set]; exact h2)
    exact ⟨_,rfl,Lib.hid ⟨(KeepD.ext hEw).trans (KeepD.grown hD1.own.spans h3),Nat.le_trans hEw.size h3.size,.inr ⟨rfl,_,_,_,_,_,⟨HQ.out.2.2.1,.inr (.inr (.inr (.inr (.inr (.inr (.inr (.inr ⟨HQ.out.2.2.2.1,i,h',hi,hpg,h1,rfl⟩)))))))⟩,hD2⟩⟩⟩
  have HT2:=Lib.hid htn
  clear htn hi hpg hE1 hEw hD1 hbx1 x0 x1 x2 x3 x4 x5
  unfold markV at HT2
  go_wp2_with (go_at_call 64; (with_reducible refine HT2.out.mono ?_); rintro e w2 ⟨b,rfl,hs⟩; have HS2:=Lib.hid hs; clear hs)
  go_ret
  exact HS2.out.out
theorem does_any (m : ModelD) (d base : Nat) (F H S G : Value) (x : MarkD) (w : World) (ho : DeskOk m) (hx : MarkOk x) (hT : Tab w) (hB : TabB w) (hbase : base≤w.heap.size) (hD : DeskR w d base m F H S G) :
  Calls Tryz.prog 27 #[.pointer (some ⟨d,0,none⟩),markV x] w (DoesP m d base x w):=by
 by_cases ht : ThreadP x.thread
 rotate_left
 ·exact doesNo_any m d base F H S G x w ho hx hT hB hbase hD ht
 by_cases k1 : x.kind=1
 ·exact does1_any m d base F H S G x w ho hx hT hB hbase hD ht k1
 by_cases k15 : x.kind=15
 ·exact does15_any m d base F H S G x w ho hx hT hB hbase hD ht k15
 by_cases k2 : x.kind=2
 ·exact does2_any m d base F H S G x w ho hx hT hB hbase hD ht k2
 by_cases k9 : x.kind=9
 ·exact does9_any m d base F H S G x w ho hx hT hB hbase hD ht k9
 by_cases k10 : x.kind=10
 ·exact does10_any m d base F H S G x w ho hx hT hB hbase hD ht k10
 by_cases k12 : x.kind=12
 ·exact does12_any m d base F H S G x w ho hx hT hB hbase hD ht k12
 by_cases k13 : x.kind=13
 ·exact does13_any m d base F H S G x w ho hx hT hB hbase hD ht k13
 by_cases k14 : x.kind=14
 ·exact does14_any m d base F H S G x w ho hx hT hB hbase hD ht k14
 exact doesT_any m d base F H S G x w ho hx hT hB hbase hD ht ⟨k1,k15,k2,k9,k10,k12,k13,k14⟩
theorem results_cell_row2 {P : Program} {fn : Func} {p u : Tmp} {ty : TypeId} (h : fn.results=#[.cell p ty,.tmp u]) (tmps : Array Value) (w : World) (g : Nat) (t : TypeId) (cs : Array Value) (fr : Nat × Nat) (d : TypeDesc)
  (hp : tmps.getD p undef=.pointer (some ⟨g,0,none⟩)) (hg : w.heap[g]?=some (.cells cs t fr))
  (hu : P.underlying ty=some d) (hd : (match d with | .struct _ | .array _ _=>true | _=>false)=true) (hi : (P.info? ty).map (·.size)=some cs.size) :
  (results fn tmps).run P w=.ok (.tuple #[.agg cs,tmps.getD u undef]) w:=by
 rw [results_cell_tmp h,hp]
 simp [asAddr,run_loadVar_row w g t ty cs fr d hg hu hd hi]
theorem rises_step {α : Type} {d : α} {l : List α} {K : α→Int} (h : ∀ i,i < l.length→0 < i→K (ix d l (i - 1)) < K (ix d l i)) : Rises d l K:=by
 intro i j hij hj
 induction j with
 | zero=>omega
 | succ j ih =>
  have h1:=h (j + 1) hj (by omega)
  rw [Nat.add_sub_cancel] at h1
  by_cases e : i=j
  ·rw [e]; exact h1
  ·have:=ih (by omega) (by omega)
   omega
theorem sortI_rises {l : List Int} (h : Rises 0 l id) : sortI l=l:=by
 unfold sortI
 refine List.mergeSort_of_pairwise ?_
 rw [List.pairwise_iff_getElem]
 intro i j hi hj hij
 have:=h i j hij hj
 rw [ix_lt hi,ix_lt hj] at this
 simp only [id_eq] at this
 exact decide_eq_true (by omega)
theorem deskOk_may {m : ModelD} (h : MayS HoldOk m) : DeskOk m:=by
 obtain ⟨k1,k2⟩:=h.len
 obtain ⟨p0,p1⟩:=h.pages
 have hf : ∀ i,i < m.free.length→FitP m.pages ((ix noRun m.free i).at_,(ix noRun m.free i).n):=fun i hi=>by
  have:=(h.laid i (by rw [pcs_length]; omega)).1
  rwa [pcs_free hi] at this
 have hh : ∀ i,i < m.hands.length→FitP m.pages ((ix noHand m.hands i).at_,(ix noHand m.hands i).n):=fun i hi=>by
  have:=(h.laid (m.free.length + i) (by rw [pcs_length]; omega)).1
  rwa [pcs_hand hi] at this
 refine ⟨by omega,by omega,by omega,by omega,fun i hi=>?_,fun i hi=>?_,rises_step fun i hi h0=>?_,rises_step fun i hi h0=>(h.hand i hi).2 h0,rises_step fun i hi h0=>(h.span i hi).2 h0,sortI_rises (rises_step (K:=id) fun i hi h0=>(h.gone i hi).2 h0),fun i hi=>?_⟩
 ·obtain ⟨a,b,c,d⟩:=hf i hi
  dsimp only at a b c d
  exact ⟨a,b,by omega⟩
 ·obtain ⟨a,b,c,d⟩:=hh i hi
  dsimp only at a b c d
  exact ⟨a,b,by omega⟩
 ·have h1:=h.free i hi h0
  have h2:=(hf (i - 1) (by omega)).2.1
  dsimp only at h2
  unfold runK
  omega
 ·have h1:=(h.span i hi).1.2.2.1
  have h2:=slN_le (ix noHold m.spans i).cls
  have h3 : 2 ^ slN (ix noHold m.spans i).cls≤2 ^ 64:=Nat.pow_le_pow_right (by decide) h2
  omega
def noModel : ModelD:=⟨0,[],[],[],[]⟩
/-- What Accepts tells. -/
def AccP (m : ModelD) (x : MarkD) (w : World) (e : Ending) (w' : World) : Prop:=Ext w w'∧∃ m' b F' H' S' G' fc' hc' sc' gc',e=.returned (.tuple #[modelV m' F' H' S' G' fc' hc' sc' gc',.bool b]) ∧
 OwnM w' w.heap.size m' (.slice F' m'.free.length fc') (.slice H' m'.hands.length hc') (.slice S' m'.spans.length sc') (.slice G' m'.gone.length gc') ∧
 ((b=false∧m'=noModel∧(¬ MayS HoldOk m∨DoesN m x))∨(b=true∧MayS HoldOk m∧DoesR m x m'))
theorem ownNo (w : World) (b : Nat) : OwnM w b noModel (.slice none 0 0) (.slice none 0 0) (.slice none 0 0) (.slice none 0 0):=⟨OwnS.nil _ _ _ _ _,OwnS.nil _ _ _ _ _,OwnS.nil _ _ _ _ _,OwnS.nil _ _ _ _ _⟩
theorem OwnM.mono {w : World} {b b' : Nat} {m : ModelD} {F H S G : Value} (h : OwnM w b m F H S G) (hb : b'≤b) : OwnM w b' m F H S G:=⟨h.free.mono hb,h.hands.mono hb,h.spans.mono hb,h.gone.mono hb⟩
theorem OwnM.far {w : World} {b : Nat} {m : ModelD} {F H S G : Value} (h : OwnM w b m F H S G) {p : Addr} (hp : p.block < b) (u : Value) : OwnM (w.setCell p u) b m F H S G:=⟨h.free.far hp u,h.hands.far hp u,h.spans.far hp u,h.gone.far hp u⟩
theorem OwnM.slices {w : World} {b : Nat} {m : ModelD} {F H S G : Value} (h : OwnM w b m F H S G) : ∃ F' H' S' G' fc hc sc gc,F=.slice F' m.free.length fc∧H=.slice H' m.hands.length hc∧S=.slice S' m.spans.length sc∧G=.slice G' m.gone.length gc:=by
 obtain ⟨F',fc,e1,_⟩:=h.free.ofSlice
 obtain ⟨H',hc,e2,_⟩:=h.hands.ofSlice
 obtain ⟨S',sc,e3,_⟩:=h.spans.ofSlice
 obtain ⟨G',gc,e4,_⟩:=h.gone.ofSlice
 exact ⟨F',H',S',G',fc,hc,sc,gc,e1,e2,e3,e4⟩
theorem acc_res : Tryz.f7.results=#[.cell 4 30,.tmp 5]:=by kernel_rfl
set_option maxHeartbeats 8000000 in
set_option maxRecDepth 100000 in
theorem accepts_any (m : ModelD) (x : MarkD) (F H S G : Option Addr) (fc hc sc gc : Nat) (w : World) (hlen : LenM m) (hm : ModelR w m F H S G) (hx : MarkOk x) (hT : Tab w) (hB : TabB w) :
  Calls Tryz.prog 7 #[modelV m F H S G fc hc sc gc,markV x] w (AccP m x w):=by
 obtain ⟨Wa,hWa⟩ : ∃ Wa,Wa=w.alloc (.cells #[.int .i64 m.pages,.slice F m.free.length fc,.slice H m.hands.length hc,.slice S m.spans.length sc,.slice G m.gone.length gc] 30):=⟨_,rfl⟩
 obtain ⟨Wb,hWb⟩ : ∃ Wb,Wb=Wa.alloc (.cells #[.int .i64 x.kind,.int .i64 x.thread,.int .i64 x.entry,.int .i64 x.page,.int .i64 x.n,.int .u64 (x.mask : Int)] 34):=⟨_,rfl⟩
 obtain ⟨W0,hW0⟩ : ∃ W0,W0=Wb.alloc (.cells #[.int .i64 0,.slice none 0 0,.slice none 0 0,.slice none 0 0,.slice none 0 0] 30):=⟨_,rfl⟩
 have ea : Ext w Wa:=hWa▸(Ext.refl w).alloc _
 have eb : Ext Wa Wb:=hWb▸(Ext.refl Wa).alloc _
 have ec : Ext Wb W0:=hW0▸(Ext.refl Wb).alloc _
 have ba : Blk W0 w.heap.size 30 #[.int .i64 m.pages,.slice F m.free.length fc,.slice H m.hands.length hc,.slice S m.spans.length sc,.slice G m.gone.length gc]:=((hWa▸Blk.new _ _ _ _ rfl : Blk Wa w.heap.size _ _).ext eb |>.ext ec)
 have sa : Wa.heap.size=w.heap.size + 1:=by rw [hWa]; exact World.size_alloc _ _
 have sb : Wb.heap.size=w.heap.size + 2:=by rw [hWb,World.size_alloc,sa]
 have s0 : W0.heap.size=w.heap.size + 3:=by rw [hW0,World.size_alloc,sb]
 have bb : Blk W0 (w.heap.size + 1) 34 #[.int .i64 x.kind,.int .i64 x.thread,.int .i64 x.entry,.int .i64 x.page,.int .i64 x.n,.int .u64 (x.mask : Int)]:=sa▸((hWb▸Blk.new _ _ _ _ rfl : Blk Wb Wa.heap.size _ _).ext ec)
 have bc : Blk W0 (w.heap.size + 2) 30 #[.int .i64 0,.slice none 0 0,.slice none 0 0,.slice none 0 0,.slice none 0 0]:=sb▸(hW0▸Blk.new _ _ _ _ rfl : Blk W0 Wb.heap.size _ _)
 have e0 : Ext w W0:=(ea.trans eb).trans ec
 have HMay : Hid (Calls Tryz.prog 14 #[modelV m F H S G fc hc sc gc] W0 fun e w'=>e=.returned (.bool (B (MayS HoldOk m)))∧Ext W0 w'):=Lib.hid (mayM_any m F H S G fc hc sc gc W0 ⟨hlen.free,hlen.hands,hlen.spans⟩ hlen.gone (hm.ext e0) (hT.ext e0))
 have HE : Hid (W0=((w.alloc (.cells #[.int .i64 m.pages,.slice F m.free.length fc,.slice H m.hands.length hc,.slice S m.spans.length sc,.slice G m.gone.length gc] 30)).alloc (.cells #[.int .i64 x.kind,.int .i64 x.thread,.int .i64 x.entry,.int .i64 x.page,.int .i64 x.n,.int .u64 (x.mask : Int)] 34)).alloc (.cells #[.int .i64 0,.slice none 0 0,.slice none 0 0,.slice none 0 0,.slice none 0 0] 30)):=Lib.hid (by rw [hW0,hWb,hWa])
 have HW : Hid (Ext w W0∧Blk W0 (w.heap.size + 1) 34 #[.int .i64 x.kind,.int .i64 x.thread,.int .i64 x.entry,.int .i64 x.page,.int .i64 x.n,.int .u64 (x.mask : Int)]∧Blk W0 (w.heap.size + 2) 30 #[.int .i64 0,.slice none 0 0,.slice none 0 0,.slice none 0 0,.slice none 0 0]∧W0.heap.size=w.heap.size + 3∧Blk W0 w.heap.size 30 #[.int .i64 m.pages,.slice F m.free.length fc,.slice H m.hands.length hc,.slice S m.spans.length sc,.slice G m.gone.length gc]):=Lib.hid ⟨e0,bb,bc,s0,ba⟩
 have HH : Hid (LenM m∧ModelR w m F H S G∧MarkOk x∧Tab w∧TabB w):=Lib.hid ⟨hlen,hm,hx,hT,hB⟩
 obtain ⟨x0,x1,x2,x3,x4⟩:=Blk.c5 ba
 clear hWa hWb hW0 ea eb ec ba sa sb s0 bb bc e0 hlen hm hx hT hB
 by_cases hmay : MayS HoldOk m
 rotate_left
 ·rw [B_no hmay] at HMay
  have HN:=Lib.hid hmay
  clear hmay
  unfold modelV at HMay
  unfold modelV markV
  go_enter Tryz.func7,Tryz.ntmps7
  go_upto_region 1 with fail
  rw [← HE.out]
  go_upto_region 2 with (go_at_call 14; (with_reducible refine HMay.out.mono ?_); rintro e w1 ⟨rfl,hE1⟩; have hb1:=HW.out.2.2.1.ext hE1; obtain ⟨⟨g0,g1,g2,g3,g4⟩,fz0,fz1,fz2,fz3,fz4⟩:=Blk.f5 hb1; have HE1:=Lib.hid (And.intro hE1 hb1); clear hE1 hb1)
  go_wp2
  have hB:=((((HE1.out.2.set 0 (.int .i64 0)).set 1 (.slice none 0 0)).set 2 (.slice none 0 0)).set 3 (.slice none 0 0)).set 4 (.slice none 0 0)
  simp only [List.setIfInBounds_toArray,List.set_cons_succ,List.set_cons_zero] at hB
  have hle : w.heap.size≤w.heap.size + 2:=by omega
  refine bodyPost_ret (results_cell_row2 acc_res _ _ (w.heap.size + 2) 30 _ (0,0) _ rfl hB Tryz.underlying30 rfl own_info) rfl ⟨(((((HW.out.1.trans HE1.out.1).setCell hle _).setCell hle _).setCell hle _).setCell hle _).setCell hle _,noModel,false,none,none,none,none,0,0,0,0,rfl,ownNo _ _,.inl ⟨rfl,rfl,.inl HN.out⟩⟩
 ·rw [B_yes hmay] at HMay
  have HN:=Lib.hid hmay
  clear hmay
  unfold modelV at HMay
  unfold modelV markV
  have HO : Hid (∀ W,Ext W0 W→Calls Tryz.prog 26 #[.agg #[.int .i64 m.pages,.slice F m.free.length fc,.slice H m.hands.length hc,.slice S m.spans.length sc,.slice G m.gone.length gc]] W fun e w'=>∃ F' H' S' G' fc' hc' sc' gc',e=.returned (.agg #[.int .i64 m.pages,.slice F' m.free.length fc',.slice H' m.hands.length hc',.slice S' m.spans.length sc',.slice G' m.gone.length gc'])∧Ext W w'∧OwnM w' W.heap.size m (.slice F' m.free.length fc') (.slice H' m.hands.length hc') (.slice S' m.spans.length sc') (.slice G' m.gone.length gc')):=Lib.hid fun W hE=>own_any m F H S G fc hc sc gc W HH.out.1 (HH.out.2.1.ext (HW.out.1.trans hE))
  go_enter Tryz.func7,Tryz.ntmps7
  go_upto_region 1 with fail
  rw [← HE.out]
  go_upto_region 4 with (first
   |(go_at_call 14; (with_reducible refine HMay.out.mono ?_); rintro e w1 ⟨rfl,hE1⟩; have hb1:=HW.out.2.2.2.2.ext hE1; obtain ⟨y0,y1,y2,y3,y4⟩:=Blk.c5 hb1; have HE1:=Lib.hid hE1; clear hE1 hb1)
   |(go_at_call 26; (with_reducible refine (HO.out _ HE1.out).mono ?_); rintro e w2 ⟨F1,H1,S1,G1,fc1,hc1,sc1,gc1,rfl,hE2,hO2⟩; have HE2:=Lib.hid (And.intro hE2 hO2); clear hE2 hO2))
  obtain ⟨W3,hW3⟩ : ∃ W3,W3=w2.alloc (.cells #[.int .i64 m.pages,.slice F1 m.free.length fc1,.slice H1 m.hands.length hc1,.slice S1 m.spans.length sc1,.slice G1 m.gone.length gc1] 62):=⟨_,rfl⟩
  rw [← hW3]
  have hE3 : Ext w2 W3:=hW3▸(Ext.refl w2).alloc _
  have hblk : Blk W3 w2.heap.size 62 #[.int .i64 m.pages,.slice F1 m.free.length fc1,.slice H1 m.hands.length hc1,.slice S1 m.spans.length sc1,.slice G1 m.gone.length gc1]:=hW3▸Blk.new _ _ _ _ rfl
  have hD3 : DeskR W3 w2.heap.size w1.heap.size m (.slice F1 m.free.length fc1) (.slice H1 m.hands.length hc1) (.slice S1 m.spans.length sc1) (.slice G1 m.gone.length gc1):=⟨hblk,HE2.out.2.ext hE3⟩
  have h13 : Ext w1 W3:=HE2.out.1.trans hE3
  have h03 : Ext W0 W3:=HE1.out.trans h13
  have hw3 : Ext w W3:=HW.out.1.trans h03
  have hb3:=HW.out.2.1.ext h03
  obtain ⟨c0,c1,c2,c3,c4,c5⟩:=Blk.c6 hb3
  have hdo:=does_any m w2.heap.size w1.heap.size (.slice F1 m.free.length fc1) (.slice H1 m.hands.length hc1) (.slice S1 m.spans.length sc1) (.slice G1 m.gone.length gc1) x W3 (deskOk_may HN.out) HH.out.2.2.1 (HH.out.2.2.2.1.ext hw3) (HH.out.2.2.2.2.ext hw3) h13.size hD3
  unfold markV at hdo
  have HD:=Lib.hid hdo
  have HX:=Lib.hid (And.intro h03 (And.intro h13 hw3))
  clear hW3 hE3 hblk hD3 h13 h03 hw3 hb3 hdo x0 x1 x2 x3 x4
  go_upto_region 4 with fail
  go_upto_if 18 with (go_at_call 27; (with_reducible refine HD.out.mono ?_); rintro e w4 hs; have HS:=Lib.hid hs; clear hs; obtain ⟨bb,rfl⟩:=DoesP.bool HS.out)
  obtain ⟨hK,hz,hr⟩:=HS.out
  have h04 : Ext W0 w4:=hK W0 HX.out.1 HE1.out.size (Nat.le_trans HE1.out.size HE2.out.1.size)
  have hw4 : Ext w w4:=HW.out.1.trans h04
  have hb1:=HW.out.2.2.1.ext h04
  have h14 : w1.heap.size≤w4.heap.size:=Nat.le_trans HX.out.2.1.size hz
  have hs0:=HW.out.2.2.2.1
  have h01:=HE1.out.size
  have hle : w.heap.size≤w.heap.size + 2:=by omega
  have hlt : w.heap.size + 2 < w1.heap.size:=by omega
  obtain ⟨⟨g0,g1,g2,g3,g4⟩,fz0,fz1,fz2,fz3,fz4⟩:=Blk.f5 hb1
  rcases hr with ⟨e,hn,_⟩ | ⟨e,m',F',H',S',G',hR,hD4⟩
  ·obtain rfl : bb=false:=by injection e with e; injection e
   have HQ:=Lib.hid (And.intro hw4 (And.intro hb1 hn))
   clear hK hz h04 hw4 hb1 h14 hs0 h01 hn e c0 c1 c2 c3 c4 c5
   go_wp2
   have hB:=((((HQ.out.2.1.set 0 (.int .i64 0)).set 1 (.slice none 0 0)).set 2 (.slice none 0 0)).set 3 (.slice none 0 0)).set 4 (.slice none 0 0)
   simp only [List.setIfInBounds_toArray,List.set_cons_succ,List.set_cons_zero] at hB
   refine bodyPost_ret (results_cell_row2 acc_res _ _ (w.heap.size + 2) 30 _ (0,0) _ rfl hB Tryz.underlying30 rfl own_info) rfl ⟨(((((HQ.out.1).setCell hle _).setCell hle _).setCell hle _).setCell hle _).setCell hle _,noModel,false,none,none,none,none,0,0,0,0,rfl,ownNo _ _,.inl ⟨rfl,rfl,.inr HQ.out.2.2⟩⟩
  ·obtain rfl : bb=true:=by injection e with e; injection e
   obtain ⟨F2,H2,S2,G2,fc2,hc2,sc2,gc2,rfl,rfl,rfl,rfl⟩:=hD4.own.slices
   obtain ⟨d0,d1,d2,d3,d4⟩:=Blk.c5 hD4.blk
   have HQ:=Lib.hid (And.intro hw4 (And.intro hb1 (And.intro hR hD4.own)))
   clear hK hz h04 hw4 hb1 h14 hs0 h01 hR hD4 e c0 c1 c2 c3 c4 c5
   go_wp2
   have hB:=((((HQ.out.2.1.set 0 (.int .i64 m'.pages)).set 1 (.slice F2 m'.free.length fc2)).set 2 (.slice H2 m'.hands.length hc2)).set 3 (.slice S2 m'.spans.length sc2)).set 4 (.slice G2 m'.gone.length gc2)
   simp only [List.setIfInBounds_toArray,List.set_cons_succ,List.set_cons_zero] at hB
   refine bodyPost_ret (results_cell_row2 acc_res _ _ (w.heap.size + 2) 30 _ (0,0) _ rfl hB Tryz.underlying30 rfl own_info) rfl ⟨(((((HQ.out.1).setCell hle _).setCell hle _).setCell hle _).setCell hle _).setCell hle _,m',true,F2,H2,S2,G2,fc2,hc2,sc2,gc2,rfl,(((((HQ.out.2.2.2.far hlt _).far hlt _).far hlt _).far hlt _).far hlt _).mono (by omega),.inr ⟨rfl,HN.out,HQ.out.2.2.1⟩⟩
end Go.Proofs.YtoolenhnhlfhmaaGreatDoor
