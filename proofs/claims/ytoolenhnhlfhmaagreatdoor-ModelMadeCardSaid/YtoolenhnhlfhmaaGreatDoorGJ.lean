/- The desk: a part is put anew; lists that are cut and filled. Walks: the desk's gives. -/
import Derived.Test.YtoolenhnhlfhmaaGreatDoorMdX3
namespace Go.Proofs.YtoolenhnhlfhmaaGreatDoor
open Go.RowKit Go.Sort
set_option linter.unusedVariables false
set_option linter.unusedSimpArgs false
/-- The i-th up to the j-th are taken away, others put there. -/
def cutIn {α : Type} (l : List α) (i j : Nat) (vs : List α) : List α:=l.take i ++ (vs ++ l.drop j)
theorem cutIn_length {α : Type} {l : List α} {i j : Nat} {vs : List α} (hi : i≤l.length) : (cutIn l i j vs).length=i + vs.length + (l.length - j):=by
 simp [cutIn]; omega
theorem cutIn_lo {α : Type} {d : α} {l : List α} {i j : Nat} {vs : List α} (hi : i≤l.length) {k : Nat} (hk : k < i) : ix d (cutIn l i j vs) k=ix d l k:=by
 unfold cutIn ix
 rw [List.getD_eq_getElem?_getD,List.getD_eq_getElem?_getD,List.getElem?_append_left (by simp; omega),List.getElem?_take,if_pos hk]
theorem cutIn_mid {α : Type} {d : α} {l : List α} {i j : Nat} {vs : List α} (hi : i≤l.length) {k : Nat} (hk : k < vs.length) : ix d (cutIn l i j vs) (i + k)=ix d vs k:=by
 unfold cutIn ix
 have e : (l.take i).length=i:=by simp; omega
 rw [List.getD_eq_getElem?_getD,List.getD_eq_getElem?_getD,List.getElem?_append_right (by omega),e,Nat.add_sub_cancel_left,List.getElem?_append_left hk]
theorem cutIn_hi {α : Type} {d : α} {l : List α} {i j : Nat} {vs : List α} (hi : i≤l.length) {k : Nat} : ix d (cutIn l i j vs) (i + vs.length + k)=ix d l (j + k):=by
 unfold cutIn ix
 have e : (l.take i).length=i:=by simp; omega
 rw [List.getD_eq_getElem?_getD,List.getD_eq_getElem?_getD,List.getElem?_append_right (by omega),e,List.getElem?_append_right (by omega),List.getElem?_drop]
 congr 2
 omega
/-- The cells of a row, out of the cells of each. -/
def rowV {α : Type} (C : α→Nat→Value) (d : α) (sz : Nat) (l : List α) (k : Nat) : Value:=C (ix d l (k / sz)) (k % sz)
section
variable {α : Type} {C : α→Nat→Value} {d : α} {sz : Nat} {l vs : List α} {i j : Nat}
theorem rowV_lo (hi : i≤l.length) (k : Nat) (hk : k < i * sz) : rowV C d sz (cutIn l i j vs) k=rowV C d sz l k:=by
 unfold rowV
 rw [cutIn_lo hi (Nat.div_lt_of_lt_mul (by rw [Nat.mul_comm]; exact hk))]
theorem rowV_mid (hs : 0 < sz) (hi : i≤l.length) (k : Nat) (hk : k < vs.length * sz) : rowV C d sz (cutIn l i j vs) (i * sz + k)=rowV C d sz vs k:=by
 unfold rowV
 rw [Nat.add_comm (i * sz) k,Nat.add_mul_div_right _ _ hs,Nat.add_mul_mod_self_right,Nat.add_comm (k / sz) i,cutIn_mid hi (Nat.div_lt_of_lt_mul (by rw [Nat.mul_comm]; exact hk))]
theorem rowV_hi (hs : 0 < sz) (hi : i≤l.length) (k : Nat) : rowV C d sz (cutIn l i j vs) ((i + vs.length) * sz + k)=rowV C d sz l (j * sz + k):=by
 unfold rowV
 rw [Nat.add_comm _ k,Nat.add_mul_div_right _ _ hs,Nat.add_mul_mod_self_right,Nat.add_comm (j * sz) k,Nat.add_mul_div_right _ _ hs,Nat.add_mul_mod_self_right,Nat.add_comm (k / sz) (i + vs.length),cutIn_hi hi,Nat.add_comm j]
end
def runX (x : RunD) (k : Nat) : Value:=if k=0 then .int .i64 x.at_ else .int .i64 x.n
def handX (x : HandD) (k : Nat) : Value:=if k=0 then .int .i64 x.t else if k=1 then .int .i64 x.at_ else .int .i64 x.n
theorem runV_row (l : List RunD) : runV l=rowV runX noRun 2 l:=rfl
theorem handV_row (l : List HandD) : handV l=rowV handX noHand 3 l:=rfl
theorem holdsV_row (l : List HoldD) : holdsV l=rowV holdC noHold 8 l:=rfl
/-- What was there ahead of both, d's block and all rows from base on, is as it was. -/
def KeepD (base d : Nat) (w w' : World) : Prop:=∀ W0,Ext W0 w→W0.heap.size≤base→W0.heap.size≤d→Ext W0 w'
theorem KeepD.refl (base d : Nat) (w : World) : KeepD base d w w:=fun _ h _ _=>h
theorem KeepD.trans {base d : Nat} {a b c : World} (h : KeepD base d a b) (k : KeepD base d b c) : KeepD base d a c:=fun W0 h0 h1 h2=>k W0 (h W0 h0 h1 h2) h1 h2
theorem KeepD.ext {base d : Nat} {a b : World} (h : Ext a b) : KeepD base d a b:=fun W0 h0 _ _=>h0.trans h
theorem KeepD.set {base d : Nat} {a : World} (i : Nat) (u : Value) : KeepD base d a (a.setCell ⟨d,i,none⟩ u):=fun W0 h0 _ h2=>h0.setCell h2 u
theorem KeepD.grown {base d : Nat} {a b : World} {e : TypeId} {sz n : Nat} {v : Value} {F : Nat→Value} (hO : OwnS a base e sz v n F) (hg : a.grownBy b v.ownBlock) : KeepD base d a b :=
 fun W0 h0 h1 _=>Below.grown h0 hg h0.size (fun k hk=>Nat.le_trans h1 (World.ownsRow.lt hO k hk).1)
theorem own_ne_blk {w : World} {base : Nat} {e t : TypeId} {sz n d : Nat} {v : Value} {F : Nat→Value} {cs : Array Value} (hO : OwnS w base e sz v n F) (hb : Blk w d t cs) (he : t≠e) : v.ownBlock≠some d:=by
 intro h
 rcases hO.2 with ⟨rfl,rfl⟩ | ⟨g,cap,cur,rfl,hg,hh,r⟩
 ·cases h
 ·simp only [Value.ownBlock,Option.some.injEq] at h
  subst h
  unfold Blk at hb
  rw [hb] at hh
  simp at hh
  exact he hh.2
theorem OwnS.keepG {w w' : World} {base b2 : Nat} {e e2 : TypeId} {sz s2 n n2 : Nat} {v v2 : Value} {F F2 : Nat→Value} (h : OwnS w base e sz v n F) (h2 : OwnS w b2 e2 s2 v2 n2 F2) (hg : w.grownBy w' v2.ownBlock) (he : e≠e2) : OwnS w' base e sz v n F:=h.grown hg (own_types h h2 he)
theorem OwnS.ofSlice {w : World} {base : Nat} {e : TypeId} {sz n : Nat} {v : Value} {F : Nat→Value} (h : OwnS w base e sz v n F) : ∃ A c,v=.slice A n c∧n≤c:=by
 obtain ⟨A,c,h1,h2,_⟩:=h.form
 exact ⟨A,c,h1,h2⟩
section
variable {w w2 : World} {d base : Nat} {m : ModelD} {F H S G v' : Value}
theorem DeskR.nes (h : DeskR w d base m F H S G) : F.ownBlock≠some d∧H.ownBlock≠some d∧S.ownBlock≠some d∧G.ownBlock≠some d :=
 ⟨own_ne_blk h.own.free h.blk (by decide),own_ne_blk h.own.hands h.blk (by decide),own_ne_blk h.own.spans h.blk (by decide),own_ne_blk h.own.gone h.blk (by decide)⟩
theorem DeskR.setFree (h : DeskR w d base m F H S G) (hg : w.grownBy w2 F.ownBlock) (l : List RunD) (hO : OwnS w2 base 54 2 v' l.length (runV l)) : DeskR (w2.setCell ⟨d,1,none⟩ v') d base { m with free:=l } v' H S G:=by
 obtain ⟨n1,n2,n3,n4⟩:=h.nes
 have hb:=h.blk.grown hg (Ne.symm n1)
 have hb2:=hb.set 1 v'
 simp only [List.setIfInBounds_toArray,List.set_cons_succ,List.set_cons_zero] at hb2
 exact ⟨hb2,hO.setOther (own_ne_blk hO hb (by decide)) _,(h.own.hands.keepG h.own.free hg (by decide)).setOther n2 _,(h.own.spans.keepG h.own.free hg (by decide)).setOther n3 _,(h.own.gone.keepG h.own.free hg (by decide)).setOther n4 _⟩
theorem DeskR.setHands (h : DeskR w d base m F H S G) (hg : w.grownBy w2 H.ownBlock) (l : List HandD) (hO : OwnS w2 base 56 3 v' l.length (handV l)) : DeskR (w2.setCell ⟨d,2,none⟩ v') d base { m with hands:=l } F v' S G:=by
 obtain ⟨n1,n2,n3,n4⟩:=h.nes
 have hb:=h.blk.grown hg (Ne.symm n2)
 have hb2:=hb.set 2 v'
 simp only [List.setIfInBounds_toArray,List.set_cons_succ,List.set_cons_zero] at hb2
 exact ⟨hb2,(h.own.free.keepG h.own.hands hg (by decide)).setOther n1 _,hO.setOther (own_ne_blk hO hb (by decide)) _,(h.own.spans.keepG h.own.hands hg (by decide)).setOther n3 _,(h.own.gone.keepG h.own.hands hg (by decide)).setOther n4 _⟩
theorem DeskR.setSpans (h : DeskR w d base m F H S G) (hg : w.grownBy w2 S.ownBlock) (l : List HoldD) (hO : OwnS w2 base 51 8 v' l.length (holdsV l)) : DeskR (w2.setCell ⟨d,3,none⟩ v') d base { m with spans:=l } F H v' G:=by
 obtain ⟨n1,n2,n3,n4⟩:=h.nes
 have hb:=h.blk.grown hg (Ne.symm n3)
 have hb2:=hb.set 3 v'
 simp only [List.setIfInBounds_toArray,List.set_cons_succ,List.set_cons_zero] at hb2
 exact ⟨hb2,(h.own.free.keepG h.own.spans hg (by decide)).setOther n1 _,(h.own.hands.keepG h.own.spans hg (by decide)).setOther n2 _,hO.setOther (own_ne_blk hO hb (by decide)) _,(h.own.gone.keepG h.own.spans hg (by decide)).setOther n4 _⟩
theorem DeskR.setGone (h : DeskR w d base m F H S G) (hg : w.grownBy w2 G.ownBlock) (l : List Int) (hO : OwnS w2 base 3 1 v' l.length (fun j=>.int .i64 (ix 0 l j))) : DeskR (w2.setCell ⟨d,4,none⟩ v') d base { m with gone:=l } F H S v':=by
 obtain ⟨n1,n2,n3,n4⟩:=h.nes
 have hb:=h.blk.grown hg (Ne.symm n4)
 have hb2:=hb.set 4 v'
 simp only [List.setIfInBounds_toArray,List.set_cons_succ,List.set_cons_zero] at hb2
 exact ⟨hb2,(h.own.free.keepG h.own.gone hg (by decide)).setOther n1 _,(h.own.hands.keepG h.own.gone hg (by decide)).setOther n2 _,(h.own.spans.keepG h.own.gone hg (by decide)).setOther n3 _,hO.setOther (own_ne_blk hO hb (by decide)) _⟩
end
/-- slices.Insert, of one. -/
theorem insHand1 (base c i vb vc : Nat) (A : Option Addr) (l : List HandD) (x : HandD) (w : World) (hi : i≤l.length) (hbig : l.length≤1000000) (hbase : base≤w.heap.size) (hvb : some vb≠A.map (·.block))
  (hO : OwnS w base 56 3 (.slice A l.length c) l.length (handV l)) (hv : RowW w vb 56 [.int .i64 x.t,.int .i64 x.at_,.int .i64 x.n]) :
  Calls Tryz.prog 125 #[.slice A l.length c,.int .i64 i,.slice (some ⟨vb,0,none⟩) 1 vc] w fun e w' =>
   ∃ A' c',e=.returned (.slice A' (cutIn l i i [x]).length c')∧OwnS w' base 56 3 (.slice A' (cutIn l i i [x]).length c') (cutIn l i i [x]).length (handV (cutIn l i i [x]))∧w.grownBy w' (A.map (·.block)):=by
 have e : (cutIn l i i [x]).length=l.length + 1:=by rw [cutIn_length hi]; simp; omega
 rw [e]
 refine insHand_any base l.length c i vb 1 vc A (handV l) (handV [x]) _ _ _ w hi (by omega) (by omega) hbase hvb hO hv (fun j hj=>?_) (fun j _=>handV_one _ _) (fun j _=>handV_one _ _) (fun j hj=>rowV_lo (C:=handX) (d:=noHand) (sz:=3) hi j hj) (fun j hj=>rowV_mid (C:=handX) (d:=noHand) (sz:=3) (by omega) hi j (by simpa using hj)) (fun j hj=>rowV_hi (C:=handX) (d:=noHand) (sz:=3) (vs:=[x]) (by omega) hi j)
 have hj' : j=0∨j=1∨j=2:=by omega
 rcases hj' with rfl | rfl | rfl <;> rfl
theorem insHold1 (base c i vb vc : Nat) (A : Option Addr) (l : List HoldD) (x : HoldD) (w : World) (hi : i≤l.length) (hbig : l.length≤1000000) (hbase : base≤w.heap.size) (hvb : some vb≠A.map (·.block))
  (hO : OwnS w base 51 8 (.slice A l.length c) l.length (holdsV l)) (hv : RowW w vb 51 [.int .i64 x.page,.int .i64 x.pages,.int .i64 x.cls,.int .i64 x.holder,.int .i64 x.claim,.bool x.swept,.int .u64 (x.alloc : Int),.int .u64 (x.marks : Int)]) :
  Calls Tryz.prog 99 #[.slice A l.length c,.int .i64 i,.slice (some ⟨vb,0,none⟩) 1 vc] w fun e w' =>
   ∃ A' c',e=.returned (.slice A' (cutIn l i i [x]).length c')∧OwnS w' base 51 8 (.slice A' (cutIn l i i [x]).length c') (cutIn l i i [x]).length (holdsV (cutIn l i i [x]))∧w.grownBy w' (A.map (·.block)):=by
 have e : (cutIn l i i [x]).length=l.length + 1:=by rw [cutIn_length hi]; simp; omega
 rw [e]
 refine insHold_any base l.length c i vb 1 vc A (holdsV l) (holdsV [x]) _ _ _ w hi (by omega) (by omega) hbase hvb hO hv (fun j hj=>?_) (fun j _=>holdsV_one _ _) (fun j _=>holdsV_one _ _) (fun j hj=>rowV_lo (C:=holdC) (d:=noHold) (sz:=8) hi j hj) (fun j hj=>rowV_mid (C:=holdC) (d:=noHold) (sz:=8) (by omega) hi j (by simpa using hj)) (fun j hj=>rowV_hi (C:=holdC) (d:=noHold) (sz:=8) (vs:=[x]) (by omega) hi j)
 have hj' : j=0∨j=1∨j=2∨j=3∨j=4∨j=5∨j=6∨j=7:=by omega
 rcases hj' with rfl | rfl | rfl | rfl | rfl | rfl | rfl | rfl <;> rfl
/-- slices.Delete, of one. -/
theorem delHand1 (base c i : Nat) (A : Option Addr) (l : List HandD) (w : World) (hi : i < l.length)
  (hO : OwnS w base 56 3 (.slice A l.length c) l.length (handV l)) :
  Calls Tryz.prog 95 #[.slice A l.length c,.int .i64 i,.int .i64 ((i : Int) + 1)] w fun e w' =>
   e=.returned (.slice A (cutIn l i (i + 1) []).length c)∧OwnS w' base 56 3 (.slice A (cutIn l i (i + 1) []).length c) (cutIn l i (i + 1) []).length (handV (cutIn l i (i + 1) []))∧w.grownBy w' (A.map (·.block)):=by
 have e : (cutIn l i (i + 1) []).length=i + (l.length - (i + 1)):=by rw [cutIn_length (by omega)]; simp
 rw [e,show ((i : Int) + 1)=((i + 1 : Nat) : Int) by omega]
 exact deleteHand_any base l.length c i (i + 1) A (handV l) _ w (by omega) (by omega) hO (fun j _=>handV_one _ _) (fun j hj=>rowV_lo (C:=handX) (d:=noHand) (sz:=3) (by omega) j hj) (fun j hj=>rowV_hi (C:=handX) (d:=noHand) (sz:=3) (vs:=[]) (by omega) (by omega) j)
/-- slices.Replace, of runs. -/
theorem repRunL (base c i j vc : Nat) (A B : Option Addr) (l vs : List RunD) (w : World) (hij : i≤j) (hj : j≤l.length) (hm : i=j→0 < vs.length) (hbig : l.length + vs.length≤1000000) (hbase : base≤w.heap.size)
  (hO : OwnS w base 54 2 (.slice A l.length c) l.length (runV l)) (hv : VarR w A B vs.length vc 2 (runV vs)) :
  Calls Tryz.prog 83 #[.slice A l.length c,.int .i64 i,.int .i64 j,.slice B vs.length vc] w fun e w' =>
   ∃ A' c',e=.returned (.slice A' (cutIn l i j vs).length c')∧OwnS w' base 54 2 (.slice A' (cutIn l i j vs).length c') (cutIn l i j vs).length (runV (cutIn l i j vs))∧w.grownBy w' (A.map (·.block)):=by
 have e : (cutIn l i j vs).length=i + vs.length + (l.length - j):=cutIn_length (by omega)
 rw [e]
 exact repRun_any base l.length c i j vs.length vc A B (runV l) (runV vs) _ w hij hj hm hbig hbase hO hv (fun j _=>runV_one _ _) (fun j _=>runV_one _ _) (fun j hj=>rowV_lo (C:=runX) (d:=noRun) (sz:=2) (by omega) j hj) (fun j hj=>rowV_mid (C:=runX) (d:=noRun) (sz:=2) (by omega) (by omega) j hj) (fun k hk=>rowV_hi (C:=runX) (d:=noRun) (sz:=2) (by omega) (by omega) k)
/-- Where a hand is put. -/
def PlaceH (l : List HandD) (i : Nat) (p : Int) : Prop:=i≤l.length∧(∀ k,k < i→handK (ix noHand l k) < p)∧∀ k,i≤k→k < l.length→p≤handK (ix noHand l k)
def GivesP (m : ModelD) (d base : Nat) (F S G : Value) (t p n : Int) (w : World) (e : Ending) (w' : World) : Prop :=
 e=.returned (.tuple #[])∧(∃ i H',PlaceH m.hands i p∧DeskR w' d base { m with hands:=cutIn m.hands i i [⟨t,p,n⟩] } F H' S G)∧KeepD base d w w'∧w.heap.size≤w'.heap.size
set_option maxHeartbeats 2000000 in
set_option maxRecDepth 100000 in
theorem gives_any (m : ModelD) (d base : Nat) (F H S G : Value) (t p n : Int) (w : World) (hl : m.hands.length≤900000) (hs : Rises noHand m.hands handK) (hbase : base≤w.heap.size) (hD : DeskR w d base m F H S G) :
  Calls Tryz.prog 84 #[.pointer (some ⟨d,0,none⟩),.int .i64 t,.int .i64 p,.int .i64 n] w (GivesP m d base F S G t p n w):=by
 obtain ⟨A,c,rfl,hnc⟩:=hD.own.hands.ofSlice
 have c2:=hD.blk.cell (i:=2) (v:=.slice A m.hands.length c) rfl
 have hsl:=own_sl' hD.own.hands
 have hdlt:=hD.blk.lt
 have hsearch : ∀ w1,Ext w w1→Calls Tryz.prog 123 #[.slice A m.hands.length c,.int .i64 p,.func (.func 124) #[] #[]] w1 fun e w'=>∃ (i : Nat) (b : Bool),e=.returned (.tuple #[.int .i64 (i : Int),.bool b])∧Hid (PlaceH m.hands i p∧Ext w1 w'):=fun w1 hE =>
  (searchH_any A m.hands c p w1 (by omega) (hsl.ext hE) hs).mono fun e w' ⟨i,hi,he,hlo,hhi,hE'⟩=>⟨i,_,he,Lib.hid ⟨⟨hi,hlo,hhi⟩,hE'⟩⟩
 have hins : ∀ w1 i,Ext w w1→PlaceH m.hands i p→Calls Tryz.prog 125 #[.slice A m.hands.length c,.int .i64 (i : Int),.slice (some ⟨w1.heap.size,0,none⟩) 1 1] (w1.alloc (.cells #[.int .i64 t,.int .i64 p,.int .i64 n] 56)) fun e w'=>∃ A' N c' v,e=.returned (.slice A' N c')∧w'.cell? ⟨d,2,none⟩=some v∧w'.frozen? ⟨d,2,none⟩=false∧Hid (GivesP m d base F S G t p n w (.returned (.tuple #[])) (w'.setCell ⟨d,2,none⟩ (.slice A' N c'))):=fun w1 i hE hi=>by
  have hE2 : Ext w (w1.alloc (.cells #[.int .i64 t,.int .i64 p,.int .i64 n] 56)):=hE.alloc _
  have hD2:=hD.ext hE2
  refine (insHand1 base c i w1.heap.size 1 A m.hands ⟨t,p,n⟩ _ hi.1 (by omega) (Nat.le_trans hbase hE2.size) (fun h=>?_) hD2.own.hands (Blk.new w1 _ _ _ rfl)).mono fun e w' ⟨A',c',he,hO,hg⟩=>?_
  ·have h1:=(World.ownsRow.lt hD.own.hands w1.heap.size (by rw [own_blk]; exact h.symm)).2
   have h2:=hE.size
   omega
  ·have hg' : (w1.alloc (.cells #[.int .i64 t,.int .i64 p,.int .i64 n] 56)).grownBy w' (Value.slice A m.hands.length c).ownBlock:=by rw [own_blk]; exact hg
   have hb:=hD2.blk.grown hg' (Ne.symm hD2.nes.2.1)
   exact ⟨A',_,c',_,he,hb.cell (i:=2) rfl,hb.frozen 2,Lib.hid ⟨rfl,⟨i,_,hi,hD2.setHands hg' _ hO⟩,((KeepD.ext hE2).trans (KeepD.grown hD2.own.hands hg')).trans (KeepD.set _ _),by simpa using Nat.le_trans hE2.size hg.size⟩⟩
 have HS:=Lib.hid hsearch
 have HI:=Lib.hid hins
 have HE:=Lib.hid (Ext.refl w)
 clear hsearch hins hs hsl hD
 go_enter Tryz.func84,Tryz.ntmps84
 go_wp2_with (first
  |(go_at_call 123; (with_reducible refine (HS.out _ HE.out).mono ?_); rintro e w1 ⟨i,b,rfl,HR⟩; have c3:=HR.out.2.cell c2)
  |(go_at_call 125; (with_reducible refine (HI.out _ _ HR.out.2 HR.out.1).mono ?_); rintro e w2 ⟨A',N,c',v,rfl,d2,z2,HF⟩))
 go_end0
 exact HF.out
end Go.Proofs.YtoolenhnhlfhmaaGreatDoor
