/- The law's models by numbers, in plain words: piece by piece. A model's own rows grow by one, in a model's block. -/
import Derived.Test.YtoolenhnhlfhmaaGreatDoorGQ
namespace Go.Proofs.YtoolenhnhlfhmaaGreatDoor
open Go.RowKit Go.Sort
set_option linter.unusedVariables false
set_option linter.unusedSimpArgs false
/-- A model under way. -/
structure MadeI (m : ModelD) (last : Int) : Prop where
 pages : 0≤m.pages
 laid : Laid2 m.pages (pcs m)
 free : m.free.Pairwise fun a b=>a.at_ + a.n < b.at_
 freeE : last≠1→∀ r,r ∈ m.free→r.at_ + r.n < m.pages
 handT : ∀ x,x ∈ m.hands→ThreadP x.t
 hand : m.hands.Pairwise fun a b=>a.at_ < b.at_
 spanO : ∀ x,x ∈ m.spans→HoldOk x
 span : m.spans.Pairwise fun a b=>a.page < b.page
 goneP : ∀ p,p ∈ m.gone→0≤p∧p < m.pages
 gone : m.gone.Pairwise fun a b=>a < b
 apart : ∀ p,p ∈ m.gone→∀ x,x ∈ m.spans→¬ InP (fS x) p
 marks : MarksOk m
theorem cntL_zero {p : Int} : ∀ {l : List (Int × Int)},(∀ x,x ∈ l→¬ InP x p)→cntL l p=0
 | [],_=>rfl
 | x :: l,h=>by rw [cntL_cons,one_out (h x (List.mem_cons_self ..)),cntL_zero fun y hy=>h y (List.mem_cons_of_mem _ hy)]
theorem fit_more {P n : Int} {x : Int × Int} (h : FitP P x) (hn : 1≤n) : FitP (P + n) x:=by
 obtain ⟨a,b,c,d⟩:=h
 exact ⟨a,b,by omega,by omega⟩
section
variable {m : ModelD} {last n : Int}
theorem MadeI.fitF (h : MadeI m last) {r : RunD} (hr : r ∈ m.free) : FitP m.pages (fR r):=h.laid.1 _ (by rw [pcs_eq]; exact List.mem_append_left _ (List.mem_map_of_mem hr))
theorem MadeI.fitH (h : MadeI m last) {r : HandD} (hr : r ∈ m.hands) : FitP m.pages (fH r):=h.laid.1 _ (by rw [pcs_eq]; exact List.mem_append_right _ (List.mem_append_left _ (List.mem_map_of_mem hr)))
theorem MadeI.fitS (h : MadeI m last) {r : HoldD} (hr : r ∈ m.spans) : FitP m.pages (fS r):=h.laid.1 _ (by rw [pcs_eq]; exact List.mem_append_right _ (List.mem_append_right _ (List.mem_map_of_mem hr)))
/-- A piece more, behind all. -/
theorem MadeI.count (h : MadeI m last) (hn : 1≤n) (p : Int) (h0 : 0≤p) (hP : p < m.pages + n) : cntL (m.free.map fR) p + (cntL (m.hands.map fH) p + cntL (m.spans.map fS) p) + one (m.pages,n) p=1:=by
 rw [← cnt_pcs]
 by_cases hp : p < m.pages
 ·rw [h.laid.2 p h0 hp,one_out (fun k=>by have:=k.1; dsimp only at this; omega)]
 ·rw [cntL_zero (fun x hx k=>hp ((h.laid.1 x hx).lt k).2),one_in ⟨by dsimp only; omega,by dsimp only; omega⟩]
theorem pw_snoc {α : Type} {R : α→α→Prop} {l : List α} {x : α} (h : l.Pairwise R) (hx : ∀ a,a ∈ l→R a x) : (l ++ [x]).Pairwise R:=by
 rw [List.pairwise_append]
 exact ⟨h,List.pairwise_singleton _ _,fun a ha b hb=>by rw [List.mem_singleton] at hb; subst hb; exact hx a ha⟩
theorem MadeI.addFree (h : MadeI m last) (hl : last≠1) (hn : 1≤n) : MadeI { m with free:=m.free ++ [⟨m.pages,n⟩],pages:=m.pages + n } 1:=by
 have hp:=h.pages
 refine ⟨by show 0≤m.pages + n; omega,laid_of ?_ (fun r hr=>fit_more (h.fitH hr) hn) (fun r hr=>fit_more (h.fitS hr) hn) ?_,pw_snoc h.free (fun a ha=>h.freeE hl a ha),fun k=>absurd rfl k,h.handT,h.hand,h.spanO,h.span,fun p hp2=>by have:=h.goneP p hp2; exact ⟨this.1,by show p < m.pages + n; omega⟩,h.gone,h.apart,h.marks⟩
 ·intro r hr
  rw [List.mem_append,List.mem_singleton] at hr
  rcases hr with hr | rfl
  ·exact fit_more (h.fitF hr) hn
  ·exact ⟨by show 0≤m.pages; omega,hn,by show m.pages < m.pages + n; omega,by show n≤m.pages + n - m.pages; omega⟩
 ·intro p h0 hP
  have:=h.count hn p h0 hP
  rw [List.map_append,cntL_app,List.map_cons,List.map_nil,cntL_cons,cntL_nil]
  have e : fR ⟨m.pages,n⟩=(m.pages,n):=rfl
  rw [e]
  show cntL (m.free.map fR) p + (one (m.pages,n) p + 0) + (cntL (m.hands.map fH) p + cntL (m.spans.map fS) p)=1
  omega
theorem MadeI.addHand (h : MadeI m last) {t : Int} (ht : ThreadP t) (hn : 1≤n) : MadeI { m with hands:=m.hands ++ [⟨t,m.pages,n⟩],pages:=m.pages + n } 2:=by
 have hp:=h.pages
 refine ⟨by show 0≤m.pages + n; omega,laid_of (fun r hr=>fit_more (h.fitF hr) hn) ?_ (fun r hr=>fit_more (h.fitS hr) hn) ?_,h.free,fun _ r hr=>?_,?_,pw_snoc h.hand (fun a ha=>(h.fitH ha).2.2.1),h.spanO,h.span,fun p hp2=>by have:=h.goneP p hp2; exact ⟨this.1,by show p < m.pages + n; omega⟩,h.gone,h.apart,h.marks⟩
 ·intro r hr
  rw [List.mem_append,List.mem_singleton] at hr
  rcases hr with hr | rfl
  ·exact fit_more (h.fitH hr) hn
  ·exact ⟨by show 0≤m.pages; omega,hn,by show m.pages < m.pages + n; omega,by show n≤m.pages + n - m.pages; omega⟩
 ·intro p h0 hP
  have:=h.count hn p h0 hP
  rw [List.map_append,cntL_app,List.map_cons,List.map_nil,cntL_cons,cntL_nil]
  have e : fH ⟨t,m.pages,n⟩=(m.pages,n):=rfl
  rw [e]
  show cntL (m.free.map fR) p + ((cntL (m.hands.map fH) p + (one (m.pages,n) p + 0)) + cntL (m.spans.map fS) p)=1
  omega
 ·obtain ⟨a,b,c,d⟩:=h.fitF hr
  unfold fR at a b c d
  dsimp only at a b c d
  show r.at_ + r.n < m.pages + n
  omega
 ·intro x hx
  rw [List.mem_append,List.mem_singleton] at hx
  rcases hx with hx | rfl
  ·exact h.handT x hx
  ·exact ht
theorem MadeI.addSpan (h : MadeI m last) {s : HoldD} (hs : HoldOk s) (hm : s.marks < 18446744073709551616) (hp1 : s.page=m.pages) (hp2 : s.pages=n) (hn : 1≤n) : MadeI { m with spans:=m.spans ++ [s],pages:=m.pages + n } 3:=by
 have hp:=h.pages
 have es : fS s=(m.pages,n):=by unfold fS; rw [hp1,hp2]
 have hmem : ∀ x,x ∈ m.spans ++ [s]→x ∈ m.spans∨x=s:=fun x hx=>by rw [List.mem_append,List.mem_singleton] at hx; exact hx
 refine ⟨by show 0≤m.pages + n; omega,laid_of (fun r hr=>fit_more (h.fitF hr) hn) (fun r hr=>fit_more (h.fitH hr) hn) ?_ ?_,h.free,fun _ r hr=>?_,h.handT,h.hand,?_,pw_snoc h.span (fun a ha=>by rw [hp1]; exact (h.fitS ha).2.2.1),fun p hp2=>by have:=h.goneP p hp2; exact ⟨this.1,by show p < m.pages + n; omega⟩,h.gone,?_,?_⟩
 ·intro r hr
  rcases hmem r hr with hr | rfl
  ·exact fit_more (h.fitS hr) hn
  ·rw [es]
   exact ⟨by show 0≤m.pages; omega,hn,by show m.pages < m.pages + n; omega,by show n≤m.pages + n - m.pages; omega⟩
 ·intro p h0 hP
  have:=h.count hn p h0 hP
  rw [List.map_append,cntL_app,List.map_cons,List.map_nil,cntL_cons,cntL_nil,es]
  show cntL (m.free.map fR) p + (cntL (m.hands.map fH) p + (cntL (m.spans.map fS) p + (one (m.pages,n) p + 0)))=1
  omega
 ·obtain ⟨a,b,c,d⟩:=h.fitF hr
  unfold fR at a b c d
  dsimp only at a b c d
  show r.at_ + r.n < m.pages + n
  omega
 ·intro x hx
  rcases hmem x hx with hx | rfl
  ·exact h.spanO x hx
  ·exact hs
 ·intro p hp3 x hx
  rcases hmem x hx with hx | rfl
  ·exact h.apart p hp3 x hx
  ·rw [es]
   intro k
   have:=(h.goneP p hp3).2
   have:=k.1
   dsimp only at this
   omega
 ·intro x hx
  rcases hmem x hx with hx | rfl
  ·exact h.marks x hx
  ·exact hm
theorem MadeI.addGone (h : MadeI m last) (hl : last≠1) (hn : 1≤n) : MadeI { m with free:=m.free ++ [⟨m.pages,n⟩],gone:=m.gone ++ [m.pages],pages:=m.pages + n } 1:=by
 have h2:=h.addFree (n:=n) hl hn
 have hp:=h.pages
 refine ⟨h2.pages,h2.laid,h2.free,h2.freeE,h2.handT,h2.hand,h2.spanO,h2.span,?_,pw_snoc h.gone (fun a ha=>(h.goneP a ha).2),?_,h2.marks⟩
 ·intro p hp2
  rw [List.mem_append,List.mem_singleton] at hp2
  rcases hp2 with hp2 | rfl
  ·exact h2.goneP p hp2
  ·exact ⟨hp,by show m.pages < m.pages + n; omega⟩
 ·intro p hp2 x hx
  rw [List.mem_append,List.mem_singleton] at hp2
  rcases hp2 with hp2 | rfl
  ·exact h.apart p hp2 x hx
  ·intro k
   have:=((h.fitS hx).lt k).2
   omega
theorem MadeI.may (h : MadeI m last) (h1 : 1≤m.pages) (h2 : m.pages≤4096) : May2 m:=⟨⟨h1,h2⟩,h.laid,h.free,h.handT,h.hand,h.spanO,h.span,h.goneP,h.gone,h.apart⟩
theorem MadeI.none : MadeI noModel 0 where
 pages:=by decide
 laid:=⟨fun x hx=>(by cases hx),fun p h0 hP=>(by have : p < 0:=hP; omega)⟩
 free:=List.Pairwise.nil
 freeE:=fun _ r hr=>(by cases hr)
 handT:=fun r hr=>(by cases hr)
 hand:=List.Pairwise.nil
 spanO:=fun r hr=>(by cases hr)
 span:=List.Pairwise.nil
 goneP:=fun r hr=>(by cases hr)
 gone:=List.Pairwise.nil
 apart:=fun r hr=>(by cases hr)
 marks:=fun s hs=>(by cases hs)
end
/-- What stands in Made's rounds: the result's block, the model's block, its rows. -/
structure MadeW (w W : World) (m : ModelD) (F H S G : Value) : Prop where
 ext : Ext w W
 res : Blk W w.heap.size 30 #[.int .i64 0,.slice none 0 0,.slice none 0 0,.slice none 0 0,.slice none 0 0]
 blk : Blk W (w.heap.size + 1) 30 #[.int .i64 m.pages,F,H,S,G]
 own : OwnM W (w.heap.size + 2) m F H S G
theorem MadeW.more {w W W' : World} {m : ModelD} {F H S G : Value} (h : MadeW w W m F H S G) (hE : Ext W W') : MadeW w W' m F H S G:=⟨h.ext.trans hE,h.res.ext hE,h.blk.ext hE,h.own.ext hE⟩
theorem MadeW.size {w W : World} {m : ModelD} {F H S G : Value} (h : MadeW w W m F H S G) : w.heap.size + 2≤W.heap.size:=by have:=h.blk.lt; omega
theorem MadeW.page {w W : World} {m : ModelD} {F H S G : Value} (h : MadeW w W m F H S G) (p : Int) : MadeW w (W.setCell ⟨w.heap.size + 1,0,none⟩ (.int .i64 p)) { m with pages:=p } F H S G :=
 ⟨h.ext.setCell (by show w.heap.size≤w.heap.size + 1; omega) _,h.res.far (by show w.heap.size≠w.heap.size + 1; omega) _,h.blk.set 0 _,by
  have:=h.own.far (p:=⟨w.heap.size + 1,0,none⟩) (by show w.heap.size + 1 < w.heap.size + 2; omega) (.int .i64 p)
  exact ⟨this.free,this.hands,this.spans,this.gone⟩⟩
theorem MadeW.pushFree {w W W' w2 : World} {m : ModelD} {F H S G v' : Value} (h : MadeW w W m F H S G) (hWW : Ext W W') (x : RunD)
  (k1 : OwnS w2 (w.heap.size + 2) 54 2 v' (m.free ++ [x]).length (runV (m.free ++ [x]))) (k2 : W'.grownBy w2 F.ownBlock) :
  MadeW w (w2.setCell ⟨w.heap.size + 1,1,none⟩ v') { m with free:=m.free ++ [x] } v' H S G:=by
 have h2:=h.more hWW
 have hg : Ext w w2:=Below.grown h2.ext k2 h2.ext.size (fun k hk=>by have:=(World.ownsRow.lt h2.own.free k hk).1; omega)
 have n1:=own_ne_blk h2.own.free h2.res (by decide)
 have n2:=own_ne_blk h2.own.free h2.blk (by decide)
 exact ⟨hg.setCell (by show w.heap.size≤w.heap.size + 1; omega) _,(h2.res.grown k2 (Ne.symm n1)).far (by show w.heap.size≠w.heap.size + 1; omega) _,(h2.blk.grown k2 (Ne.symm n2)).set 1 v',⟨k1.far (by show w.heap.size + 1 < w.heap.size + 2; omega) _,(h2.own.hands.keepG h2.own.free k2 (by decide)).far (by show w.heap.size + 1 < w.heap.size + 2; omega) _,(h2.own.spans.keepG h2.own.free k2 (by decide)).far (by show w.heap.size + 1 < w.heap.size + 2; omega) _,(h2.own.gone.keepG h2.own.free k2 (by decide)).far (by show w.heap.size + 1 < w.heap.size + 2; omega) _⟩⟩
/-- The model's block behind a row's growth. -/
theorem MadeW.cellsFree {w W W' w2 : World} {m : ModelD} {F H S G : Value} (h : MadeW w W m F H S G) (hWW : Ext W W') (k2 : W'.grownBy w2 F.ownBlock) : Blk w2 (w.heap.size + 1) 30 #[.int .i64 m.pages,F,H,S,G] :=
 (h.more hWW).blk.grown k2 (Ne.symm (own_ne_blk (h.more hWW).own.free (h.more hWW).blk (by decide)))
theorem MadeW.pushHand {w W W' w2 : World} {m : ModelD} {F H S G v' : Value} (h : MadeW w W m F H S G) (hWW : Ext W W') (x : HandD)
  (k1 : OwnS w2 (w.heap.size + 2) 56 3 v' (m.hands ++ [x]).length (handV (m.hands ++ [x]))) (k2 : W'.grownBy w2 H.ownBlock) :
  MadeW w (w2.setCell ⟨w.heap.size + 1,2,none⟩ v') { m with hands:=m.hands ++ [x] } F v' S G:=by
 have h2:=h.more hWW
 have hg : Ext w w2:=Below.grown h2.ext k2 h2.ext.size (fun k hk=>by have:=(World.ownsRow.lt h2.own.hands k hk).1; omega)
 have n1:=own_ne_blk h2.own.hands h2.res (by decide)
 have n2:=own_ne_blk h2.own.hands h2.blk (by decide)
 exact ⟨hg.setCell (by show w.heap.size≤w.heap.size + 1; omega) _,(h2.res.grown k2 (Ne.symm n1)).far (by show w.heap.size≠w.heap.size + 1; omega) _,(h2.blk.grown k2 (Ne.symm n2)).set 2 v',⟨(h2.own.free.keepG h2.own.hands k2 (by decide)).far (by show w.heap.size + 1 < w.heap.size + 2; omega) _,k1.far (by show w.heap.size + 1 < w.heap.size + 2; omega) _,(h2.own.spans.keepG h2.own.hands k2 (by decide)).far (by show w.heap.size + 1 < w.heap.size + 2; omega) _,(h2.own.gone.keepG h2.own.hands k2 (by decide)).far (by show w.heap.size + 1 < w.heap.size + 2; omega) _⟩⟩
/-- The model's block behind a row's growth. -/
theorem MadeW.cellsHand {w W W' w2 : World} {m : ModelD} {F H S G : Value} (h : MadeW w W m F H S G) (hWW : Ext W W') (k2 : W'.grownBy w2 H.ownBlock) : Blk w2 (w.heap.size + 1) 30 #[.int .i64 m.pages,F,H,S,G] :=
 (h.more hWW).blk.grown k2 (Ne.symm (own_ne_blk (h.more hWW).own.hands (h.more hWW).blk (by decide)))
theorem MadeW.pushSpan {w W W' w2 : World} {m : ModelD} {F H S G v' : Value} (h : MadeW w W m F H S G) (hWW : Ext W W') (x : HoldD)
  (k1 : OwnS w2 (w.heap.size + 2) 51 8 v' (m.spans ++ [x]).length (holdsV (m.spans ++ [x]))) (k2 : W'.grownBy w2 S.ownBlock) :
  MadeW w (w2.setCell ⟨w.heap.size + 1,3,none⟩ v') { m with spans:=m.spans ++ [x] } F H v' G:=by
 have h2:=h.more hWW
 have hg : Ext w w2:=Below.grown h2.ext k2 h2.ext.size (fun k hk=>by have:=(World.ownsRow.lt h2.own.spans k hk).1; omega)
 have n1:=own_ne_blk h2.own.spans h2.res (by decide)
 have n2:=own_ne_blk h2.own.spans h2.blk (by decide)
 exact ⟨hg.setCell (by show w.heap.size≤w.heap.size + 1; omega) _,(h2.res.grown k2 (Ne.symm n1)).far (by show w.heap.size≠w.heap.size + 1; omega) _,(h2.blk.grown k2 (Ne.symm n2)).set 3 v',⟨(h2.own.free.keepG h2.own.spans k2 (by decide)).far (by show w.heap.size + 1 < w.heap.size + 2; omega) _,(h2.own.hands.keepG h2.own.spans k2 (by decide)).far (by show w.heap.size + 1 < w.heap.size + 2; omega) _,k1.far (by show w.heap.size + 1 < w.heap.size + 2; omega) _,(h2.own.gone.keepG h2.own.spans k2 (by decide)).far (by show w.heap.size + 1 < w.heap.size + 2; omega) _⟩⟩
/-- The model's block behind a row's growth. -/
theorem MadeW.cellsSpan {w W W' w2 : World} {m : ModelD} {F H S G : Value} (h : MadeW w W m F H S G) (hWW : Ext W W') (k2 : W'.grownBy w2 S.ownBlock) : Blk w2 (w.heap.size + 1) 30 #[.int .i64 m.pages,F,H,S,G] :=
 (h.more hWW).blk.grown k2 (Ne.symm (own_ne_blk (h.more hWW).own.spans (h.more hWW).blk (by decide)))
theorem MadeW.pushGone {w W W' w2 : World} {m : ModelD} {F H S G v' : Value} (h : MadeW w W m F H S G) (hWW : Ext W W') (x : Int)
  (k1 : OwnS w2 (w.heap.size + 2) 3 1 v' (m.gone ++ [x]).length (intsV (m.gone ++ [x]))) (k2 : W'.grownBy w2 G.ownBlock) :
  MadeW w (w2.setCell ⟨w.heap.size + 1,4,none⟩ v') { m with gone:=m.gone ++ [x] } F H S v':=by
 have h2:=h.more hWW
 have hg : Ext w w2:=Below.grown h2.ext k2 h2.ext.size (fun k hk=>by have:=(World.ownsRow.lt h2.own.gone k hk).1; omega)
 have n1:=own_ne_blk h2.own.gone h2.res (by decide)
 have n2:=own_ne_blk h2.own.gone h2.blk (by decide)
 exact ⟨hg.setCell (by show w.heap.size≤w.heap.size + 1; omega) _,(h2.res.grown k2 (Ne.symm n1)).far (by show w.heap.size≠w.heap.size + 1; omega) _,(h2.blk.grown k2 (Ne.symm n2)).set 4 v',⟨(h2.own.free.keepG h2.own.gone k2 (by decide)).far (by show w.heap.size + 1 < w.heap.size + 2; omega) _,(h2.own.hands.keepG h2.own.gone k2 (by decide)).far (by show w.heap.size + 1 < w.heap.size + 2; omega) _,(h2.own.spans.keepG h2.own.gone k2 (by decide)).far (by show w.heap.size + 1 < w.heap.size + 2; omega) _,k1.far (by show w.heap.size + 1 < w.heap.size + 2; omega) _⟩⟩
/-- The model's block behind a row's growth. -/
theorem MadeW.cellsGone {w W W' w2 : World} {m : ModelD} {F H S G : Value} (h : MadeW w W m F H S G) (hWW : Ext W W') (k2 : W'.grownBy w2 G.ownBlock) : Blk w2 (w.heap.size + 1) 30 #[.int .i64 m.pages,F,H,S,G] :=
 (h.more hWW).blk.grown k2 (Ne.symm (own_ne_blk (h.more hWW).own.gone (h.more hWW).blk (by decide)))
end Go.Proofs.YtoolenhnhlfhmaaGreatDoor
