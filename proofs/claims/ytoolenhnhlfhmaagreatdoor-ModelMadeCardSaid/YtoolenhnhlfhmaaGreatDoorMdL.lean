/- Walks: own (a model of its own; printed by gen_mdl.py). -/
import Derived.Test.YtoolenhnhlfhmaaGreatDoorGF
import Derived.Test.YtoolenhnhlfhmaaGreatDoorGB
namespace Go.Proofs.YtoolenhnhlfhmaaGreatDoor
open Go.RowKit Go.Sort
set_option linter.unusedVariables false
set_option linter.unusedSimpArgs false
/-- A model whose rows are its own. -/
structure OwnM (w : World) (base : Nat) (m : ModelD) (F H S G : Value) : Prop where
 free : OwnS w base 54 2 F m.free.length (runV m.free)
 hands : OwnS w base 56 3 H m.hands.length (handV m.hands)
 spans : OwnS w base 51 8 S m.spans.length (holdsV m.spans)
 gone : OwnS w base 3 1 G m.gone.length (fun j=>.int .i64 (ix 0 m.gone j))
theorem OwnM.ext {w w' : World} {base : Nat} {m : ModelD} {F H S G : Value} (h : OwnM w base m F H S G) (hE : Ext w w') : OwnM w' base m F H S G:=⟨h.free.ext hE,h.hands.ext hE,h.spans.ext hE,h.gone.ext hE⟩
structure LenM (m : ModelD) : Prop where
 free : m.free.length≤1000000
 hands : m.hands.length≤1000000
 spans : m.spans.length≤1000000
 gone : m.gone.length≤1000000
theorem keepL {L : Nat→Bool} {i j : Nat} (h : setL L i j=true) (hne : j≠i) : L j=true:=by rwa [setL_ne hne] at h
theorem keepF {L : Nat→Bool} {i j : Nat} (h : setL L i j=false) (hne : j≠i) : L j=false:=by rwa [setL_ne hne] at h
theorem setL_le {L : Nat→Bool} {i j : Nat} (h : L j=true) : setL L i j=true:=by
 unfold setL
 split
 ·rfl
 ·exact h
theorem notL {L : Nat→Bool} {i : Nat} (hL : L i=false) {p : Prop} (h : L i=true) : p:=by rw [hL] at h; cases h
theorem setL_no {L : Nat→Bool} {i : Nat} {p : Prop} (h : setL L i i=false) : p:=by rw [setL_same] at h; cases h
section
variable {L : Nat→Bool} {i j q r s N : Nat} {P : Prop}
theorem kL (f : L j=true→P) (n : j≠i:=by decide) : setL L i j=true→P:=fun h=>f (keepL h n)
theorem kZ (f : L j=true→L q=true) (n : j≠i:=by decide) : setL L i j=true→setL L i q=true:=fun h=>setL_le (f (keepL h n))
theorem kF (f : L j=true→L q=false→P) (n : j≠i:=by decide) (o : q≠i:=by decide) : setL L i j=true→setL L i q=false→P:=fun h k=>f (keepL h n) (keepF k o)
theorem k3 (f : L j=true→L q=false→L r=true→P) (n : j≠i:=by decide) (o : q≠i:=by decide) (p : r≠i:=by decide) : setL L i j=true→setL L i q=false→setL L i r=true→P:=fun h k u=>f (keepL h n) (keepF k o) (keepL u p)
theorem k4 (f : L j=true→L q=false→L r=true→L s=false→P) (n : j≠i:=by decide) (o : q≠i:=by decide) (p : r≠i:=by decide) (x : s≠i:=by decide) : setL L i j=true→setL L i q=false→setL L i r=true→setL L i s=false→P:=fun h k u v=>f (keepL h n) (keepF k o) (keepL u p) (keepF v x)
theorem kA (f : L j=true→∀ q,q < N→L q=true) (n : j≠i:=by decide) : setL L i j=true→∀ q,q < N→setL L i q=true:=fun h q hq=>setL_le (f (keepL h n) q hq)
theorem kB (f : L j=true→L q=true∧L r=true) (n : j≠i:=by decide) : setL L i j=true→setL L i q=true∧setL L i r=true:=fun h=>⟨setL_le (f (keepL h n)).1,setL_le (f (keepL h n)).2⟩
end
/-- Within the region: what those that are listed have left. -/
structure OwnI (w0 : World) (b : Nat) (m : ModelD) (F H S G : Option Addr) (fc hc sc gc : Nat) (L : Nat→Bool) (u3 u4 u5 u6 u7 u8 u9 u10 u11 u12 u13 u14 u15 u16 u17 u18 : Value) (w' : World) : Prop where
 s0 : L 0=true→u3=.pointer (some ⟨b,1,none⟩)
 s1 : L 1=true→u4=(.slice F m.free.length fc)
 s2 : L 2=true→∃ A c,u5=.slice A m.free.length c∧OwnS w' (b + 2) 54 2 (.slice A m.free.length c) m.free.length (runV m.free)
 s3 : L 3=true→u6=.pointer (some ⟨b,2,none⟩)
 s4 : L 4=true→u7=(.slice H m.hands.length hc)
 s5 : L 5=true→∃ A c,u8=.slice A m.hands.length c∧OwnS w' (b + 2) 56 3 (.slice A m.hands.length c) m.hands.length (handV m.hands)
 s6 : L 6=true→u9=.pointer (some ⟨b,3,none⟩)
 s7 : L 7=true→u10=(.slice S m.spans.length sc)
 s8 : L 8=true→∃ A c,u11=.slice A m.spans.length c∧OwnS w' (b + 2) 51 8 (.slice A m.spans.length c) m.spans.length (holdsV m.spans)
 s9 : L 9=true→u12=.pointer (some ⟨b,4,none⟩)
 s10 : L 10=true→u13=(.slice G m.gone.length gc)
 s11 : L 11=true→∃ A c,u14=.slice A m.gone.length c∧OwnS w' (b + 2) 3 1 (.slice A m.gone.length c) m.gone.length (fun j=>.int .i64 (ix 0 m.gone j))
 s12 : L 12=true→u15=.pointer (some ⟨b,1,none⟩)
 s14 : L 14=true→u16=.pointer (some ⟨b,2,none⟩)
 s16 : L 16=true→u17=.pointer (some ⟨b,3,none⟩)
 s18 : L 18=true→u18=.pointer (some ⟨b,4,none⟩)
 z13 : L 13=true→∀ j,j < 13→L j=true
 z15 : L 15=true→L 13=true
 z17 : L 17=true→L 15=true
 z19 : L 19=true→L 17=true
 y5 : L 5=true→L 2=true
 y8 : L 8=true→L 5=true
 y11 : L 11=true→L 8=true
 ext : Ext w0 w'
 sz : b + 2≤w'.heap.size
 res : Blk w' (b + 1) 30 #[.int .i64 0,.slice none 0 0,.slice none 0 0,.slice none 0 0,.slice none 0 0]
 blk : ∃ x1 x2 x3 x4,Blk w' b 30 #[.int .i64 m.pages,x1,x2,x3,x4]∧(L 13=true→x1=u5)∧(L 13=false→x1=(.slice F m.free.length fc))∧(L 15=true→x2=u8)∧(L 15=false→x2=(.slice H m.hands.length hc))∧(L 17=true→x3=u11)∧(L 17=false→x3=(.slice S m.spans.length sc))∧(L 19=true→x4=u14)∧(L 19=false→x4=(.slice G m.gone.length gc))
theorem own_res : Tryz.f26.results=#[.cell 2 30]:=by kernel_rfl
theorem own_info : (Tryz.prog.info? 30).map (fun i=>i.size)=some 5:=by kernel_rfl
set_option maxHeartbeats 8000000 in
set_option maxRecDepth 100000 in
theorem own_any (m : ModelD) (F H S G : Option Addr) (fc hc sc gc : Nat) (w : World) (hlen : LenM m) (hm : ModelR w m F H S G) :
  Calls Tryz.prog 26 #[modelV m F H S G fc hc sc gc] w fun e w'=>∃ F' H' S' G' fc' hc' sc' gc',e=.returned (modelV m F' H' S' G' fc' hc' sc' gc')∧Ext w w'∧OwnM w' w.heap.size m (.slice F' m.free.length fc') (.slice H' m.hands.length hc') (.slice S' m.spans.length sc') (.slice G' m.gone.length gc'):=by
 have HM:=Lib.hid (And.intro hm hlen)
 clear hm hlen
 go_enter Tryz.func26,Tryz.ntmps26
 unfold modelV
 go_wp2_with (fail)
 refine wp_region_inv (fun L a w'=>∃ u3 u4 u5 u6 u7 u8 u9 u10 u11 u12 u13 u14 u15 u16 u17 u18,a=⟨#[.agg #[.int .i64 m.pages,.slice F m.free.length fc,.slice H m.hands.length hc,.slice S m.spans.length sc,.slice G m.gone.length gc],.pointer (some ⟨w.heap.size,0,none⟩),.pointer (some ⟨w.heap.size + 1,0,none⟩),u3,u4,u5,u6,u7,u8,u9,u10,u11,u12,u13,u14,u15,u16,u17,u18,undef],[]⟩∧OwnI w w.heap.size m F H S G fc hc sc gc L u3 u4 u5 u6 u7 u8 u9 u10 u11 u12 u13 u14 u15 u16 u17 u18 w') rfl (by kernel_rfl) ?h0 ?hstep ?hend
 case h0 =>
  refine ⟨undef,undef,undef,undef,undef,undef,undef,undef,undef,undef,undef,undef,undef,undef,undef,undef,rfl,?_⟩
  constructor
  case ext=>exact (((Ext.refl _).alloc _).alloc _).drew
  case sz=>simp [World.drew]
  case res=>exact Blk.new _ _ _ _ (by simp)
  case blk=>exact ⟨_,_,_,_,(Blk.new _ _ _ _ rfl).alloc _,fun h=>(by cases h),fun _=>rfl,fun h=>(by cases h),fun _=>rfl,fun h=>(by cases h),fun _=>rfl,fun h=>(by cases h),fun _=>rfl⟩
  all_goals exact fun h=>(by cases h)
 case hstep =>
  intro L a w' i o ho hL hdep hI
  obtain ⟨u3,u4,u5,u6,u7,u8,u9,u10,u11,u12,u13,u14,u15,u16,u17,u18,rfl,I⟩:=hI
  rcases i with _ | _ | _ | _ | _ | _ | _ | _ | _ | _ | _ | _ | _ | _ | _ | _ | _ | _ | _ | _ | i
  ·cases ho
   go_wp2
   refine ⟨fun _=>⟨_,u4,u5,u6,u7,u8,u9,u10,u11,u12,u13,u14,u15,u16,u17,u18,rfl,?_⟩,fun h=>absurd rfl h⟩
   constructor
   case s0=>exact fun _=>rfl
   case s1=>exact kL I.s1
   case s2=>exact kL I.s2
   case s3=>exact kL I.s3
   case s4=>exact kL I.s4
   case s5=>exact kL I.s5
   case s6=>exact kL I.s6
   case s7=>exact kL I.s7
   case s8=>exact kL I.s8
   case s9=>exact kL I.s9
   case s10=>exact kL I.s10
   case s11=>exact kL I.s11
   case s12=>exact kL I.s12
   case s14=>exact kL I.s14
   case s16=>exact kL I.s16
   case s18=>exact kL I.s18
   case z13=>exact kA I.z13
   case z15=>exact kZ I.z15
   case z17=>exact kZ I.z17
   case z19=>exact kZ I.z19
   case y5=>exact kZ I.y5
   case y8=>exact kZ I.y8
   case y11=>exact kZ I.y11
   case ext=>exact I.ext
   case sz=>exact I.sz
   case res=>exact I.res
   case blk =>
    obtain ⟨x1,x2,x3,x4,hb,t1,f1,t2,f2,t3,f3,t4,f4⟩:=I.blk
    exact ⟨x1,x2,x3,x4,hb,fun h=>t1 (keepL h (by decide)),fun h=>f1 (keepF h (by decide)),fun h=>t2 (keepL h (by decide)),fun h=>f2 (keepF h (by decide)),fun h=>t3 (keepL h (by decide)),fun h=>f3 (keepF h (by decide)),fun h=>t4 (keepL h (by decide)),fun h=>f4 (keepF h (by decide))⟩
  ·cases ho
   have e0:=I.s0 (hdep ⟨0,.data⟩ (by simp) rfl)
   subst e0
   have hns : L 13=false:=Bool.eq_false_iff.2 fun h=>notL hL (I.z13 h 1 (by omega))
   have hc : w'.cell? ⟨w.heap.size,1,none⟩=some (.slice F m.free.length fc):=by
    obtain ⟨x1,x2,x3,x4,hb,t1,f1,t2,f2,t3,f3,t4,f4⟩:=I.blk
    rw [← f1 hns]
    exact hb.cell rfl
   go_wp2
   refine ⟨fun _=>⟨_,_,u5,u6,u7,u8,u9,u10,u11,u12,u13,u14,u15,u16,u17,u18,rfl,?_⟩,fun h=>absurd rfl h⟩
   constructor
   case s0=>exact kL I.s0
   case s1=>exact fun _=>rfl
   case s2=>exact kL I.s2
   case s3=>exact kL I.s3
   case s4=>exact kL I.s4
   case s5=>exact kL I.s5
   case s6=>exact kL I.s6
   case s7=>exact kL I.s7
   case s8=>exact kL I.s8
   case s9=>exact kL I.s9
   case s10=>exact kL I.s10
   case s11=>exact kL I.s11
   case s12=>exact kL I.s12
   case s14=>exact kL I.s14
   case s16=>exact kL I.s16
   case s18=>exact kL I.s18
   case z13=>exact kA I.z13
   case z15=>exact kZ I.z15
   case z17=>exact kZ I.z17
   case z19=>exact kZ I.z19
   case y5=>exact kZ I.y5
   case y8=>exact kZ I.y8
   case y11=>exact kZ I.y11
   case ext=>exact I.ext
   case sz=>exact I.sz
   case res=>exact I.res
   case blk =>
    obtain ⟨x1,x2,x3,x4,hb,t1,f1,t2,f2,t3,f3,t4,f4⟩:=I.blk
    exact ⟨x1,x2,x3,x4,hb,fun h=>t1 (keepL h (by decide)),fun h=>f1 (keepF h (by decide)),fun h=>t2 (keepL h (by decide)),fun h=>f2 (keepF h (by decide)),fun h=>t3 (keepL h (by decide)),fun h=>f3 (keepF h (by decide)),fun h=>t4 (keepL h (by decide)),fun h=>f4 (keepF h (by decide))⟩
  ·cases ho
   have e0:=I.s1 (hdep ⟨1,.data⟩ (by simp) rfl)
   subst e0
   have notS1 : ∀ {p : Prop},setL L 2 13=true→p:=fun h=>notL hL (by have h:=keepL h (by decide); exact I.z13 h 2 (by omega))
   go_wp2_with (go_at_call 51; refine (cloneRun_any F m.free.length fc (runV m.free) w' HM.out.2.free (runV_one _) (HM.out.1.ext I.ext).free).mono ?_; rintro e w2 ⟨A',c',rfl,hO2,hE2⟩)
   refine ⟨fun _=>⟨u3,_,_,u6,u7,u8,u9,u10,u11,u12,u13,u14,u15,u16,u17,u18,rfl,?_⟩,fun h=>absurd rfl h⟩
   constructor
   case s0=>exact kL I.s0
   case s1=>exact kL I.s1
   case s2=>exact fun _=>⟨A',c',rfl,hO2.mono I.sz⟩
   case s3=>exact kL I.s3
   case s4=>exact kL I.s4
   case s5 =>
    intro h
    obtain ⟨A,c,e,hO⟩:=I.s5 (keepL h (by decide))
    exact ⟨A,c,e,hO.ext hE2⟩
   case s6=>exact kL I.s6
   case s7=>exact kL I.s7
   case s8 =>
    intro h
    obtain ⟨A,c,e,hO⟩:=I.s8 (keepL h (by decide))
    exact ⟨A,c,e,hO.ext hE2⟩
   case s9=>exact kL I.s9
   case s10=>exact kL I.s10
   case s11 =>
    intro h
    obtain ⟨A,c,e,hO⟩:=I.s11 (keepL h (by decide))
    exact ⟨A,c,e,hO.ext hE2⟩
   case s12=>exact kL I.s12
   case s14=>exact kL I.s14
   case s16=>exact kL I.s16
   case s18=>exact kL I.s18
   case z13=>exact kA I.z13
   case z15=>exact kZ I.z15
   case z17=>exact kZ I.z17
   case z19=>exact kZ I.z19
   case y5=>exact kZ I.y5
   case y8=>exact kZ I.y8
   case y11=>exact kZ I.y11
   case ext=>exact I.ext.trans hE2
   case sz=>exact Nat.le_trans I.sz hE2.size
   case res=>exact I.res.ext hE2
   case blk =>
    obtain ⟨x1,x2,x3,x4,hb,t1,f1,t2,f2,t3,f3,t4,f4⟩:=I.blk
    exact ⟨x1,x2,x3,x4,hb.ext hE2,fun h=>notS1 h,fun h=>f1 (keepF h (by decide)),fun h=>t2 (keepL h (by decide)),fun h=>f2 (keepF h (by decide)),fun h=>t3 (keepL h (by decide)),fun h=>f3 (keepF h (by decide)),fun h=>t4 (keepL h (by decide)),fun h=>f4 (keepF h (by decide))⟩
  ·cases ho
   go_wp2
   refine ⟨fun _=>⟨u3,u4,u5,_,u7,u8,u9,u10,u11,u12,u13,u14,u15,u16,u17,u18,rfl,?_⟩,fun h=>absurd rfl h⟩
   constructor
   case s0=>exact kL I.s0
   case s1=>exact kL I.s1
   case s2=>exact kL I.s2
   case s3=>exact fun _=>rfl
   case s4=>exact kL I.s4
   case s5=>exact kL I.s5
   case s6=>exact kL I.s6
   case s7=>exact kL I.s7
   case s8=>exact kL I.s8
   case s9=>exact kL I.s9
   case s10=>exact kL I.s10
   case s11=>exact kL I.s11
   case s12=>exact kL I.s12
   case s14=>exact kL I.s14
   case s16=>exact kL I.s16
   case s18=>exact kL I.s18
   case z13=>exact kA I.z13
   case z15=>exact kZ I.z15
   case z17=>exact kZ I.z17
   case z19=>exact kZ I.z19
   case y5=>exact kZ I.y5
   case y8=>exact kZ I.y8
   case y11=>exact kZ I.y11
   case ext=>exact I.ext
   case sz=>exact I.sz
   case res=>exact I.res
   case blk =>
    obtain ⟨x1,x2,x3,x4,hb,t1,f1,t2,f2,t3,f3,t4,f4⟩:=I.blk
    exact ⟨x1,x2,x3,x4,hb,fun h=>t1 (keepL h (by decide)),fun h=>f1 (keepF h (by decide)),fun h=>t2 (keepL h (by decide)),fun h=>f2 (keepF h (by decide)),fun h=>t3 (keepL h (by decide)),fun h=>f3 (keepF h (by decide)),fun h=>t4 (keepL h (by decide)),fun h=>f4 (keepF h (by decide))⟩
  ·cases ho
   have e0:=I.s3 (hdep ⟨3,.data⟩ (by simp) rfl)
   subst e0
   have hns : L 15=false:=Bool.eq_false_iff.2 fun h=>notL hL (I.z13 (I.z15 h) 4 (by omega))
   have hc : w'.cell? ⟨w.heap.size,2,none⟩=some (.slice H m.hands.length hc):=by
    obtain ⟨x1,x2,x3,x4,hb,t1,f1,t2,f2,t3,f3,t4,f4⟩:=I.blk
    rw [← f2 hns]
    exact hb.cell rfl
   go_wp2
   refine ⟨fun _=>⟨u3,u4,u5,_,_,u8,u9,u10,u11,u12,u13,u14,u15,u16,u17,u18,rfl,?_⟩,fun h=>absurd rfl h⟩
   constructor
   case s0=>exact kL I.s0
   case s1=>exact kL I.s1
   case s2=>exact kL I.s2
   case s3=>exact kL I.s3
   case s4=>exact fun _=>rfl
   case s5=>exact kL I.s5
   case s6=>exact kL I.s6
   case s7=>exact kL I.s7
   case s8=>exact kL I.s8
   case s9=>exact kL I.s9
   case s10=>exact kL I.s10
   case s11=>exact kL I.s11
   case s12=>exact kL I.s12
   case s14=>exact kL I.s14
   case s16=>exact kL I.s16
   case s18=>exact kL I.s18
   case z13=>exact kA I.z13
   case z15=>exact kZ I.z15
   case z17=>exact kZ I.z17
   case z19=>exact kZ I.z19
   case y5=>exact kZ I.y5
   case y8=>exact kZ I.y8
   case y11=>exact kZ I.y11
   case ext=>exact I.ext
   case sz=>exact I.sz
   case res=>exact I.res
   case blk =>
    obtain ⟨x1,x2,x3,x4,hb,t1,f1,t2,f2,t3,f3,t4,f4⟩:=I.blk
    exact ⟨x1,x2,x3,x4,hb,fun h=>t1 (keepL h (by decide)),fun h=>f1 (keepF h (by decide)),fun h=>t2 (keepL h (by decide)),fun h=>f2 (keepF h (by decide)),fun h=>t3 (keepL h (by decide)),fun h=>f3 (keepF h (by decide)),fun h=>t4 (keepL h (by decide)),fun h=>f4 (keepF h (by decide))⟩
  ·cases ho
   have e0:=I.s4 (hdep ⟨4,.data⟩ (by simp) rfl)
   subst e0
   have notS2 : ∀ {p : Prop},setL L 5 15=true→p:=fun h=>notL hL (by have h:=keepL h (by decide); exact I.z13 (I.z15 h) 5 (by omega))
   have hprev : L 2=true:=hdep ⟨2,.chain⟩ (by simp) rfl
   go_wp2_with (go_at_call 52; refine (cloneHand_any H m.hands.length hc (handV m.hands) w' HM.out.2.hands (handV_one _) (HM.out.1.ext I.ext).hands).mono ?_; rintro e w2 ⟨A',c',rfl,hO2,hE2⟩)
   refine ⟨fun _=>⟨u3,u4,u5,u6,_,_,u9,u10,u11,u12,u13,u14,u15,u16,u17,u18,rfl,?_⟩,fun h=>absurd rfl h⟩
   constructor
   case s0=>exact kL I.s0
   case s1=>exact kL I.s1
   case s2 =>
    intro h
    obtain ⟨A,c,e,hO⟩:=I.s2 (keepL h (by decide))
    exact ⟨A,c,e,hO.ext hE2⟩
   case s3=>exact kL I.s3
   case s4=>exact kL I.s4
   case s5=>exact fun _=>⟨A',c',rfl,hO2.mono I.sz⟩
   case s6=>exact kL I.s6
   case s7=>exact kL I.s7
   case s8 =>
    intro h
    obtain ⟨A,c,e,hO⟩:=I.s8 (keepL h (by decide))
    exact ⟨A,c,e,hO.ext hE2⟩
   case s9=>exact kL I.s9
   case s10=>exact kL I.s10
   case s11 =>
    intro h
    obtain ⟨A,c,e,hO⟩:=I.s11 (keepL h (by decide))
    exact ⟨A,c,e,hO.ext hE2⟩
   case s12=>exact kL I.s12
   case s14=>exact kL I.s14
   case s16=>exact kL I.s16
   case s18=>exact kL I.s18
   case z13=>exact kA I.z13
   case z15=>exact kZ I.z15
   case z17=>exact kZ I.z17
   case z19=>exact kZ I.z19
   case y5=>exact fun _=>setL_le hprev
   case y8=>exact kZ I.y8
   case y11=>exact kZ I.y11
   case ext=>exact I.ext.trans hE2
   case sz=>exact Nat.le_trans I.sz hE2.size
   case res=>exact I.res.ext hE2
   case blk =>
    obtain ⟨x1,x2,x3,x4,hb,t1,f1,t2,f2,t3,f3,t4,f4⟩:=I.blk
    exact ⟨x1,x2,x3,x4,hb.ext hE2,fun h=>t1 (keepL h (by decide)),fun h=>f1 (keepF h (by decide)),fun h=>notS2 h,fun h=>f2 (keepF h (by decide)),fun h=>t3 (keepL h (by decide)),fun h=>f3 (keepF h (by decide)),fun h=>t4 (keepL h (by decide)),fun h=>f4 (keepF h (by decide))⟩
  ·cases ho
   go_wp2
   refine ⟨fun _=>⟨u3,u4,u5,u6,u7,u8,_,u10,u11,u12,u13,u14,u15,u16,u17,u18,rfl,?_⟩,fun h=>absurd rfl h⟩
   constructor
   case s0=>exact kL I.s0
   case s1=>exact kL I.s1
   case s2=>exact kL I.s2
   case s3=>exact kL I.s3
   case s4=>exact kL I.s4
   case s5=>exact kL I.s5
   case s6=>exact fun _=>rfl
   case s7=>exact kL I.s7
   case s8=>exact kL I.s8
   case s9=>exact kL I.s9
   case s10=>exact kL I.s10
   case s11=>exact kL I.s11
   case s12=>exact kL I.s12
   case s14=>exact kL I.s14
   case s16=>exact kL I.s16
   case s18=>exact kL I.s18
   case z13=>exact kA I.z13
   case z15=>exact kZ I.z15
   case z17=>exact kZ I.z17
   case z19=>exact kZ I.z19
   case y5=>exact kZ I.y5
   case y8=>exact kZ I.y8
   case y11=>exact kZ I.y11
   case ext=>exact I.ext
   case sz=>exact I.sz
   case res=>exact I.res
   case blk =>
    obtain ⟨x1,x2,x3,x4,hb,t1,f1,t2,f2,t3,f3,t4,f4⟩:=I.blk
    exact ⟨x1,x2,x3,x4,hb,fun h=>t1 (keepL h (by decide)),fun h=>f1 (keepF h (by decide)),fun h=>t2 (keepL h (by decide)),fun h=>f2 (keepF h (by decide)),fun h=>t3 (keepL h (by decide)),fun h=>f3 (keepF h (by decide)),fun h=>t4 (keepL h (by decide)),fun h=>f4 (keepF h (by decide))⟩
  ·cases ho
   have e0:=I.s6 (hdep ⟨6,.data⟩ (by simp) rfl)
   subst e0
   have hns : L 17=false:=Bool.eq_false_iff.2 fun h=>notL hL (I.z13 (I.z15 (I.z17 h)) 7 (by omega))
   have hc : w'.cell? ⟨w.heap.size,3,none⟩=some (.slice S m.spans.length sc):=by
    obtain ⟨x1,x2,x3,x4,hb,t1,f1,t2,f2,t3,f3,t4,f4⟩:=I.blk
    rw [← f3 hns]
    exact hb.cell rfl
   go_wp2
   refine ⟨fun _=>⟨u3,u4,u5,u6,u7,u8,_,_,u11,u12,u13,u14,u15,u16,u17,u18,rfl,?_⟩,fun h=>absurd rfl h⟩
   constructor
   case s0=>exact kL I.s0
   case s1=>exact kL I.s1
   case s2=>exact kL I.s2
   case s3=>exact kL I.s3
   case s4=>exact kL I.s4
   case s5=>exact kL I.s5
   case s6=>exact kL I.s6
   case s7=>exact fun _=>rfl
   case s8=>exact kL I.s8
   case s9=>exact kL I.s9
   case s10=>exact kL I.s10
   case s11=>exact kL I.s11
   case s12=>exact kL I.s12
   case s14=>exact kL I.s14
   case s16=>exact kL I.s16
   case s18=>exact kL I.s18
   case z13=>exact kA I.z13
   case z15=>exact kZ I.z15
   case z17=>exact kZ I.z17
   case z19=>exact kZ I.z19
   case y5=>exact kZ I.y5
   case y8=>exact kZ I.y8
   case y11=>exact kZ I.y11
   case ext=>exact I.ext
   case sz=>exact I.sz
   case res=>exact I.res
   case blk =>
    obtain ⟨x1,x2,x3,x4,hb,t1,f1,t2,f2,t3,f3,t4,f4⟩:=I.blk
    exact ⟨x1,x2,x3,x4,hb,fun h=>t1 (keepL h (by decide)),fun h=>f1 (keepF h (by decide)),fun h=>t2 (keepL h (by decide)),fun h=>f2 (keepF h (by decide)),fun h=>t3 (keepL h (by decide)),fun h=>f3 (keepF h (by decide)),fun h=>t4 (keepL h (by decide)),fun h=>f4 (keepF h (by decide))⟩
  ·cases ho
   have e0:=I.s7 (hdep ⟨7,.data⟩ (by simp) rfl)
   subst e0
   have notS3 : ∀ {p : Prop},setL L 8 17=true→p:=fun h=>notL hL (by have h:=keepL h (by decide); exact I.z13 (I.z15 (I.z17 h)) 8 (by omega))
   have hprev : L 5=true:=hdep ⟨5,.chain⟩ (by simp) rfl
   go_wp2_with (go_at_call 53; refine (cloneHold_any S m.spans.length sc (holdsV m.spans) w' HM.out.2.spans (holdsV_one _) (HM.out.1.ext I.ext).spans).mono ?_; rintro e w2 ⟨A',c',rfl,hO2,hE2⟩)
   refine ⟨fun _=>⟨u3,u4,u5,u6,u7,u8,u9,_,_,u12,u13,u14,u15,u16,u17,u18,rfl,?_⟩,fun h=>absurd rfl h⟩
   constructor
   case s0=>exact kL I.s0
   case s1=>exact kL I.s1
   case s2 =>
    intro h
    obtain ⟨A,c,e,hO⟩:=I.s2 (keepL h (by decide))
    exact ⟨A,c,e,hO.ext hE2⟩
   case s3=>exact kL I.s3
   case s4=>exact kL I.s4
   case s5 =>
    intro h
    obtain ⟨A,c,e,hO⟩:=I.s5 (keepL h (by decide))
    exact ⟨A,c,e,hO.ext hE2⟩
   case s6=>exact kL I.s6
   case s7=>exact kL I.s7
   case s8=>exact fun _=>⟨A',c',rfl,hO2.mono I.sz⟩
   case s9=>exact kL I.s9
   case s10=>exact kL I.s10
   case s11 =>
    intro h
    obtain ⟨A,c,e,hO⟩:=I.s11 (keepL h (by decide))
    exact ⟨A,c,e,hO.ext hE2⟩
   case s12=>exact kL I.s12
   case s14=>exact kL I.s14
   case s16=>exact kL I.s16
   case s18=>exact kL I.s18
   case z13=>exact kA I.z13
   case z15=>exact kZ I.z15
   case z17=>exact kZ I.z17
   case z19=>exact kZ I.z19
   case y5=>exact kZ I.y5
   case y8=>exact fun _=>setL_le hprev
   case y11=>exact kZ I.y11
   case ext=>exact I.ext.trans hE2
   case sz=>exact Nat.le_trans I.sz hE2.size
   case res=>exact I.res.ext hE2
   case blk =>
    obtain ⟨x1,x2,x3,x4,hb,t1,f1,t2,f2,t3,f3,t4,f4⟩:=I.blk
    exact ⟨x1,x2,x3,x4,hb.ext hE2,fun h=>t1 (keepL h (by decide)),fun h=>f1 (keepF h (by decide)),fun h=>t2 (keepL h (by decide)),fun h=>f2 (keepF h (by decide)),fun h=>notS3 h,fun h=>f3 (keepF h (by decide)),fun h=>t4 (keepL h (by decide)),fun h=>f4 (keepF h (by decide))⟩
  ·cases ho
   go_wp2
   refine ⟨fun _=>⟨u3,u4,u5,u6,u7,u8,u9,u10,u11,_,u13,u14,u15,u16,u17,u18,rfl,?_⟩,fun h=>absurd rfl h⟩
   constructor
   case s0=>exact kL I.s0
   case s1=>exact kL I.s1
   case s2=>exact kL I.s2
   case s3=>exact kL I.s3
   case s4=>exact kL I.s4
   case s5=>exact kL I.s5
   case s6=>exact kL I.s6
   case s7=>exact kL I.s7
   case s8=>exact kL I.s8
   case s9=>exact fun _=>rfl
   case s10=>exact kL I.s10
   case s11=>exact kL I.s11
   case s12=>exact kL I.s12
   case s14=>exact kL I.s14
   case s16=>exact kL I.s16
   case s18=>exact kL I.s18
   case z13=>exact kA I.z13
   case z15=>exact kZ I.z15
   case z17=>exact kZ I.z17
   case z19=>exact kZ I.z19
   case y5=>exact kZ I.y5
   case y8=>exact kZ I.y8
   case y11=>exact kZ I.y11
   case ext=>exact I.ext
   case sz=>exact I.sz
   case res=>exact I.res
   case blk =>
    obtain ⟨x1,x2,x3,x4,hb,t1,f1,t2,f2,t3,f3,t4,f4⟩:=I.blk
    exact ⟨x1,x2,x3,x4,hb,fun h=>t1 (keepL h (by decide)),fun h=>f1 (keepF h (by decide)),fun h=>t2 (keepL h (by decide)),fun h=>f2 (keepF h (by decide)),fun h=>t3 (keepL h (by decide)),fun h=>f3 (keepF h (by decide)),fun h=>t4 (keepL h (by decide)),fun h=>f4 (keepF h (by decide))⟩
  ·cases ho
   have e0:=I.s9 (hdep ⟨9,.data⟩ (by simp) rfl)
   subst e0
   have hns : L 19=false:=Bool.eq_false_iff.2 fun h=>notL hL (I.z13 (I.z15 (I.z17 (I.z19 h))) 10 (by omega))
   have hc : w'.cell? ⟨w.heap.size,4,none⟩=some (.slice G m.gone.length gc):=by
    obtain ⟨x1,x2,x3,x4,hb,t1,f1,t2,f2,t3,f3,t4,f4⟩:=I.blk
    rw [← f4 hns]
    exact hb.cell rfl
   go_wp2
   refine ⟨fun _=>⟨u3,u4,u5,u6,u7,u8,u9,u10,u11,_,_,u14,u15,u16,u17,u18,rfl,?_⟩,fun h=>absurd rfl h⟩
   constructor
   case s0=>exact kL I.s0
   case s1=>exact kL I.s1
   case s2=>exact kL I.s2
   case s3=>exact kL I.s3
   case s4=>exact kL I.s4
   case s5=>exact kL I.s5
   case s6=>exact kL I.s6
   case s7=>exact kL I.s7
   case s8=>exact kL I.s8
   case s9=>exact kL I.s9
   case s10=>exact fun _=>rfl
   case s11=>exact kL I.s11
   case s12=>exact kL I.s12
   case s14=>exact kL I.s14
   case s16=>exact kL I.s16
   case s18=>exact kL I.s18
   case z13=>exact kA I.z13
   case z15=>exact kZ I.z15
   case z17=>exact kZ I.z17
   case z19=>exact kZ I.z19
   case y5=>exact kZ I.y5
   case y8=>exact kZ I.y8
   case y11=>exact kZ I.y11
   case ext=>exact I.ext
   case sz=>exact I.sz
   case res=>exact I.res
   case blk =>
    obtain ⟨x1,x2,x3,x4,hb,t1,f1,t2,f2,t3,f3,t4,f4⟩:=I.blk
    exact ⟨x1,x2,x3,x4,hb,fun h=>t1 (keepL h (by decide)),fun h=>f1 (keepF h (by decide)),fun h=>t2 (keepL h (by decide)),fun h=>f2 (keepF h (by decide)),fun h=>t3 (keepL h (by decide)),fun h=>f3 (keepF h (by decide)),fun h=>t4 (keepL h (by decide)),fun h=>f4 (keepF h (by decide))⟩
  ·cases ho
   have e0:=I.s10 (hdep ⟨10,.data⟩ (by simp) rfl)
   subst e0
   have notS4 : ∀ {p : Prop},setL L 11 19=true→p:=fun h=>notL hL (by have h:=keepL h (by decide); exact I.z13 (I.z15 (I.z17 (I.z19 h))) 11 (by omega))
   have hprev : L 8=true:=hdep ⟨8,.chain⟩ (by simp) rfl
   go_wp2_with (go_at_call 54; refine (cloneInt_any G m.gone.length gc (fun j=>.int .i64 (ix 0 m.gone j)) w' HM.out.2.gone (fun _=>rfl) (HM.out.1.ext I.ext).gone).mono ?_; rintro e w2 ⟨A',c',rfl,hO2,hE2⟩)
   refine ⟨fun _=>⟨u3,u4,u5,u6,u7,u8,u9,u10,u11,u12,_,_,u15,u16,u17,u18,rfl,?_⟩,fun h=>absurd rfl h⟩
   constructor
   case s0=>exact kL I.s0
   case s1=>exact kL I.s1
   case s2 =>
    intro h
    obtain ⟨A,c,e,hO⟩:=I.s2 (keepL h (by decide))
    exact ⟨A,c,e,hO.ext hE2⟩
   case s3=>exact kL I.s3
   case s4=>exact kL I.s4
   case s5 =>
    intro h
    obtain ⟨A,c,e,hO⟩:=I.s5 (keepL h (by decide))
    exact ⟨A,c,e,hO.ext hE2⟩
   case s6=>exact kL I.s6
   case s7=>exact kL I.s7
   case s8 =>
    intro h
    obtain ⟨A,c,e,hO⟩:=I.s8 (keepL h (by decide))
    exact ⟨A,c,e,hO.ext hE2⟩
   case s9=>exact kL I.s9
   case s10=>exact kL I.s10
   case s11=>exact fun _=>⟨A',c',rfl,hO2.mono I.sz⟩
   case s12=>exact kL I.s12
   case s14=>exact kL I.s14
   case s16=>exact kL I.s16
   case s18=>exact kL I.s18
   case z13=>exact kA I.z13
   case z15=>exact kZ I.z15
   case z17=>exact kZ I.z17
   case z19=>exact kZ I.z19
   case y5=>exact kZ I.y5
   case y8=>exact kZ I.y8
   case y11=>exact fun _=>setL_le hprev
   case ext=>exact I.ext.trans hE2
   case sz=>exact Nat.le_trans I.sz hE2.size
   case res=>exact I.res.ext hE2
   case blk =>
    obtain ⟨x1,x2,x3,x4,hb,t1,f1,t2,f2,t3,f3,t4,f4⟩:=I.blk
    exact ⟨x1,x2,x3,x4,hb.ext hE2,fun h=>t1 (keepL h (by decide)),fun h=>f1 (keepF h (by decide)),fun h=>t2 (keepL h (by decide)),fun h=>f2 (keepF h (by decide)),fun h=>t3 (keepL h (by decide)),fun h=>f3 (keepF h (by decide)),fun h=>notS4 h,fun h=>f4 (keepF h (by decide))⟩
  ·cases ho
   go_wp2
   refine ⟨fun _=>⟨u3,u4,u5,u6,u7,u8,u9,u10,u11,u12,u13,u14,_,u16,u17,u18,rfl,?_⟩,fun h=>absurd rfl h⟩
   constructor
   case s0=>exact kL I.s0
   case s1=>exact kL I.s1
   case s2=>exact kL I.s2
   case s3=>exact kL I.s3
   case s4=>exact kL I.s4
   case s5=>exact kL I.s5
   case s6=>exact kL I.s6
   case s7=>exact kL I.s7
   case s8=>exact kL I.s8
   case s9=>exact kL I.s9
   case s10=>exact kL I.s10
   case s11=>exact kL I.s11
   case s12=>exact fun _=>rfl
   case s14=>exact kL I.s14
   case s16=>exact kL I.s16
   case s18=>exact kL I.s18
   case z13=>exact kA I.z13
   case z15=>exact kZ I.z15
   case z17=>exact kZ I.z17
   case z19=>exact kZ I.z19
   case y5=>exact kZ I.y5
   case y8=>exact kZ I.y8
   case y11=>exact kZ I.y11
   case ext=>exact I.ext
   case sz=>exact I.sz
   case res=>exact I.res
   case blk =>
    obtain ⟨x1,x2,x3,x4,hb,t1,f1,t2,f2,t3,f3,t4,f4⟩:=I.blk
    exact ⟨x1,x2,x3,x4,hb,fun h=>t1 (keepL h (by decide)),fun h=>f1 (keepF h (by decide)),fun h=>t2 (keepL h (by decide)),fun h=>f2 (keepF h (by decide)),fun h=>t3 (keepL h (by decide)),fun h=>f3 (keepF h (by decide)),fun h=>t4 (keepL h (by decide)),fun h=>f4 (keepF h (by decide))⟩
  ·cases ho
   have e0:=I.s12 (hdep ⟨12,.data⟩ (by simp) rfl)
   obtain ⟨A0,c0,e1,hO0⟩:=I.s2 (hdep ⟨2,.data⟩ (by simp) rfl)
   subst e0 e1
   have h11 : L 11=true:=hdep ⟨11,.chain⟩ (by simp) rfl
   have hz : ∀ j,j < 13→L j=true:=by
    intro j hj
    have h8:=I.y11 h11
    have h5:=I.y8 h8
    have hp : ∀ k,k ∈ [0,1,3,4,6,7,9,10,12]→L k=true:=by
     intro k hk
     simp only [List.mem_cons,List.not_mem_nil,or_false] at hk
     rcases hk with rfl | rfl | rfl | rfl | rfl | rfl | rfl | rfl | rfl
     ·exact hdep ⟨0,.phase⟩ (by simp) rfl
     ·exact hdep ⟨1,.phase⟩ (by simp) rfl
     ·exact hdep ⟨3,.phase⟩ (by simp) rfl
     ·exact hdep ⟨4,.phase⟩ (by simp) rfl
     ·exact hdep ⟨6,.phase⟩ (by simp) rfl
     ·exact hdep ⟨7,.phase⟩ (by simp) rfl
     ·exact hdep ⟨9,.phase⟩ (by simp) rfl
     ·exact hdep ⟨10,.phase⟩ (by simp) rfl
     ·exact hdep ⟨12,.data⟩ (by simp) rfl
    have hj2 : j=2∨j=5∨j=8∨j=11∨j ∈ [0,1,3,4,6,7,9,10,12]:=by simp only [List.mem_cons,List.not_mem_nil,or_false]; omega
    rcases hj2 with rfl | rfl | rfl | rfl | hj2
    ·exact I.y5 h5
    ·exact h5
    ·exact h8
    ·exact h11
    ·exact hp j hj2
   obtain ⟨x1,x2,x3,x4,hb,t1,f1,t2,f2,t3,f3,t4,f4⟩:=I.blk
   have hc:=hb.cell (i:=1) (v:=x1) rfl
   have hfz:=hb.frozen 1
   go_wp2
   refine ⟨fun _=>⟨u3,u4,_,u6,u7,u8,u9,u10,u11,u12,u13,u14,_,u16,u17,u18,rfl,?_⟩,fun h=>absurd rfl h⟩
   constructor
   case s0=>exact kL I.s0
   case s1=>exact kL I.s1
   case s2 =>
    intro h
    obtain ⟨A,c,e,hO⟩:=I.s2 (keepL h (by decide))
    exact ⟨A,c,e,hO.far (by show w.heap.size < w.heap.size + 2; omega) _⟩
   case s3=>exact kL I.s3
   case s4=>exact kL I.s4
   case s5 =>
    intro h
    obtain ⟨A,c,e,hO⟩:=I.s5 (keepL h (by decide))
    exact ⟨A,c,e,hO.far (by show w.heap.size < w.heap.size + 2; omega) _⟩
   case s6=>exact kL I.s6
   case s7=>exact kL I.s7
   case s8 =>
    intro h
    obtain ⟨A,c,e,hO⟩:=I.s8 (keepL h (by decide))
    exact ⟨A,c,e,hO.far (by show w.heap.size < w.heap.size + 2; omega) _⟩
   case s9=>exact kL I.s9
   case s10=>exact kL I.s10
   case s11 =>
    intro h
    obtain ⟨A,c,e,hO⟩:=I.s11 (keepL h (by decide))
    exact ⟨A,c,e,hO.far (by show w.heap.size < w.heap.size + 2; omega) _⟩
   case s12=>exact kL I.s12
   case s14=>exact kL I.s14
   case s16=>exact kL I.s16
   case s18=>exact kL I.s18
   case z13=>exact fun _ j hj=>setL_le (hz j hj)
   case z15=>exact kZ I.z15
   case z17=>exact kZ I.z17
   case z19=>exact kZ I.z19
   case y5=>exact kZ I.y5
   case y8=>exact kZ I.y8
   case y11=>exact kZ I.y11
   case ext=>exact I.ext.setCell (Nat.le_refl _) _
   case sz=>exact Nat.le_trans I.sz (Nat.le_of_eq (by simp))
   case res=>exact I.res.far (by simp) _
   case blk=>exact ⟨_,x2,x3,x4,hb.set 1 _,fun _=>rfl,fun h=>setL_no h,fun h=>t2 (keepL h (by decide)),fun h=>f2 (keepF h (by decide)),fun h=>t3 (keepL h (by decide)),fun h=>f3 (keepF h (by decide)),fun h=>t4 (keepL h (by decide)),fun h=>f4 (keepF h (by decide))⟩
  ·cases ho
   go_wp2
   refine ⟨fun _=>⟨u3,u4,u5,u6,u7,u8,u9,u10,u11,u12,u13,u14,u15,_,u17,u18,rfl,?_⟩,fun h=>absurd rfl h⟩
   constructor
   case s0=>exact kL I.s0
   case s1=>exact kL I.s1
   case s2=>exact kL I.s2
   case s3=>exact kL I.s3
   case s4=>exact kL I.s4
   case s5=>exact kL I.s5
   case s6=>exact kL I.s6
   case s7=>exact kL I.s7
   case s8=>exact kL I.s8
   case s9=>exact kL I.s9
   case s10=>exact kL I.s10
   case s11=>exact kL I.s11
   case s12=>exact kL I.s12
   case s14=>exact fun _=>rfl
   case s16=>exact kL I.s16
   case s18=>exact kL I.s18
   case z13=>exact kA I.z13
   case z15=>exact kZ I.z15
   case z17=>exact kZ I.z17
   case z19=>exact kZ I.z19
   case y5=>exact kZ I.y5
   case y8=>exact kZ I.y8
   case y11=>exact kZ I.y11
   case ext=>exact I.ext
   case sz=>exact I.sz
   case res=>exact I.res
   case blk =>
    obtain ⟨x1,x2,x3,x4,hb,t1,f1,t2,f2,t3,f3,t4,f4⟩:=I.blk
    exact ⟨x1,x2,x3,x4,hb,fun h=>t1 (keepL h (by decide)),fun h=>f1 (keepF h (by decide)),fun h=>t2 (keepL h (by decide)),fun h=>f2 (keepF h (by decide)),fun h=>t3 (keepL h (by decide)),fun h=>f3 (keepF h (by decide)),fun h=>t4 (keepL h (by decide)),fun h=>f4 (keepF h (by decide))⟩
  ·cases ho
   have e0:=I.s14 (hdep ⟨14,.data⟩ (by simp) rfl)
   obtain ⟨A0,c0,e1,hO0⟩:=I.s5 (hdep ⟨5,.data⟩ (by simp) rfl)
   subst e0 e1
   have hprev : L 13=true:=hdep ⟨13,.chain⟩ (by simp) rfl
   obtain ⟨x1,x2,x3,x4,hb,t1,f1,t2,f2,t3,f3,t4,f4⟩:=I.blk
   have hc:=hb.cell (i:=2) (v:=x2) rfl
   have hfz:=hb.frozen 2
   go_wp2
   refine ⟨fun _=>⟨u3,u4,u5,u6,u7,_,u9,u10,u11,u12,u13,u14,u15,_,u17,u18,rfl,?_⟩,fun h=>absurd rfl h⟩
   constructor
   case s0=>exact kL I.s0
   case s1=>exact kL I.s1
   case s2 =>
    intro h
    obtain ⟨A,c,e,hO⟩:=I.s2 (keepL h (by decide))
    exact ⟨A,c,e,hO.far (by show w.heap.size < w.heap.size + 2; omega) _⟩
   case s3=>exact kL I.s3
   case s4=>exact kL I.s4
   case s5 =>
    intro h
    obtain ⟨A,c,e,hO⟩:=I.s5 (keepL h (by decide))
    exact ⟨A,c,e,hO.far (by show w.heap.size < w.heap.size + 2; omega) _⟩
   case s6=>exact kL I.s6
   case s7=>exact kL I.s7
   case s8 =>
    intro h
    obtain ⟨A,c,e,hO⟩:=I.s8 (keepL h (by decide))
    exact ⟨A,c,e,hO.far (by show w.heap.size < w.heap.size + 2; omega) _⟩
   case s9=>exact kL I.s9
   case s10=>exact kL I.s10
   case s11 =>
    intro h
    obtain ⟨A,c,e,hO⟩:=I.s11 (keepL h (by decide))
    exact ⟨A,c,e,hO.far (by show w.heap.size < w.heap.size + 2; omega) _⟩
   case s12=>exact kL I.s12
   case s14=>exact kL I.s14
   case s16=>exact kL I.s16
   case s18=>exact kL I.s18
   case z13=>exact kA I.z13
   case z15=>exact fun _=>setL_le hprev
   case z17=>exact kZ I.z17
   case z19=>exact kZ I.z19
   case y5=>exact kZ I.y5
   case y8=>exact kZ I.y8
   case y11=>exact kZ I.y11
   case ext=>exact I.ext.setCell (Nat.le_refl _) _
   case sz=>exact Nat.le_trans I.sz (Nat.le_of_eq (by simp))
   case res=>exact I.res.far (by simp) _
   case blk=>exact ⟨x1,_,x3,x4,hb.set 2 _,fun h=>t1 (keepL h (by decide)),fun h=>f1 (keepF h (by decide)),fun _=>rfl,fun h=>setL_no h,fun h=>t3 (keepL h (by decide)),fun h=>f3 (keepF h (by decide)),fun h=>t4 (keepL h (by decide)),fun h=>f4 (keepF h (by decide))⟩
  ·cases ho
   go_wp2
   refine ⟨fun _=>⟨u3,u4,u5,u6,u7,u8,u9,u10,u11,u12,u13,u14,u15,u16,_,u18,rfl,?_⟩,fun h=>absurd rfl h⟩
   constructor
   case s0=>exact kL I.s0
   case s1=>exact kL I.s1
   case s2=>exact kL I.s2
   case s3=>exact kL I.s3
   case s4=>exact kL I.s4
   case s5=>exact kL I.s5
   case s6=>exact kL I.s6
   case s7=>exact kL I.s7
   case s8=>exact kL I.s8
   case s9=>exact kL I.s9
   case s10=>exact kL I.s10
   case s11=>exact kL I.s11
   case s12=>exact kL I.s12
   case s14=>exact kL I.s14
   case s16=>exact fun _=>rfl
   case s18=>exact kL I.s18
   case z13=>exact kA I.z13
   case z15=>exact kZ I.z15
   case z17=>exact kZ I.z17
   case z19=>exact kZ I.z19
   case y5=>exact kZ I.y5
   case y8=>exact kZ I.y8
   case y11=>exact kZ I.y11
   case ext=>exact I.ext
   case sz=>exact I.sz
   case res=>exact I.res
   case blk =>
    obtain ⟨x1,x2,x3,x4,hb,t1,f1,t2,f2,t3,f3,t4,f4⟩:=I.blk
    exact ⟨x1,x2,x3,x4,hb,fun h=>t1 (keepL h (by decide)),fun h=>f1 (keepF h (by decide)),fun h=>t2 (keepL h (by decide)),fun h=>f2 (keepF h (by decide)),fun h=>t3 (keepL h (by decide)),fun h=>f3 (keepF h (by decide)),fun h=>t4 (keepL h (by decide)),fun h=>f4 (keepF h (by decide))⟩
  ·cases ho
   have e0:=I.s16 (hdep ⟨16,.data⟩ (by simp) rfl)
   obtain ⟨A0,c0,e1,hO0⟩:=I.s8 (hdep ⟨8,.data⟩ (by simp) rfl)
   subst e0 e1
   have hprev : L 15=true:=hdep ⟨15,.chain⟩ (by simp) rfl
   obtain ⟨x1,x2,x3,x4,hb,t1,f1,t2,f2,t3,f3,t4,f4⟩:=I.blk
   have hc:=hb.cell (i:=3) (v:=x3) rfl
   have hfz:=hb.frozen 3
   go_wp2
   refine ⟨fun _=>⟨u3,u4,u5,u6,u7,u8,u9,u10,_,u12,u13,u14,u15,u16,_,u18,rfl,?_⟩,fun h=>absurd rfl h⟩
   constructor
   case s0=>exact kL I.s0
   case s1=>exact kL I.s1
   case s2 =>
    intro h
    obtain ⟨A,c,e,hO⟩:=I.s2 (keepL h (by decide))
    exact ⟨A,c,e,hO.far (by show w.heap.size < w.heap.size + 2; omega) _⟩
   case s3=>exact kL I.s3
   case s4=>exact kL I.s4
   case s5 =>
    intro h
    obtain ⟨A,c,e,hO⟩:=I.s5 (keepL h (by decide))
    exact ⟨A,c,e,hO.far (by show w.heap.size < w.heap.size + 2; omega) _⟩
   case s6=>exact kL I.s6
   case s7=>exact kL I.s7
   case s8 =>
    intro h
    obtain ⟨A,c,e,hO⟩:=I.s8 (keepL h (by decide))
    exact ⟨A,c,e,hO.far (by show w.heap.size < w.heap.size + 2; omega) _⟩
   case s9=>exact kL I.s9
   case s10=>exact kL I.s10
   case s11 =>
    intro h
    obtain ⟨A,c,e,hO⟩:=I.s11 (keepL h (by decide))
    exact ⟨A,c,e,hO.far (by show w.heap.size < w.heap.size + 2; omega) _⟩
   case s12=>exact kL I.s12
   case s14=>exact kL I.s14
   case s16=>exact kL I.s16
   case s18=>exact kL I.s18
   case z13=>exact kA I.z13
   case z15=>exact kZ I.z15
   case z17=>exact fun _=>setL_le hprev
   case z19=>exact kZ I.z19
   case y5=>exact kZ I.y5
   case y8=>exact kZ I.y8
   case y11=>exact kZ I.y11
   case ext=>exact I.ext.setCell (Nat.le_refl _) _
   case sz=>exact Nat.le_trans I.sz (Nat.le_of_eq (by simp))
   case res=>exact I.res.far (by simp) _
   case blk=>exact ⟨x1,x2,_,x4,hb.set 3 _,fun h=>t1 (keepL h (by decide)),fun h=>f1 (keepF h (by decide)),fun h=>t2 (keepL h (by decide)),fun h=>f2 (keepF h (by decide)),fun _=>rfl,fun h=>setL_no h,fun h=>t4 (keepL h (by decide)),fun h=>f4 (keepF h (by decide))⟩
  ·cases ho
   go_wp2
   refine ⟨fun _=>⟨u3,u4,u5,u6,u7,u8,u9,u10,u11,u12,u13,u14,u15,u16,u17,_,rfl,?_⟩,fun h=>absurd rfl h⟩
   constructor
   case s0=>exact kL I.s0
   case s1=>exact kL I.s1
   case s2=>exact kL I.s2
   case s3=>exact kL I.s3
   case s4=>exact kL I.s4
   case s5=>exact kL I.s5
   case s6=>exact kL I.s6
   case s7=>exact kL I.s7
   case s8=>exact kL I.s8
   case s9=>exact kL I.s9
   case s10=>exact kL I.s10
   case s11=>exact kL I.s11
   case s12=>exact kL I.s12
   case s14=>exact kL I.s14
   case s16=>exact kL I.s16
   case s18=>exact fun _=>rfl
   case z13=>exact kA I.z13
   case z15=>exact kZ I.z15
   case z17=>exact kZ I.z17
   case z19=>exact kZ I.z19
   case y5=>exact kZ I.y5
   case y8=>exact kZ I.y8
   case y11=>exact kZ I.y11
   case ext=>exact I.ext
   case sz=>exact I.sz
   case res=>exact I.res
   case blk =>
    obtain ⟨x1,x2,x3,x4,hb,t1,f1,t2,f2,t3,f3,t4,f4⟩:=I.blk
    exact ⟨x1,x2,x3,x4,hb,fun h=>t1 (keepL h (by decide)),fun h=>f1 (keepF h (by decide)),fun h=>t2 (keepL h (by decide)),fun h=>f2 (keepF h (by decide)),fun h=>t3 (keepL h (by decide)),fun h=>f3 (keepF h (by decide)),fun h=>t4 (keepL h (by decide)),fun h=>f4 (keepF h (by decide))⟩
  ·cases ho
   have e0:=I.s18 (hdep ⟨18,.data⟩ (by simp) rfl)
   obtain ⟨A0,c0,e1,hO0⟩:=I.s11 (hdep ⟨11,.data⟩ (by simp) rfl)
   subst e0 e1
   have hprev : L 17=true:=hdep ⟨17,.chain⟩ (by simp) rfl
   obtain ⟨x1,x2,x3,x4,hb,t1,f1,t2,f2,t3,f3,t4,f4⟩:=I.blk
   have hc:=hb.cell (i:=4) (v:=x4) rfl
   have hfz:=hb.frozen 4
   go_wp2
   refine ⟨fun _=>⟨u3,u4,u5,u6,u7,u8,u9,u10,u11,u12,u13,_,u15,u16,u17,_,rfl,?_⟩,fun h=>absurd rfl h⟩
   constructor
   case s0=>exact kL I.s0
   case s1=>exact kL I.s1
   case s2 =>
    intro h
    obtain ⟨A,c,e,hO⟩:=I.s2 (keepL h (by decide))
    exact ⟨A,c,e,hO.far (by show w.heap.size < w.heap.size + 2; omega) _⟩
   case s3=>exact kL I.s3
   case s4=>exact kL I.s4
   case s5 =>
    intro h
    obtain ⟨A,c,e,hO⟩:=I.s5 (keepL h (by decide))
    exact ⟨A,c,e,hO.far (by show w.heap.size < w.heap.size + 2; omega) _⟩
   case s6=>exact kL I.s6
   case s7=>exact kL I.s7
   case s8 =>
    intro h
    obtain ⟨A,c,e,hO⟩:=I.s8 (keepL h (by decide))
    exact ⟨A,c,e,hO.far (by show w.heap.size < w.heap.size + 2; omega) _⟩
   case s9=>exact kL I.s9
   case s10=>exact kL I.s10
   case s11 =>
    intro h
    obtain ⟨A,c,e,hO⟩:=I.s11 (keepL h (by decide))
    exact ⟨A,c,e,hO.far (by show w.heap.size < w.heap.size + 2; omega) _⟩
   case s12=>exact kL I.s12
   case s14=>exact kL I.s14
   case s16=>exact kL I.s16
   case s18=>exact kL I.s18
   case z13=>exact kA I.z13
   case z15=>exact kZ I.z15
   case z17=>exact kZ I.z17
   case z19=>exact fun _=>setL_le hprev
   case y5=>exact kZ I.y5
   case y8=>exact kZ I.y8
   case y11=>exact kZ I.y11
   case ext=>exact I.ext.setCell (Nat.le_refl _) _
   case sz=>exact Nat.le_trans I.sz (Nat.le_of_eq (by simp))
   case res=>exact I.res.far (by simp) _
   case blk=>exact ⟨x1,x2,x3,_,hb.set 4 _,fun h=>t1 (keepL h (by decide)),fun h=>f1 (keepF h (by decide)),fun h=>t2 (keepL h (by decide)),fun h=>f2 (keepF h (by decide)),fun h=>t3 (keepL h (by decide)),fun h=>f3 (keepF h (by decide)),fun _=>rfl,fun h=>setL_no h⟩
  ·simp at ho
 case hend =>
  intro L a w' hall hI
  obtain ⟨u3,u4,u5,u6,u7,u8,u9,u10,u11,u12,u13,u14,u15,u16,u17,u18,rfl,I⟩:=hI
  obtain ⟨x1,x2,x3,x4,hb,t1,_,t2,_,t3,_,t4,_⟩:=I.blk
  obtain ⟨F',fc',e1,o1⟩:=I.s2 (hall 2 (by decide))
  obtain ⟨H',hc',e2,o2⟩:=I.s5 (hall 5 (by decide))
  obtain ⟨S',sc',e3,o3⟩:=I.s8 (hall 8 (by decide))
  obtain ⟨G',gc',e4,o4⟩:=I.s11 (hall 11 (by decide))
  obtain rfl:=(t1 (hall 13 (by decide))).trans e1
  obtain rfl:=(t2 (hall 15 (by decide))).trans e2
  obtain rfl:=(t3 (hall 17 (by decide))).trans e3
  obtain rfl:=(t4 (hall 19 (by decide))).trans e4
  have k0:=hb.cell (i:=0) (v:=.int .i64 m.pages) rfl
  have k1:=hb.cell (i:=1) rfl
  have k2:=hb.cell (i:=2) rfl
  have k3:=hb.cell (i:=3) rfl
  have k4:=hb.cell (i:=4) rfl
  obtain ⟨g0,g1,g2,g3,g4⟩:=Blk.c5 I.res
  have fz0:=I.res.frozen 0
  have fz1:=I.res.frozen 1
  have fz2:=I.res.frozen 2
  have fz3:=I.res.frozen 3
  have fz4:=I.res.frozen 4
  have HE:=Lib.hid (And.intro I.ext (And.intro o1 (And.intro o2 (And.intro o3 o4))))
  have HR:=Lib.hid I.res
  clear o1 o2 o3 o4 I hb hall t1 t2 t3 t4
  go_wp2
  have hB:=((((HR.out.set 0 (.int .i64 m.pages)).set 1 (.slice F' m.free.length fc')).set 2 (.slice H' m.hands.length hc')).set 3 (.slice S' m.spans.length sc')).set 4 (.slice G' m.gone.length gc')
  simp only [List.setIfInBounds_toArray,List.set_cons_succ,List.set_cons_zero] at hB
  have hle : w.heap.size≤w.heap.size + 1:=by omega
  have hlt : w.heap.size + 1 < w.heap.size + 2:=by omega
  refine bodyPost_ret (results_cell_row own_res _ _ (w.heap.size + 1) 30 _ (0,0) _ rfl hB Tryz.underlying30 rfl own_info) rfl ⟨F',H',S',G',fc',hc',sc',gc',rfl,((((HE.out.1.setCell hle _).setCell hle _).setCell hle _).setCell hle _).setCell hle _,?_⟩
  exact ⟨(((((HE.out.2.1.far hlt _).far hlt _).far hlt _).far hlt _).far hlt _).mono (by omega),(((((HE.out.2.2.1.far hlt _).far hlt _).far hlt _).far hlt _).far hlt _).mono (by omega),(((((HE.out.2.2.2.1.far hlt _).far hlt _).far hlt _).far hlt _).far hlt _).mono (by omega),(((((HE.out.2.2.2.2.far hlt _).far hlt _).far hlt _).far hlt _).far hlt _).mono (by omega)⟩
end Go.Proofs.YtoolenhnhlfhmaaGreatDoor
