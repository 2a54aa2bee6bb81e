/- Walks: the document's give. Walks: the document's lookups: a hand's place, a span's place, whether a page is released. Walks: the document's cycle, and get. Walks: the document's get. -/
import Derived.Test.YtoolenhnhlfhmaaGreatDoorHA
namespace Go.Proofs.YtoolenhnhlfhmaaGreatDoor
open Go.RowKit Go.Sort
set_option linter.unusedVariables false
set_option linter.unusedSimpArgs false
/-- Within the region: what those that are listed have left. -/
structure GiveI (m : ModelD) (x : HandD) (k d hc : Nat) (HA qA : Option Addr) (wc : World) (L : Nat→Bool) (u27 u28 u29 u30 u31 u32 u33 u34 u35 u36 u37 u38 u39 u40 u41 u42 u43 u44 u45 u46 u47 : Value) (w' : World) : Prop where
 s0 : L 0=true→u27=.pointer (some ⟨d,0,none⟩)
 n1 : L 1=true→L 8=false→∃ A c,u28=.slice A 0 c∧OwnS w' wc.heap.size 56 3 (.slice A 0 c) 0 (handV (cutIn m.hands k k [x]))
 s2 : L 2=true→u29=.pointer (some ⟨d,0,none⟩)
 s3 : L 3=true→u30=.pointer (some ⟨d,0,none⟩)
 s4 : L 4=true→u31=.pointer (some ⟨d,2,none⟩)
 s5 : L 5=true→u32=.slice HA m.hands.length hc
 s6 : L 6=true→u33=.int .i64 (k : Int)
 s7 : L 7=true→u34=.slice HA k hc
 n8 : L 8=true→L 11=false→∃ A c,u35=.slice A k c∧OwnS w' wc.heap.size 56 3 (.slice A k c) k (handV (cutIn m.hands k k [x]))
 s9 : L 9=true→u36=.agg #[.int .i64 x.t,.int .i64 x.at_,.int .i64 x.n]
 n10 : L 10=true→L 11=false→∃ g,u37=.slice (some ⟨g,0,none⟩) 1 1∧Blk w' g 56 #[.int .i64 x.t,.int .i64 x.at_,.int .i64 x.n]
 n11 : L 11=true→L 18=false→∃ A c,u38=.slice A (k + 1) c∧OwnS w' wc.heap.size 56 3 (.slice A (k + 1) c) (k + 1) (handV (cutIn m.hands k k [x]))
 s12 : L 12=true→u39=.pointer (some ⟨d,0,none⟩)
 s13 : L 13=true→u40=.pointer (some ⟨d,0,none⟩)
 s14 : L 14=true→u41=.pointer (some ⟨d,2,none⟩)
 s15 : L 15=true→u42=.slice HA m.hands.length hc
 s16 : L 16=true→u43=.int .i64 (k : Int)
 s17 : L 17=true→u44=.slice qA (m.hands.length - k) (hc - k)
 n18 : L 18=true→L 21=false→∃ A c,u45=.slice A (cutIn m.hands k k [x]).length c∧OwnS w' wc.heap.size 56 3 (.slice A (cutIn m.hands k k [x]).length c) (cutIn m.hands k k [x]).length (handV (cutIn m.hands k k [x]))
 s19 : L 19=true→u46=.pointer (some ⟨d,0,none⟩)
 s20 : L 20=true→u47=.pointer (some ⟨d,2,none⟩)
 ne0 : L 10=true→L 11=false→L 1=true→L 8=false→u28.ownBlock≠u37.ownBlock
 ne1 : L 10=true→L 11=false→L 8=true→u35.ownBlock≠u37.ownBlock
 z1 : L 8=true→L 1=true
 z2 : L 11=true→L 8=true∧L 10=true
 z3 : L 18=true→L 11=true
 z5 : L 20=true→L 19=true
 z4 : L 21=true→∀ j,j < 21→L j=true
 ext : L 21=false→Ext wc w'
 fin : L 21=true→∃ w1 A c,w'=w1.setCell ⟨d,2,none⟩ (.slice A (cutIn m.hands k k [x]).length c)∧Ext wc w1∧OwnS w1 wc.heap.size 56 3 (.slice A (cutIn m.hands k k [x]).length c) (cutIn m.hands k k [x]).length (handV (cutIn m.hands k k [x]))
theorem slr_blk3 {w : World} {g t : Nat} {x : HandD} (h : Blk w g t #[.int .i64 x.t,.int .i64 x.at_,.int .i64 x.n]) : SlR w (some ⟨g,0,none⟩) 1 3 (handX x):=fun _=>⟨g,0,rfl,fun j hj=>by
 obtain rfl | rfl | rfl : j=0∨j=1∨j=2:=(by omega)
 ·exact h.cell rfl
 ·exact h.cell rfl
 ·exact h.cell rfl⟩
set_option maxHeartbeats 8000000 in
set_option maxRecDepth 100000 in
theorem give28_any (m : ModelD) (d base : Nat) (F H S G : Value) (x : HandD) (w : World) (hl : m.hands.length≤900000) (hs : Rises noHand m.hands handK) (hbase : base≤w.heap.size) (hD : RefM w d base m F H S G) :
  Calls Tryz.prog 65 #[.pointer (some ⟨d,0,none⟩),.agg #[.int .i64 x.t,.int .i64 x.at_,.int .i64 x.n]] w fun e w'=>e=.returned (.tuple #[])∧KeepD base d w w'∧w.heap.size≤w'.heap.size∧∃ k H',PlaceH m.hands k x.at_∧RefM w' d base { m with hands:=cutIn m.hands k k [x] } F H' S G:=by
 obtain ⟨HA,hc,rfl,hhc⟩:=hD.own.hands.ofSlice
 obtain ⟨W0,hW0⟩ : ∃ W0,W0=w.alloc (.cells #[.int .i64 x.t,.int .i64 x.at_,.int .i64 x.n] 56):=⟨_,rfl⟩
 have hE0 : Ext w W0:=hW0▸(Ext.refl w).alloc _
 have hxb : Blk W0 w.heap.size 56 #[.int .i64 x.t,.int .i64 x.at_,.int .i64 x.n]:=hW0▸Blk.new _ _ _ _ rfl
 obtain ⟨i0,hi0,hz0,hs0,hb0⟩:=info_parts Tryz.infoMHand
 have HI:=Lib.hid (And.intro hi0 (And.intro hz0 (And.intro hs0 hb0)))
 have HW:=Lib.hid (And.intro hW0 (And.intro hE0 (And.intro hxb (And.intro (hD.ext hE0) hs))))
 clear hi0 hz0 hs0 hb0 hW0 hE0 hxb hD hs
 go_enter Tryz.func65,Tryz.ntmps65
 go_upto_region 1 with fail
 rw [← HW.out.1]
 go_wp2
 go_loopg [4] m.hands.length (fun q i wr=>∃ k : Nat,k≤m.hands.length∧q=m.hands.length - k∧i=.int .i64 (k : Int)∧Ext W0 wr∧∀ j,j < k→handK (ix noHand m.hands j) < x.at_)
 case atStart=>exact ⟨0,Nat.zero_le _,rfl,rfl,Ext.refl _,fun j hj=>absurd hj (by omega)⟩
 case round =>
  obtain ⟨k,hk,rfl,rfl,hE,hall⟩:=hrel
  have hD:=HW.out.2.2.2.1.ext hE
  have hxb:=HW.out.2.2.1.ext hE
  have x2:=hD.blk.cell (i:=2) (v:=.slice HA m.hands.length hc) rfl
  have b1:=hxb.cell (i:=1) (v:=.int .i64 x.at_) rfl
  have HK:=Lib.hid (And.intro hE (And.intro hD (And.intro hxb hall)))
  have q0 : (0 : Int)≤(k : Int):=by omega
  by_cases hgo : k < m.hands.length∧handK (ix noHand m.hands k) < x.at_
  ·obtain ⟨hlt,h2⟩:=hgo
   obtain ⟨b,off,rfl,hcl⟩:=hD.own.hands.slr (by omega)
   have a1 : wr.cell? ⟨b,off + k * 3 + 1,none⟩=some (.int .i64 (handK (ix noHand m.hands k))):=(hcl (k * 3 + 1) (by omega)).trans (congrArg some (handV1 m.hands k))
   have q1 : (k : Int) < (m.hands.length : Int):=by omega
   have e1 : decide (handK (ix noHand m.hands k) < x.at_)=true:=decide_eq_true h2
   have H2:=Lib.hid h2
   clear hcl h2 hE hD hxb hall
   go_upto_region 2 with fail
   go_quiet (fail)
   go_wp2
   go_roundg (m.hands.length - (k + 1))
   case measure=>go_light; omega
   case rel =>
    refine ⟨k + 1,by omega,rfl,by go_num,HK.out.1.drewN _,fun j hj=>?_⟩
    by_cases e : j=k
    ·subst e; exact H2.out
    ·exact HK.out.2.2.2 j (by omega)
  ·have hpl : PlaceH m.hands k x.at_:=by
    refine ⟨hk,hall,fun j h1 h2=>?_⟩
    by_cases e : k < m.hands.length
    ·have h3 : x.at_≤handK (ix noHand m.hands k):=by omega
     by_cases e2 : j=k
     ·subst e2; exact h3
     ·have:=HW.out.2.2.2.2 k j (by omega) h2
      omega
    ·omega
   have HP:=Lib.hid hpl
   have hcs : (k < m.hands.length∧decide (handK (ix noHand m.hands k) < x.at_)=false)∨k=m.hands.length:=by
    by_cases e : k < m.hands.length
    ·exact .inl ⟨e,decide_eq_false (fun h=>hgo ⟨e,h⟩)⟩
    ·exact .inr (by omega)
   clear hgo hall hpl
   go_upto_region 2 with fail
   go_cut [24] (fun v wx=>v=.bool false∧Ext wr wx)
   case first =>
    rcases hcs with ⟨hlt,e1⟩ | rfl
    ·obtain ⟨b,off,rfl,hcl⟩:=hD.own.hands.slr (by omega)
     have a1 : wr.cell? ⟨b,off + k * 3 + 1,none⟩=some (.int .i64 (handK (ix noHand m.hands k))):=(hcl (k * 3 + 1) (by omega)).trans (congrArg some (handV1 m.hands k))
     have q1 : (k : Int) < (m.hands.length : Int):=by omega
     clear hcl hE hD hxb
     go_quiet (fail)
     go_wp2
     go_meet
     exact ⟨rfl,(Ext.refl _).drewN _⟩
    ·clear hE hD hxb
     go_quiet (fail)
     go_wp2
     go_meet
     exact ⟨rfl,(Ext.refl _).drewN _⟩
   case rest =>
    obtain ⟨rfl,hEx⟩:=hcut
    go_upto_region 4 with fail
    have hDc:=HK.out.2.1.ext hEx
    have hxc:=HK.out.2.2.1.ext hEx
    have hsl:=hDc.own.hands.slr
    obtain ⟨qA,hqA⟩ : ∃ qA,(if hc=k then HA else HA.map (fun a=>a.add (k * 3)))=qA:=⟨_,rfl⟩
    have hsl2 : SlR wc qA (m.hands.length - k) 3 (fun j=>handV m.hands (k * 3 + j)):=by
     rw [← hqA]
     exact hsl.cut (a:=k) (b:=m.hands.length) (c:=hc) hk (Nat.le_refl _) hhc _ (fun j=>rfl)
    have HQ:=Lib.hid (And.intro hsl hsl2)
    have HC:=Lib.hid (And.intro hDc (And.intro (hDc.blk.cell (i:=2) (v:=.slice HA m.hands.length hc) rfl) (And.intro (hxc.cell (i:=0) (v:=.int .i64 x.t) rfl) (And.intro (hxc.cell (i:=1) (v:=.int .i64 x.at_) rfl) (hxc.cell (i:=2) (v:=.int .i64 x.n) rfl)))))
    have HEx:=Lib.hid hEx
    have q2 : (k : Int)≤(m.hands.length : Int):=by omega
    have q3 : (k : Int)≤(hc : Int):=by omega
    have hx0 : ∀ a : Addr,a.add 0=a:=fun a=>rfl
    have hm0 : HA.map (fun a=>a.add 0)=HA:=by cases HA <;> rfl
    clear hDc hxc hsl hsl2 hEx x2 b1 hE hD hxb hcs
    go_upto_region 4 with fail
    refine wp_region_inv (fun L a w'=>∃ u27 u28 u29 u30 u31 u32 u33 u34 u35 u36 u37 u38 u39 u40 u41 u42 u43 u44 u45 u46 u47,a=⟨#[.pointer (some ⟨d,0,none⟩),.agg #[.int .i64 x.t,.int .i64 x.at_,.int .i64 x.n],undef,.pointer (some ⟨w.heap.size,0,none⟩),.int .i64 (k : Int),u5,u6,u7,u8,u9,u10,u11,u12,u13,u14,u15,u16,u17,u18,u19,u20,u21,u22,u23,.bool false,u25,u26,u27,u28,u29,u30,u31,u32,u33,u34,u35,u36,u37,u38,u39,u40,u41,u42,u43,u44,u45,u46,u47],[]⟩∧GiveI m x k d hc HA qA wc L u27 u28 u29 u30 u31 u32 u33 u34 u35 u36 u37 u38 u39 u40 u41 u42 u43 u44 u45 u46 u47 w') rfl (by kernel_rfl) ?h0 ?hstep ?hend
    case h0 =>
     refine ⟨undef,undef,undef,undef,undef,undef,undef,undef,undef,undef,undef,undef,undef,undef,undef,undef,undef,undef,undef,undef,undef,rfl,?_⟩
     constructor
     case ext=>exact fun _=>(Ext.refl wc).drew
     all_goals exact fun h=>(by cases h)
    case hstep =>
     intro L a w' i o ho hL hdep hI
     obtain ⟨u27,u28,u29,u30,u31,u32,u33,u34,u35,u36,u37,u38,u39,u40,u41,u42,u43,u44,u45,u46,u47,rfl,I⟩:=hI
     rcases i with _ | _ | _ | _ | _ | _ | _ | _ | _ | _ | _ | _ | _ | _ | _ | _ | _ | _ | _ | _ | _ | _ | i
     ·cases ho
      have h21 : L 21=false:=Bool.eq_false_iff.2 fun h=>notL hL (I.z4 h 0 (by omega))
      have hX:=I.ext h21
      go_wp2
      refine ⟨fun _=>⟨_,u28,u29,u30,u31,u32,u33,u34,u35,u36,u37,u38,u39,u40,u41,u42,u43,u44,u45,u46,u47,rfl,?_⟩,fun h=>absurd rfl h⟩
      constructor
      case s0=>exact fun _=>rfl
      case n1=>exact kF I.n1
      case s2=>exact kL I.s2
      case s3=>exact kL I.s3
      case s4=>exact kL I.s4
      case s5=>exact kL I.s5
      case s6=>exact kL I.s6
      case s7=>exact kL I.s7
      case n8=>exact kF I.n8
      case s9=>exact kL I.s9
      case n10=>exact kF I.n10
      case n11=>exact kF I.n11
      case s12=>exact kL I.s12
      case s13=>exact kL I.s13
      case s14=>exact kL I.s14
      case s15=>exact kL I.s15
      case s16=>exact kL I.s16
      case s17=>exact kL I.s17
      case n18=>exact kF I.n18
      case s19=>exact kL I.s19
      case s20=>exact kL I.s20
      case ne0=>exact k4 I.ne0
      case ne1=>exact k3 I.ne1
      case z1=>exact kZ I.z1
      case z2=>exact kB I.z2
      case z3=>exact kZ I.z3
      case z5=>exact kZ I.z5
      case z4=>exact kA I.z4
      case ext=>exact fun _=>hX
      case fin=>exact fun h=>notL hL (I.z4 (keepL h (by decide)) 0 (by omega))
     ·cases ho
      have h21 : L 21=false:=Bool.eq_false_iff.2 fun h=>notL hL (I.z4 h 1 (by omega))
      have hX:=I.ext h21
      have hE2 : Ext w' (w'.alloc (.cells #[] 56)):=(Ext.refl w').alloc _
      have hn0 : L 10=true→L 11=false→(Value.slice (some ⟨w'.heap.size,0,none⟩) 0 0).ownBlock≠u37.ownBlock:=fun h h2=>by
       obtain ⟨g,e,hb⟩:=I.n10 h h2
       have:=hb.lt
       rw [e]
       intro h3
       have h4 : some w'.heap.size=some g:=h3
       injection h4 with h4
       omega
      go_wp2
      refine ⟨fun _=>⟨u27,_,u29,u30,u31,u32,u33,u34,u35,u36,u37,u38,u39,u40,u41,u42,u43,u44,u45,u46,u47,rfl,?_⟩,fun h=>absurd rfl h⟩
      constructor
      case s0=>exact kL I.s0
      case n1=>exact fun _ _=>⟨_,_,rfl,(OwnS.lit0 w' 56 3 (handV (cutIn m.hands k k [x]))).mono hX.size⟩
      case s2=>exact kL I.s2
      case s3=>exact kL I.s3
      case s4=>exact kL I.s4
      case s5=>exact kL I.s5
      case s6=>exact kL I.s6
      case s7=>exact kL I.s7
      case n8 =>
       intro h h2
       obtain ⟨A,c,e,hO⟩:=I.n8 (keepL h (by decide)) (keepF h2 (by decide))
       exact ⟨A,c,e,hO.ext hE2⟩
      case s9=>exact kL I.s9
      case n10 =>
       intro h h2
       obtain ⟨g,e,hb⟩:=I.n10 (keepL h (by decide)) (keepF h2 (by decide))
       exact ⟨g,e,hb.ext hE2⟩
      case n11 =>
       intro h h2
       obtain ⟨A,c,e,hO⟩:=I.n11 (keepL h (by decide)) (keepF h2 (by decide))
       exact ⟨A,c,e,hO.ext hE2⟩
      case s12=>exact kL I.s12
      case s13=>exact kL I.s13
      case s14=>exact kL I.s14
      case s15=>exact kL I.s15
      case s16=>exact kL I.s16
      case s17=>exact kL I.s17
      case n18 =>
       intro h h2
       obtain ⟨A,c,e,hO⟩:=I.n18 (keepL h (by decide)) (keepF h2 (by decide))
       exact ⟨A,c,e,hO.ext hE2⟩
      case s19=>exact kL I.s19
      case s20=>exact kL I.s20
      case ne0=>exact fun h h2 _ _=>hn0 (keepL h (by decide)) (keepF h2 (by decide))
      case ne1=>exact k3 I.ne1
      case z1=>exact kZ I.z1
      case z2=>exact kB I.z2
      case z3=>exact kZ I.z3
      case z5=>exact kZ I.z5
      case z4=>exact kA I.z4
      case ext=>exact fun _=>hX.trans hE2
      case fin=>exact fun h=>notL hL (I.z4 (keepL h (by decide)) 1 (by omega))
     ·cases ho
      have h21 : L 21=false:=Bool.eq_false_iff.2 fun h=>notL hL (I.z4 h 2 (by omega))
      have hX:=I.ext h21
      go_wp2
      refine ⟨fun _=>⟨u27,u28,_,u30,u31,u32,u33,u34,u35,u36,u37,u38,u39,u40,u41,u42,u43,u44,u45,u46,u47,rfl,?_⟩,fun h=>absurd rfl h⟩
      constructor
      case s0=>exact kL I.s0
      case n1=>exact kF I.n1
      case s2=>exact fun _=>rfl
      case s3=>exact kL I.s3
      case s4=>exact kL I.s4
      case s5=>exact kL I.s5
      case s6=>exact kL I.s6
      case s7=>exact kL I.s7
      case n8=>exact kF I.n8
      case s9=>exact kL I.s9
      case n10=>exact kF I.n10
      case n11=>exact kF I.n11
      case s12=>exact kL I.s12
      case s13=>exact kL I.s13
      case s14=>exact kL I.s14
      case s15=>exact kL I.s15
      case s16=>exact kL I.s16
      case s17=>exact kL I.s17
      case n18=>exact kF I.n18
      case s19=>exact kL I.s19
      case s20=>exact kL I.s20
      case ne0=>exact k4 I.ne0
      case ne1=>exact k3 I.ne1
      case z1=>exact kZ I.z1
      case z2=>exact kB I.z2
      case z3=>exact kZ I.z3
      case z5=>exact kZ I.z5
      case z4=>exact kA I.z4
      case ext=>exact fun _=>hX
      case fin=>exact fun h=>notL hL (I.z4 (keepL h (by decide)) 2 (by omega))
     ·cases ho
      have h21 : L 21=false:=Bool.eq_false_iff.2 fun h=>notL hL (I.z4 h 3 (by omega))
      have hX:=I.ext h21
      have e2:=I.s2 (hdep ⟨2,.data⟩ (by simp) rfl)
      subst e2
      go_wp2
      refine ⟨fun _=>⟨u27,u28,_,_,u31,u32,u33,u34,u35,u36,u37,u38,u39,u40,u41,u42,u43,u44,u45,u46,u47,rfl,?_⟩,fun h=>absurd rfl h⟩
      constructor
      case s0=>exact kL I.s0
      case n1=>exact kF I.n1
      case s2=>exact kL I.s2
      case s3=>exact fun _=>rfl
      case s4=>exact kL I.s4
      case s5=>exact kL I.s5
      case s6=>exact kL I.s6
      case s7=>exact kL I.s7
      case n8=>exact kF I.n8
      case s9=>exact kL I.s9
      case n10=>exact kF I.n10
      case n11=>exact kF I.n11
      case s12=>exact kL I.s12
      case s13=>exact kL I.s13
      case s14=>exact kL I.s14
      case s15=>exact kL I.s15
      case s16=>exact kL I.s16
      case s17=>exact kL I.s17
      case n18=>exact kF I.n18
      case s19=>exact kL I.s19
      case s20=>exact kL I.s20
      case ne0=>exact k4 I.ne0
      case ne1=>exact k3 I.ne1
      case z1=>exact kZ I.z1
      case z2=>exact kB I.z2
      case z3=>exact kZ I.z3
      case z5=>exact kZ I.z5
      case z4=>exact kA I.z4
      case ext=>exact fun _=>hX
      case fin=>exact fun h=>notL hL (I.z4 (keepL h (by decide)) 3 (by omega))
     ·cases ho
      have h21 : L 21=false:=Bool.eq_false_iff.2 fun h=>notL hL (I.z4 h 4 (by omega))
      have hX:=I.ext h21
      have e3:=I.s3 (hdep ⟨3,.data⟩ (by simp) rfl)
      subst e3
      go_wp2
      refine ⟨fun _=>⟨u27,u28,u29,_,_,u32,u33,u34,u35,u36,u37,u38,u39,u40,u41,u42,u43,u44,u45,u46,u47,rfl,?_⟩,fun h=>absurd rfl h⟩
      constructor
      case s0=>exact kL I.s0
      case n1=>exact kF I.n1
      case s2=>exact kL I.s2
      case s3=>exact kL I.s3
      case s4=>exact fun _=>rfl
      case s5=>exact kL I.s5
      case s6=>exact kL I.s6
      case s7=>exact kL I.s7
      case n8=>exact kF I.n8
      case s9=>exact kL I.s9
      case n10=>exact kF I.n10
      case n11=>exact kF I.n11
      case s12=>exact kL I.s12
      case s13=>exact kL I.s13
      case s14=>exact kL I.s14
      case s15=>exact kL I.s15
      case s16=>exact kL I.s16
      case s17=>exact kL I.s17
      case n18=>exact kF I.n18
      case s19=>exact kL I.s19
      case s20=>exact kL I.s20
      case ne0=>exact k4 I.ne0
      case ne1=>exact k3 I.ne1
      case z1=>exact kZ I.z1
      case z2=>exact kB I.z2
      case z3=>exact kZ I.z3
      case z5=>exact kZ I.z5
      case z4=>exact kA I.z4
      case ext=>exact fun _=>hX
      case fin=>exact fun h=>notL hL (I.z4 (keepL h (by decide)) 4 (by omega))
     ·cases ho
      have h21 : L 21=false:=Bool.eq_false_iff.2 fun h=>notL hL (I.z4 h 5 (by omega))
      have hX:=I.ext h21
      have e4:=I.s4 (hdep ⟨4,.data⟩ (by simp) rfl)
      subst e4
      have hc2:=hX.cell HC.out.2.1
      go_wp2
      refine ⟨fun _=>⟨u27,u28,u29,u30,_,_,u33,u34,u35,u36,u37,u38,u39,u40,u41,u42,u43,u44,u45,u46,u47,rfl,?_⟩,fun h=>absurd rfl h⟩
      constructor
      case s0=>exact kL I.s0
      case n1=>exact kF I.n1
      case s2=>exact kL I.s2
      case s3=>exact kL I.s3
      case s4=>exact kL I.s4
      case s5=>exact fun _=>rfl
      case s6=>exact kL I.s6
      case s7=>exact kL I.s7
      case n8=>exact kF I.n8
      case s9=>exact kL I.s9
      case n10=>exact kF I.n10
      case n11=>exact kF I.n11
      case s12=>exact kL I.s12
      case s13=>exact kL I.s13
      case s14=>exact kL I.s14
      case s15=>exact kL I.s15
      case s16=>exact kL I.s16
      case s17=>exact kL I.s17
      case n18=>exact kF I.n18
      case s19=>exact kL I.s19
      case s20=>exact kL I.s20
      case ne0=>exact k4 I.ne0
      case ne1=>exact k3 I.ne1
      case z1=>exact kZ I.z1
      case z2=>exact kB I.z2
      case z3=>exact kZ I.z3
      case z5=>exact kZ I.z5
      case z4=>exact kA I.z4
      case ext=>exact fun _=>hX
      case fin=>exact fun h=>notL hL (I.z4 (keepL h (by decide)) 5 (by omega))
     ·cases ho
      have h21 : L 21=false:=Bool.eq_false_iff.2 fun h=>notL hL (I.z4 h 6 (by omega))
      have hX:=I.ext h21
      go_wp2
      refine ⟨fun _=>⟨u27,u28,u29,u30,u31,u32,_,u34,u35,u36,u37,u38,u39,u40,u41,u42,u43,u44,u45,u46,u47,rfl,?_⟩,fun h=>absurd rfl h⟩
      constructor
      case s0=>exact kL I.s0
      case n1=>exact kF I.n1
      case s2=>exact kL I.s2
      case s3=>exact kL I.s3
      case s4=>exact kL I.s4
      case s5=>exact kL I.s5
      case s6=>exact fun _=>rfl
      case s7=>exact kL I.s7
      case n8=>exact kF I.n8
      case s9=>exact kL I.s9
      case n10=>exact kF I.n10
      case n11=>exact kF I.n11
      case s12=>exact kL I.s12
      case s13=>exact kL I.s13
      case s14=>exact kL I.s14
      case s15=>exact kL I.s15
      case s16=>exact kL I.s16
      case s17=>exact kL I.s17
      case n18=>exact kF I.n18
      case s19=>exact kL I.s19
      case s20=>exact kL I.s20
      case ne0=>exact k4 I.ne0
      case ne1=>exact k3 I.ne1
      case z1=>exact kZ I.z1
      case z2=>exact kB I.z2
      case z3=>exact kZ I.z3
      case z5=>exact kZ I.z5
      case z4=>exact kA I.z4
      case ext=>exact fun _=>hX
      case fin=>exact fun h=>notL hL (I.z4 (keepL h (by decide)) 6 (by omega))
     ·cases ho
      have h21 : L 21=false:=Bool.eq_false_iff.2 fun h=>notL hL (I.z4 h 7 (by omega))
      have hX:=I.ext h21
      have e5:=I.s5 (hdep ⟨5,.data⟩ (by simp) rfl)
      have e6:=I.s6 (hdep ⟨6,.data⟩ (by simp) rfl)
      subst e5 e6
      go_wp2
      refine ⟨fun _=>⟨u27,u28,u29,u30,u31,_,_,_,u35,u36,u37,u38,u39,u40,u41,u42,u43,u44,u45,u46,u47,rfl,?_⟩,fun h=>absurd rfl h⟩
      constructor
      case s0=>exact kL I.s0
      case n1=>exact kF I.n1
      case s2=>exact kL I.s2
      case s3=>exact kL I.s3
      case s4=>exact kL I.s4
      case s5=>exact kL I.s5
      case s6=>exact kL I.s6
      case s7=>exact fun _=>rfl
      case n8=>exact kF I.n8
      case s9=>exact kL I.s9
      case n10=>exact kF I.n10
      case n11=>exact kF I.n11
      case s12=>exact kL I.s12
      case s13=>exact kL I.s13
      case s14=>exact kL I.s14
      case s15=>exact kL I.s15
      case s16=>exact kL I.s16
      case s17=>exact kL I.s17
      case n18=>exact kF I.n18
      case s19=>exact kL I.s19
      case s20=>exact kL I.s20
      case ne0=>exact k4 I.ne0
      case ne1=>exact k3 I.ne1
      case z1=>exact kZ I.z1
      case z2=>exact kB I.z2
      case z3=>exact kZ I.z3
      case z5=>exact kZ I.z5
      case z4=>exact kA I.z4
      case ext=>exact fun _=>hX
      case fin=>exact fun h=>notL hL (I.z4 (keepL h (by decide)) 7 (by omega))
     ·cases ho
      have h21 : L 21=false:=Bool.eq_false_iff.2 fun h=>notL hL (I.z4 h 8 (by omega))
      have hX:=I.ext h21
      have hd : L 1=true:=hdep ⟨1,.data⟩ (by simp) rfl
      obtain ⟨A0,c0,ee,hO0⟩:=I.n1 hd hL
      have ne0:=I.ne0
      have e7:=I.s7 (hdep ⟨7,.data⟩ (by simp) rfl)
      have hne0:=fun h1 h2=>I.ne0 h1 h2 hd hL
      subst ee e7
      refine wpList_pushAll rfl _ _ 26 rfl wc.heap.size 56 i0 (.agg #[.int .i64 0,.int .i64 0,.int .i64 0]) 3 24 Tryz.underlying26 HI.out.1 HI.out.2.1 HI.out.2.2.1 HI.out.2.2.2 rfl (by decide) _ 0 (handV (cutIn m.hands k k [x])) rfl hO0 HA k hc (handV m.hands) rfl ((HQ.out.1.upto (by omega)).ext hX) (fun j _=>handV_one _ _) ?b63 ?bby ?bba (handV (cutIn m.hands k k [x])) (fun j _=>rfl) (fun j hj=>by rw [Nat.zero_mul,Nat.zero_add]; exact rowV_lo (C:=handX) (d:=noHand) (sz:=3) (by omega) j hj) k (by omega) ?_
      case b63=>unfold maxLen; omega
      case bby=>omega
      case bba=>exact hX.size
      intro A' c' w2 hO2 hg2 hX2 hb2
      replace hX2:=hX2 _ hX (Nat.le_refl _)
      have hn1 : L 10=true→L 11=false→(Value.slice A' k c').ownBlock≠u37.ownBlock:=fun h h2=>by
       obtain ⟨g,e,hb⟩:=I.n10 h h2
       rcases hb2 with h3 | h3
       ·rw [h3]; exact hne0 h h2
       ·rw [h3,e]
        intro h5
        have h4 : some w'.heap.size=some g:=h5
        injection h4 with h4
        have:=hb.lt
        omega
      go_wp2
      refine ⟨fun _=>⟨u27,_,u29,u30,u31,u32,u33,_,_,u36,u37,u38,u39,u40,u41,u42,u43,u44,u45,u46,u47,rfl,?_⟩,fun h=>absurd rfl h⟩
      constructor
      case s0=>exact kL I.s0
      case n1=>exact fun _ h=>setL_no h
      case s2=>exact kL I.s2
      case s3=>exact kL I.s3
      case s4=>exact kL I.s4
      case s5=>exact kL I.s5
      case s6=>exact kL I.s6
      case s7=>exact kL I.s7
      case n8=>exact fun _ _=>⟨A',c',rfl,hO2⟩
      case s9=>exact kL I.s9
      case n10 =>
       intro h h2
       obtain ⟨g,e,hb⟩:=I.n10 (keepL h (by decide)) (keepF h2 (by decide))
       have hne:=I.ne0 (keepL h (by decide)) (keepF h2 (by decide)) hd hL
       rw [e] at hne
       exact ⟨g,e,hb.grown hg2 (fun h=>hne h.symm)⟩
      case n11=>exact fun h _=>notL hL ((I.z2 (keepL h (by decide))).1)
      case s12=>exact kL I.s12
      case s13=>exact kL I.s13
      case s14=>exact kL I.s14
      case s15=>exact kL I.s15
      case s16=>exact kL I.s16
      case s17=>exact kL I.s17
      case n18=>exact fun h _=>notL hL ((I.z2 (I.z3 (keepL h (by decide)))).1)
      case s19=>exact kL I.s19
      case s20=>exact kL I.s20
      case ne0=>exact fun _ _ _ h=>setL_no h
      case ne1=>exact fun h h2 _=>hn1 (keepL h (by decide)) (keepF h2 (by decide))
      case z1=>exact fun _=>setL_le hd
      case z2=>exact kB I.z2
      case z3=>exact kZ I.z3
      case z5=>exact kZ I.z5
      case z4=>exact kA I.z4
      case ext=>exact fun _=>hX2
      case fin=>exact fun h=>notL hL (I.z4 (keepL h (by decide)) 8 (by omega))
     ·cases ho
      have h21 : L 21=false:=Bool.eq_false_iff.2 fun h=>notL hL (I.z4 h 9 (by omega))
      have hX:=I.ext h21
      have y0:=hX.cell HC.out.2.2.1
      have y1:=hX.cell HC.out.2.2.2.1
      have y2:=hX.cell HC.out.2.2.2.2
      go_wp2
      refine ⟨fun _=>⟨u27,u28,u29,u30,u31,u32,u33,u34,u35,_,u37,u38,u39,u40,u41,u42,u43,u44,u45,u46,u47,rfl,?_⟩,fun h=>absurd rfl h⟩
      constructor
      case s0=>exact kL I.s0
      case n1=>exact kF I.n1
      case s2=>exact kL I.s2
      case s3=>exact kL I.s3
      case s4=>exact kL I.s4
      case s5=>exact kL I.s5
      case s6=>exact kL I.s6
      case s7=>exact kL I.s7
      case n8=>exact kF I.n8
      case s9=>exact fun _=>rfl
      case n10=>exact kF I.n10
      case n11=>exact kF I.n11
      case s12=>exact kL I.s12
      case s13=>exact kL I.s13
      case s14=>exact kL I.s14
      case s15=>exact kL I.s15
      case s16=>exact kL I.s16
      case s17=>exact kL I.s17
      case n18=>exact kF I.n18
      case s19=>exact kL I.s19
      case s20=>exact kL I.s20
      case ne0=>exact k4 I.ne0
      case ne1=>exact k3 I.ne1
      case z1=>exact kZ I.z1
      case z2=>exact kB I.z2
      case z3=>exact kZ I.z3
      case z5=>exact kZ I.z5
      case z4=>exact kA I.z4
      case ext=>exact fun _=>hX
      case fin=>exact fun h=>notL hL (I.z4 (keepL h (by decide)) 9 (by omega))
     ·cases ho
      have h21 : L 21=false:=Bool.eq_false_iff.2 fun h=>notL hL (I.z4 h 10 (by omega))
      have hX:=I.ext h21
      have e9:=I.s9 (hdep ⟨9,.data⟩ (by simp) rfl)
      subst e9
      have hE2 : Ext w' (w'.alloc (.cells #[.int .i64 x.t,.int .i64 x.at_,.int .i64 x.n] 56)):=(Ext.refl w').alloc _
      have hn0 : L 1=true→L 8=false→u28.ownBlock≠(Value.slice (some ⟨w'.heap.size,0,none⟩) 1 1).ownBlock:=fun h h2=>by
       obtain ⟨A,c,e,hO⟩:=I.n1 h h2
       rw [e]
       intro h3
       have:=(World.ownsRow.lt hO w'.heap.size (by rw [h3]; rfl)).2
       omega
      have hn1 : L 8=true→L 11=false→u35.ownBlock≠(Value.slice (some ⟨w'.heap.size,0,none⟩) 1 1).ownBlock:=fun h h2=>by
       obtain ⟨A,c,e,hO⟩:=I.n8 h h2
       rw [e]
       intro h3
       have:=(World.ownsRow.lt hO w'.heap.size (by rw [h3]; rfl)).2
       omega
      go_wp2
      refine ⟨fun _=>⟨u27,u28,u29,u30,u31,u32,u33,u34,u35,_,_,u38,u39,u40,u41,u42,u43,u44,u45,u46,u47,rfl,?_⟩,fun h=>absurd rfl h⟩
      constructor
      case s0=>exact kL I.s0
      case n1 =>
       intro h h2
       obtain ⟨A,c,e,hO⟩:=I.n1 (keepL h (by decide)) (keepF h2 (by decide))
       exact ⟨A,c,e,hO.ext hE2⟩
      case s2=>exact kL I.s2
      case s3=>exact kL I.s3
      case s4=>exact kL I.s4
      case s5=>exact kL I.s5
      case s6=>exact kL I.s6
      case s7=>exact kL I.s7
      case n8 =>
       intro h h2
       obtain ⟨A,c,e,hO⟩:=I.n8 (keepL h (by decide)) (keepF h2 (by decide))
       exact ⟨A,c,e,hO.ext hE2⟩
      case s9=>exact kL I.s9
      case n10=>exact fun _ _=>⟨_,rfl,Blk.new _ _ _ _ rfl⟩
      case n11 =>
       intro h h2
       obtain ⟨A,c,e,hO⟩:=I.n11 (keepL h (by decide)) (keepF h2 (by decide))
       exact ⟨A,c,e,hO.ext hE2⟩
      case s12=>exact kL I.s12
      case s13=>exact kL I.s13
      case s14=>exact kL I.s14
      case s15=>exact kL I.s15
      case s16=>exact kL I.s16
      case s17=>exact kL I.s17
      case n18 =>
       intro h h2
       obtain ⟨A,c,e,hO⟩:=I.n18 (keepL h (by decide)) (keepF h2 (by decide))
       exact ⟨A,c,e,hO.ext hE2⟩
      case s19=>exact kL I.s19
      case s20=>exact kL I.s20
      case ne0=>exact fun _ _ h h2=>hn0 (keepL h (by decide)) (keepF h2 (by decide))
      case ne1=>exact fun _ h h2=>hn1 (keepL h2 (by decide)) (keepF h (by decide))
      case z1=>exact kZ I.z1
      case z2=>exact kB I.z2
      case z3=>exact kZ I.z3
      case z5=>exact kZ I.z5
      case z4=>exact kA I.z4
      case ext=>exact fun _=>hX.trans hE2
      case fin=>exact fun h=>notL hL (I.z4 (keepL h (by decide)) 10 (by omega))
     ·cases ho
      have h21 : L 21=false:=Bool.eq_false_iff.2 fun h=>notL hL (I.z4 h 11 (by omega))
      have hX:=I.ext h21
      have hd : L 8=true:=hdep ⟨8,.data⟩ (by simp) rfl
      have hd2 : L 10=true:=hdep ⟨10,.data⟩ (by simp) rfl
      obtain ⟨A0,c0,ee,hO0⟩:=I.n8 hd hL
      obtain ⟨gB,eB,hB⟩:=I.n10 hd2 hL
      subst ee eB
      refine wpList_pushAll rfl _ _ 26 rfl wc.heap.size 56 i0 (.agg #[.int .i64 0,.int .i64 0,.int .i64 0]) 3 24 Tryz.underlying26 HI.out.1 HI.out.2.1 HI.out.2.2.1 HI.out.2.2.2 rfl (by decide) _ k (handV (cutIn m.hands k k [x])) rfl hO0 (some ⟨gB,0,none⟩) 1 1 (handX x) rfl (slr_blk3 hB) (fun j _=>by unfold handX; split; rfl; split <;> rfl) ?b63 ?bby ?bba (handV (cutIn m.hands k k [x])) (fun j _=>rfl) (fun j hj=>(rowV_mid (C:=handX) (d:=noHand) (sz:=3) (vs:=[x]) (by decide) (by omega) j hj).trans (by unfold rowV; obtain rfl | rfl | rfl : j=0∨j=1∨j=2:=(by have : j < 1 * 3:=hj; omega) <;> rfl)) (k + 1) (by omega) ?_
      case b63=>unfold maxLen; omega
      case bby=>omega
      case bba=>exact hX.size
      intro A' c' w2 hO2 hg2 hX2 hb2
      replace hX2:=hX2 _ hX (Nat.le_refl _)
      go_wp2
      refine ⟨fun _=>⟨u27,u28,u29,u30,u31,u32,u33,u34,_,u36,_,_,u39,u40,u41,u42,u43,u44,u45,u46,u47,rfl,?_⟩,fun h=>absurd rfl h⟩
      constructor
      case s0=>exact kL I.s0
      case n1=>exact fun _ h=>absurd (keepF h (by decide)) (by rw [hd]; decide)
      case s2=>exact kL I.s2
      case s3=>exact kL I.s3
      case s4=>exact kL I.s4
      case s5=>exact kL I.s5
      case s6=>exact kL I.s6
      case s7=>exact kL I.s7
      case n8=>exact fun _ h=>setL_no h
      case s9=>exact kL I.s9
      case n10=>exact fun _ h=>setL_no h
      case n11=>exact fun _ _=>⟨A',c',rfl,hO2⟩
      case s12=>exact kL I.s12
      case s13=>exact kL I.s13
      case s14=>exact kL I.s14
      case s15=>exact kL I.s15
      case s16=>exact kL I.s16
      case s17=>exact kL I.s17
      case n18=>exact fun h _=>notL hL (I.z3 (keepL h (by decide)))
      case s19=>exact kL I.s19
      case s20=>exact kL I.s20
      case ne0=>exact fun _ h=>setL_no h
      case ne1=>exact fun _ h=>setL_no h
      case z1=>exact kZ I.z1
      case z2=>exact fun _=>⟨setL_le hd,setL_le hd2⟩
      case z3=>exact kZ I.z3
      case z5=>exact kZ I.z5
      case z4=>exact kA I.z4
      case ext=>exact fun _=>hX2
      case fin=>exact fun h=>notL hL (I.z4 (keepL h (by decide)) 11 (by omega))
     ·cases ho
      have h21 : L 21=false:=Bool.eq_false_iff.2 fun h=>notL hL (I.z4 h 12 (by omega))
      have hX:=I.ext h21
      go_wp2
      refine ⟨fun _=>⟨u27,u28,u29,u30,u31,u32,u33,u34,u35,u36,u37,u38,_,u40,u41,u42,u43,u44,u45,u46,u47,rfl,?_⟩,fun h=>absurd rfl h⟩
      constructor
      case s0=>exact kL I.s0
      case n1=>exact kF I.n1
      case s2=>exact kL I.s2
      case s3=>exact kL I.s3
      case s4=>exact kL I.s4
      case s5=>exact kL I.s5
      case s6=>exact kL I.s6
      case s7=>exact kL I.s7
      case n8=>exact kF I.n8
      case s9=>exact kL I.s9
      case n10=>exact kF I.n10
      case n11=>exact kF I.n11
      case s12=>exact fun _=>rfl
      case s13=>exact kL I.s13
      case s14=>exact kL I.s14
      case s15=>exact kL I.s15
      case s16=>exact kL I.s16
      case s17=>exact kL I.s17
      case n18=>exact kF I.n18
      case s19=>exact kL I.s19
      case s20=>exact kL I.s20
      case ne0=>exact k4 I.ne0
      case ne1=>exact k3 I.ne1
      case z1=>exact kZ I.z1
      case z2=>exact kB I.z2
      case z3=>exact kZ I.z3
      case z5=>exact kZ I.z5
      case z4=>exact kA I.z4
      case ext=>exact fun _=>hX
      case fin=>exact fun h=>notL hL (I.z4 (keepL h (by decide)) 12 (by omega))
     ·cases ho
      have h21 : L 21=false:=Bool.eq_false_iff.2 fun h=>notL hL (I.z4 h 13 (by omega))
      have hX:=I.ext h21
      have e12:=I.s12 (hdep ⟨12,.data⟩ (by simp) rfl)
      subst e12
      go_wp2
      refine ⟨fun _=>⟨u27,u28,u29,u30,u31,u32,u33,u34,u35,u36,u37,u38,_,_,u41,u42,u43,u44,u45,u46,u47,rfl,?_⟩,fun h=>absurd rfl h⟩
      constructor
      case s0=>exact kL I.s0
      case n1=>exact kF I.n1
      case s2=>exact kL I.s2
      case s3=>exact kL I.s3
      case s4=>exact kL I.s4
      case s5=>exact kL I.s5
      case s6=>exact kL I.s6
      case s7=>exact kL I.s7
      case n8=>exact kF I.n8
      case s9=>exact kL I.s9
      case n10=>exact kF I.n10
      case n11=>exact kF I.n11
      case s12=>exact kL I.s12
      case s13=>exact fun _=>rfl
      case s14=>exact kL I.s14
      case s15=>exact kL I.s15
      case s16=>exact kL I.s16
      case s17=>exact kL I.s17
      case n18=>exact kF I.n18
      case s19=>exact kL I.s19
      case s20=>exact kL I.s20
      case ne0=>exact k4 I.ne0
      case ne1=>exact k3 I.ne1
      case z1=>exact kZ I.z1
      case z2=>exact kB I.z2
      case z3=>exact kZ I.z3
      case z5=>exact kZ I.z5
      case z4=>exact kA I.z4
      case ext=>exact fun _=>hX
      case fin=>exact fun h=>notL hL (I.z4 (keepL h (by decide)) 13 (by omega))
     ·cases ho
      have h21 : L 21=false:=Bool.eq_false_iff.2 fun h=>notL hL (I.z4 h 14 (by omega))
      have hX:=I.ext h21
      have e13:=I.s13 (hdep ⟨13,.data⟩ (by simp) rfl)
      subst e13
      go_wp2
      refine ⟨fun _=>⟨u27,u28,u29,u30,u31,u32,u33,u34,u35,u36,u37,u38,u39,_,_,u42,u43,u44,u45,u46,u47,rfl,?_⟩,fun h=>absurd rfl h⟩
      constructor
      case s0=>exact kL I.s0
      case n1=>exact kF I.n1
      case s2=>exact kL I.s2
      case s3=>exact kL I.s3
      case s4=>exact kL I.s4
      case s5=>exact kL I.s5
      case s6=>exact kL I.s6
      case s7=>exact kL I.s7
      case n8=>exact kF I.n8
      case s9=>exact kL I.s9
      case n10=>exact kF I.n10
      case n11=>exact kF I.n11
      case s12=>exact kL I.s12
      case s13=>exact kL I.s13
      case s14=>exact fun _=>rfl
      case s15=>exact kL I.s15
      case s16=>exact kL I.s16
      case s17=>exact kL I.s17
      case n18=>exact kF I.n18
      case s19=>exact kL I.s19
      case s20=>exact kL I.s20
      case ne0=>exact k4 I.ne0
      case ne1=>exact k3 I.ne1
      case z1=>exact kZ I.z1
      case z2=>exact kB I.z2
      case z3=>exact kZ I.z3
      case z5=>exact kZ I.z5
      case z4=>exact kA I.z4
      case ext=>exact fun _=>hX
      case fin=>exact fun h=>notL hL (I.z4 (keepL h (by decide)) 14 (by omega))
     ·cases ho
      have h21 : L 21=false:=Bool.eq_false_iff.2 fun h=>notL hL (I.z4 h 15 (by omega))
      have hX:=I.ext h21
      have e14:=I.s14 (hdep ⟨14,.data⟩ (by simp) rfl)
      subst e14
      have hc2:=hX.cell HC.out.2.1
      go_wp2
      refine ⟨fun _=>⟨u27,u28,u29,u30,u31,u32,u33,u34,u35,u36,u37,u38,u39,u40,_,_,u43,u44,u45,u46,u47,rfl,?_⟩,fun h=>absurd rfl h⟩
      constructor
      case s0=>exact kL I.s0
      case n1=>exact kF I.n1
      case s2=>exact kL I.s2
      case s3=>exact kL I.s3
      case s4=>exact kL I.s4
      case s5=>exact kL I.s5
      case s6=>exact kL I.s6
      case s7=>exact kL I.s7
      case n8=>exact kF I.n8
      case s9=>exact kL I.s9
      case n10=>exact kF I.n10
      case n11=>exact kF I.n11
      case s12=>exact kL I.s12
      case s13=>exact kL I.s13
      case s14=>exact kL I.s14
      case s15=>exact fun _=>rfl
      case s16=>exact kL I.s16
      case s17=>exact kL I.s17
      case n18=>exact kF I.n18
      case s19=>exact kL I.s19
      case s20=>exact kL I.s20
      case ne0=>exact k4 I.ne0
      case ne1=>exact k3 I.ne1
      case z1=>exact kZ I.z1
      case z2=>exact kB I.z2
      case z3=>exact kZ I.z3
      case z5=>exact kZ I.z5
      case z4=>exact kA I.z4
      case ext=>exact fun _=>hX
      case fin=>exact fun h=>notL hL (I.z4 (keepL h (by decide)) 15 (by omega))
     ·cases ho
      have h21 : L 21=false:=Bool.eq_false_iff.2 fun h=>notL hL (I.z4 h 16 (by omega))
      have hX:=I.ext h21
      go_wp2
      refine ⟨fun _=>⟨u27,u28,u29,u30,u31,u32,u33,u34,u35,u36,u37,u38,u39,u40,u41,u42,_,u44,u45,u46,u47,rfl,?_⟩,fun h=>absurd rfl h⟩
      constructor
      case s0=>exact kL I.s0
      case n1=>exact kF I.n1
      case s2=>exact kL I.s2
      case s3=>exact kL I.s3
      case s4=>exact kL I.s4
      case s5=>exact kL I.s5
      case s6=>exact kL I.s6
      case s7=>exact kL I.s7
      case n8=>exact kF I.n8
      case s9=>exact kL I.s9
      case n10=>exact kF I.n10
      case n11=>exact kF I.n11
      case s12=>exact kL I.s12
      case s13=>exact kL I.s13
      case s14=>exact kL I.s14
      case s15=>exact kL I.s15
      case s16=>exact fun _=>rfl
      case s17=>exact kL I.s17
      case n18=>exact kF I.n18
      case s19=>exact kL I.s19
      case s20=>exact kL I.s20
      case ne0=>exact k4 I.ne0
      case ne1=>exact k3 I.ne1
      case z1=>exact kZ I.z1
      case z2=>exact kB I.z2
      case z3=>exact kZ I.z3
      case z5=>exact kZ I.z5
      case z4=>exact kA I.z4
      case ext=>exact fun _=>hX
      case fin=>exact fun h=>notL hL (I.z4 (keepL h (by decide)) 16 (by omega))
     ·cases ho
      have h21 : L 21=false:=Bool.eq_false_iff.2 fun h=>notL hL (I.z4 h 17 (by omega))
      have hX:=I.ext h21
      have e15:=I.s15 (hdep ⟨15,.data⟩ (by simp) rfl)
      have e16:=I.s16 (hdep ⟨16,.data⟩ (by simp) rfl)
      subst e15 e16
      go_wp2
      refine ⟨fun _=>⟨u27,u28,u29,u30,u31,u32,u33,u34,u35,u36,u37,u38,u39,u40,u41,_,_,_,u45,u46,u47,rfl,?_⟩,fun h=>absurd rfl h⟩
      constructor
      case s0=>exact kL I.s0
      case n1=>exact kF I.n1
      case s2=>exact kL I.s2
      case s3=>exact kL I.s3
      case s4=>exact kL I.s4
      case s5=>exact kL I.s5
      case s6=>exact kL I.s6
      case s7=>exact kL I.s7
      case n8=>exact kF I.n8
      case s9=>exact kL I.s9
      case n10=>exact kF I.n10
      case n11=>exact kF I.n11
      case s12=>exact kL I.s12
      case s13=>exact kL I.s13
      case s14=>exact kL I.s14
      case s15=>exact kL I.s15
      case s16=>exact kL I.s16
      case s17=>exact fun _=>rfl
      case n18=>exact kF I.n18
      case s19=>exact kL I.s19
      case s20=>exact kL I.s20
      case ne0=>exact k4 I.ne0
      case ne1=>exact k3 I.ne1
      case z1=>exact kZ I.z1
      case z2=>exact kB I.z2
      case z3=>exact kZ I.z3
      case z5=>exact kZ I.z5
      case z4=>exact kA I.z4
      case ext=>exact fun _=>hX
      case fin=>exact fun h=>notL hL (I.z4 (keepL h (by decide)) 17 (by omega))
     ·cases ho
      have h21 : L 21=false:=Bool.eq_false_iff.2 fun h=>notL hL (I.z4 h 18 (by omega))
      have hX:=I.ext h21
      have hd : L 11=true:=hdep ⟨11,.data⟩ (by simp) rfl
      obtain ⟨A0,c0,ee,hO0⟩:=I.n11 hd hL
      have e17:=I.s17 (hdep ⟨17,.data⟩ (by simp) rfl)
      subst ee e17
      refine wpList_pushAll rfl _ _ 26 rfl wc.heap.size 56 i0 (.agg #[.int .i64 0,.int .i64 0,.int .i64 0]) 3 24 Tryz.underlying26 HI.out.1 HI.out.2.1 HI.out.2.2.1 HI.out.2.2.2 rfl (by decide) _ (k + 1) (handV (cutIn m.hands k k [x])) rfl hO0 qA (m.hands.length - k) (hc - k) (fun j=>handV m.hands (k * 3 + j)) rfl (HQ.out.2.ext hX) (fun j _=>handV_one _ _) ?b63 ?bby ?bba (handV (cutIn m.hands k k [x])) (fun j _=>rfl) (fun j hj=>rowV_hi (C:=handX) (d:=noHand) (sz:=3) (vs:=[x]) (by decide) (by omega) j) (cutIn m.hands k k [x]).length (by rw [cutIn_length (by omega)]; simp only [List.length_cons,List.length_nil]; try omega) ?_
      case b63=>unfold maxLen; omega
      case bby=>omega
      case bba=>exact hX.size
      intro A' c' w2 hO2 hg2 hX2 hb2
      replace hX2:=hX2 _ hX (Nat.le_refl _)
      go_wp2
      refine ⟨fun _=>⟨u27,u28,u29,u30,u31,u32,u33,u34,u35,u36,u37,_,u39,u40,u41,u42,u43,_,_,u46,u47,rfl,?_⟩,fun h=>absurd rfl h⟩
      constructor
      case s0=>exact kL I.s0
      case n1=>exact fun _ h=>absurd (keepF h (by decide)) (by rw [(I.z2 hd).1]; decide)
      case s2=>exact kL I.s2
      case s3=>exact kL I.s3
      case s4=>exact kL I.s4
      case s5=>exact kL I.s5
      case s6=>exact kL I.s6
      case s7=>exact kL I.s7
      case n8=>exact fun _ h=>absurd (keepF h (by decide)) (by rw [hd]; decide)
      case s9=>exact kL I.s9
      case n10=>exact fun _ h2=>absurd (keepF h2 (by decide)) (by rw [hd]; decide)
      case n11=>exact fun _ h=>setL_no h
      case s12=>exact kL I.s12
      case s13=>exact kL I.s13
      case s14=>exact kL I.s14
      case s15=>exact kL I.s15
      case s16=>exact kL I.s16
      case s17=>exact kL I.s17
      case n18=>exact fun _ _=>⟨A',c',rfl,hO2⟩
      case s19=>exact kL I.s19
      case s20=>exact kL I.s20
      case ne0=>exact k4 I.ne0
      case ne1=>exact k3 I.ne1
      case z1=>exact kZ I.z1
      case z2=>exact kB I.z2
      case z3=>exact fun _=>setL_le hd
      case z5=>exact kZ I.z5
      case z4=>exact kA I.z4
      case ext=>exact fun _=>hX2
      case fin=>exact fun h=>notL hL (I.z4 (keepL h (by decide)) 18 (by omega))
     ·cases ho
      have h21 : L 21=false:=Bool.eq_false_iff.2 fun h=>notL hL (I.z4 h 19 (by omega))
      have hX:=I.ext h21
      have e0:=I.s0 (hdep ⟨0,.data⟩ (by simp) rfl)
      subst e0
      go_wp2
      refine ⟨fun _=>⟨_,u28,u29,u30,u31,u32,u33,u34,u35,u36,u37,u38,u39,u40,u41,u42,u43,u44,u45,_,u47,rfl,?_⟩,fun h=>absurd rfl h⟩
      constructor
      case s0=>exact kL I.s0
      case n1=>exact kF I.n1
      case s2=>exact kL I.s2
      case s3=>exact kL I.s3
      case s4=>exact kL I.s4
      case s5=>exact kL I.s5
      case s6=>exact kL I.s6
      case s7=>exact kL I.s7
      case n8=>exact kF I.n8
      case s9=>exact kL I.s9
      case n10=>exact kF I.n10
      case n11=>exact kF I.n11
      case s12=>exact kL I.s12
      case s13=>exact kL I.s13
      case s14=>exact kL I.s14
      case s15=>exact kL I.s15
      case s16=>exact kL I.s16
      case s17=>exact kL I.s17
      case n18=>exact kF I.n18
      case s19=>exact fun _=>rfl
      case s20=>exact kL I.s20
      case ne0=>exact k4 I.ne0
      case ne1=>exact k3 I.ne1
      case z1=>exact kZ I.z1
      case z2=>exact kB I.z2
      case z3=>exact kZ I.z3
      case z5=>exact kZ I.z5
      case z4=>exact kA I.z4
      case ext=>exact fun _=>hX
      case fin=>exact fun h=>notL hL (I.z4 (keepL h (by decide)) 19 (by omega))
     ·cases ho
      have h21 : L 21=false:=Bool.eq_false_iff.2 fun h=>notL hL (I.z4 h 20 (by omega))
      have hX:=I.ext h21
      have e19:=I.s19 (hdep ⟨19,.data⟩ (by simp) rfl)
      have hd : L 19=true:=hdep ⟨19,.data⟩ (by simp) rfl
      subst e19
      go_wp2
      refine ⟨fun _=>⟨u27,u28,u29,u30,u31,u32,u33,u34,u35,u36,u37,u38,u39,u40,u41,u42,u43,u44,u45,_,_,rfl,?_⟩,fun h=>absurd rfl h⟩
      constructor
      case s0=>exact kL I.s0
      case n1=>exact kF I.n1
      case s2=>exact kL I.s2
      case s3=>exact kL I.s3
      case s4=>exact kL I.s4
      case s5=>exact kL I.s5
      case s6=>exact kL I.s6
      case s7=>exact kL I.s7
      case n8=>exact kF I.n8
      case s9=>exact kL I.s9
      case n10=>exact kF I.n10
      case n11=>exact kF I.n11
      case s12=>exact kL I.s12
      case s13=>exact kL I.s13
      case s14=>exact kL I.s14
      case s15=>exact kL I.s15
      case s16=>exact kL I.s16
      case s17=>exact kL I.s17
      case n18=>exact kF I.n18
      case s19=>exact kL I.s19
      case s20=>exact fun _=>rfl
      case ne0=>exact k4 I.ne0
      case ne1=>exact k3 I.ne1
      case z1=>exact kZ I.z1
      case z2=>exact kB I.z2
      case z3=>exact kZ I.z3
      case z5=>exact fun _=>setL_le hd
      case z4=>exact kA I.z4
      case ext=>exact fun _=>hX
      case fin=>exact fun h=>notL hL (I.z4 (keepL h (by decide)) 20 (by omega))
     ·cases ho
      have hall : ∀ j,j < 21→L j=true:=by
       intro j hj
       have hj2 : j=0∨j=1∨j=2∨j=3∨j=4∨j=5∨j=6∨j=7∨j=8∨j=9∨j=10∨j=11∨j=12∨j=13∨j=14∨j=15∨j=16∨j=17∨j=18∨j=19∨j=20:=by omega
       rcases hj2 with rfl | rfl | rfl | rfl | rfl | rfl | rfl | rfl | rfl | rfl | rfl | rfl | rfl | rfl | rfl | rfl | rfl | rfl | rfl | rfl | rfl
       ·exact hdep ⟨0,.phase⟩ (by simp) rfl
       ·exact hdep ⟨1,.phase⟩ (by simp) rfl
       ·exact hdep ⟨2,.phase⟩ (by simp) rfl
       ·exact hdep ⟨3,.phase⟩ (by simp) rfl
       ·exact hdep ⟨4,.phase⟩ (by simp) rfl
       ·exact hdep ⟨5,.phase⟩ (by simp) rfl
       ·exact hdep ⟨6,.phase⟩ (by simp) rfl
       ·exact hdep ⟨7,.phase⟩ (by simp) rfl
       ·exact hdep ⟨8,.phase⟩ (by simp) rfl
       ·exact hdep ⟨9,.phase⟩ (by simp) rfl
       ·exact hdep ⟨10,.phase⟩ (by simp) rfl
       ·exact hdep ⟨11,.phase⟩ (by simp) rfl
       ·exact hdep ⟨12,.phase⟩ (by simp) rfl
       ·exact hdep ⟨13,.phase⟩ (by simp) rfl
       ·exact hdep ⟨14,.phase⟩ (by simp) rfl
       ·exact hdep ⟨15,.phase⟩ (by simp) rfl
       ·exact hdep ⟨16,.phase⟩ (by simp) rfl
       ·exact hdep ⟨17,.phase⟩ (by simp) rfl
       ·exact hdep ⟨18,.phase⟩ (by simp) rfl
       ·exact I.z5 (hdep ⟨20,.data⟩ (by simp) rfl)
       ·exact hdep ⟨20,.data⟩ (by simp) rfl
      have hX:=I.ext hL
      have e20:=I.s20 (hall 20 (by decide))
      obtain ⟨A0,c0,ee,hO0⟩:=I.n18 (hall 18 (by decide)) hL
      subst ee e20
      have hD5:=HC.out.1.ext hX
      have g2:=hD5.blk.cell (i:=2) (v:=.slice HA m.hands.length hc) rfl
      have gf:=hD5.blk.frozen 2
      have HS:=Lib.hid (And.intro hX hO0)
      clear hX hO0
      go_wp2
      refine ⟨fun _=>⟨u27,u28,u29,u30,u31,u32,u33,u34,u35,u36,u37,u38,u39,u40,u41,u42,u43,u44,_,u46,_,rfl,?_⟩,fun h=>absurd rfl h⟩
      constructor
      case s0=>exact kL I.s0
      case n1=>exact fun _ h=>absurd (keepF h (by decide)) (by rw [hall 8 (by decide)]; decide)
      case s2=>exact kL I.s2
      case s3=>exact kL I.s3
      case s4=>exact kL I.s4
      case s5=>exact kL I.s5
      case s6=>exact kL I.s6
      case s7=>exact kL I.s7
      case n8=>exact fun _ h=>absurd (keepF h (by decide)) (by rw [hall 11 (by decide)]; decide)
      case s9=>exact kL I.s9
      case n10=>exact fun _ h=>absurd (keepF h (by decide)) (by rw [hall 11 (by decide)]; decide)
      case n11=>exact fun _ h=>absurd (keepF h (by decide)) (by rw [hall 18 (by decide)]; decide)
      case s12=>exact kL I.s12
      case s13=>exact kL I.s13
      case s14=>exact kL I.s14
      case s15=>exact kL I.s15
      case s16=>exact kL I.s16
      case s17=>exact kL I.s17
      case n18=>exact fun _ h=>setL_no h
      case s19=>exact kL I.s19
      case s20=>exact kL I.s20
      case ne0=>exact fun _ h=>absurd (keepF h (by decide)) (by rw [hall 11 (by decide)]; decide)
      case ne1=>exact fun _ h=>absurd (keepF h (by decide)) (by rw [hall 11 (by decide)]; decide)
      case z1=>exact fun _=>setL_le (hall 1 (by decide))
      case z2=>exact fun _=>⟨setL_le (hall 8 (by decide)),setL_le (hall 10 (by decide))⟩
      case z3=>exact fun _=>setL_le (hall 11 (by decide))
      case z5=>exact fun _=>setL_le (hall 19 (by decide))
      case z4=>exact fun _ j hj=>setL_le (hall j hj)
      case ext=>exact fun h=>setL_no h
      case fin=>exact fun _=>⟨_,A0,c0,rfl,HS.out⟩
     ·simp at ho
    case hend =>
     intro L a w' hall hI
     obtain ⟨u27,u28,u29,u30,u31,u32,u33,u34,u35,u36,u37,u38,u39,u40,u41,u42,u43,u44,u45,u46,u47,rfl,I⟩:=hI
     obtain ⟨w5,A5,c5,rfl,hX5,hO5⟩:=I.fin (hall 21 (by decide))
     clear I
     have hExt:=(HW.out.2.1.trans (HK.out.1.trans HEx.out)).trans hX5
     have hfin:=(HC.out.1.ext hX5).setHands (cutIn m.hands k k [x]) (hO5.mono (Nat.le_trans hbase (HW.out.2.1.trans (HK.out.1.trans HEx.out)).size))
     have HF:=Lib.hid (And.intro hExt hfin)
     clear hX5 hO5 hExt hfin
     go_wp2
     go_end0
     refine ⟨rfl,(KeepD.ext HF.out.1).trans (KeepD.set 2 _),Nat.le_trans HF.out.1.size (Nat.le_of_eq (by simp)),?_⟩
     exact ⟨k,HP.out,_,HF.out.2⟩
/-- A place: the first that is so; -1. -/
def FirstQ (n : Nat) (P : Nat→Prop) (r : Int) : Prop:=(r=-1∧∀ j,j < n→¬ P j)∨∃ i : Nat,r=(i : Int)∧i < n∧P i∧∀ j,j < i→¬ P j
set_option maxHeartbeats 4000000 in
set_option maxRecDepth 100000 in
theorem hand28_any (m : ModelD) (F H S G : Option Addr) (fc hc sc gc : Nat) (t p : Int) (w : World) (hl : m.hands.length≤1000000) (hm : ModelR w m F H S G) :
  Calls Tryz.prog 67 #[modelV m F H S G fc hc sc gc,.int .i64 t,.int .i64 p] w fun e w'=>(∃ r,e=.returned (.int .i64 r)∧FirstQ m.hands.length (fun j=>(ix noHand m.hands j).t=t∧(ix noHand m.hands j).at_=p) r)∧Ext w w':=by
 obtain ⟨W0,hW0⟩ : ∃ W0,W0=w.alloc (.cells #[.int .i64 m.pages,.slice F m.free.length fc,.slice H m.hands.length hc,.slice S m.spans.length sc,.slice G m.gone.length gc] 30):=⟨_,rfl⟩
 have hE0 : Ext w W0:=hW0▸(Ext.refl w).alloc _
 have hb : Blk W0 w.heap.size 30 #[.int .i64 m.pages,.slice F m.free.length fc,.slice H m.hands.length hc,.slice S m.spans.length sc,.slice G m.gone.length gc]:=hW0▸Blk.new _ _ _ _ rfl
 have HW:=Lib.hid (And.intro hW0 (And.intro hE0 (hm.hands.ext hE0)))
 have x2:=hb.cell (i:=2) (v:=.slice H m.hands.length hc) rfl
 clear hW0 hE0 hb hm
 unfold modelV
 go_enter Tryz.func67,Tryz.ntmps67
 go_upto_region 1 with fail
 rw [← HW.out.1]
 go_wp2
 go_loopg [7] m.hands.length (fun q i wr=>∃ k : Nat,k≤m.hands.length∧q=m.hands.length - k∧i=.int .i64 (k : Int)∧wr=W0∧∀ j,j < k→¬ ((ix noHand m.hands j).t=t∧(ix noHand m.hands j).at_=p))
 case atStart=>exact ⟨0,Nat.zero_le _,rfl,rfl,rfl,fun j hj=>absurd hj (by omega)⟩
 case round =>
  obtain ⟨k,hk,rfl,rfl,hwr,hall⟩:=hrel
  replace hwr:=hwr.symm
  subst hwr
  have HA:=Lib.hid hall
  clear hall
  by_cases hlt : k < m.hands.length
  ·obtain ⟨b,off,rfl,hcl⟩:=HW.out.2.2 (by omega)
   have a0 : W0.cell? ⟨b,off + k * 3,none⟩=some (.int .i64 (ix noHand m.hands k).t):=(hcl (k * 3) (by omega)).trans (congrArg some (handV0 m.hands k))
   have a1 : W0.cell? ⟨b,off + k * 3 + 1,none⟩=some (.int .i64 (ix noHand m.hands k).at_):=(hcl (k * 3 + 1) (by omega)).trans (congrArg some (handV1 m.hands k))
   obtain ⟨r,hr⟩ : ∃ r,ix noHand m.hands k=r:=⟨_,rfl⟩
   rw [hr] at a0 a1
   have HR:=Lib.hid hr
   have q0 : (0 : Int)≤(k : Int):=by omega
   have q1 : (k : Int) < (m.hands.length : Int):=by omega
   have hcs : ((r.t == t)=false∧Hid (¬ (r.t=t∧r.at_=p)))∨((r.t == t)=true∧(r.at_ == p)=false∧Hid (¬ (r.t=t∧r.at_=p)))∨((r.t == t)=true∧(r.at_ == p)=true∧Hid (r.t=t∧r.at_=p)):=by
    by_cases h1 : r.t=t
    ·by_cases h2 : r.at_=p
     ·exact .inr (.inr ⟨by simpa using h1,by simpa using h2,Lib.hid ⟨h1,h2⟩⟩)
     ·exact .inr (.inl ⟨by simpa using h1,by simpa using h2,Lib.hid fun h=>h2 h.2⟩)
    ·exact .inl ⟨by simpa using h1,Lib.hid fun h=>h1 h.1⟩
   clear hcl hr
   rcases hcs with ⟨e0,h⟩ | ⟨e0,e1,h⟩ | ⟨e0,e1,h⟩
   ·go_wp2
    go_roundg (m.hands.length - (k + 1))
    case measure=>go_light; omega
    case rel=>exact ⟨k + 1,by omega,rfl,by go_num,rfl,fun j hj=>by
     by_cases e : j=k
     ·subst e; rw [HR.out]; exact h.out
     ·exact HA.out j (by omega)⟩
   ·go_wp2
    go_roundg (m.hands.length - (k + 1))
    case measure=>go_light; omega
    case rel=>exact ⟨k + 1,by omega,rfl,by go_num,rfl,fun j hj=>by
     by_cases e : j=k
     ·subst e; rw [HR.out]; exact h.out
     ·exact HA.out j (by omega)⟩
   ·go_wp2
    go_ret
    exact ⟨⟨_,rfl,.inr ⟨k,rfl,hlt,by dsimp only; rw [HR.out]; exact h.out,HA.out⟩⟩,HW.out.2.1⟩
  ·obtain rfl : k=m.hands.length:=by omega
   go_wp2
   go_ret
   exact ⟨⟨_,rfl,.inl ⟨rfl,HA.out⟩⟩,HW.out.2.1⟩
set_option maxHeartbeats 4000000 in
set_option maxRecDepth 100000 in
theorem place28_any (m : ModelD) (F H S G : Option Addr) (fc hc sc gc : Nat) (p : Int) (w : World) (hl : m.spans.length≤1000000) (hm : ModelR w m F H S G) :
  Calls Tryz.prog 36 #[modelV m F H S G fc hc sc gc,.int .i64 p] w fun e w'=>(∃ r,e=.returned (.int .i64 r)∧FirstQ m.spans.length (fun j=>(ix noHold m.spans j).page=p) r)∧Ext w w':=by
 obtain ⟨W0,hW0⟩ : ∃ W0,W0=w.alloc (.cells #[.int .i64 m.pages,.slice F m.free.length fc,.slice H m.hands.length hc,.slice S m.spans.length sc,.slice G m.gone.length gc] 30):=⟨_,rfl⟩
 have hE0 : Ext w W0:=hW0▸(Ext.refl w).alloc _
 have hb : Blk W0 w.heap.size 30 #[.int .i64 m.pages,.slice F m.free.length fc,.slice H m.hands.length hc,.slice S m.spans.length sc,.slice G m.gone.length gc]:=hW0▸Blk.new _ _ _ _ rfl
 have HW:=Lib.hid (And.intro hW0 (And.intro hE0 (hm.spans.ext hE0)))
 have x3:=hb.cell (i:=3) (v:=.slice S m.spans.length sc) rfl
 clear hW0 hE0 hb hm
 unfold modelV
 go_enter Tryz.func36,Tryz.ntmps36
 go_upto_region 1 with fail
 rw [← HW.out.1]
 go_wp2
 go_loopg [5] m.spans.length (fun q i wr=>∃ k : Nat,k≤m.spans.length∧q=m.spans.length - k∧i=.int .i64 (k : Int)∧wr=W0∧∀ j,j < k→¬ (ix noHold m.spans j).page=p)
 case atStart=>exact ⟨0,Nat.zero_le _,rfl,rfl,rfl,fun j hj=>absurd hj (by omega)⟩
 case round =>
  obtain ⟨k,hk,rfl,rfl,hwr,hall⟩:=hrel
  replace hwr:=hwr.symm
  subst hwr
  have HA:=Lib.hid hall
  clear hall
  by_cases hlt : k < m.spans.length
  ·obtain ⟨b,off,rfl,hcl⟩:=HW.out.2.2 (by omega)
   have a0 : W0.cell? ⟨b,off + k * 8,none⟩=some (.int .i64 (ix noHold m.spans k).page):=(hcl (k * 8 + 0) (by omega)).trans (congrArg some (holdsV_at m.spans k 0 (by omega)))
   obtain ⟨r,hr⟩ : ∃ r,(ix noHold m.spans k).page=r:=⟨_,rfl⟩
   rw [hr] at a0
   have HR:=Lib.hid hr
   have q0 : (0 : Int)≤(k : Int):=by omega
   have q1 : (k : Int) < (m.spans.length : Int):=by omega
   clear hcl hr
   by_cases h : r=p
   ·have e0 : (r == p)=true:=by simpa using h
    have H:=Lib.hid h
    clear h
    go_wp2
    go_ret
    exact ⟨⟨_,rfl,.inr ⟨k,rfl,hlt,by dsimp only; rw [HR.out]; exact H.out,HA.out⟩⟩,HW.out.2.1⟩
   ·have e0 : (r == p)=false:=by simpa using h
    have H:=Lib.hid h
    clear h
    go_wp2
    go_roundg (m.spans.length - (k + 1))
    case measure=>go_light; omega
    case rel=>exact ⟨k + 1,by omega,rfl,by go_num,rfl,fun j hj=>by
     by_cases e : j=k
     ·subst e; rw [HR.out]; exact H.out
     ·exact HA.out j (by omega)⟩
  ·obtain rfl : k=m.spans.length:=by omega
   go_wp2
   go_ret
   exact ⟨⟨_,rfl,.inl ⟨rfl,HA.out⟩⟩,HW.out.2.1⟩
set_option maxHeartbeats 4000000 in
set_option maxRecDepth 100000 in
theorem gone28_any (m : ModelD) (F H S G : Option Addr) (fc hc sc gc : Nat) (p : Int) (w : World) (hl : m.gone.length≤1000000) (hm : ModelR w m F H S G) :
  Calls Tryz.prog 66 #[modelV m F H S G fc hc sc gc,.int .i64 p] w fun e w'=>e=.returned (.bool (B (∃ i,i < m.gone.length∧ix 0 m.gone i=p)))∧Ext w w':=by
 obtain ⟨W0,hW0⟩ : ∃ W0,W0=w.alloc (.cells #[.int .i64 m.pages,.slice F m.free.length fc,.slice H m.hands.length hc,.slice S m.spans.length sc,.slice G m.gone.length gc] 30):=⟨_,rfl⟩
 have hE0 : Ext w W0:=hW0▸(Ext.refl w).alloc _
 have hb : Blk W0 w.heap.size 30 #[.int .i64 m.pages,.slice F m.free.length fc,.slice H m.hands.length hc,.slice S m.spans.length sc,.slice G m.gone.length gc]:=hW0▸Blk.new _ _ _ _ rfl
 have HW:=Lib.hid (And.intro hW0 (And.intro hE0 (hm.gone.ext hE0)))
 have x4:=hb.cell (i:=4) (v:=.slice G m.gone.length gc) rfl
 clear hW0 hE0 hb hm
 unfold modelV
 go_enter Tryz.func66,Tryz.ntmps66
 go_upto_region 1 with fail
 rw [← HW.out.1]
 go_wp2
 go_loopg [5] m.gone.length (fun q i wr=>∃ k : Nat,k≤m.gone.length∧q=m.gone.length - k∧i=.int .i64 (k : Int)∧wr=W0∧∀ j,j < k→¬ ix 0 m.gone j=p)
 case atStart=>exact ⟨0,Nat.zero_le _,rfl,rfl,rfl,fun j hj=>absurd hj (by omega)⟩
 case round =>
  obtain ⟨k,hk,rfl,rfl,hwr,hall⟩:=hrel
  replace hwr:=hwr.symm
  subst hwr
  have HA:=Lib.hid hall
  clear hall
  by_cases hlt : k < m.gone.length
  ·obtain ⟨b,off,rfl,hcl⟩:=HW.out.2.2 (by omega)
   obtain ⟨r,hr⟩ : ∃ r,ix 0 m.gone k=r:=⟨_,rfl⟩
   have a0 : W0.cell? ⟨b,off + k,none⟩=some (.int .i64 r):=(hcl k (by omega)).trans (congrArg some (congrArg (Value.int .i64) hr))
   have HR:=Lib.hid hr
   have q0 : (0 : Int)≤(k : Int):=by omega
   have q1 : (k : Int) < (m.gone.length : Int):=by omega
   clear hcl hr
   by_cases h : r=p
   ·have e0 : (r == p)=true:=by simpa using h
    have H:=Lib.hid h
    clear h
    go_wp2
    go_ret
    exact ⟨ret_bool (B_yes ⟨k,hlt,by rw [HR.out]; exact H.out⟩).symm,HW.out.2.1⟩
   ·have e0 : (r == p)=false:=by simpa using h
    have H:=Lib.hid h
    clear h
    go_wp2
    go_roundg (m.gone.length - (k + 1))
    case measure=>go_light; omega
    case rel=>exact ⟨k + 1,by omega,rfl,by go_num,rfl,fun j hj=>by
     by_cases e : j=k
     ·subst e; rw [HR.out]; exact H.out
     ·exact HA.out j (by omega)⟩
  ·obtain rfl : k=m.gone.length:=by omega
   go_wp2
   go_ret
   exact ⟨ret_bool (B_no fun ⟨i,hi,e⟩=>HA.out i hi e).symm,HW.out.2.1⟩
theorem RefM.putSpans {w w2 : World} {d base : Nat} {m : ModelD} {F H S G : Value} (h : RefM w d base m F H S G) (hg : w.grownBy w2 S.ownBlock) (l : List HoldD) (hO : OwnS w2 base 51 8 S l.length (holdsV l)) : RefM w2 d base { m with spans:=l } F H S G:=by
 obtain ⟨n1,n2,n3,n4⟩:=h.nes
 exact ⟨h.blk.grown hg (Ne.symm n3),h.own.free.keepG h.own.spans hg (by decide),h.own.hands.keepG h.own.spans hg (by decide),hO,h.own.gone.keepG h.own.spans hg (by decide)⟩
set_option maxHeartbeats 4000000 in
set_option maxRecDepth 100000 in
theorem cycle28_any (m : ModelD) (d base : Nat) (F H S G : Value) (w : World) (hl : m.hands.length≤900000∧m.spans.length≤900000) (hD : RefM w d base m F H S G) :
  Calls Tryz.prog 35 #[.pointer (some ⟨d,0,none⟩)] w fun e w'=>KeepD base d w w'∧w.heap.size≤w'.heap.size∧((e=.returned (.bool false)∧¬ CycC m)∨(e=.returned (.bool true)∧CycC m∧RefM w' d base { m with spans:=m.spans.map waits } F H S G)):=by
 obtain ⟨HA,hc,rfl,hhc⟩:=hD.own.hands.ofSlice
 obtain ⟨SA,sc,rfl,hsc⟩:=hD.own.spans.ofSlice
 obtain ⟨l1,l2⟩:=hl
 have h0 : OwnS w base 51 8 (.slice SA m.spans.length sc) m.spans.length (waitV m.spans 0):=hD.own.spans.congr fun j hj=>by unfold waitV; rw [if_neg (by omega)]
 have HD:=Lib.hid (And.intro hD h0)
 clear hD h0
 go_enter Tryz.func35,Tryz.ntmps35
 go_wp2
 go_loopg [3] m.spans.length (fun q i wr=>∃ k : Nat,k≤m.spans.length∧q=m.spans.length - k∧i=.int .i64 (k : Int)∧OwnS wr base 51 8 (.slice SA m.spans.length sc) m.spans.length (waitV m.spans k)∧w.grownBy wr (Value.slice SA m.spans.length sc).ownBlock∧∀ j,j < k→RestP (ix noHold m.spans j))
 case atStart=>exact ⟨0,Nat.zero_le _,rfl,rfl,HD.out.2,ext_grown (Ext.refl _) _,fun j hj=>absurd hj (by omega)⟩
 case round =>
  obtain ⟨k,hk,rfl,rfl,hO,hG,hall⟩:=hrel
  have hb:=HD.out.1.blk.grown hG (Ne.symm HD.out.1.nes.2.2.1)
  have y3:=hb.cell (i:=3) (v:=.slice SA m.spans.length sc) rfl
  have y2:=hb.cell (i:=2) (v:=.slice HA m.hands.length hc) rfl
  have hgs : w.heap.size≤wr.heap.size:=hG.size
  by_cases hlt : k < m.spans.length
  ·obtain ⟨g,c',e1⟩:=hO.form' (by omega)
   injection e1 with e1 e2 e3
   subst e1 e3
   clear e2
   have hce:=fun (j : Nat) (hj : j < 8)=>hO.cellAt (j:=k * 8 + j) (by omega)
   have hwv : ∀ j,j < 8→waitV m.spans k (k * 8 + j)=holdC (ix noHold m.spans k) j:=fun j hj=>by
    unfold waitV; rw [if_neg (by omega)]; exact holdsV_at _ _ _ hj
   obtain ⟨h,hh⟩ : ∃ h,ix noHold m.spans k=h:=⟨_,rfl⟩
   rw [hh] at hwv
   have a0 : wr.cell? ⟨g,k * 8,none⟩=some (.int .i64 h.page):=by have:=hce 0 (by omega); rw [hwv 0 (by omega)] at this; exact this
   have a1 : wr.cell? ⟨g,k * 8 + 1,none⟩=some (.int .i64 h.pages):=by have:=hce 1 (by omega); rw [hwv 1 (by omega)] at this; exact this
   have a2 : wr.cell? ⟨g,k * 8 + 2,none⟩=some (.int .i64 h.cls):=by have:=hce 2 (by omega); rw [hwv 2 (by omega)] at this; exact this
   have a3 : wr.cell? ⟨g,k * 8 + 3,none⟩=some (.int .i64 h.holder):=by have:=hce 3 (by omega); rw [hwv 3 (by omega)] at this; exact this
   have a4 : wr.cell? ⟨g,k * 8 + 4,none⟩=some (.int .i64 h.claim):=by have:=hce 4 (by omega); rw [hwv 4 (by omega)] at this; exact this
   have a5 : wr.cell? ⟨g,k * 8 + 5,none⟩=some (.bool h.swept):=by have:=hce 5 (by omega); rw [hwv 5 (by omega)] at this; exact this
   have a6 : wr.cell? ⟨g,k * 8 + 6,none⟩=some (.int .u64 (h.alloc : Int)):=by have:=hce 6 (by omega); rw [hwv 6 (by omega)] at this; exact this
   have a7 : wr.cell? ⟨g,k * 8 + 7,none⟩=some (.int .u64 (h.marks : Int)):=by have:=hce 7 (by omega); rw [hwv 7 (by omega)] at this; exact this
   have q0 : (0 : Int)≤(k : Int):=by omega
   have q1 : (k : Int) < (m.spans.length : Int):=by omega
   obtain ⟨W1,hW1⟩ : ∃ W1,W1=wr.alloc (.cells #[.int .i64 h.page,.int .i64 h.pages,.int .i64 h.cls,.int .i64 h.holder,.int .i64 h.claim,.bool h.swept,.int .u64 (h.alloc : Int),.int .u64 (h.marks : Int)] 51):=⟨_,rfl⟩
   have hE1 : Ext wr W1:=hW1▸(Ext.refl wr).alloc _
   have hp : Blk W1 wr.heap.size 51 #[.int .i64 h.page,.int .i64 h.pages,.int .i64 h.cls,.int .i64 h.holder,.int .i64 h.claim,.bool h.swept,.int .u64 (h.alloc : Int),.int .u64 (h.marks : Int)]:=hW1▸Blk.new _ _ _ _ rfl
   have b3:=hp.cell (i:=3) (v:=.int .i64 h.holder) rfl
   have b4:=hp.cell (i:=4) (v:=.int .i64 h.claim) rfl
   have b5:=hp.cell (i:=5) (v:=.bool h.swept) rfl
   have y3':=hE1.cell y3
   have z0:=(hO.ext hE1).cellAt (j:=k * 8 + 5) (by omega)
   have z1:=(hO.ext hE1).frozenAt (k * 8 + 5)
   have HW1:=Lib.hid hW1
   have HR:=Lib.hid (And.intro (hO.ext hE1) (And.intro (hG.trans (ext_grown hE1 _)) (And.intro hall hh)))
   have hcs : ((h.holder == -1)=false∧(h.holder != -1)=true∧Hid (¬ RestP h))∨((h.holder == -1)=true∧(h.holder != -1)=false∧(h.claim == -1)=false∧(h.claim != -1)=true∧Hid (¬ RestP h))∨((h.holder == -1)=true∧(h.holder != -1)=false∧(h.claim == -1)=true∧(h.claim != -1)=false∧h.swept=false∧Hid (¬ RestP h))∨((h.holder == -1)=true∧(h.holder != -1)=false∧(h.claim == -1)=true∧(h.claim != -1)=false∧h.swept=true∧Hid (RestP h)):=by
    by_cases h1 : h.holder=-1
    ·by_cases h2 : h.claim=-1
     ·cases h3 : h.swept
      ·exact .inr (.inr (.inl ⟨by simpa using h1,by simpa using h1,by simpa using h2,by simpa using h2,rfl,Lib.hid fun hr=>by unfold RestP at hr; rw [h3] at hr; simp at hr⟩))
      ·exact .inr (.inr (.inr ⟨by simpa using h1,by simpa using h1,by simpa using h2,by simpa using h2,rfl,Lib.hid ⟨h1,h2,h3⟩⟩))
     ·exact .inr (.inl ⟨by simpa using h1,by simpa using h1,by simpa using h2,by simpa using h2,Lib.hid fun hr=>h2 hr.2.1⟩)
    ·exact .inl ⟨by simpa using h1,by simpa using h1,Lib.hid fun hr=>h1 hr.1⟩
   clear hO hG hall hb hce hwv hh hW1 hE1 hp hgs
   go_upto_region 5 with fail
   rw [← HW1.out]
   rcases hcs with ⟨e0,e0',hr⟩ | ⟨e0,e0',e1,e1',hr⟩ | ⟨e0,e0',e1,e1',e2,hr⟩ | ⟨e0,e0',e1,e1',e2,hr⟩
   rotate_right
   ·go_wp2
    go_roundg (m.spans.length - (k + 1))
    case measure=>go_light; omega
    case rel =>
     refine ⟨k + 1,by omega,rfl,by go_num,(HR.out.1.set (k * 8 + 5) (.bool false)).congr fun j hj=>?_,HR.out.2.1.trans (grownBy_setC _ _ _ _),fun j hj=>?_⟩
     ·unfold waitV
      by_cases e : j=k * 8 + 5
      ·rw [if_pos e,if_pos (by omega)]
      ·rw [if_neg e]
       by_cases e2 : j / 8 < k∧j % 8=5
       ·rw [if_pos e2,if_pos (by omega)]
       ·rw [if_neg e2,if_neg (by omega)]
     ·by_cases e : j=k
      ·subst e; rw [HR.out.2.2.2]; exact hr.out
      ·exact HR.out.2.2.1 j (by omega)
   all_goals
    go_wp2
    go_ret
    refine ⟨KeepD.grown HD.out.1.own.spans HR.out.2.1,HR.out.2.1.size,.inl ⟨rfl,fun hcy=>hr.out ?_⟩⟩
    have:=hcy.2 k hlt
    rw [HR.out.2.2.2] at this
    exact this
  ·obtain rfl : k=m.spans.length:=by omega
   have HR:=Lib.hid (And.intro hO (And.intro hG hall))
   clear hO hG hall hb hgs
   by_cases h0 : m.hands.length=0
   ·have e0 : ((m.hands.length : Int) == 0)=true:=by rw [beq_iff_eq]; omega
    have e0' : (m.hands.length == 0)=true:=by rw [beq_iff_eq]; omega
    have H0:=Lib.hid h0
    clear h0
    go_wp2
    go_ret
    have hg:=HR.out.2.1
    refine ⟨KeepD.grown HD.out.1.own.spans hg,hg.size,.inr ⟨rfl,⟨H0.out,HR.out.2.2⟩,HD.out.1.putSpans hg _ ?_⟩⟩
    have:=HR.out.1.congr (fun j hj=>waitV_end m.spans j hj)
    simpa using this
   ·have e0 : ((m.hands.length : Int) == 0)=false:=by rw [beq_eq_false_iff_ne]; omega
    have e0' : (m.hands.length == 0)=false:=by rw [beq_eq_false_iff_ne]; omega
    have H0:=Lib.hid h0
    clear h0
    go_wp2
    go_ret
    exact ⟨KeepD.grown HD.out.1.own.spans HR.out.2.1,HR.out.2.1.size,.inl ⟨rfl,fun hcy=>H0.out hcy.1⟩⟩
/-- What is left of one run. -/
noncomputable def cutOf (x : MarkD) (r : RunD) : List RunD:=if B (FitG r x) then leftR r x else [r]
noncomputable def outL (l : List RunD) (x : MarkD) (k : Nat) : List RunD:=(l.take k).flatMap (cutOf x)
theorem outL_zero (l : List RunD) (x : MarkD) : outL l x 0=[]:=rfl
theorem outL_succ {l : List RunD} {x : MarkD} {k : Nat} (hk : k < l.length) : outL l x (k + 1)=outL l x k ++ cutOf x (ix noRun l k):=by
 unfold outL
 rw [List.take_succ_eq_append_getElem hk,List.flatMap_append,ix_lt hk]
 simp
theorem cutOf_len (x : MarkD) (r : RunD) : (cutOf x r).length≤2:=by
 unfold cutOf
 split
 ·have:=leftA_len r x
  have : (leftB r x).length≤1:=by unfold leftB; split <;> simp
  unfold leftR
  rw [List.length_append]
  omega
 ·simp
theorem outL_len (l : List RunD) (x : MarkD) : ∀ k,k≤l.length→(outL l x k).length≤2 * k
 | 0,_=>Nat.le_refl _
 | k + 1,h=>by
  rw [outL_succ (by omega),List.length_append]
  have:=outL_len l x k (by omega)
  have:=cutOf_len x (ix noRun l k)
  omega
theorem outL_none {l : List RunD} {x : MarkD} : ∀ k,k≤l.length→(∀ j,j < k→¬ FitG (ix noRun l j) x)→outL l x k=l.take k
 | 0,_,_=>rfl
 | k + 1,h,hn=>by
  rw [outL_succ (by omega),outL_none k (by omega) (fun j hj=>hn j (by omega)),List.take_succ_eq_append_getElem (by omega)]
  unfold cutOf
  rw [B_no (hn k (by omega)),ix_lt (by omega)]
  rfl
theorem outL_one {l : List RunD} {x : MarkD} {i : Nat} (hi : i < l.length) (hf : FitG (ix noRun l i) x) (hu : ∀ j,j < l.length→FitG (ix noRun l j) x→j=i) : ∀ k,i < k→k≤l.length→outL l x k=l.take i ++ (leftR (ix noRun l i) x ++ (l.take k).drop (i + 1))
 | 0,h,_=>absurd h (by omega)
 | k + 1,h,hk=>by
  rw [outL_succ (by omega)]
  by_cases e : i=k
  ·subst e
   rw [outL_none i (by omega) (fun j hj hfj=>by have:=hu j (by omega) hfj; omega)]
   unfold cutOf
   rw [B_yes hf,if_pos rfl]
   have : (l.take (i + 1)).drop (i + 1)=[]:=List.drop_eq_nil_of_le (by simp; omega)
   rw [this,List.append_nil]
  ·rw [outL_one hi hf hu k (by omega) (by omega),List.append_assoc,List.append_assoc]
   congr 2
   unfold cutOf
   rw [B_no (fun hfk=>e (hu k (by omega) hfk).symm),ix_lt (by omega),List.take_succ_eq_append_getElem (by omega : k < l.length),List.drop_append_of_le_length (by simp; omega)]
   rfl
theorem outL_all {l : List RunD} {x : MarkD} {i : Nat} (hi : i < l.length) (hf : FitG (ix noRun l i) x) (hu : ∀ j,j < l.length→FitG (ix noRun l j) x→j=i) : outL l x l.length=cutIn l i (i + 1) (leftR (ix noRun l i) x):=by
 rw [outL_one hi hf hu l.length hi (Nat.le_refl _),List.take_length]
 rfl
theorem cutOf_no {x : MarkD} {r : RunD} (h : ¬ FitG r x) : cutOf x r=[r]:=by unfold cutOf; rw [B_no h]; rfl
theorem cutOf_yes {x : MarkD} {r : RunD} (h : FitG r x) : cutOf x r=leftA r x ++ leftB r x:=by unfold cutOf; rw [B_yes h,if_pos rfl]; rfl
set_option maxHeartbeats 8000000 in
set_option maxRecDepth 100000 in
theorem get28_any (m : ModelD) (d base : Nat) (F H S G : Value) (x : MarkD) (w : World) (hl : m.free.length≤400000∧m.hands.length≤900000) (hx : MarkOk x)
  (hfr : ∀ i,i < m.free.length→0≤(ix noRun m.free i).at_∧1≤(ix noRun m.free i).n∧(ix noRun m.free i).at_ + (ix noRun m.free i).n≤4096)
  (hun : ∀ i j,i < m.free.length→j < m.free.length→FitG (ix noRun m.free i) x→FitG (ix noRun m.free j) x→j=i) (hs : Rises noHand m.hands handK) (hbase : base≤w.heap.size) (hD : RefM w d base m F H S G) :
  Calls Tryz.prog 31 #[.pointer (some ⟨d,0,none⟩),markV x] w fun e w'=>KeepD base d w w'∧w.heap.size≤w'.heap.size∧((e=.returned (.bool false)∧GetN m x)∨(e=.returned (.bool true)∧∃ m' F' H',GetR m x m'∧RefM w' d base m' F' H' S G)):=by
 obtain ⟨FA,fc,rfl,hfc⟩:=hD.own.free.ofSlice
 obtain ⟨l1,l2⟩:=hl
 obtain ⟨W0,hW0⟩ : ∃ W0,W0=w.alloc (.cells (markA x) 34):=⟨_,rfl⟩
 have hE0 : Ext w W0:=hW0▸(Ext.refl w).alloc _
 have hxb : Blk W0 w.heap.size 34 (markA x):=hW0▸Blk.new _ _ _ _ rfl
 obtain ⟨i0,hi0,hz0,hs0,hb0⟩:=info_parts Tryz.infoMRun
 have HI:=Lib.hid (And.intro hi0 (And.intro hz0 (And.intro hs0 hb0)))
 have HW:=Lib.hid (And.intro hW0 (And.intro hE0 (And.intro hxb (And.intro (hD.ext hE0) (And.intro hs (And.intro hfr (And.intro hun hD.blk.lt)))))))
 have HX:=Lib.hid hx
 obtain ⟨xn1,xn2⟩:=hx.n
 obtain ⟨xp1,xp2⟩:=hx.page
 clear hi0 hz0 hs0 hb0 hW0 hE0 hxb hD hs hfr hun hx
 unfold markV
 unfold markA at HW
 go_enter Tryz.func31,Tryz.ntmps31
 go_upto_region 1 with fail
 rw [← HW.out.1]
 go_wp2
 go_loopg [5,6,7] m.free.length (fun q ov okv i wr=>∃ (k : Nat) (o : Bool) (A : Option Addr) (c : Nat),k≤m.free.length∧q=m.free.length - k∧ov=.slice A (outL m.free x k).length c∧okv=.bool o∧i=.int .i64 (k : Int)∧Ext W0 wr∧OwnS wr W0.heap.size 54 2 (.slice A (outL m.free x k).length c) (outL m.free x k).length (runV (outL m.free x k))∧(o=true↔∃ j,j < k∧FitG (ix noRun m.free j) x))
 case atStart=>exact ⟨0,false,none,0,Nat.zero_le _,rfl,rfl,rfl,rfl,Ext.refl _,OwnS.nil _ _ _ _ _,⟨fun h=>(by cases h),fun ⟨j,hj,_⟩=>absurd hj (by omega)⟩⟩
 case round =>
  obtain ⟨k,o,A,c,hk,rfl,rfl,rfl,rfl,hE,hO,ho⟩:=hrel
  have hD:=HW.out.2.2.2.1.ext hE
  have hxb:=HW.out.2.2.1.ext hE
  have x1:=hD.blk.cell (i:=1) (v:=.slice FA m.free.length fc) rfl
  have m3:=hxb.cell (i:=3) (v:=.int .i64 x.page) rfl
  have m4:=hxb.cell (i:=4) (v:=.int .i64 x.n) rfl
  have hol:=outL_len m.free x k hk
  have hws:=hE.size
  obtain ⟨L,hL⟩ : ∃ L,outL m.free x k=L:=⟨_,rfl⟩
  rw [hL] at hO hol ⊢
  have HK:=Lib.hid (And.intro hE (And.intro hD (And.intro hxb (And.intro ho (And.intro hO hL)))))
  by_cases hlt : k < m.free.length
  ·obtain ⟨b,off,rfl,hcl⟩:=hD.own.free.slr (by omega)
   obtain ⟨r,hr⟩ : ∃ r,ix noRun m.free k=r:=⟨_,rfl⟩
   obtain ⟨r1,r2,r3⟩:=HW.out.2.2.2.2.2.1 k hlt
   have a0 : wr.cell? ⟨b,off + k * 2,none⟩=some (.int .i64 r.at_):=(hcl (k * 2) (by omega)).trans (congrArg some ((runV0 m.free k).trans (by rw [hr])))
   have a1 : wr.cell? ⟨b,off + k * 2 + 1,none⟩=some (.int .i64 r.n):=(hcl (k * 2 + 1) (by omega)).trans (congrArg some ((runV1 m.free k).trans (by rw [hr])))
   rw [hr] at r1 r2 r3
   have q0 : (0 : Int)≤(k : Int):=by omega
   have q1 : (k : Int) < (m.free.length : Int):=by omega
   obtain ⟨W1,hW1⟩ : ∃ W1,W1=wr.alloc (.cells #[.int .i64 r.at_,.int .i64 r.n] 54):=⟨_,rfl⟩
   have hE1 : Ext wr W1:=hW1▸(Ext.refl wr).alloc _
   have hp : Blk W1 wr.heap.size 54 #[.int .i64 r.at_,.int .i64 r.n]:=hW1▸Blk.new _ _ _ _ rfl
   have b0:=hp.cell (i:=0) (v:=.int .i64 r.at_) rfl
   have b1:=hp.cell (i:=1) (v:=.int .i64 r.n) rfl
   have m3':=hE1.cell m3
   have m4':=hE1.cell m4
   have w1 : IntKind.i64.wrap (r.at_ + r.n)=r.at_ + r.n:=by rw [IntKind.wrap_i64]; omega
   have HW1:=Lib.hid hW1
   have HR:=Lib.hid (And.intro (hE.trans hE1) (And.intro hp (And.intro (hO.ext hE1) hr)))
   clear hcl hE hD hxb ho hO hL hW1 hE1 hp hr
   go_upto_region 7 with fail
   rw [← HW1.out]
   by_cases hf : FitG r x
   ·obtain ⟨f1,f2,f3,f4⟩:=hf
    have d1 : decide (x.n < 1)=false:=decide_eq_false (by omega)
    have d2 : decide (x.page < r.at_)=false:=decide_eq_false (by omega)
    have d3 : decide (r.at_ + r.n≤x.page)=false:=decide_eq_false (by omega)
    have w2 : IntKind.i64.wrap (r.at_ + r.n - x.page)=r.at_ + r.n - x.page:=by rw [IntKind.wrap_i64]; omega
    have d4 : decide (r.at_ + r.n - x.page < x.n)=false:=decide_eq_false (by omega)
    have w3 : IntKind.i64.wrap (x.page - r.at_)=x.page - r.at_:=by rw [IntKind.wrap_i64]; omega
    have w4 : IntKind.i64.wrap (x.page + x.n)=x.page + x.n:=by rw [IntKind.wrap_i64]; omega
    have w5 : IntKind.i64.wrap (r.at_ + r.n - (x.page + x.n))=r.at_ + r.n - (x.page + x.n):=by rw [IntKind.wrap_i64]; omega
    have HF:=Lib.hid (show FitG r x from ⟨f1,f2,f3,f4⟩)
    go_upto_region 10 with fail
    have hlf : outL m.free x (k + 1)=L ++ (leftA r x ++ leftB r x):=by rw [outL_succ hlt,HK.out.2.2.2.2.2,HR.out.2.2.2,cutOf_yes HF.out]
    have HLf:=Lib.hid hlf
    clear hlf
    have hnb : some wr.heap.size≠(Value.slice A L.length c).ownBlock:=fun h=>by
     have:=(World.ownsRow.lt HK.out.2.2.2.2.1 wr.heap.size h.symm).2
     omega
    have HNb:=Lib.hid hnb
    clear hnb
    by_cases c1 : r.at_ < x.page
    ·have e1 : decide (r.at_ < x.page)=true:=decide_eq_true c1
     have HLA:=Lib.hid (show leftA r x=[(⟨r.at_,x.page - r.at_⟩ : RunD)] from by unfold leftA; rw [if_pos (by omega)])
     clear c1
     go_upto_region 12 with (at_builtin; refine wpList_push rfl _ _ 25 rfl W0.heap.size 54 i0 (.agg #[.int .i64 0,.int .i64 0]) 2 16 Tryz.underlying25 HI.out.1 HI.out.2.1 HI.out.2.2.1 HI.out.2.2.2 rfl (by decide) _ (L).length (runV (L)) rfl (HR.out.2.2.1.ext ((Ext.refl _).alloc _)) ⟨W1.heap.size,0,none⟩ 1 (runX (⟨r.at_,x.page - r.at_⟩ : RunD)) rfl ?pcp (fun j hj=>by unfold runX; split <;> rfl) ?b63p ?bbyp ?bbap _ rfl (runV (L ++ [(⟨r.at_,x.page - r.at_⟩ : RunD)])) (fun j hj=>runV_snoc_lo _ _ j hj) (fun j hj=>runV_snoc_hi _ _ j hj) ?_; (case pcp=>exact fun j hj=>by have h2 : j=0∨j=1:=(by omega); rcases h2 with rfl | rfl; exact cell_new _ _ _ 0 _ rfl; exact cell_new _ _ _ 1 _ rfl); (case b63p=>unfold maxLen; (try simp only [List.length_append,List.length_cons,List.length_nil]); omega); (case bbyp=>(try simp only [List.length_append,List.length_cons,List.length_nil]); omega); (case bbap=>exact Nat.le_trans HR.out.1.size ((Ext.refl W1).alloc _).size); intro gp capp wp j1 j2 j3 j4 j5; have HAp:=Lib.hid (And.intro j1 (j3 _ (HR.out.1.alloc _) (Nat.le_refl _))); have hrp:=(HR.out.2.1.alloc (.cells #[.int .i64 r.at_,.int .i64 (x.page - r.at_)] 54)).grown j2 HNb.out; have hxp:=HW.out.2.2.1.ext (HAp.out.2); have b0p:=hrp.cell (i:=0) (v:=.int .i64 r.at_) rfl; have b1p:=hrp.cell (i:=1) (v:=.int .i64 r.n) rfl; have m3p:=hxp.cell (i:=3) (v:=.int .i64 x.page) rfl; have m4p:=hxp.cell (i:=4) (v:=.int .i64 x.n) rfl; clear j1 j2 j3 j4 j5 hrp hxp)
     obtain ⟨L2,hL2⟩ : ∃ L2,L ++ [(⟨r.at_,x.page - r.at_⟩ : RunD)]=L2:=⟨_,rfl⟩
     have hlp : L.length + 1=L2.length:=by rw [← hL2,List.length_append]; rfl
     have hOp:=HAp.out.1
     rw [hL2,hlp] at hOp
     rw [hlp]
     have HOp:=Lib.hid (And.intro hOp hL2)
     clear hOp hL2
     by_cases c2 : x.page + x.n < r.at_ + r.n
     ·have e2 : decide (x.page + x.n < r.at_ + r.n)=true:=decide_eq_true c2
      have HLB:=Lib.hid (show leftB r x=[(⟨x.page + x.n,r.at_ + r.n - (x.page + x.n)⟩ : RunD)] from by unfold leftB; rw [if_pos (by omega)]; congr 2; omega)
      clear c2
      go_wp2_with (at_builtin; refine wpList_push rfl _ _ 25 rfl W0.heap.size 54 i0 (.agg #[.int .i64 0,.int .i64 0]) 2 16 Tryz.underlying25 HI.out.1 HI.out.2.1 HI.out.2.2.1 HI.out.2.2.2 rfl (by decide) _ (L2).length (runV (L2)) rfl (HOp.out.1.ext ((Ext.refl _).alloc _)) ⟨wp.heap.size,0,none⟩ 1 (runX (⟨x.page + x.n,r.at_ + r.n - (x.page + x.n)⟩ : RunD)) rfl ?pcq (fun j hj=>by unfold runX; split <;> rfl) ?b63q ?bbyq ?bbaq _ rfl (runV (L2 ++ [(⟨x.page + x.n,r.at_ + r.n - (x.page + x.n)⟩ : RunD)])) (fun j hj=>runV_snoc_lo _ _ j hj) (fun j hj=>runV_snoc_hi _ _ j hj) ?_; (case pcq=>exact fun j hj=>by have h2 : j=0∨j=1:=(by omega); rcases h2 with rfl | rfl; exact cell_new _ _ _ 0 _ rfl; exact cell_new _ _ _ 1 _ rfl); (case b63q=>unfold maxLen; (try simp only [List.length_append,List.length_cons,List.length_nil]); omega); (case bbyq=>(try simp only [List.length_append,List.length_cons,List.length_nil]); omega); (case bbaq=>exact Nat.le_trans HAp.out.2.size ((Ext.refl wp).alloc _).size); intro gq capq wq j1 j2 j3 j4 j5; have HAq:=Lib.hid (And.intro j1 (j3 _ (HAp.out.2.alloc _) (Nat.le_refl _))); clear j1 j2 j3 j4 j5)
      go_roundg (m.free.length - (k + 1))
      case measure=>go_light; omega
      case rel =>
       have hln : outL m.free x (k + 1)=L2 ++ [(⟨x.page + x.n,r.at_ + r.n - (x.page + x.n)⟩ : RunD)]:=by rw [HLf.out,HLA.out,← HOp.out.2,HLB.out]; (try simp only [List.append_nil,List.nil_append]); (try simp only [List.append_assoc,List.cons_append,List.nil_append])
       refine ⟨k + 1,true,some ⟨gq,0,none⟩,capq,by omega,rfl,?_,rfl,by go_num,HAq.out.2,?_,⟨fun _=>⟨k,by omega,by rw [HR.out.2.2.2]; exact HF.out⟩,fun _=>rfl⟩⟩
       ·first | (rw [hln]; done) | (rw [hln]; first | rfl | (simp only [List.length_append,List.length_cons,List.length_nil]))
       ·rw [hln]
        have:=(HAq.out.1)
        first | exact this | (simp only [List.length_append,List.length_cons,List.length_nil] at this ⊢; exact this)
     ·have e2 : decide (x.page + x.n < r.at_ + r.n)=false:=decide_eq_false c2
      have HLB:=Lib.hid (show leftB r x=[] from by unfold leftB; rw [if_neg (by omega)])
      clear c2
      go_wp2
      go_roundg (m.free.length - (k + 1))
      case measure=>go_light; omega
      case rel =>
       have hln : outL m.free x (k + 1)=L2:=by rw [HLf.out,HLA.out,← HOp.out.2,HLB.out]; (try simp only [List.append_nil,List.nil_append]); (try simp only [List.append_assoc,List.cons_append,List.nil_append])
       refine ⟨k + 1,true,some ⟨gp,0,none⟩,capp,by omega,rfl,?_,rfl,by go_num,HAp.out.2,?_,⟨fun _=>⟨k,by omega,by rw [HR.out.2.2.2]; exact HF.out⟩,fun _=>rfl⟩⟩
       ·first | (rw [hln]; done) | (rw [hln]; first | rfl | (simp only [List.length_append,List.length_cons,List.length_nil]))
       ·rw [hln]
        have:=(HOp.out.1)
        first | exact this | (simp only [List.length_append,List.length_cons,List.length_nil] at this ⊢; exact this)
    ·have e1 : decide (r.at_ < x.page)=false:=decide_eq_false c1
     have HLA:=Lib.hid (show leftA r x=[] from by unfold leftA; rw [if_neg (by omega)])
     clear c1
     by_cases c2 : x.page + x.n < r.at_ + r.n
     ·have e2 : decide (x.page + x.n < r.at_ + r.n)=true:=decide_eq_true c2
      have HLB:=Lib.hid (show leftB r x=[(⟨x.page + x.n,r.at_ + r.n - (x.page + x.n)⟩ : RunD)] from by unfold leftB; rw [if_pos (by omega)]; congr 2; omega)
      clear c2
      go_wp2_with (at_builtin; refine wpList_push rfl _ _ 25 rfl W0.heap.size 54 i0 (.agg #[.int .i64 0,.int .i64 0]) 2 16 Tryz.underlying25 HI.out.1 HI.out.2.1 HI.out.2.2.1 HI.out.2.2.2 rfl (by decide) _ (L).length (runV (L)) rfl (HR.out.2.2.1.ext ((Ext.refl _).alloc _)) ⟨W1.heap.size,0,none⟩ 1 (runX (⟨x.page + x.n,r.at_ + r.n - (x.page + x.n)⟩ : RunD)) rfl ?pcq (fun j hj=>by unfold runX; split <;> rfl) ?b63q ?bbyq ?bbaq _ rfl (runV (L ++ [(⟨x.page + x.n,r.at_ + r.n - (x.page + x.n)⟩ : RunD)])) (fun j hj=>runV_snoc_lo _ _ j hj) (fun j hj=>runV_snoc_hi _ _ j hj) ?_; (case pcq=>exact fun j hj=>by have h2 : j=0∨j=1:=(by omega); rcases h2 with rfl | rfl; exact cell_new _ _ _ 0 _ rfl; exact cell_new _ _ _ 1 _ rfl); (case b63q=>unfold maxLen; (try simp only [List.length_append,List.length_cons,List.length_nil]); omega); (case bbyq=>(try simp only [List.length_append,List.length_cons,List.length_nil]); omega); (case bbaq=>exact Nat.le_trans HR.out.1.size ((Ext.refl W1).alloc _).size); intro gq capq wq j1 j2 j3 j4 j5; have HAq:=Lib.hid (And.intro j1 (j3 _ (HR.out.1.alloc _) (Nat.le_refl _))); clear j1 j2 j3 j4 j5)
      go_roundg (m.free.length - (k + 1))
      case measure=>go_light; omega
      case rel =>
       have hln : outL m.free x (k + 1)=L ++ [(⟨x.page + x.n,r.at_ + r.n - (x.page + x.n)⟩ : RunD)]:=by rw [HLf.out,HLA.out,HLB.out]; (try simp only [List.append_nil,List.nil_append]); (try simp only [List.append_assoc,List.cons_append,List.nil_append])
       refine ⟨k + 1,true,some ⟨gq,0,none⟩,capq,by omega,rfl,?_,rfl,by go_num,HAq.out.2,?_,⟨fun _=>⟨k,by omega,by rw [HR.out.2.2.2]; exact HF.out⟩,fun _=>rfl⟩⟩
       ·first | (rw [hln]; done) | (rw [hln]; first | rfl | (simp only [List.length_append,List.length_cons,List.length_nil]))
       ·rw [hln]
        have:=(HAq.out.1)
        first | exact this | (simp only [List.length_append,List.length_cons,List.length_nil] at this ⊢; exact this)
     ·have e2 : decide (x.page + x.n < r.at_ + r.n)=false:=decide_eq_false c2
      have HLB:=Lib.hid (show leftB r x=[] from by unfold leftB; rw [if_neg (by omega)])
      clear c2
      go_wp2
      go_roundg (m.free.length - (k + 1))
      case measure=>go_light; omega
      case rel =>
       have hln : outL m.free x (k + 1)=L:=by rw [HLf.out,HLA.out,HLB.out]; (try simp only [List.append_nil,List.nil_append]); (try simp only [List.append_assoc,List.cons_append,List.nil_append])
       refine ⟨k + 1,true,A,c,by omega,rfl,?_,rfl,by go_num,HR.out.1,?_,⟨fun _=>⟨k,by omega,by rw [HR.out.2.2.2]; exact HF.out⟩,fun _=>rfl⟩⟩
       ·first | (rw [hln]; done) | (rw [hln]; first | rfl | (simp only [List.length_append,List.length_cons,List.length_nil]))
       ·rw [hln]
        have:=(HR.out.2.2.1)
        first | exact this | (simp only [List.length_append,List.length_cons,List.length_nil] at this ⊢; exact this)
   ·have hcs : decide (x.n < 1)=true∨(decide (x.n < 1)=false∧decide (x.page < r.at_)=true)∨(decide (x.n < 1)=false∧decide (x.page < r.at_)=false∧decide (r.at_ + r.n≤x.page)=true)∨(decide (x.n < 1)=false∧decide (x.page < r.at_)=false∧decide (r.at_ + r.n≤x.page)=false∧IntKind.i64.wrap (r.at_ + r.n - x.page)=r.at_ + r.n - x.page∧decide (r.at_ + r.n - x.page < x.n)=true):=by
     by_cases h1 : x.n < 1
     ·exact .inl (decide_eq_true h1)
     ·by_cases h2 : x.page < r.at_
      ·exact .inr (.inl ⟨decide_eq_false h1,decide_eq_true h2⟩)
      ·by_cases h3 : r.at_ + r.n≤x.page
       ·exact .inr (.inr (.inl ⟨decide_eq_false h1,decide_eq_false h2,decide_eq_true h3⟩))
       ·refine .inr (.inr (.inr ⟨decide_eq_false h1,decide_eq_false h2,decide_eq_false h3,by rw [IntKind.wrap_i64]; omega,decide_eq_true ?_⟩))
        apply Classical.byContradiction
        intro h4
        exact hf ⟨by omega,by omega,by omega,by omega⟩
    have HF:=Lib.hid hf
    clear hf
    rcases hcs with d1 | ⟨d1,d2⟩ | ⟨d1,d2,d3⟩ | ⟨d1,d2,d3,w2,d4⟩
    all_goals
     go_upto_region 8 with fail
     go_wp2_with (at_builtin; refine wpList_push rfl _ _ 25 rfl W0.heap.size 54 i0 (.agg #[.int .i64 0,.int .i64 0]) 2 16 Tryz.underlying25 HI.out.1 HI.out.2.1 HI.out.2.2.1 HI.out.2.2.2 rfl (by decide) _ (L).length (runV (L)) rfl (HR.out.2.2.1.ext ((Ext.refl _).alloc _)) ⟨W1.heap.size,0,none⟩ 1 (runX r) rfl ?pcq (fun j hj=>by unfold runX; split <;> rfl) ?b63q ?bbyq ?bbaq _ rfl (runV (L ++ [r])) (fun j hj=>runV_snoc_lo _ _ j hj) (fun j hj=>runV_snoc_hi _ _ j hj) ?_; (case pcq=>exact fun j hj=>by have h2 : j=0∨j=1:=(by omega); rcases h2 with rfl | rfl; exact cell_new _ _ _ 0 _ rfl; exact cell_new _ _ _ 1 _ rfl); (case b63q=>unfold maxLen; (try simp only [List.length_append,List.length_cons,List.length_nil]); omega); (case bbyq=>(try simp only [List.length_append,List.length_cons,List.length_nil]); omega); (case bbaq=>exact Nat.le_trans HR.out.1.size ((Ext.refl W1).alloc _).size); intro gq capq wq j1 j2 j3 j4 j5; have HAq:=Lib.hid (And.intro j1 (j3 _ (HR.out.1.alloc _) (Nat.le_refl _))); clear j1 j2 j3 j4 j5)
     have hln : (outL m.free x (k + 1))=L ++ [r]:=by rw [outL_succ hlt,HK.out.2.2.2.2.2,HR.out.2.2.2,cutOf_no HF.out]
     go_roundg (m.free.length - (k + 1))
     case measure=>go_light; omega
     case rel =>
      refine ⟨k + 1,o,some ⟨gq,0,none⟩,capq,by omega,rfl,?_,rfl,by go_num,HAq.out.2,?_,?_⟩
      ·rw [hln,List.length_append]; rfl
      ·rw [hln]
       have:=HAq.out.1
       rw [List.length_append]
       exact this
      ·constructor
       ·intro h
        obtain ⟨j,hj,hfj⟩:=HK.out.2.2.2.1.1 h
        exact ⟨j,by omega,hfj⟩
       ·rintro ⟨j,hj,hfj⟩
        refine HK.out.2.2.2.1.2 ⟨j,?_,hfj⟩
        by_cases e : j=k
        ·subst e; rw [HR.out.2.2.2] at hfj; exact absurd hfj HF.out
        ·omega
  ·obtain rfl : k=m.free.length:=by omega
   have z1:=hD.blk.frozen 1
   have m1:=hxb.cell (i:=1) (v:=.int .i64 x.thread) rfl
   have hdl : d < W0.heap.size:=HW.out.2.2.2.1.blk.lt
   have hdw : d < w.heap.size:=HW.out.2.2.2.2.2.2.2
   have hne : ¬ w.heap.size=d:=by omega
   have hne2 : ¬ d=w.heap.size:=by omega
   have hb0 : base≤W0.heap.size:=Nat.le_trans hbase HW.out.2.1.size
   have hD2:=hD.setFree (v':=.slice A L.length c) L (hO.mono hb0)
   have hgv:=give28_any { m with free:=L } d base (.slice A L.length c) H S G ⟨x.thread,x.page,x.n⟩ (wr.setCell ⟨d,1,none⟩ (.slice A L.length c)) l2 HW.out.2.2.2.2.1 (Nat.le_trans hb0 (Nat.le_trans hws (Nat.le_of_eq (by simp)))) hD2
   dsimp only at hgv
   have HG:=Lib.hid (And.intro hgv (And.intro (show KeepD base d w (wr.setCell ⟨d,1,none⟩ (.slice A L.length c)) from (KeepD.ext (HW.out.2.1.trans hE)).trans (KeepD.set 1 _)) (show w.heap.size≤(wr.setCell ⟨d,1,none⟩ (.slice A L.length c)).heap.size from Nat.le_trans (HW.out.2.1.trans hE).size (Nat.le_of_eq (by simp)))))
   clear hE hD hxb ho hO hL hD2 hgv
   go_wp2_with (go_at_call 65; (with_reducible refine HG.out.1.mono ?_); rintro e w9 ⟨rfl,hK9,hz9,k9,H9,hp9,hD9⟩; have H9:=Lib.hid (And.intro hK9 (And.intro hz9 (And.intro hp9 hD9))); clear hK9 hz9 hp9 hD9)
   go_ret
   refine ⟨HG.out.2.1.trans H9.out.1,Nat.le_trans HG.out.2.2 H9.out.2.1,?_⟩
   cases o with
   | false=>exact .inl ⟨rfl,fun j hj hf=>by have:=HK.out.2.2.2.1.2 ⟨j,hj,hf⟩; cases this⟩
   | true =>
    obtain ⟨j,hj,hf⟩:=HK.out.2.2.2.1.1 rfl
    have hu : ∀ i,i < m.free.length→FitG (ix noRun m.free i) x→i=j:=fun i hi hfi=>HW.out.2.2.2.2.2.2.1 j i hj hi hf hfi
    have hLe:=outL_all hj hf hu
    rw [HK.out.2.2.2.2.2] at hLe
    have hD9:=H9.out.2.2.2
    rw [hLe] at hD9
    exact .inr ⟨rfl,_,_,_,⟨j,k9,hj,hf,fun i hi hfi=>by have:=hu i (by omega) hfi; omega,H9.out.2.2.1,rfl⟩,hD9⟩
end Go.Proofs.YtoolenhnhlfhmaaGreatDoor
