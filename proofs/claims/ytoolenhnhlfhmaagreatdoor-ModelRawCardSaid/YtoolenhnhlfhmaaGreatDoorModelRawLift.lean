/- dustpan/dustpanlaw28.ModelRaw: the walk, put to the row's form. -/
import Derived.Test.YtoolenhnhlfhmaaGreatDoorRows
import Derived.Test.YtoolenhnhlfhmaaGreatDoorTie
import Derived.Test.YtoolenhnhlfhmaaGreatDoorCards
import Derived.Test.YtoolenhnhlfhmaaGreatDoorRaL
import Derived.WalkKit
import Derived.ProofKit
import Derived.OpenShut
import Derived.Lay
import Derived.MakeChecks
import Derived.Below
import Derived.SevenTiedAt
import Derived.Lib.SmallJoins
namespace Go.Proofs.YtoolenhnhlfhmaaGreatDoor.modelRaw
open Go.ChangeShapes Go.WideShapes Go.ChangeAt Go.RowKit
set_option linter.unusedVariables false
set_option maxRecDepth 100000
theorem own : ownKnob Tryz.prog.godebug=none:=by kernel_rfl
theorem laidOut : laidOutB Tryz.prog=true:=by kernel_rfl
theorem bytes_uint8 : Tryz.prog.bytesOf 5=1:=by kernel_rfl
theorem bytes_uint64 : Tryz.prog.bytesOf 32=8:=by kernel_rfl
theorem bytes_mark : Tryz.prog.bytesOf 34=48:=by kernel_rfl
theorem bytes_run : Tryz.prog.bytesOf 54=16:=by kernel_rfl
theorem bytes_hand : Tryz.prog.bytesOf 56=24:=by kernel_rfl
theorem bytes_hold : Tryz.prog.bytesOf 51=64:=by kernel_rfl
theorem bytes_int : Tryz.prog.bytesOf 3=8:=by kernel_rfl
set_option maxRecDepth 100000 in
theorem lifted (os : Os) (started : os.Started) (H : Type) (enc : TypeId × Value→H) :
  ReturnsInHanded {} Tryz.checked os 4 .any (fun w args=>(Rows.modelRawSpec.pre enc Tryz.prog Tryz.f4 [] false w args∧laidMetH Tryz.prog laidBoth w)∧sizedMet enc Tryz.prog Tryz.f4 (OpenSpec.ofChange Rows.modelRawSpec) false w args)
   (Rows.modelRawSpec.post enc Tryz.prog Tryz.f4 false true false false):=by
 refine returnsInHanded_of_change_and (C:=Tryz.checked) (X:=fun w _=>laidMetH Tryz.prog laidBoth w) (fun _ _ _ hh h=>h.of_heap hh) own started (by kernel_rfl) Tryz.func4
  (ChangeSpec.witness_shaped (enc:=enc) (C:=Tryz.checked) (os:=os) (X:=fun w _=>laidMetH Tryz.prog laidBoth w) false (World.laidAll Tryz.prog os laidBoth) #[.agg #[.int .i64 0,.slice none 0 0,.slice none 0 0,.slice none 0 0,.slice none 0 0],.agg #[.int .i64 0,.int .i64 0,.int .i64 0,.int .i64 0,.int .i64 0,.int .u64 0],.int .i64 0,.int .i64 0,.int .i64 0] 8 (World.laidAll_os _ _ _)
   (World.shaped_of_ZipB (by kernel_rfl) (by kernel_rfl)) (by kernel_rfl) (by kernel_rfl) (by kernel_rfl)
   (by rw [MakeChecks.laidMetH_plain _ _ _ (by kernel_rfl)]; exact laidMet_laidAll _ (by kernel_rfl) (by kernel_rfl))) ?_
 intro W base args ds gs before hval0 hW _ hsz hL _
 have hval : ∀ (j : Nat) t v,Tryz.f4.params[j]?=some t→args[j]?=some v→Value.okWide Tryz.prog W .any base t v:=hval0
 have hW':=hW
 obtain ⟨p,q,hA0,hV,rfl,hfz,hnd⟩:=hW
 have hA : DataW.TrodAll enc Tryz.prog W 0 (fun _=>true) true Tryz.f4.params.toList args.toList ds p:=hA0
 rw [Tryz.params4] at hA hval
 obtain ⟨v0,vs0,d0,ds0,p0,q0,hargs,rfl,rfl,h0,r0⟩:=trodAll_cons hA
 obtain ⟨v1,vs1,d1,ds1,p1,q1,rfl,rfl,rfl,h1,r1⟩:=trodAll_cons r0
 obtain ⟨v2,vs2,d2,ds2,p2,q2,rfl,rfl,rfl,h2,r2⟩:=trodAll_cons r1
 obtain ⟨v3,vs3,d3,ds3,p3,q3,rfl,rfl,rfl,h3,r3⟩:=trodAll_cons r2
 obtain ⟨v4,vs4,d4,ds4,p4,q4,rfl,rfl,rfl,h4,r4⟩:=trodAll_cons r3
 obtain ⟨rfl,rfl,rfl⟩:=trodAll_nil r4
 obtain rfl : args=#[v0,v1,v2,v3,v4]:=by cases args; simp_all
 obtain ⟨rfl,rfl⟩:=trodVars_none hV
 rw [Tryz.params4] at hsz
 have kk0:=h0
 have lt0 : ∀ x ∈ p0,x.block < W.heap.size:=by obtain ⟨m,hm⟩:=kk0; exact DataW.trod_lt m _ _ _ hm
 obtain ⟨m0,F0,H0,S0,G0,fc0,hc0,sc0,gc0,e00,e10,e20,e30,e40,rfl,rfl,hR0,hM0,hg0,z10,z20,z30,z40⟩:=in_modelU (hval 0 30 v0 rfl rfl) h0
 have hz0:=sized_agg hsz (j:=0) rfl rfl Tryz.underlying30
 have g10:=len_le2 hz0 (j:=1) rfl rfl Tryz.underlying25 bytes_run (by omega) z10
 have g20:=len_le2 hz0 (j:=2) rfl rfl Tryz.underlying26 bytes_hand (by omega) z20
 have g30:=len_le2 hz0 (j:=3) rfl rfl Tryz.underlying27 bytes_hold (by omega) z30
 have g40:=len_le2 hz0 (j:=4) rfl rfl Tryz.underlying28 bytes_int (by omega) z40
 have kk1:=h1
 have lt1 : ∀ x ∈ p1,x.block < W.heap.size:=by obtain ⟨m,hm⟩:=kk1; exact DataW.trod_lt m _ _ _ hm
 obtain ⟨x1,rfl,hx1⟩:=in_markU (hval 1 34 v1 rfl rfl) h1
 obtain ⟨a2,rfl,rfl,rfl,w2⟩:=open_int Tryz.underlying3 (hval 2 3 v2 rfl rfl) h2
 obtain ⟨a3,rfl,rfl,rfl,w3⟩:=open_int Tryz.underlying3 (hval 3 3 v3 rfl rfl) h3
 obtain ⟨a4,rfl,rfl,rfl,w4⟩:=open_int Tryz.underlying3 (hval 4 3 v4 rfl rfl) h4
 clear hA0 hval0
 have hT:=tabs_of_laid hL
 refine Calls.mono (R:=fun e w'=>e=.returned (.bool true)∧Below W.heap.size W w') ?hwalk (fun e W' ⟨he,bel⟩=>?_)
 case hwalk =>
  exact Ra_any m0 F0 H0 S0 G0 fc0 hc0 sc0 gc0 x1 a2 a3 a4 W hT.1 hT.2 hR0 hM0 hg0 ⟨g10,g20,g30,g40⟩ hx1 w4
 subst he
 exact ⟨_,rfl,_,_,_,[],_,[],hW',trodAll_mk1 (shut_bool Tryz.underlying4 _),(trodAll_cons_mk (Below.trod laidOut (by kernel_rfl) (of_decide_eq_true (by kernel_rfl)) kk0 bel lt0) (trodAll_cons_mk (Below.trod laidOut (by kernel_rfl) (of_decide_eq_true (by kernel_rfl)) kk1 bel lt1) (trodAll_cons_mk (shut_int Tryz.underlying3 w2) (trodAll_cons_mk (shut_int Tryz.underlying3 w3) (trodAll_cons_mk (shut_int Tryz.underlying3 w4) trodAll_mk0))))),rfl,bel.frame _,fun h=>by cases h⟩
end Go.Proofs.YtoolenhnhlfhmaaGreatDoor.modelRaw
