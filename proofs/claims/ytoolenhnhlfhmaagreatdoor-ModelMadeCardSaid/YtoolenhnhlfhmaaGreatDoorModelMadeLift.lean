/- dustpan/dustpanlaw28.ModelMade: the walk, put to the row's form. -/
import Derived.Test.YtoolenhnhlfhmaaGreatDoorRows
import Derived.Test.YtoolenhnhlfhmaaGreatDoorTie
import Derived.Test.YtoolenhnhlfhmaaGreatDoorCards
import Derived.Test.YtoolenhnhlfhmaaGreatDoorRdL
import Derived.WalkKit
import Derived.ProofKit
import Derived.OpenShut
import Derived.Lay
import Derived.MakeChecks
import Derived.Below
import Derived.SevenTiedAt
import Derived.Lib.SmallJoins
namespace Go.Proofs.YtoolenhnhlfhmaaGreatDoor.modelMade
open Go.ChangeShapes Go.WideShapes Go.ChangeAt Go.RowKit
set_option linter.unusedVariables false
set_option maxRecDepth 100000
theorem own : ownKnob Tryz.prog.godebug=none:=by kernel_rfl
theorem laidOut : laidOutB Tryz.prog=true:=by kernel_rfl
theorem bytes_uint8 : Tryz.prog.bytesOf 5=1:=by kernel_rfl
theorem bytes_uint64 : Tryz.prog.bytesOf 32=8:=by kernel_rfl
theorem bytes_mark : Tryz.prog.bytesOf 34=48:=by kernel_rfl
set_option maxRecDepth 100000 in
theorem lifted (os : Os) (started : os.Started) (H : Type) (enc : TypeId × Value→H) :
  ReturnsInHanded {} Tryz.checked os 5 .any (fun w args=>(Rows.modelMadeSpec.pre enc Tryz.prog Tryz.f5 [] false w args∧laidMetH Tryz.prog laidBoth w)∧sizedMet enc Tryz.prog Tryz.f5 (OpenSpec.ofChange Rows.modelMadeSpec) false w args)
   (Rows.modelMadeSpec.post enc Tryz.prog Tryz.f5 false true false false):=by
 refine returnsInHanded_of_change_and (C:=Tryz.checked) (X:=fun w _=>laidMetH Tryz.prog laidBoth w) (fun _ _ _ hh h=>h.of_heap hh) own started (by kernel_rfl) Tryz.func5
  (ChangeSpec.witness_shaped (enc:=enc) (C:=Tryz.checked) (os:=os) (X:=fun w _=>laidMetH Tryz.prog laidBoth w) false (World.laidAll Tryz.prog os laidBoth) #[.slice none 0 0,.slice none 0 0,.int .u8 0,.int .u8 0,.int .u8 0,.int .u16 0,.int .u64 0] 8 (World.laidAll_os _ _ _)
   (World.shaped_of_ZipB (by kernel_rfl) (by kernel_rfl)) (by kernel_rfl) (by kernel_rfl) (by kernel_rfl)
   (by rw [MakeChecks.laidMetH_plain _ _ _ (by kernel_rfl)]; exact laidMet_laidAll _ (by kernel_rfl) (by kernel_rfl))) ?_
 intro W base args ds gs before hval0 hW _ hsz hL _
 have hval : ∀ (j : Nat) t v,Tryz.f5.params[j]?=some t→args[j]?=some v→Value.okWide Tryz.prog W .any base t v:=hval0
 have hW':=hW
 obtain ⟨p,q,hA0,hV,rfl,hfz,hnd⟩:=hW
 have hA : DataW.TrodAll enc Tryz.prog W 0 (fun _=>true) true Tryz.f5.params.toList args.toList ds p:=hA0
 rw [Tryz.params5] at hA hval
 obtain ⟨v0,vs0,d0,ds0,p0,q0,hargs,rfl,rfl,h0,r0⟩:=trodAll_cons hA
 obtain ⟨v1,vs1,d1,ds1,p1,q1,rfl,rfl,rfl,h1,r1⟩:=trodAll_cons r0
 obtain ⟨v2,vs2,d2,ds2,p2,q2,rfl,rfl,rfl,h2,r2⟩:=trodAll_cons r1
 obtain ⟨v3,vs3,d3,ds3,p3,q3,rfl,rfl,rfl,h3,r3⟩:=trodAll_cons r2
 obtain ⟨v4,vs4,d4,ds4,p4,q4,rfl,rfl,rfl,h4,r4⟩:=trodAll_cons r3
 obtain ⟨v5,vs5,d5,ds5,p5,q5,rfl,rfl,rfl,h5,r5⟩:=trodAll_cons r4
 obtain ⟨v6,vs6,d6,ds6,p6,q6,rfl,rfl,rfl,h6,r6⟩:=trodAll_cons r5
 obtain ⟨rfl,rfl,rfl⟩:=trodAll_nil r6
 obtain rfl : args=#[v0,v1,v2,v3,v4,v5,v6]:=by cases args; simp_all
 obtain ⟨rfl,rfl⟩:=trodVars_none hV
 rw [Tryz.params5] at hsz
 have kk0:=h0
 have lt0 : ∀ x ∈ p0,x.block < W.heap.size:=by obtain ⟨m,hm⟩:=kk0; exact DataW.trod_lt m _ _ _ hm
 obtain ⟨nA0,ln0,nc0,rfl⟩:=okWide_slice Tryz.underlying22 (hval 0 22 v0 rfl rfl)
 obtain ⟨e0,hf0⟩:=h0
 obtain ⟨A0,nl0,c0,hv0,hS0,hw0,hl0⟩:=open_nats (k:=.u8) Tryz.underlying22 Tryz.underlying5 (by kernel_rfl) wf_nn8 hf0
 simp [Value.cells] at hv0
 obtain ⟨rfl,rfl,rfl⟩:=hv0
 have hb0:=len_le1 hsz (j:=0) rfl rfl Tryz.underlying22 bytes_uint8 (by omega) hl0
 have kk1:=h1
 have lt1 : ∀ x ∈ p1,x.block < W.heap.size:=by obtain ⟨m,hm⟩:=kk1; exact DataW.trod_lt m _ _ _ hm
 obtain ⟨nA1,ln1,nc1,rfl⟩:=okWide_slice Tryz.underlying23 (hval 1 23 v1 rfl rfl)
 obtain ⟨e1,hf1⟩:=h1
 obtain ⟨A1,nl1,c1,hv1,hS1,hw1,hl1⟩:=open_nats (k:=.u64) Tryz.underlying23 Tryz.underlying32 (by kernel_rfl) wf_nn64 hf1
 simp [Value.cells] at hv1
 obtain ⟨rfl,rfl,rfl⟩:=hv1
 have hb1:=len_le1 hsz (j:=1) rfl rfl Tryz.underlying23 bytes_uint64 (by omega) hl1
 obtain ⟨a2,rfl,rfl,rfl,w2⟩:=open_int Tryz.underlying5 (hval 2 5 v2 rfl rfl) h2
 obtain ⟨a3,rfl,rfl,rfl,w3⟩:=open_int Tryz.underlying5 (hval 3 5 v3 rfl rfl) h3
 obtain ⟨a4,rfl,rfl,rfl,w4⟩:=open_int Tryz.underlying5 (hval 4 5 v4 rfl rfl) h4
 obtain ⟨a5,rfl,rfl,rfl,w5⟩:=open_int Tryz.underlying49 (hval 5 49 v5 rfl rfl) h5
 obtain ⟨a6,rfl,rfl,rfl,w6⟩:=open_int Tryz.underlying32 (hval 6 32 v6 rfl rfl) h6
 clear hA0 hval0
 have hT:=tabs_of_laid hL
 refine Calls.mono (R:=fun e w'=>e=.returned (.bool true)∧Below W.heap.size W w') ?hwalk (fun e W' ⟨he,bel⟩=>?_)
 case hwalk =>
  exact Rd_any nA0 nl0 nc0 nA1 nl1 nc1 a2 a3 a4 a5 a6 W hT.1 hT.2 hS0 hw0 hb0 hS1 hw1 hb1 w2 w3 w4 w5 w6
 subst he
 exact ⟨_,rfl,_,_,_,[],_,[],hW',trodAll_mk1 (shut_bool Tryz.underlying4 _),(trodAll_cons_mk (Below.trod laidOut (by kernel_rfl) (of_decide_eq_true (by kernel_rfl)) kk0 bel lt0) (trodAll_cons_mk (Below.trod laidOut (by kernel_rfl) (of_decide_eq_true (by kernel_rfl)) kk1 bel lt1) (trodAll_cons_mk (shut_int Tryz.underlying5 w2) (trodAll_cons_mk (shut_int Tryz.underlying5 w3) (trodAll_cons_mk (shut_int Tryz.underlying5 w4) (trodAll_cons_mk (shut_int Tryz.underlying49 w5) (trodAll_cons_mk (shut_int Tryz.underlying32 w6) trodAll_mk0))))))),rfl,bel.frame _,fun h=>by cases h⟩
end Go.Proofs.YtoolenhnhlfhmaaGreatDoor.modelMade
