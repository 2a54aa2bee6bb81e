/- The law of models that may be, as its arguments come in. -/
import Derived.Test.YtoolenhnhlfhmaaGreatDoorRdA
import Derived.Test.YtoolenhnhlfhmaaGreatDoorHG
import Derived.Test.YtoolenhnhlfhmaaGreatDoorHG
namespace Go.Proofs.YtoolenhnhlfhmaaGreatDoor
theorem wf_u16 {z : Int} (h : (Lit.int .u16 z).wf=true) : 0≤z∧z≤65535:=by simpa [Lit.wf,IntKind.min,IntKind.max,IntKind.signed,IntKind.bits] using h
theorem Rd_any (A : Option Addr) (ns : List Nat) (ac : Nat) (C : Option Addr) (ms : List Nat) (cc : Nat) (a b c d e : Int) (w : World) (hT : Tab w) (hB : TabB w)
  (hA : SlR w A ns.length 1 (u8V ns)) (hn : ∀ j,j < ns.length→(Lit.int .u8 ((ix (0 : Nat) ns j : Nat) : Int)).wf=true) (hl1 : ns.length≤4611686018427387904)
  (hC : SlR w C ms.length 1 (u64V ms)) (hms : ∀ j,j < ms.length→(Lit.int .u64 ((ix (0 : Nat) ms j : Nat) : Int)).wf=true) (hl2 : ms.length≤4611686018427387904)
  (w2 : (Lit.int .u8 a).wf=true) (w3 : (Lit.int .u8 b).wf=true) (w4 : (Lit.int .u8 c).wf=true) (w5 : (Lit.int .u16 d).wf=true) (w6 : (Lit.int .u64 e).wf=true) :
  Calls Tryz.prog 5 #[.slice A ns.length ac,.slice C ms.length cc,.int .u8 a,.int .u8 b,.int .u8 c,.int .u16 d,.int .u64 e] w fun e w'=>e=.returned (.bool true)∧Ext w w':=by
 obtain ⟨a,rfl⟩:=Int.eq_ofNat_of_zero_le (wf_nn8 a w2)
 obtain ⟨b,rfl⟩:=Int.eq_ofNat_of_zero_le (wf_nn8 b w3)
 obtain ⟨c,rfl⟩:=Int.eq_ofNat_of_zero_le (wf_nn8 c w4)
 obtain ⟨d,rfl⟩:=Int.eq_ofNat_of_zero_le (wf_u16 w5).1
 obtain ⟨e,rfl⟩:=Int.eq_ofNat_of_zero_le (wf_nn64 e w6)
 have:=(wf_u16 w5).2
 exact madeL_any ns ms A C ac cc a b c d e w hA hC (fun j hj=>wf_lt8 (hn j hj)) (fun j hj=>wf_lt64 (hms j hj)) ⟨hl1,hl2⟩ (wf_lt8 w2) (wf_lt8 w3) (wf_lt8 w4) (by omega) (wf_lt64 w6) hT hB
end Go.Proofs.YtoolenhnhlfhmaaGreatDoor
