/- The law of pages apart, as its arguments come in. -/
import Derived.Test.YtoolenhnhlfhmaaGreatDoorDkZ
import Derived.Test.YtoolenhnhlfhmaaGreatDoorOpenE
import Derived.Test.YtoolenhnhlfhmaaGreatDoorLaid
namespace Go.Proofs.YtoolenhnhlfhmaaGreatDoor
theorem Ap_any (A : Option Addr) (ns : List Nat) (ac : Nat) (C : Option Addr) (ms : List Nat) (cc : Nat) (L : Option Addr) (l : List MarkD) (lc : Nat) (w : World) (hT : Tab w) (hB : TabB w)
    (hA : SlR w A ns.length 1 (u8V ns)) (hn : ∀ j, j < ns.length → (Lit.int .u8 ((ix (0 : Nat) ns j : Nat) : Int)).wf = true) (hl1 : ns.length ≤ 4611686018427387904)
    (hC : SlR w C ms.length 1 (u64V ms)) (hms : ∀ j, j < ms.length → (Lit.int .u64 ((ix (0 : Nat) ms j : Nat) : Int)).wf = true) (hl2 : ms.length ≤ 4611686018427387904)
    (hL : SlR w L l.length 6 (marksV l)) (hx : ∀ j, j < l.length → MarkOk (ix noMark l j)) (hll : l.length ≤ 4611686018427387904) :
    Calls Tryz.prog 3 #[.slice A ns.length ac, .slice C ms.length cc, .slice L l.length lc] w fun e w' => e = .returned (.bool true) ∧ Ext w w' :=
  apart_any ns ms l A C L ac cc lc w hA hC (fun j hj => wf_lt8 (hn j hj)) (fun j hj => wf_lt64 (hms j hj)) ⟨hl1, hl2⟩ hL hll (fun j hj => (hx j hj).mask) hT hB
end Go.Proofs.YtoolenhnhlfhmaaGreatDoor
