/- The law of any model, as its arguments come in. -/
import Derived.Test.YtoolenhnhlfhmaaGreatDoorRaB
import Derived.Test.YtoolenhnhlfhmaaGreatDoorHG
namespace Go.Proofs.YtoolenhnhlfhmaaGreatDoor
theorem Ra_any (m : ModelD) (F H S G : Option Addr) (fc hc sc gc : Nat) (x : MarkD) (t c n : Int) (w : World) (hT : Tab w) (hB : TabB w) (hm : ModelR w m F H S G) (hmk : MarksOk m) (hg : ∀ i,i < m.gone.length→ix 0 m.gone i≤9223372036854775807)
  (hl : m.free.length≤1152921504606846976∧m.hands.length≤1152921504606846976∧m.spans.length≤1152921504606846976∧m.gone.length≤1152921504606846976) (hx : MarkOk x) (hn : (Lit.int .i64 n).wf=true) :
  Calls Tryz.prog 4 #[modelV m F H S G fc hc sc gc,markV x,.int .i64 t,.int .i64 c,.int .i64 n] w fun e w'=>e=.returned (.bool true)∧Ext w w' :=
 raw_any m x F H S G fc hc sc gc t c n w hm hmk hg hx (bounds_i64 hn) hl hT hB
end Go.Proofs.YtoolenhnhlfhmaaGreatDoor
