/-
  No cell of these rows narrows 'for every input' (looked for: loops, veiled, ifaces, maps, wideKeys, modest, calm, conditions, laid).
  DERIVED. THE GIVEN ROWS OF THIS SEAT. 5 by the template 'for every input the law returns true; each argument reads behind the call as it read before'; 0 by the template 'total and deterministic' (their statements: YtmpiodlkhjjbfaaTotals.lean).
  GIVEN WITH THE SEED: the statements are not yours to turn. If you find one false, say at which input.
  Laid BY PROGRAM, IN A SANDBOX (cutbox-rows.mjs): the forced cells as the released guide's own fill.sh prints them over the translation d5befd2d0bfd2f8e… (all of the seat's roots in one cut). By AI agents, Wed Nov 11 2026. No macro, syntax, notation, axiom, sorry.
-/
import Derived.Test.YtmpiodlkhjjbfaaChecked
import GoSem.Claim
import GoSem.ClaimJoined
import GoSem.ClaimMapViews
import Derived.JoinedTies
import Derived.KernelRfl
namespace Go.Proofs.Ytmpiodlkhjjbfaa
/- THE CELL 'sum', in the pinned program and in every row, IS THE sha256 OF THE DUMP (.gsa) THAT YtmpiodlkhjjbfaaProg.lean LOADS. Nothing in Lean hashes anything: it is a label: what it is worth is what the hold of that sum in a sandbox is worth. -/
noncomputable def Try.pinned : Pinned := { name := "ytmpiodlkhjjbfaa", sum := "d5befd2d0bfd2f8e106393567a642f5a20056ee3b886c8b92406f5d2949dc00b", checked := Try.checked }
namespace Rows
def none {H : Type} : Left H := { results := [], args := [] }

/-- 'dustpanlaw30.AuditParts': WHATEVER THE INPUT: true; the input reads as it did. -/
def auditPartsSpec : ChangeSpec := { name := "auditParts", fn := fun _ => fun
  | [d1, d2, d3] => { results := [.lit (.bool true)], args := [d1, d2, d3] }
  | _ => none }
def auditPartsRow : OpenClaim := { program := "ytmpiodlkhjjbfaa", sum := "d5befd2d0bfd2f8e106393567a642f5a20056ee3b886c8b92406f5d2949dc00b", func := "dustpan/dustpanlaw30.AuditParts", spec := "auditParts", unfollowed := true, recurses := true, apart := false }
def AuditPartsSaid : Prop := auditPartsRow.holds Try.pinned (OpenSpec.ofChange auditPartsSpec)

/-- ITS FALSE NEIGHBOUR: 'it returns false'. Refute it at one input. -/
def auditPartsWrong : ChangeSpec := { name := "auditParts", fn := fun _ => fun
  | [d1, d2, d3] => { results := [.lit (.bool false)], args := [d1, d2, d3] }
  | _ => none }
def AuditPartsWrongFalsely : Prop := auditPartsRow.holds Try.pinned (OpenSpec.ofChange auditPartsWrong)

/-- 'dustpanlaw31.FairMore': WHATEVER THE INPUT: true; the input reads as it did. -/
def fairMoreSpec : ChangeSpec := { name := "fairMore", fn := fun _ => fun
  | [d1, d2, d3, d4, d5] => { results := [.lit (.bool true)], args := [d1, d2, d3, d4, d5] }
  | _ => none }
def fairMoreRow : OpenClaim := { program := "ytmpiodlkhjjbfaa", sum := "d5befd2d0bfd2f8e106393567a642f5a20056ee3b886c8b92406f5d2949dc00b", func := "dustpan/dustpanlaw31.FairMore", spec := "fairMore", unfollowed := true, recurses := true, apart := false }
def FairMoreSaid : Prop := fairMoreRow.holds Try.pinned (OpenSpec.ofChange fairMoreSpec)

/-- ITS FALSE NEIGHBOUR: 'it returns false'. Refute it at one input. -/
def fairMoreWrong : ChangeSpec := { name := "fairMore", fn := fun _ => fun
  | [d1, d2, d3, d4, d5] => { results := [.lit (.bool false)], args := [d1, d2, d3, d4, d5] }
  | _ => none }
def FairMoreWrongFalsely : Prop := fairMoreRow.holds Try.pinned (OpenSpec.ofChange fairMoreWrong)

/-- 'dustpanlaw31.FairTurns': WHATEVER THE INPUT: true; the input reads as it did. -/
def fairTurnsSpec : ChangeSpec := { name := "fairTurns", fn := fun _ => fun
  | [d1, d2, d3] => { results := [.lit (.bool true)], args := [d1, d2, d3] }
  | _ => none }
def fairTurnsRow : OpenClaim := { program := "ytmpiodlkhjjbfaa", sum := "d5befd2d0bfd2f8e106393567a642f5a20056ee3b886c8b92406f5d2949dc00b", func := "dustpan/dustpanlaw31.FairTurns", spec := "fairTurns", unfollowed := true, recurses := true, apart := false }
def FairTurnsSaid : Prop := fairTurnsRow.holds Try.pinned (OpenSpec.ofChange fairTurnsSpec)

/-- ITS FALSE NEIGHBOUR: 'it returns false'. Refute it at one input. -/
def fairTurnsWrong : ChangeSpec := { name := "fairTurns", fn := fun _ => fun
  | [d1, d2, d3] => { results := [.lit (.bool false)], args := [d1, d2, d3] }
  | _ => none }
def FairTurnsWrongFalsely : Prop := fairTurnsRow.holds Try.pinned (OpenSpec.ofChange fairTurnsWrong)

/-- 'dustpanlaw31.FairRight': WHATEVER THE INPUT: true; the input reads as it did. -/
def fairRightSpec : ChangeSpec := { name := "fairRight", fn := fun _ => fun
  | [d1, d2, d3, d4, d5] => { results := [.lit (.bool true)], args := [d1, d2, d3, d4, d5] }
  | _ => none }
def fairRightRow : OpenClaim := { program := "ytmpiodlkhjjbfaa", sum := "d5befd2d0bfd2f8e106393567a642f5a20056ee3b886c8b92406f5d2949dc00b", func := "dustpan/dustpanlaw31.FairRight", spec := "fairRight", unfollowed := true, recurses := true, apart := false }
def FairRightSaid : Prop := fairRightRow.holds Try.pinned (OpenSpec.ofChange fairRightSpec)

/-- ITS FALSE NEIGHBOUR: 'it returns false'. Refute it at one input. -/
def fairRightWrong : ChangeSpec := { name := "fairRight", fn := fun _ => fun
  | [d1, d2, d3, d4, d5] => { results := [.lit (.bool false)], args := [d1, d2, d3, d4, d5] }
  | _ => none }
def FairRightWrongFalsely : Prop := fairRightRow.holds Try.pinned (OpenSpec.ofChange fairRightWrong)

/-- 'dustpanlaw31.FairAll': WHATEVER THE INPUT: true; the input reads as it did. -/
def fairAllSpec : ChangeSpec := { name := "fairAll", fn := fun _ => fun
  | [d1, d2, d3, d4, d5, d6, d7] => { results := [.lit (.bool true)], args := [d1, d2, d3, d4, d5, d6, d7] }
  | _ => none }
def fairAllRow : OpenClaim := { program := "ytmpiodlkhjjbfaa", sum := "d5befd2d0bfd2f8e106393567a642f5a20056ee3b886c8b92406f5d2949dc00b", func := "dustpan/dustpanlaw31.FairAll", spec := "fairAll", unfollowed := true, recurses := true, apart := false }
def FairAllSaid : Prop := fairAllRow.holds Try.pinned (OpenSpec.ofChange fairAllSpec)

/-- ITS FALSE NEIGHBOUR: 'it returns false'. Refute it at one input. -/
def fairAllWrong : ChangeSpec := { name := "fairAll", fn := fun _ => fun
  | [d1, d2, d3, d4, d5, d6, d7] => { results := [.lit (.bool false)], args := [d1, d2, d3, d4, d5, d6, d7] }
  | _ => none }
def FairAllWrongFalsely : Prop := fairAllRow.holds Try.pinned (OpenSpec.ofChange fairAllWrong)

/- THE SECOND FORM. 'bulk': how many values and letters a reading holds, each counted each time it is reached (what is shared counts as often as it is met; a slice's spare places count too). A statement '..UptoSaid' is the law's where the arguments, and the package variables that the reading takes, are together of bulk at most 1048576: NARROWER than '..Said'. Prove '..Said' where nothing that the law and all that it calls make is longer than what came in: it says more and counts as full. Else prove '..UptoSaid'. A law counts once. -/
mutual
def uptoBulk {H : Type} : DataW H → Nat
  | .lit (.string bytes) => bytes.length + 1
  | .lit _ => 1
  | .nil => 1
  | .ptr d => uptoBulk d + 1
  | .slice elems spare => uptoBulkAll elems + uptoBulkAll spare + 1
  | .agg parts => uptoBulkAll parts + 1
  | .iface _ d => uptoBulk d + 1
  | .map entries => uptoBulkEntries entries + 1
  | .held _ => 1
def uptoBulkAll {H : Type} : List (DataW H) → Nat
  | [] => 0
  | d :: r => uptoBulk d + uptoBulkAll r
def uptoBulkEntries {H : Type} : List (Lit × DataW H) → Nat
  | [] => 0
  | x :: r => uptoBulkEntry x + uptoBulkEntries r
def uptoBulkEntry {H : Type} : Lit × DataW H → Nat
  | (.string bytes, d) => bytes.length + uptoBulk d + 1
  | (_, d) => uptoBulk d + 1
 end
def uptoSmall : (H : Type) → List (DataW H) → Bool := fun _ ds => decide (uptoBulkAll ds ≤ 1048576)
def OpenSpec.upto (s : _root_.Go.ChangeSpec) : _root_.Go.OpenSpec := { _root_.Go.OpenSpec.ofChange s with cond := some uptoSmall }

/-- 'dustpanlaw30.AuditParts', WHERE WHAT IT READS IS OF BULK AT MOST 1048576: true; the input reads as it did. -/
def auditPartsUptoRow : OpenClaim := { program := "ytmpiodlkhjjbfaa", sum := "d5befd2d0bfd2f8e106393567a642f5a20056ee3b886c8b92406f5d2949dc00b", func := "dustpan/dustpanlaw30.AuditParts", spec := "auditParts", unfollowed := true, recurses := true, apart := false, narrowed := true }
def AuditPartsUptoSaid : Prop := auditPartsUptoRow.holds Try.pinned (OpenSpec.upto auditPartsSpec)

/-- 'dustpanlaw31.FairMore', WHERE WHAT IT READS IS OF BULK AT MOST 1048576: true; the input reads as it did. -/
def fairMoreUptoRow : OpenClaim := { program := "ytmpiodlkhjjbfaa", sum := "d5befd2d0bfd2f8e106393567a642f5a20056ee3b886c8b92406f5d2949dc00b", func := "dustpan/dustpanlaw31.FairMore", spec := "fairMore", unfollowed := true, recurses := true, apart := false, narrowed := true }
def FairMoreUptoSaid : Prop := fairMoreUptoRow.holds Try.pinned (OpenSpec.upto fairMoreSpec)

/-- 'dustpanlaw31.FairTurns', WHERE WHAT IT READS IS OF BULK AT MOST 1048576: true; the input reads as it did. -/
def fairTurnsUptoRow : OpenClaim := { program := "ytmpiodlkhjjbfaa", sum := "d5befd2d0bfd2f8e106393567a642f5a20056ee3b886c8b92406f5d2949dc00b", func := "dustpan/dustpanlaw31.FairTurns", spec := "fairTurns", unfollowed := true, recurses := true, apart := false, narrowed := true }
def FairTurnsUptoSaid : Prop := fairTurnsUptoRow.holds Try.pinned (OpenSpec.upto fairTurnsSpec)

/-- 'dustpanlaw31.FairRight', WHERE WHAT IT READS IS OF BULK AT MOST 1048576: true; the input reads as it did. -/
def fairRightUptoRow : OpenClaim := { program := "ytmpiodlkhjjbfaa", sum := "d5befd2d0bfd2f8e106393567a642f5a20056ee3b886c8b92406f5d2949dc00b", func := "dustpan/dustpanlaw31.FairRight", spec := "fairRight", unfollowed := true, recurses := true, apart := false, narrowed := true }
def FairRightUptoSaid : Prop := fairRightUptoRow.holds Try.pinned (OpenSpec.upto fairRightSpec)

/-- 'dustpanlaw31.FairAll', WHERE WHAT IT READS IS OF BULK AT MOST 1048576: true; the input reads as it did. -/
def fairAllUptoRow : OpenClaim := { program := "ytmpiodlkhjjbfaa", sum := "d5befd2d0bfd2f8e106393567a642f5a20056ee3b886c8b92406f5d2949dc00b", func := "dustpan/dustpanlaw31.FairAll", spec := "fairAll", unfollowed := true, recurses := true, apart := false, narrowed := true }
def FairAllUptoSaid : Prop := fairAllUptoRow.holds Try.pinned (OpenSpec.upto fairAllSpec)

end Rows
end Go.Proofs.Ytmpiodlkhjjbfaa
