/-
  DERIVED. GIVEN WITH THE SEED: THE CARDS: each row of YtmpiodlkhjjbfaaDoorRows.lean that lists a variable, with what it lists TIED to the program's text (the seventh form; the later family's looks); each row that meets fmt, with fmt's text TOLD by the authors' own Lean function (tested against real Go, not proved from fmt's source: count such statements apart). THE CARD IS WHAT COUNTS. Prove the row's statement (the work); the ties are given (YtmpiodlkhjjbfaaDoorTie.lean); close each card by the builder's one call (the guide's Derived/Test/ToyasCard.lean, 'card_holds'). Laid BY PROGRAM, IN A SANDBOX (cutbox-door.mjs). By AI agents, Wed Nov 11 2026. No macro, syntax, notation, axiom, sorry.
-/
import Derived.Test.YtmpiodlkhjjbfaaDoorRows
import GoSem.ClaimSeven
namespace Go.Proofs.YtmpiodlkhjjbfaaDoor
namespace Rows

/-- THE TIED CARD OF 'dustpanlaw30.AuditSlots'. -/
def auditSlotsCard : Claim7 := { stood := { row := auditSlotsRow, standIns := [], harness := (true, "eeaae89dd79c6841e3ba38000cf41d854dff08b2ea542897b9da1329089063e5"), looks := false }, kinds := [], alts := [], laidByText := true, laidKinds := [.data, .data], laidTests := true, laidLooks := .later }
def AuditSlotsCardSaid : Prop := Claim7.holds Tryd.pinned (.plain (OpenSpec.ofChange auditSlotsSpec)) auditSlotsCard

/-- THE TIED CARD OF 'dustpanlaw30.AuditAll'. -/
def auditAllCard : Claim7 := { stood := { row := auditAllRow, standIns := [], harness := (true, "eeaae89dd79c6841e3ba38000cf41d854dff08b2ea542897b9da1329089063e5"), looks := false }, kinds := [], alts := [], laidByText := true, laidKinds := [.data, .data], laidTests := true, laidLooks := .later }
def AuditAllCardSaid : Prop := Claim7.holds Tryd.pinned (.plain (OpenSpec.ofChange auditAllSpec)) auditAllCard

/-- THE SECOND FORM's CARD OF 'dustpanlaw30.AuditSlots'. -/
def auditSlotsUptoCard : Claim7 := { stood := { row := auditSlotsUptoRow, standIns := [], harness := (true, "eeaae89dd79c6841e3ba38000cf41d854dff08b2ea542897b9da1329089063e5"), looks := false }, kinds := [], alts := [], laidByText := true, laidKinds := [.data, .data], laidTests := true, laidLooks := .later }
def AuditSlotsUptoCardSaid : Prop := Claim7.holds Tryd.pinned (.plain (OpenSpec.upto auditSlotsSpec)) auditSlotsUptoCard

/-- THE SECOND FORM's CARD OF 'dustpanlaw30.AuditAll'. -/
def auditAllUptoCard : Claim7 := { stood := { row := auditAllUptoRow, standIns := [], harness := (true, "eeaae89dd79c6841e3ba38000cf41d854dff08b2ea542897b9da1329089063e5"), looks := false }, kinds := [], alts := [], laidByText := true, laidKinds := [.data, .data], laidTests := true, laidLooks := .later }
def AuditAllUptoCardSaid : Prop := Claim7.holds Tryd.pinned (.plain (OpenSpec.upto auditAllSpec)) auditAllUptoCard
end Rows
end Go.Proofs.YtmpiodlkhjjbfaaDoor
