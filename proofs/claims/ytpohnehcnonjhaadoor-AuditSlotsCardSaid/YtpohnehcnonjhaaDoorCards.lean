/-
  DERIVED. GIVEN WITH THE SEED: THE CARDS: each row of YtpohnehcnonjhaaDoorRows.lean that lists a variable, with what it lists TIED to the program's text (the seventh form; the later family's looks); each row that meets fmt, with fmt's text TOLD by the authors' own Lean function (tested against real Go, not proved from fmt's source: count such statements apart). THE CARD IS WHAT COUNTS. Prove the row's statement (the work); the ties are given (YtpohnehcnonjhaaDoorTie.lean); close each card by the builder's one call (the guide's Derived/Test/ToyasCard.lean, 'card_holds'). Laid BY PROGRAM, IN A SANDBOX (cutbox-door.mjs). By AI agents, Wed Nov 11 2026. No macro, syntax, notation, axiom, sorry.
-/
import Derived.Test.YtpohnehcnonjhaaDoorRows
import GoSem.ClaimSeven
namespace Go.Proofs.YtpohnehcnonjhaaDoor
namespace Rows

/-- THE TIED CARD OF 'dustpanlaw30.AuditSlots'. -/
def auditSlotsCard : Claim7 := { stood := { row := auditSlotsRow, standIns := [], harness := (true, "d1419fb438f9451967aa5adf3905ddbcdab3a5cb09ab29e8ad85f9ee6882d092"), looks := false }, kinds := [], alts := [], laidByText := true, laidKinds := [.data, .data], laidTests := true, laidLooks := .later }
def AuditSlotsCardSaid : Prop := Claim7.holds Tryd.pinned (.plain (OpenSpec.ofChange auditSlotsSpec)) auditSlotsCard

/-- THE SECOND FORM's CARD OF 'dustpanlaw30.AuditSlots'. -/
def auditSlotsUptoCard : Claim7 := { stood := { row := auditSlotsUptoRow, standIns := [], harness := (true, "d1419fb438f9451967aa5adf3905ddbcdab3a5cb09ab29e8ad85f9ee6882d092"), looks := false }, kinds := [], alts := [], laidByText := true, laidKinds := [.data, .data], laidTests := true, laidLooks := .later }
def AuditSlotsUptoCardSaid : Prop := Claim7.holds Tryd.pinned (.plain (OpenSpec.upto auditSlotsSpec)) auditSlotsUptoCard
end Rows
end Go.Proofs.YtpohnehcnonjhaaDoor
