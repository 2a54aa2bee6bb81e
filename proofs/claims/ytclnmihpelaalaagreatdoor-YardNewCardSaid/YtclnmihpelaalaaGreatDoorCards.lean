/-
  DERIVED. GIVEN WITH THE SEED: THE CARDS: each row of YtclnmihpelaalaaGreatDoorRows.lean that lists a variable, with what it lists TIED to the program's text (the seventh form; the later family's looks); each row that meets fmt, with fmt's text TOLD by the authors' own Lean function (tested against real Go, not proved from fmt's source: count such statements apart). THE CARD IS WHAT COUNTS. Prove the row's statement (the work); the ties are given (YtclnmihpelaalaaGreatDoorTie.lean); close each card by the builder's one call (the guide's Derived/Test/ToyasCard.lean, 'card_holds'). Laid BY PROGRAM, IN A SANDBOX (cutbox-door.mjs). By AI agents, Wed Nov 11 2026. No macro, syntax, notation, axiom, sorry.
-/
import Derived.Test.YtclnmihpelaalaaGreatDoorRows
import GoSem.ClaimSeven
namespace Go.Proofs.YtclnmihpelaalaaGreatDoor
namespace Rows

/-- THE TIED CARD OF 'dustpanlaw27.YardNew'. -/
def yardNewCard : Claim7 := { stood := { row := yardNewRow, standIns := [], harness := (true, "31f1e5e6f4042ff5552ba29b25c5433ff879fecea47a203a5e62ccac34efe354"), looks := true }, kinds := [], alts := [], laidByText := true, laidKinds := [.data, .data], laidTests := true, laidLooks := .later }
def YardNewCardSaid : Prop := Claim7.holds Tryz.pinned (.plain (OpenSpec.ofChange yardNewSpec)) yardNewCard

/-- THE SECOND FORM's CARD OF 'dustpanlaw27.YardNew'. -/
def yardNewUptoCard : Claim7 := { stood := { row := yardNewUptoRow, standIns := [], harness := (true, "31f1e5e6f4042ff5552ba29b25c5433ff879fecea47a203a5e62ccac34efe354"), looks := true }, kinds := [], alts := [], laidByText := true, laidKinds := [.data, .data], laidTests := true, laidLooks := .later }
def YardNewUptoCardSaid : Prop := Claim7.holds Tryz.pinned (.plain (OpenSpec.upto yardNewSpec)) yardNewUptoCard
end Rows
end Go.Proofs.YtclnmihpelaalaaGreatDoor
