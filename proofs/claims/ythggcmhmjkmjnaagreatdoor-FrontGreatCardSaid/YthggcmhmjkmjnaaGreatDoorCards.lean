/-
  DERIVED. GIVEN WITH THE SEED: THE CARDS: each row of YthggcmhmjkmjnaaGreatDoorRows.lean that lists a variable, with what it lists TIED to the program's text (the seventh form; the later family's looks); each row that meets fmt, with fmt's text TOLD by the authors' own Lean function (tested against real Go, not proved from fmt's source: count such statements apart). THE CARD IS WHAT COUNTS. Prove the row's statement (the work); the ties are given (YthggcmhmjkmjnaaGreatDoorTie.lean); close each card by the builder's one call (the guide's Derived/Test/ToyasCard.lean, 'card_holds'). Laid BY PROGRAM, IN A SANDBOX (cutbox-door.mjs). By AI agents, Wed Nov 11 2026. No macro, syntax, notation, axiom, sorry.
-/
import Derived.Test.YthggcmhmjkmjnaaGreatDoorRows
import GoSem.ClaimSeven
namespace Go.Proofs.YthggcmhmjkmjnaaGreatDoor
namespace Rows

/-- THE TIED CARD OF 'dustpanlaw21.FrontGreat'. -/
def frontGreatCard : Claim7 := { stood := { row := frontGreatRow, standIns := [], harness := (true, "3a3e334ac81b55ad5ba36cfbf298204b4554ccc378f4ac2121a48dbb1d7ad0a8"), looks := false }, kinds := [], alts := [], laidByText := true, laidKinds := [.data, .data], laidTests := true, laidLooks := .later }
def FrontGreatCardSaid : Prop := Claim7.holds Tryz.pinned (.plain (OpenSpec.ofChange frontGreatSpec)) frontGreatCard

/-- THE SECOND FORM's CARD OF 'dustpanlaw21.FrontGreat'. -/
def frontGreatUptoCard : Claim7 := { stood := { row := frontGreatUptoRow, standIns := [], harness := (true, "3a3e334ac81b55ad5ba36cfbf298204b4554ccc378f4ac2121a48dbb1d7ad0a8"), looks := false }, kinds := [], alts := [], laidByText := true, laidKinds := [.data, .data], laidTests := true, laidLooks := .later }
def FrontGreatUptoCardSaid : Prop := Claim7.holds Tryz.pinned (.plain (OpenSpec.upto frontGreatSpec)) frontGreatUptoCard
end Rows
end Go.Proofs.YthggcmhmjkmjnaaGreatDoor
