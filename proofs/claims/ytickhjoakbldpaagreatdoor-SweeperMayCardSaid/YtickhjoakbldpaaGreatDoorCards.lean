/-
  DERIVED. GIVEN WITH THE SEED: THE CARDS: each row of YtickhjoakbldpaaGreatDoorRows.lean that lists a variable, with what it lists TIED to the program's text (the seventh form; the later family's looks); each row that meets fmt, with fmt's text TOLD by the authors' own Lean function (tested against real Go, not proved from fmt's source: count such statements apart). THE CARD IS WHAT COUNTS. Prove the row's statement (the work); the ties are given (YtickhjoakbldpaaGreatDoorTie.lean); close each card by the builder's one call (the guide's Derived/Test/ToyasCard.lean, 'card_holds'). Laid BY PROGRAM, IN A SANDBOX (cutbox-door.mjs). By AI agents, Wed Nov 11 2026. No macro, syntax, notation, axiom, sorry.
-/
import Derived.Test.YtickhjoakbldpaaGreatDoorRows
import GoSem.ClaimSeven
namespace Go.Proofs.YtickhjoakbldpaaGreatDoor
namespace Rows

/-- THE TIED CARD OF 'dustpanlaw24.ScavMay'. -/
def scavMayCard : Claim7 := { stood := { row := scavMayRow, standIns := [], harness := (true, "768ce2de60bd3ce9650bc393f3fb8431b221a68943fef9c0bb0b34a57d2f92ab"), looks := false }, kinds := [], alts := [], laidByText := true, laidKinds := [.data], laidTests := true, laidLooks := .later }
def ScavMayCardSaid : Prop := Claim7.holds Tryz.pinned (.plain (OpenSpec.ofChange scavMaySpec)) scavMayCard

/-- THE TIED CARD OF 'dustpanlaw18.RouteMay'. -/
def routeMayCard : Claim7 := { stood := { row := routeMayRow, standIns := [], harness := (true, "768ce2de60bd3ce9650bc393f3fb8431b221a68943fef9c0bb0b34a57d2f92ab"), looks := false }, kinds := [], alts := [], laidByText := true, laidKinds := [.data, .data], laidTests := true, laidLooks := .later }
def RouteMayCardSaid : Prop := Claim7.holds Tryz.pinned (.plain (OpenSpec.ofChange routeMaySpec)) routeMayCard

/-- THE TIED CARD OF 'dustpanlaw22.FlushMay'. -/
def flushMayCard : Claim7 := { stood := { row := flushMayRow, standIns := [], harness := (true, "768ce2de60bd3ce9650bc393f3fb8431b221a68943fef9c0bb0b34a57d2f92ab"), looks := false }, kinds := [], alts := [], laidByText := true, laidKinds := [.data, .data], laidTests := true, laidLooks := .later }
def FlushMayCardSaid : Prop := Claim7.holds Tryz.pinned (.plain (OpenSpec.ofChange flushMaySpec)) flushMayCard

/-- THE TIED CARD OF 'dustpanlaw23.SweeperMay'. -/
def sweeperMayCard : Claim7 := { stood := { row := sweeperMayRow, standIns := [], harness := (true, "768ce2de60bd3ce9650bc393f3fb8431b221a68943fef9c0bb0b34a57d2f92ab"), looks := false }, kinds := [], alts := [], laidByText := true, laidKinds := [.data, .data], laidTests := true, laidLooks := .later }
def SweeperMayCardSaid : Prop := Claim7.holds Tryz.pinned (.plain (OpenSpec.ofChange sweeperMaySpec)) sweeperMayCard

/-- THE TIED CARD OF 'dustpanlaw25.CycleMay'. -/
def cycleMayCard : Claim7 := { stood := { row := cycleMayRow, standIns := [], harness := (true, "768ce2de60bd3ce9650bc393f3fb8431b221a68943fef9c0bb0b34a57d2f92ab"), looks := false }, kinds := [], alts := [], laidByText := true, laidKinds := [.data, .data], laidTests := true, laidLooks := .later }
def CycleMayCardSaid : Prop := Claim7.holds Tryz.pinned (.plain (OpenSpec.ofChange cycleMaySpec)) cycleMayCard

/-- THE TIED CARD OF 'dustpanlaw19.RefillMay'. -/
def refillMayCard : Claim7 := { stood := { row := refillMayRow, standIns := [], harness := (true, "768ce2de60bd3ce9650bc393f3fb8431b221a68943fef9c0bb0b34a57d2f92ab"), looks := false }, kinds := [], alts := [], laidByText := true, laidKinds := [.data, .data], laidTests := true, laidLooks := .later }
def RefillMayCardSaid : Prop := Claim7.holds Tryz.pinned (.plain (OpenSpec.ofChange refillMaySpec)) refillMayCard

/-- THE TIED CARD OF 'dustpanlaw21.FrontMay'. -/
def frontMayCard : Claim7 := { stood := { row := frontMayRow, standIns := [], harness := (true, "768ce2de60bd3ce9650bc393f3fb8431b221a68943fef9c0bb0b34a57d2f92ab"), looks := false }, kinds := [], alts := [], laidByText := true, laidKinds := [.data, .data], laidTests := true, laidLooks := .later }
def FrontMayCardSaid : Prop := Claim7.holds Tryz.pinned (.plain (OpenSpec.ofChange frontMaySpec)) frontMayCard

/-- THE SECOND FORM's CARD OF 'dustpanlaw24.ScavMay'. -/
def scavMayUptoCard : Claim7 := { stood := { row := scavMayUptoRow, standIns := [], harness := (true, "768ce2de60bd3ce9650bc393f3fb8431b221a68943fef9c0bb0b34a57d2f92ab"), looks := false }, kinds := [], alts := [], laidByText := true, laidKinds := [.data], laidTests := true, laidLooks := .later }
def ScavMayUptoCardSaid : Prop := Claim7.holds Tryz.pinned (.plain (OpenSpec.upto scavMaySpec)) scavMayUptoCard

/-- THE SECOND FORM's CARD OF 'dustpanlaw18.RouteMay'. -/
def routeMayUptoCard : Claim7 := { stood := { row := routeMayUptoRow, standIns := [], harness := (true, "768ce2de60bd3ce9650bc393f3fb8431b221a68943fef9c0bb0b34a57d2f92ab"), looks := false }, kinds := [], alts := [], laidByText := true, laidKinds := [.data, .data], laidTests := true, laidLooks := .later }
def RouteMayUptoCardSaid : Prop := Claim7.holds Tryz.pinned (.plain (OpenSpec.upto routeMaySpec)) routeMayUptoCard

/-- THE SECOND FORM's CARD OF 'dustpanlaw22.FlushMay'. -/
def flushMayUptoCard : Claim7 := { stood := { row := flushMayUptoRow, standIns := [], harness := (true, "768ce2de60bd3ce9650bc393f3fb8431b221a68943fef9c0bb0b34a57d2f92ab"), looks := false }, kinds := [], alts := [], laidByText := true, laidKinds := [.data, .data], laidTests := true, laidLooks := .later }
def FlushMayUptoCardSaid : Prop := Claim7.holds Tryz.pinned (.plain (OpenSpec.upto flushMaySpec)) flushMayUptoCard

/-- THE SECOND FORM's CARD OF 'dustpanlaw23.SweeperMay'. -/
def sweeperMayUptoCard : Claim7 := { stood := { row := sweeperMayUptoRow, standIns := [], harness := (true, "768ce2de60bd3ce9650bc393f3fb8431b221a68943fef9c0bb0b34a57d2f92ab"), looks := false }, kinds := [], alts := [], laidByText := true, laidKinds := [.data, .data], laidTests := true, laidLooks := .later }
def SweeperMayUptoCardSaid : Prop := Claim7.holds Tryz.pinned (.plain (OpenSpec.upto sweeperMaySpec)) sweeperMayUptoCard

/-- THE SECOND FORM's CARD OF 'dustpanlaw25.CycleMay'. -/
def cycleMayUptoCard : Claim7 := { stood := { row := cycleMayUptoRow, standIns := [], harness := (true, "768ce2de60bd3ce9650bc393f3fb8431b221a68943fef9c0bb0b34a57d2f92ab"), looks := false }, kinds := [], alts := [], laidByText := true, laidKinds := [.data, .data], laidTests := true, laidLooks := .later }
def CycleMayUptoCardSaid : Prop := Claim7.holds Tryz.pinned (.plain (OpenSpec.upto cycleMaySpec)) cycleMayUptoCard

/-- THE SECOND FORM's CARD OF 'dustpanlaw19.RefillMay'. -/
def refillMayUptoCard : Claim7 := { stood := { row := refillMayUptoRow, standIns := [], harness := (true, "768ce2de60bd3ce9650bc393f3fb8431b221a68943fef9c0bb0b34a57d2f92ab"), looks := false }, kinds := [], alts := [], laidByText := true, laidKinds := [.data, .data], laidTests := true, laidLooks := .later }
def RefillMayUptoCardSaid : Prop := Claim7.holds Tryz.pinned (.plain (OpenSpec.upto refillMaySpec)) refillMayUptoCard

/-- THE SECOND FORM's CARD OF 'dustpanlaw21.FrontMay'. -/
def frontMayUptoCard : Claim7 := { stood := { row := frontMayUptoRow, standIns := [], harness := (true, "768ce2de60bd3ce9650bc393f3fb8431b221a68943fef9c0bb0b34a57d2f92ab"), looks := false }, kinds := [], alts := [], laidByText := true, laidKinds := [.data, .data], laidTests := true, laidLooks := .later }
def FrontMayUptoCardSaid : Prop := Claim7.holds Tryz.pinned (.plain (OpenSpec.upto frontMaySpec)) frontMayUptoCard
end Rows
end Go.Proofs.YtickhjoakbldpaaGreatDoor
