/-
  DERIVED. GIVEN WITH THE SEED: THE CARDS: each row of YtlgbahkioimkfaaGreatDoorRows.lean that lists a variable, with what it lists TIED to the program's text (the seventh form; the later family's looks); each row that meets fmt, with fmt's text TOLD by the authors' own Lean function (tested against real Go, not proved from fmt's source: count such statements apart). THE CARD IS WHAT COUNTS. Prove the row's statement (the work); the ties are given (YtlgbahkioimkfaaGreatDoorTie.lean); close each card by the builder's one call (the guide's Derived/Test/ToyasCard.lean, 'card_holds'). Laid BY PROGRAM, IN A SANDBOX (cutbox-door.mjs). By AI agents, Wed Nov 11 2026. No macro, syntax, notation, axiom, sorry.
-/
import Derived.Test.YtlgbahkioimkfaaGreatDoorRows
import GoSem.ClaimSeven
namespace Go.Proofs.YtlgbahkioimkfaaGreatDoor
namespace Rows

/-- THE TIED CARD OF 'dustpanlaw18.RouteHeads'. -/
def routeHeadsCard : Claim7 := { stood := { row := routeHeadsRow, standIns := [], harness := (true, "53a79e9b0b4331409544bc9d850a92209d88559f80a0ba129cb3bb329b1613da"), looks := false }, kinds := [], alts := [], laidByText := true, laidKinds := [.data, .data], laidTests := true, laidLooks := .later }
def RouteHeadsCardSaid : Prop := Claim7.holds Tryz.pinned (.plain (OpenSpec.ofChange routeHeadsSpec)) routeHeadsCard

/-- THE TIED CARD OF 'dustpanlaw18.RouteMay'. -/
def routeMayCard : Claim7 := { stood := { row := routeMayRow, standIns := [], harness := (true, "53a79e9b0b4331409544bc9d850a92209d88559f80a0ba129cb3bb329b1613da"), looks := false }, kinds := [], alts := [], laidByText := true, laidKinds := [.data, .data], laidTests := true, laidLooks := .later }
def RouteMayCardSaid : Prop := Claim7.holds Tryz.pinned (.plain (OpenSpec.ofChange routeMaySpec)) routeMayCard

/-- THE TIED CARD OF 'dustpanlaw25.CycleMay'. -/
def cycleMayCard : Claim7 := { stood := { row := cycleMayRow, standIns := [], harness := (true, "53a79e9b0b4331409544bc9d850a92209d88559f80a0ba129cb3bb329b1613da"), looks := false }, kinds := [], alts := [], laidByText := true, laidKinds := [.data, .data], laidTests := true, laidLooks := .later }
def CycleMayCardSaid : Prop := Claim7.holds Tryz.pinned (.plain (OpenSpec.ofChange cycleMaySpec)) cycleMayCard

/-- THE TIED CARD OF 'dustpanlaw19.RefillMay'. -/
def refillMayCard : Claim7 := { stood := { row := refillMayRow, standIns := [], harness := (true, "53a79e9b0b4331409544bc9d850a92209d88559f80a0ba129cb3bb329b1613da"), looks := false }, kinds := [], alts := [], laidByText := true, laidKinds := [.data, .data], laidTests := true, laidLooks := .later }
def RefillMayCardSaid : Prop := Claim7.holds Tryz.pinned (.plain (OpenSpec.ofChange refillMaySpec)) refillMayCard

/-- THE TIED CARD OF 'dustpanlaw21.FrontMay'. -/
def frontMayCard : Claim7 := { stood := { row := frontMayRow, standIns := [], harness := (true, "53a79e9b0b4331409544bc9d850a92209d88559f80a0ba129cb3bb329b1613da"), looks := false }, kinds := [], alts := [], laidByText := true, laidKinds := [.data, .data], laidTests := true, laidLooks := .later }
def FrontMayCardSaid : Prop := Claim7.holds Tryz.pinned (.plain (OpenSpec.ofChange frontMaySpec)) frontMayCard

/-- THE SECOND FORM's CARD OF 'dustpanlaw18.RouteHeads'. -/
def routeHeadsUptoCard : Claim7 := { stood := { row := routeHeadsUptoRow, standIns := [], harness := (true, "53a79e9b0b4331409544bc9d850a92209d88559f80a0ba129cb3bb329b1613da"), looks := false }, kinds := [], alts := [], laidByText := true, laidKinds := [.data, .data], laidTests := true, laidLooks := .later }
def RouteHeadsUptoCardSaid : Prop := Claim7.holds Tryz.pinned (.plain (OpenSpec.upto routeHeadsSpec)) routeHeadsUptoCard

/-- THE SECOND FORM's CARD OF 'dustpanlaw18.RouteMay'. -/
def routeMayUptoCard : Claim7 := { stood := { row := routeMayUptoRow, standIns := [], harness := (true, "53a79e9b0b4331409544bc9d850a92209d88559f80a0ba129cb3bb329b1613da"), looks := false }, kinds := [], alts := [], laidByText := true, laidKinds := [.data, .data], laidTests := true, laidLooks := .later }
def RouteMayUptoCardSaid : Prop := Claim7.holds Tryz.pinned (.plain (OpenSpec.upto routeMaySpec)) routeMayUptoCard

/-- THE SECOND FORM's CARD OF 'dustpanlaw25.CycleMay'. -/
def cycleMayUptoCard : Claim7 := { stood := { row := cycleMayUptoRow, standIns := [], harness := (true, "53a79e9b0b4331409544bc9d850a92209d88559f80a0ba129cb3bb329b1613da"), looks := false }, kinds := [], alts := [], laidByText := true, laidKinds := [.data, .data], laidTests := true, laidLooks := .later }
def CycleMayUptoCardSaid : Prop := Claim7.holds Tryz.pinned (.plain (OpenSpec.upto cycleMaySpec)) cycleMayUptoCard

/-- THE SECOND FORM's CARD OF 'dustpanlaw19.RefillMay'. -/
def refillMayUptoCard : Claim7 := { stood := { row := refillMayUptoRow, standIns := [], harness := (true, "53a79e9b0b4331409544bc9d850a92209d88559f80a0ba129cb3bb329b1613da"), looks := false }, kinds := [], alts := [], laidByText := true, laidKinds := [.data, .data], laidTests := true, laidLooks := .later }
def RefillMayUptoCardSaid : Prop := Claim7.holds Tryz.pinned (.plain (OpenSpec.upto refillMaySpec)) refillMayUptoCard

/-- THE SECOND FORM's CARD OF 'dustpanlaw21.FrontMay'. -/
def frontMayUptoCard : Claim7 := { stood := { row := frontMayUptoRow, standIns := [], harness := (true, "53a79e9b0b4331409544bc9d850a92209d88559f80a0ba129cb3bb329b1613da"), looks := false }, kinds := [], alts := [], laidByText := true, laidKinds := [.data, .data], laidTests := true, laidLooks := .later }
def FrontMayUptoCardSaid : Prop := Claim7.holds Tryz.pinned (.plain (OpenSpec.upto frontMaySpec)) frontMayUptoCard
end Rows
end Go.Proofs.YtlgbahkioimkfaaGreatDoor
