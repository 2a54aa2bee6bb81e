/-
  DERIVED. GIVEN WITH THE SEED: THE CARDS: each row of YtoolenhnhlfhmaaGreatDoorRows.lean that lists a variable, with what it lists TIED to the program's text (the seventh form; the later family's looks); each row that meets fmt, with fmt's text TOLD by the authors' own Lean function (tested against real Go, not proved from fmt's source: count such statements apart). THE CARD IS WHAT COUNTS. Prove the row's statement (the work); the ties are given (YtoolenhnhlfhmaaGreatDoorTie.lean); close each card by the builder's one call (the guide's Derived/Test/ToyasCard.lean, 'card_holds'). Laid BY PROGRAM, IN A SANDBOX (cutbox-door.mjs). By AI agents, Wed Nov 11 2026. No macro, syntax, notation, axiom, sorry.
-/
import Derived.Test.YtoolenhnhlfhmaaGreatDoorRows
import GoSem.ClaimSeven
namespace Go.Proofs.YtoolenhnhlfhmaaGreatDoor
namespace Rows

/-- THE TIED CARD OF 'dustpanlaw28.ModelApart'. -/
def modelApartCard : Claim7 := { stood := { row := modelApartRow, standIns := [], harness := (true, "9ec734f50a618031749036bf97933c922f14fc03590008df89992ac953659c0a"), looks := false }, kinds := [], alts := [], laidByText := true, laidKinds := [.data, .data], laidTests := true, laidLooks := .later }
def ModelApartCardSaid : Prop := Claim7.holds Tryz.pinned (.plain (OpenSpec.ofChange modelApartSpec)) modelApartCard

/-- THE TIED CARD OF 'dustpanlaw28.ModelRaw'. -/
def modelRawCard : Claim7 := { stood := { row := modelRawRow, standIns := [], harness := (true, "9ec734f50a618031749036bf97933c922f14fc03590008df89992ac953659c0a"), looks := false }, kinds := [], alts := [], laidByText := true, laidKinds := [.data, .data], laidTests := true, laidLooks := .later }
def ModelRawCardSaid : Prop := Claim7.holds Tryz.pinned (.plain (OpenSpec.ofChange modelRawSpec)) modelRawCard

/-- THE TIED CARD OF 'dustpanlaw28.ModelMade'. -/
def modelMadeCard : Claim7 := { stood := { row := modelMadeRow, standIns := [], harness := (true, "9ec734f50a618031749036bf97933c922f14fc03590008df89992ac953659c0a"), looks := false }, kinds := [], alts := [], laidByText := true, laidKinds := [.data, .data], laidTests := true, laidLooks := .later }
def ModelMadeCardSaid : Prop := Claim7.holds Tryz.pinned (.plain (OpenSpec.ofChange modelMadeSpec)) modelMadeCard

/-- THE SECOND FORM's CARD OF 'dustpanlaw28.ModelApart'. -/
def modelApartUptoCard : Claim7 := { stood := { row := modelApartUptoRow, standIns := [], harness := (true, "9ec734f50a618031749036bf97933c922f14fc03590008df89992ac953659c0a"), looks := false }, kinds := [], alts := [], laidByText := true, laidKinds := [.data, .data], laidTests := true, laidLooks := .later }
def ModelApartUptoCardSaid : Prop := Claim7.holds Tryz.pinned (.plain (OpenSpec.upto modelApartSpec)) modelApartUptoCard

/-- THE SECOND FORM's CARD OF 'dustpanlaw28.ModelRaw'. -/
def modelRawUptoCard : Claim7 := { stood := { row := modelRawUptoRow, standIns := [], harness := (true, "9ec734f50a618031749036bf97933c922f14fc03590008df89992ac953659c0a"), looks := false }, kinds := [], alts := [], laidByText := true, laidKinds := [.data, .data], laidTests := true, laidLooks := .later }
def ModelRawUptoCardSaid : Prop := Claim7.holds Tryz.pinned (.plain (OpenSpec.upto modelRawSpec)) modelRawUptoCard

/-- THE SECOND FORM's CARD OF 'dustpanlaw28.ModelMade'. -/
def modelMadeUptoCard : Claim7 := { stood := { row := modelMadeUptoRow, standIns := [], harness := (true, "9ec734f50a618031749036bf97933c922f14fc03590008df89992ac953659c0a"), looks := false }, kinds := [], alts := [], laidByText := true, laidKinds := [.data, .data], laidTests := true, laidLooks := .later }
def ModelMadeUptoCardSaid : Prop := Claim7.holds Tryz.pinned (.plain (OpenSpec.upto modelMadeSpec)) modelMadeUptoCard
end Rows
end Go.Proofs.YtoolenhnhlfhmaaGreatDoor
