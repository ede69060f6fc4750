/-
  DERIVED. GIVEN WITH THE SEED: THE CARDS: each row of YtmpdpmhpkgbepaaGreatDoorRows.lean that lists a variable, with what it lists TIED to the program's text (the seventh form; the later family's looks); each row that meets fmt, with fmt's text TOLD by the authors' own Lean function (tested against real Go, not proved from fmt's source: count such statements apart). THE CARD IS WHAT COUNTS. Prove the row's statement (the work); the ties are given (YtmpdpmhpkgbepaaGreatDoorTie.lean); close each card by the builder's one call (the guide's Derived/Test/ToyasCard.lean, 'card_holds'). Laid BY PROGRAM, IN A SANDBOX (cutbox-door.mjs). By AI agents, Wed Nov 11 2026. No macro, syntax, notation, axiom, sorry.
-/
import Derived.Test.YtmpdpmhpkgbepaaGreatDoorRows
import GoSem.ClaimSeven
namespace Go.Proofs.YtmpdpmhpkgbepaaGreatDoor
namespace Rows

/-- THE TIED CARD OF 'doletop.TopPlaces'. -/
def topPlacesCard : Claim7 := { stood := { row := topPlacesRow, standIns := [], harness := (true, "96ee18c4786b253376cf1a3ebe4bd78d7368f8250135cc6d7d13255384211954"), looks := true }, kinds := [], alts := [], laidByText := true, laidKinds := [.data, .data, .data, .data, .sentinel, .sentinel, .pinned], laidTests := true, laidLooks := .later }
def TopPlacesCardSaid : Prop := Claim7.holds Tryz.pinned (.plain (OpenSpec.ofChange topPlacesSpec)) topPlacesCard

/-- THE TIED CARD OF 'doletop.TopKeeps'. -/
def topKeepsCard : Claim7 := { stood := { row := topKeepsRow, standIns := [], harness := (true, "96ee18c4786b253376cf1a3ebe4bd78d7368f8250135cc6d7d13255384211954"), looks := true }, kinds := [], alts := [], laidByText := true, laidKinds := [.data, .data, .data, .data, .sentinel, .sentinel, .pinned], laidTests := true, laidLooks := .later }
def TopKeepsCardSaid : Prop := Claim7.holds Tryz.pinned (.plain (OpenSpec.ofChange topKeepsSpec)) topKeepsCard

/-- THE SECOND FORM's CARD OF 'doletop.TopPlaces'. -/
def topPlacesUptoCard : Claim7 := { stood := { row := topPlacesUptoRow, standIns := [], harness := (true, "96ee18c4786b253376cf1a3ebe4bd78d7368f8250135cc6d7d13255384211954"), looks := true }, kinds := [], alts := [], laidByText := true, laidKinds := [.data, .data, .data, .data, .sentinel, .sentinel, .pinned], laidTests := true, laidLooks := .later }
def TopPlacesUptoCardSaid : Prop := Claim7.holds Tryz.pinned (.plain (OpenSpec.upto topPlacesSpec)) topPlacesUptoCard

/-- THE SECOND FORM's CARD OF 'doletop.TopKeeps'. -/
def topKeepsUptoCard : Claim7 := { stood := { row := topKeepsUptoRow, standIns := [], harness := (true, "96ee18c4786b253376cf1a3ebe4bd78d7368f8250135cc6d7d13255384211954"), looks := true }, kinds := [], alts := [], laidByText := true, laidKinds := [.data, .data, .data, .data, .sentinel, .sentinel, .pinned], laidTests := true, laidLooks := .later }
def TopKeepsUptoCardSaid : Prop := Claim7.holds Tryz.pinned (.plain (OpenSpec.upto topKeepsSpec)) topKeepsUptoCard
end Rows
end Go.Proofs.YtmpdpmhpkgbepaaGreatDoor
