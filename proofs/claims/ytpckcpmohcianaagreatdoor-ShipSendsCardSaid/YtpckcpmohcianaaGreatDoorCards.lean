/-
  DERIVED. GIVEN WITH THE SEED: THE CARDS: each row of YtpckcpmohcianaaGreatDoorRows.lean that lists a variable, with what it lists TIED to the program's text (the seventh form; the later family's looks); each row that meets fmt, with fmt's text TOLD by the authors' own Lean function (tested against real Go, not proved from fmt's source: count such statements apart). THE CARD IS WHAT COUNTS. Prove the row's statement (the work); the ties are given (YtpckcpmohcianaaGreatDoorTie.lean); close each card by the builder's one call (the guide's Derived/Test/ToyasCard.lean, 'card_holds'). Laid BY PROGRAM, IN A SANDBOX (cutbox-door.mjs). By AI agents, Wed Nov 11 2026. No macro, syntax, notation, axiom, sorry.
-/
import Derived.Test.YtpckcpmohcianaaGreatDoorRows
import GoSem.ClaimSeven
namespace Go.Proofs.YtpckcpmohcianaaGreatDoor
namespace Rows

/-- THE TIED CARD OF 'holdfastlaw25.ShipSends'. -/
def shipSendsCard : Claim7 := { stood := { row := shipSendsRow, standIns := [], harness := (true, "39bedd1aff0f421cff0a637b78be1006f8020fc61e39b1efca3038128abcd7a6"), looks := true }, kinds := [], alts := [], laidByText := true, laidKinds := [.data, .data, .data, .data, .sentinel, .sentinel, .pinned], laidTests := true, laidLooks := .later }
def ShipSendsCardSaid : Prop := Claim7.holds Tryz.pinned (.plain (OpenSpec.ofChange shipSendsSpec)) shipSendsCard

/-- THE SECOND FORM's CARD OF 'holdfastlaw25.ShipSends'. -/
def shipSendsUptoCard : Claim7 := { stood := { row := shipSendsUptoRow, standIns := [], harness := (true, "39bedd1aff0f421cff0a637b78be1006f8020fc61e39b1efca3038128abcd7a6"), looks := true }, kinds := [], alts := [], laidByText := true, laidKinds := [.data, .data, .data, .data, .sentinel, .sentinel, .pinned], laidTests := true, laidLooks := .later }
def ShipSendsUptoCardSaid : Prop := Claim7.holds Tryz.pinned (.plain (OpenSpec.upto shipSendsSpec)) shipSendsUptoCard
end Rows
end Go.Proofs.YtpckcpmohcianaaGreatDoor
