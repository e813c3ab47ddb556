/-
  DERIVED. GIVEN WITH THE SEED: THE CARDS: each row of YtaodldbgikiekaaGreatDoorRows.lean that lists a variable, with what it lists TIED to the program's text (the seventh form; the later family's looks); each row that meets fmt, with fmt's text TOLD by the authors' own Lean function (tested against real Go, not proved from fmt's source: count such statements apart). THE CARD IS WHAT COUNTS. Prove the row's statement (the work); the ties are given (YtaodldbgikiekaaGreatDoorTie.lean); close each card by the builder's one call (the guide's Derived/Test/ToyasCard.lean, 'card_holds'). Laid BY PROGRAM, IN A SANDBOX (cutbox-door.mjs). By AI agents, Wed Nov 11 2026. No macro, syntax, notation, axiom, sorry.
-/
import Derived.Test.YtaodldbgikiekaaGreatDoorRows
import GoSem.ClaimSeven
namespace Go.Proofs.YtaodldbgikiekaaGreatDoor
namespace Rows

/-- THE TIED CARD OF 'holdfastlaw26.ApplyMirrors'. -/
def applyMirrorsCard : Claim7 := { stood := { row := applyMirrorsRow, standIns := [], harness := (true, "3195ea174ffc3677795592a8eb9f5c8015a728c1914fccedea903715b4f438ea"), looks := true }, kinds := [], alts := [], laidByText := true, laidKinds := [.data, .data, .data, .data, .sentinel, .sentinel, .pinned], laidTests := true, laidLooks := .later }
def ApplyMirrorsCardSaid : Prop := Claim7.holds Tryz.pinned (.plain (OpenSpec.ofChange applyMirrorsSpec)) applyMirrorsCard

/-- THE SECOND FORM's CARD OF 'holdfastlaw26.ApplyMirrors'. -/
def applyMirrorsUptoCard : Claim7 := { stood := { row := applyMirrorsUptoRow, standIns := [], harness := (true, "3195ea174ffc3677795592a8eb9f5c8015a728c1914fccedea903715b4f438ea"), looks := true }, kinds := [], alts := [], laidByText := true, laidKinds := [.data, .data, .data, .data, .sentinel, .sentinel, .pinned], laidTests := true, laidLooks := .later }
def ApplyMirrorsUptoCardSaid : Prop := Claim7.holds Tryz.pinned (.plain (OpenSpec.upto applyMirrorsSpec)) applyMirrorsUptoCard
end Rows
end Go.Proofs.YtaodldbgikiekaaGreatDoor
