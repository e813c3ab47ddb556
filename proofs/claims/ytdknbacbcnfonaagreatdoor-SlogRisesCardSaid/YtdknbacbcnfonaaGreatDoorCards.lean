/-
  DERIVED. GIVEN WITH THE SEED: THE CARDS: each row of YtdknbacbcnfonaaGreatDoorRows.lean that lists a variable, with what it lists TIED to the program's text (the seventh form; the later family's looks); each row that meets fmt, with fmt's text TOLD by the authors' own Lean function (tested against real Go, not proved from fmt's source: count such statements apart). THE CARD IS WHAT COUNTS. Prove the row's statement (the work); the ties are given (YtdknbacbcnfonaaGreatDoorTie.lean); close each card by the builder's one call (the guide's Derived/Test/ToyasCard.lean, 'card_holds'). Laid BY PROGRAM, IN A SANDBOX (cutbox-door.mjs). By AI agents, Wed Nov 11 2026. No macro, syntax, notation, axiom, sorry.
-/
import Derived.Test.YtdknbacbcnfonaaGreatDoorRows
import GoSem.ClaimSeven
namespace Go.Proofs.YtdknbacbcnfonaaGreatDoor
namespace Rows

/-- THE TIED CARD OF 'holdfastlaw13.SlogRises'. -/
def slogRisesCard : Claim7 := { stood := { row := slogRisesRow, standIns := [], harness := (true, "d7c8bcbcbc8ff8358f4ea679ebe0473a49a75efb8a65fd6637deed8f10ab6839"), looks := true }, kinds := [], alts := [], laidByText := true, laidKinds := [.data, .data, .data, .data, .sentinel, .sentinel, .pinned], laidTests := true, laidLooks := .later }
def SlogRisesCardSaid : Prop := Claim7.holds Tryz.pinned (.plain (OpenSpec.ofChange slogRisesSpec)) slogRisesCard

/-- THE SECOND FORM's CARD OF 'holdfastlaw13.SlogRises'. -/
def slogRisesUptoCard : Claim7 := { stood := { row := slogRisesUptoRow, standIns := [], harness := (true, "d7c8bcbcbc8ff8358f4ea679ebe0473a49a75efb8a65fd6637deed8f10ab6839"), looks := true }, kinds := [], alts := [], laidByText := true, laidKinds := [.data, .data, .data, .data, .sentinel, .sentinel, .pinned], laidTests := true, laidLooks := .later }
def SlogRisesUptoCardSaid : Prop := Claim7.holds Tryz.pinned (.plain (OpenSpec.upto slogRisesSpec)) slogRisesUptoCard
end Rows
end Go.Proofs.YtdknbacbcnfonaaGreatDoor
