/-
  DERIVED. GIVEN WITH THE SEED: THE CARDS: each row of YtimbeeiihbmofaaGreatDoorRows.lean that lists a variable, with what it lists TIED to the program's text (the seventh form; the later family's looks); each row that meets fmt, with fmt's text TOLD by the authors' own Lean function (tested against real Go, not proved from fmt's source: count such statements apart). THE CARD IS WHAT COUNTS. Prove the row's statement (the work); the ties are given (YtimbeeiihbmofaaGreatDoorTie.lean); close each card by the builder's one call (the guide's Derived/Test/ToyasCard.lean, 'card_holds'). Laid BY PROGRAM, IN A SANDBOX (cutbox-door.mjs). By AI agents, Wed Nov 11 2026. No macro, syntax, notation, axiom, sorry.
-/
import Derived.Test.YtimbeeiihbmofaaGreatDoorRows
import GoSem.ClaimSeven
namespace Go.Proofs.YtimbeeiihbmofaaGreatDoor
namespace Rows

/-- THE TIED CARD OF 'holdfastlaw33.ModelIs'. -/
def modelIsCard : Claim7 := { stood := { row := modelIsRow, standIns := [], harness := (true, "dd9ab2b0ed353c4d78ce55550d10220c4c6ffb4b37aa0571206d60c5680e53ab"), looks := true }, kinds := [], alts := [], laidByText := true, laidKinds := [.data, .data, .data, .data, .sentinel, .sentinel, .pinned], laidTests := true, laidLooks := .later }
def ModelIsCardSaid : Prop := Claim7.holds Tryz.pinned (.plain (OpenSpec.ofChange modelIsSpec)) modelIsCard

/-- THE SECOND FORM's CARD OF 'holdfastlaw33.ModelIs'. -/
def modelIsUptoCard : Claim7 := { stood := { row := modelIsUptoRow, standIns := [], harness := (true, "dd9ab2b0ed353c4d78ce55550d10220c4c6ffb4b37aa0571206d60c5680e53ab"), looks := true }, kinds := [], alts := [], laidByText := true, laidKinds := [.data, .data, .data, .data, .sentinel, .sentinel, .pinned], laidTests := true, laidLooks := .later }
def ModelIsUptoCardSaid : Prop := Claim7.holds Tryz.pinned (.plain (OpenSpec.upto modelIsSpec)) modelIsUptoCard
end Rows
end Go.Proofs.YtimbeeiihbmofaaGreatDoor
