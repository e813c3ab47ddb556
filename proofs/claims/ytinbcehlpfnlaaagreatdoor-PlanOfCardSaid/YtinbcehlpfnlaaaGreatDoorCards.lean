/-
  DERIVED. GIVEN WITH THE SEED: THE CARDS: each row of YtinbcehlpfnlaaaGreatDoorRows.lean that lists a variable, with what it lists TIED to the program's text (the seventh form; the later family's looks); each row that meets fmt, with fmt's text TOLD by the authors' own Lean function (tested against real Go, not proved from fmt's source: count such statements apart). THE CARD IS WHAT COUNTS. Prove the row's statement (the work); the ties are given (YtinbcehlpfnlaaaGreatDoorTie.lean); close each card by the builder's one call (the guide's Derived/Test/ToyasCard.lean, 'card_holds'). Laid BY PROGRAM, IN A SANDBOX (cutbox-door.mjs). By AI agents, Wed Nov 11 2026. No macro, syntax, notation, axiom, sorry.
-/
import Derived.Test.YtinbcehlpfnlaaaGreatDoorRows
import GoSem.ClaimSeven
namespace Go.Proofs.YtinbcehlpfnlaaaGreatDoor
namespace Rows

/-- THE TIED CARD OF 'holdfastlaw21.PlanOf'. -/
def planOfCard : Claim7 := { stood := { row := planOfRow, standIns := [], harness := (true, "97b31f27f12013fcb33498c243882c9710f0d83dd63fb23ba7fdf92ea0d420af"), looks := true }, kinds := [], alts := [], laidByText := true, laidKinds := [.data, .data], laidTests := true, laidLooks := .later }
def PlanOfCardSaid : Prop := Claim7.holds Tryz.pinned (.plain (OpenSpec.ofChange planOfSpec)) planOfCard

/-- THE SECOND FORM's CARD OF 'holdfastlaw21.PlanOf'. -/
def planOfUptoCard : Claim7 := { stood := { row := planOfUptoRow, standIns := [], harness := (true, "97b31f27f12013fcb33498c243882c9710f0d83dd63fb23ba7fdf92ea0d420af"), looks := true }, kinds := [], alts := [], laidByText := true, laidKinds := [.data, .data], laidTests := true, laidLooks := .later }
def PlanOfUptoCardSaid : Prop := Claim7.holds Tryz.pinned (.plain (OpenSpec.upto planOfSpec)) planOfUptoCard
end Rows
end Go.Proofs.YtinbcehlpfnlaaaGreatDoor
