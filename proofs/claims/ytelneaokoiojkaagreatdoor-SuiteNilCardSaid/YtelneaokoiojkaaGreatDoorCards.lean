/-
  DERIVED. GIVEN WITH THE SEED: THE CARDS: each row of YtelneaokoiojkaaGreatDoorRows.lean that lists a variable, with what it lists TIED to the program's text (the seventh form; the later family's looks); each row that meets fmt, with fmt's text TOLD by the authors' own Lean function (tested against real Go, not proved from fmt's source: count such statements apart). THE CARD IS WHAT COUNTS. Prove the row's statement (the work); the ties are given (YtelneaokoiojkaaGreatDoorTie.lean); close each card by the builder's one call (the guide's Derived/Test/ToyasCard.lean, 'card_holds'). Laid BY PROGRAM, IN A SANDBOX (cutbox-door.mjs). By AI agents, Wed Nov 11 2026. No macro, syntax, notation, axiom, sorry.
-/
import Derived.Test.YtelneaokoiojkaaGreatDoorRows
import GoSem.ClaimSeven
namespace Go.Proofs.YtelneaokoiojkaaGreatDoor
namespace Rows

/-- THE TIED CARD OF 'holdfastlaw32.SuiteNil'. -/
def suiteNilCard : Claim7 := { stood := { row := suiteNilRow, standIns := [], harness := (true, "313176897ca114196cb270f5b0ee6bcd7c754b8f84e0f409185fe5fa8011f6e1"), looks := true }, kinds := [], alts := [], laidByText := true, laidKinds := [.data, .data, .data, .data, .sentinel, .sentinel, .pinned], laidTests := true, laidLooks := .later }
def SuiteNilCardSaid : Prop := Claim7.holds Tryz.pinned (.plain (OpenSpec.ofChange suiteNilSpec)) suiteNilCard

/-- THE SECOND FORM's CARD OF 'holdfastlaw32.SuiteNil'. -/
def suiteNilUptoCard : Claim7 := { stood := { row := suiteNilUptoRow, standIns := [], harness := (true, "313176897ca114196cb270f5b0ee6bcd7c754b8f84e0f409185fe5fa8011f6e1"), looks := true }, kinds := [], alts := [], laidByText := true, laidKinds := [.data, .data, .data, .data, .sentinel, .sentinel, .pinned], laidTests := true, laidLooks := .later }
def SuiteNilUptoCardSaid : Prop := Claim7.holds Tryz.pinned (.plain (OpenSpec.upto suiteNilSpec)) suiteNilUptoCard
end Rows
end Go.Proofs.YtelneaokoiojkaaGreatDoor
