/-
  DERIVED. GIVEN WITH THE SEED: THE CARDS: each row of YtddlkkmdcfamiaaGreatDoorRows.lean that lists a variable, with what it lists TIED to the program's text (the seventh form; the later family's looks); each row that meets fmt, with fmt's text TOLD by the authors' own Lean function (tested against real Go, not proved from fmt's source: count such statements apart). THE CARD IS WHAT COUNTS. Prove the row's statement (the work); the ties are given (YtddlkkmdcfamiaaGreatDoorTie.lean); close each card by the builder's one call (the guide's Derived/Test/ToyasCard.lean, 'card_holds'). Laid BY PROGRAM, IN A SANDBOX (cutbox-door.mjs). By AI agents, Wed Nov 11 2026. No macro, syntax, notation, axiom, sorry.
-/
import Derived.Test.YtddlkkmdcfamiaaGreatDoorRows
import GoSem.ClaimSeven
namespace Go.Proofs.YtddlkkmdcfamiaaGreatDoor
namespace Rows

/-- THE TIED CARD OF 'holdfastlaw30.ForkTakes'. -/
def forkTakesCard : Claim7 := { stood := { row := forkTakesRow, standIns := [], harness := (true, "706b22aeeb64232180ccf2df121d6a56b561520014f1f44339dca25488ce0f5a"), looks := true }, kinds := [], alts := [], laidByText := true, laidKinds := [.data, .data, .data, .data, .sentinel, .sentinel, .pinned], laidTests := true, laidLooks := .later }
def ForkTakesCardSaid : Prop := Claim7.holds Tryz.pinned (.plain (OpenSpec.ofChange forkTakesSpec)) forkTakesCard

/-- THE TIED CARD OF 'holdfastlaw30.ForkBytes'. -/
def forkBytesCard : Claim7 := { stood := { row := forkBytesRow, standIns := [], harness := (true, "706b22aeeb64232180ccf2df121d6a56b561520014f1f44339dca25488ce0f5a"), looks := true }, kinds := [], alts := [], laidByText := true, laidKinds := [.data, .data, .data, .data, .sentinel, .sentinel, .pinned], laidTests := true, laidLooks := .later }
def ForkBytesCardSaid : Prop := Claim7.holds Tryz.pinned (.plain (OpenSpec.ofChange forkBytesSpec)) forkBytesCard

/-- THE SECOND FORM's CARD OF 'holdfastlaw30.ForkTakes'. -/
def forkTakesUptoCard : Claim7 := { stood := { row := forkTakesUptoRow, standIns := [], harness := (true, "706b22aeeb64232180ccf2df121d6a56b561520014f1f44339dca25488ce0f5a"), looks := true }, kinds := [], alts := [], laidByText := true, laidKinds := [.data, .data, .data, .data, .sentinel, .sentinel, .pinned], laidTests := true, laidLooks := .later }
def ForkTakesUptoCardSaid : Prop := Claim7.holds Tryz.pinned (.plain (OpenSpec.upto forkTakesSpec)) forkTakesUptoCard

/-- THE SECOND FORM's CARD OF 'holdfastlaw30.ForkBytes'. -/
def forkBytesUptoCard : Claim7 := { stood := { row := forkBytesUptoRow, standIns := [], harness := (true, "706b22aeeb64232180ccf2df121d6a56b561520014f1f44339dca25488ce0f5a"), looks := true }, kinds := [], alts := [], laidByText := true, laidKinds := [.data, .data, .data, .data, .sentinel, .sentinel, .pinned], laidTests := true, laidLooks := .later }
def ForkBytesUptoCardSaid : Prop := Claim7.holds Tryz.pinned (.plain (OpenSpec.upto forkBytesSpec)) forkBytesUptoCard
end Rows
end Go.Proofs.YtddlkkmdcfamiaaGreatDoor
