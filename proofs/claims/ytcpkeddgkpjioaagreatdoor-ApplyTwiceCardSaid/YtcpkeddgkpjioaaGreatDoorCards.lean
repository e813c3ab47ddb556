/-
  DERIVED. GIVEN WITH THE SEED: THE CARDS: each row of YtcpkeddgkpjioaaGreatDoorRows.lean that lists a variable, with what it lists TIED to the program's text (the seventh form; the later family's looks); each row that meets fmt, with fmt's text TOLD by the authors' own Lean function (tested against real Go, not proved from fmt's source: count such statements apart). THE CARD IS WHAT COUNTS. Prove the row's statement (the work); the ties are given (YtcpkeddgkpjioaaGreatDoorTie.lean); close each card by the builder's one call (the guide's Derived/Test/ToyasCard.lean, 'card_holds'). Laid BY PROGRAM, IN A SANDBOX (cutbox-door.mjs). By AI agents, Wed Nov 11 2026. No macro, syntax, notation, axiom, sorry.
-/
import Derived.Test.YtcpkeddgkpjioaaGreatDoorRows
import GoSem.ClaimSeven
namespace Go.Proofs.YtcpkeddgkpjioaaGreatDoor
namespace Rows

/-- THE TIED CARD OF 'holdfastlaw25.ShipAll'. -/
def shipAllCard : Claim7 := { stood := { row := shipAllRow, standIns := [], harness := (true, "014195b11c345a807ec76ef373439788b28dcc9ae98860a242c3838bb4fe95fb"), looks := true }, kinds := [], alts := [], laidByText := true, laidKinds := [.data, .data, .data, .data, .sentinel, .sentinel, .pinned], laidTests := true, laidLooks := .later }
def ShipAllCardSaid : Prop := Claim7.holds Tryz.pinned (.plain (OpenSpec.ofChange shipAllSpec)) shipAllCard

/-- THE TIED CARD OF 'holdfastlaw26.ApplyTwice'. -/
def applyTwiceCard : Claim7 := { stood := { row := applyTwiceRow, standIns := [], harness := (true, "014195b11c345a807ec76ef373439788b28dcc9ae98860a242c3838bb4fe95fb"), looks := true }, kinds := [], alts := [], laidByText := true, laidKinds := [.data, .data, .data, .data, .sentinel, .sentinel, .pinned], laidTests := true, laidLooks := .later }
def ApplyTwiceCardSaid : Prop := Claim7.holds Tryz.pinned (.plain (OpenSpec.ofChange applyTwiceSpec)) applyTwiceCard

/-- THE SECOND FORM's CARD OF 'holdfastlaw25.ShipAll'. -/
def shipAllUptoCard : Claim7 := { stood := { row := shipAllUptoRow, standIns := [], harness := (true, "014195b11c345a807ec76ef373439788b28dcc9ae98860a242c3838bb4fe95fb"), looks := true }, kinds := [], alts := [], laidByText := true, laidKinds := [.data, .data, .data, .data, .sentinel, .sentinel, .pinned], laidTests := true, laidLooks := .later }
def ShipAllUptoCardSaid : Prop := Claim7.holds Tryz.pinned (.plain (OpenSpec.upto shipAllSpec)) shipAllUptoCard

/-- THE SECOND FORM's CARD OF 'holdfastlaw26.ApplyTwice'. -/
def applyTwiceUptoCard : Claim7 := { stood := { row := applyTwiceUptoRow, standIns := [], harness := (true, "014195b11c345a807ec76ef373439788b28dcc9ae98860a242c3838bb4fe95fb"), looks := true }, kinds := [], alts := [], laidByText := true, laidKinds := [.data, .data, .data, .data, .sentinel, .sentinel, .pinned], laidTests := true, laidLooks := .later }
def ApplyTwiceUptoCardSaid : Prop := Claim7.holds Tryz.pinned (.plain (OpenSpec.upto applyTwiceSpec)) applyTwiceUptoCard
end Rows
end Go.Proofs.YtcpkeddgkpjioaaGreatDoor
