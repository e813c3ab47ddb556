/-
  DERIVED. GIVEN WITH THE SEED: THE CARDS: each row of YtlhlkdeaiobfaaaDoorRows.lean that lists a variable, with what it lists TIED to the program's text (the seventh form; the later family's looks); each row that meets fmt, with fmt's text TOLD by the authors' own Lean function (tested against real Go, not proved from fmt's source: count such statements apart). THE CARD IS WHAT COUNTS. Prove the row's statement (the work); the ties are given (YtlhlkdeaiobfaaaDoorTie.lean); close each card by the builder's one call (the guide's Derived/Test/ToyasCard.lean, 'card_holds'). Laid BY PROGRAM, IN A SANDBOX (cutbox-door.mjs). By AI agents, Wed Nov 11 2026. No macro, syntax, notation, axiom, sorry.
-/
import Derived.Test.YtlhlkdeaiobfaaaDoorRows
import GoSem.ClaimSeven
namespace Go.Proofs.YtlhlkdeaiobfaaaDoor
namespace Rows

/-- THE TIED CARD OF 'holdfastlaw16.ChainBreaks'. -/
def chainBreaksCard : Claim7 := { stood := { row := chainBreaksRow, standIns := [], harness := (true, "11d35bb172da98edbf576e772b8ce5b360ed296b38562091c970133e012a6a7c"), looks := true }, kinds := [], alts := [], laidByText := true, laidKinds := [.data, .data], laidTests := true, laidLooks := .later }
def ChainBreaksCardSaid : Prop := Claim7.holds Tryd.pinned (.plain (OpenSpec.ofChange chainBreaksSpec)) chainBreaksCard

/-- THE TIED CARD OF 'holdfastlaw16.ChainGrows'. -/
def chainGrowsCard : Claim7 := { stood := { row := chainGrowsRow, standIns := [], harness := (true, "11d35bb172da98edbf576e772b8ce5b360ed296b38562091c970133e012a6a7c"), looks := true }, kinds := [], alts := [], laidByText := true, laidKinds := [.data, .data], laidTests := true, laidLooks := .later }
def ChainGrowsCardSaid : Prop := Claim7.holds Tryd.pinned (.plain (OpenSpec.ofChange chainGrowsSpec)) chainGrowsCard

/-- THE TIED CARD OF 'holdfastlaw16.ChainChecks'. -/
def chainChecksCard : Claim7 := { stood := { row := chainChecksRow, standIns := [], harness := (true, "11d35bb172da98edbf576e772b8ce5b360ed296b38562091c970133e012a6a7c"), looks := true }, kinds := [], alts := [], laidByText := true, laidKinds := [.data, .data], laidTests := true, laidLooks := .later }
def ChainChecksCardSaid : Prop := Claim7.holds Tryd.pinned (.plain (OpenSpec.ofChange chainChecksSpec)) chainChecksCard

/-- THE TIED CARD OF 'holdfastlaw21.PlanEnds'. -/
def planEndsCard : Claim7 := { stood := { row := planEndsRow, standIns := [], harness := (true, "11d35bb172da98edbf576e772b8ce5b360ed296b38562091c970133e012a6a7c"), looks := true }, kinds := [], alts := [], laidByText := true, laidKinds := [.data, .data], laidTests := true, laidLooks := .later }
def PlanEndsCardSaid : Prop := Claim7.holds Tryd.pinned (.plain (OpenSpec.ofChange planEndsSpec)) planEndsCard

/-- THE TIED CARD OF 'holdfastlaw21.PlanCovers'. -/
def planCoversCard : Claim7 := { stood := { row := planCoversRow, standIns := [], harness := (true, "11d35bb172da98edbf576e772b8ce5b360ed296b38562091c970133e012a6a7c"), looks := true }, kinds := [], alts := [], laidByText := true, laidKinds := [.data, .data], laidTests := true, laidLooks := .later }
def PlanCoversCardSaid : Prop := Claim7.holds Tryd.pinned (.plain (OpenSpec.ofChange planCoversSpec)) planCoversCard

/-- THE SECOND FORM's CARD OF 'holdfastlaw16.ChainBreaks'. -/
def chainBreaksUptoCard : Claim7 := { stood := { row := chainBreaksUptoRow, standIns := [], harness := (true, "11d35bb172da98edbf576e772b8ce5b360ed296b38562091c970133e012a6a7c"), looks := true }, kinds := [], alts := [], laidByText := true, laidKinds := [.data, .data], laidTests := true, laidLooks := .later }
def ChainBreaksUptoCardSaid : Prop := Claim7.holds Tryd.pinned (.plain (OpenSpec.upto chainBreaksSpec)) chainBreaksUptoCard

/-- THE SECOND FORM's CARD OF 'holdfastlaw16.ChainGrows'. -/
def chainGrowsUptoCard : Claim7 := { stood := { row := chainGrowsUptoRow, standIns := [], harness := (true, "11d35bb172da98edbf576e772b8ce5b360ed296b38562091c970133e012a6a7c"), looks := true }, kinds := [], alts := [], laidByText := true, laidKinds := [.data, .data], laidTests := true, laidLooks := .later }
def ChainGrowsUptoCardSaid : Prop := Claim7.holds Tryd.pinned (.plain (OpenSpec.upto chainGrowsSpec)) chainGrowsUptoCard

/-- THE SECOND FORM's CARD OF 'holdfastlaw16.ChainChecks'. -/
def chainChecksUptoCard : Claim7 := { stood := { row := chainChecksUptoRow, standIns := [], harness := (true, "11d35bb172da98edbf576e772b8ce5b360ed296b38562091c970133e012a6a7c"), looks := true }, kinds := [], alts := [], laidByText := true, laidKinds := [.data, .data], laidTests := true, laidLooks := .later }
def ChainChecksUptoCardSaid : Prop := Claim7.holds Tryd.pinned (.plain (OpenSpec.upto chainChecksSpec)) chainChecksUptoCard

/-- THE SECOND FORM's CARD OF 'holdfastlaw21.PlanEnds'. -/
def planEndsUptoCard : Claim7 := { stood := { row := planEndsUptoRow, standIns := [], harness := (true, "11d35bb172da98edbf576e772b8ce5b360ed296b38562091c970133e012a6a7c"), looks := true }, kinds := [], alts := [], laidByText := true, laidKinds := [.data, .data], laidTests := true, laidLooks := .later }
def PlanEndsUptoCardSaid : Prop := Claim7.holds Tryd.pinned (.plain (OpenSpec.upto planEndsSpec)) planEndsUptoCard

/-- THE SECOND FORM's CARD OF 'holdfastlaw21.PlanCovers'. -/
def planCoversUptoCard : Claim7 := { stood := { row := planCoversUptoRow, standIns := [], harness := (true, "11d35bb172da98edbf576e772b8ce5b360ed296b38562091c970133e012a6a7c"), looks := true }, kinds := [], alts := [], laidByText := true, laidKinds := [.data, .data], laidTests := true, laidLooks := .later }
def PlanCoversUptoCardSaid : Prop := Claim7.holds Tryd.pinned (.plain (OpenSpec.upto planCoversSpec)) planCoversUptoCard
end Rows
end Go.Proofs.YtlhlkdeaiobfaaaDoor
