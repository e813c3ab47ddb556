/- Part of the row: what the checks read of the program (text, harness, looks, ways). -/
import Derived.Test.YtpckcpmohcianaaGreatDoorRows
import Derived.Test.YtpckcpmohcianaaGreatDoorCards
import Derived.Test.YtpckcpmohcianaaGreatDoorTie
import Derived.Test.YtpckcpmohcianaaGreatDoorChecked
import Derived.ProofKit
import Derived.LaidMore
import Derived.OpenShut
import Derived.Stop.Joined
import Derived.MakeChecks
import Derived.SevenTiedAt
import Derived.Lay
import Derived.LaidSub
import Derived.Lib.LaidTab
import Derived.Stop.LaidErr
set_option maxRecDepth 100000
namespace Go.Proofs.YtpckcpmohcianaaGreatDoor
open Go.RowKit
theorem shipSends_wf : Rows.shipSendsRow.wfByText (OpenSpec.ofChange Rows.shipSendsSpec) = true := by kernel_rfl
theorem shipSends_main : Tryz.pinned.checked.prog.mainIs = some (Rows.shipSendsCard.stood.harness.1, Rows.shipSendsCard.stood.harness.2.toList) := by kernel_rfl
theorem shipSends_looks : true = Tryz.pinned.checked.prog.looks [] := by kernel_rfl
theorem shipSends_goes : false = Rows.shipSendsRow.goesBy Tryz.pinned.checked.prog := by kernel_rfl
theorem shipSends_want : ([3, 22].all fun u => !Tryz.prog.wantsStandIn u) = true := by kernel_rfl
end Go.Proofs.YtpckcpmohcianaaGreatDoor
