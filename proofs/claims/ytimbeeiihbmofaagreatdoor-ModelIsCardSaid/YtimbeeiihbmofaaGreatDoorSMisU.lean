/- Part of the row: what the card's checks read of the program (text, harness, looks, ways). -/
import Derived.Test.YtimbeeiihbmofaaGreatDoorRows
import Derived.Test.YtimbeeiihbmofaaGreatDoorCards
import Derived.Test.YtimbeeiihbmofaaGreatDoorTie
import Derived.Test.YtimbeeiihbmofaaGreatDoorChecked
import Derived.ProofKit
import Derived.LaidMore
import Derived.OpenShut
import Derived.Stop.Joined
import Derived.MakeChecks
import Derived.SevenTiedAt
import Derived.Lay
import Derived.LaidSub
import Derived.Lib.LaidTab
import Derived.Stop.LaidErr
set_option maxRecDepth 100000
namespace Go.Proofs.YtimbeeiihbmofaaGreatDoor
open Go.RowKit
theorem modelIs_wf : Rows.modelIsRow.wfByText (OpenSpec.ofChange Rows.modelIsSpec) = true := by kernel_rfl
theorem modelIs_main : Tryz.pinned.checked.prog.mainIs = some (Rows.modelIsCard.stood.harness.1, Rows.modelIsCard.stood.harness.2.toList) := by kernel_rfl
theorem modelIs_looks : true = Tryz.pinned.checked.prog.looks [] := by kernel_rfl
theorem modelIs_goes : false = Rows.modelIsRow.goesBy Tryz.pinned.checked.prog := by kernel_rfl
theorem modelIs_want : ([24, 25, 3].all fun u => !Tryz.prog.wantsStandIn u) = true := by kernel_rfl
end Go.Proofs.YtimbeeiihbmofaaGreatDoor
