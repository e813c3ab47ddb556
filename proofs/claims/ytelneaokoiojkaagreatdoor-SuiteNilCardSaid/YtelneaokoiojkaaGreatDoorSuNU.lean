/- Part of the row: what the card's checks read of the program (text, harness, looks, ways). -/
import Derived.Test.YtelneaokoiojkaaGreatDoorRows
import Derived.Test.YtelneaokoiojkaaGreatDoorCards
import Derived.Test.YtelneaokoiojkaaGreatDoorTie
import Derived.Test.YtelneaokoiojkaaGreatDoorChecked
import Derived.ProofKit
import Derived.LaidMore
import Derived.OpenShut
import Derived.Stop.Joined
import Derived.MakeChecks
import Derived.SevenTiedAt
import Derived.Lay
import Derived.LaidSub
import Derived.Lib.LaidTab
import Derived.Stop.LaidErr
set_option maxRecDepth 100000
namespace Go.Proofs.YtelneaokoiojkaaGreatDoor
open Go.RowKit
theorem suiteNil_wf : Rows.suiteNilRow.wfByText (OpenSpec.ofChange Rows.suiteNilSpec) = true := by kernel_rfl
theorem suiteNil_main : Tryz.pinned.checked.prog.mainIs = some (Rows.suiteNilCard.stood.harness.1, Rows.suiteNilCard.stood.harness.2.toList) := by kernel_rfl
theorem suiteNil_looks : true = Tryz.pinned.checked.prog.looks [] := by kernel_rfl
theorem suiteNil_goes : false = Rows.suiteNilRow.goesBy Tryz.pinned.checked.prog := by kernel_rfl
theorem suiteNil_want : ([3].all fun u => !Tryz.prog.wantsStandIn u) = true := by kernel_rfl
end Go.Proofs.YtelneaokoiojkaaGreatDoor
