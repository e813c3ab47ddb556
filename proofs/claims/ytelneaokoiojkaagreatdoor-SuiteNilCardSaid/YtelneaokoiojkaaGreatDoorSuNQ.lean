/- Part of the row: what the checks read of the program (ip and vn). -/
import Derived.Test.YtelneaokoiojkaaGreatDoorRows
import Derived.Test.YtelneaokoiojkaaGreatDoorCards
import Derived.Test.YtelneaokoiojkaaGreatDoorTie
import Derived.Test.YtelneaokoiojkaaGreatDoorChecked
import Derived.ProofKit
import Derived.LaidMore
import Derived.OpenShut
import Derived.Stop.Joined
import Derived.MakeChecks
import Derived.SevenTiedAt
import Derived.Lay
import Derived.LaidSub
import Derived.Lib.LaidTab
import Derived.Stop.LaidErr
set_option maxRecDepth 100000
namespace Go.Proofs.YtelneaokoiojkaaGreatDoor
open Go.RowKit
theorem suiteNil_ip : (Rows.suiteNilRow.inPlace == Tryz.pinned.checked.prog.inPlace 3) = true := by kernel_rfl
theorem suiteNil_vn : (Rows.suiteNilRow.named == Tryz.pinned.checked.prog.varsNamed 3) = true := by kernel_rfl
end Go.Proofs.YtelneaokoiojkaaGreatDoor
