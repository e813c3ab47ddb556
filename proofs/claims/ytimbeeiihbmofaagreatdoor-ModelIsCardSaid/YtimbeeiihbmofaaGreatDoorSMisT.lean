/- Part of the row: what the checks read of the program (uf and rc). -/
import Derived.Test.YtimbeeiihbmofaaGreatDoorRows
import Derived.Test.YtimbeeiihbmofaaGreatDoorCards
import Derived.Test.YtimbeeiihbmofaaGreatDoorTie
import Derived.Test.YtimbeeiihbmofaaGreatDoorChecked
import Derived.ProofKit
import Derived.LaidMore
import Derived.OpenShut
import Derived.Stop.Joined
import Derived.MakeChecks
import Derived.SevenTiedAt
import Derived.Lay
import Derived.LaidSub
import Derived.Lib.LaidTab
import Derived.Stop.LaidErr
set_option maxRecDepth 100000
namespace Go.Proofs.YtimbeeiihbmofaaGreatDoor
open Go.RowKit
theorem modelIs_uf : (Rows.modelIsRow.unfollowed == Tryz.pinned.checked.prog.unfollowed 3) = true := by kernel_rfl
theorem modelIs_rc : (Rows.modelIsRow.recurses == Tryz.pinned.checked.prog.recurses 3) = true := by kernel_rfl
end Go.Proofs.YtimbeeiihbmofaaGreatDoor
