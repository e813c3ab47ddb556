/- Part of the row: what the checks read of the program (uf and rc). -/
import Derived.Test.YtddlkkmdcfamiaaGreatDoorRows
import Derived.Test.YtddlkkmdcfamiaaGreatDoorCards
import Derived.Test.YtddlkkmdcfamiaaGreatDoorTie
import Derived.Test.YtddlkkmdcfamiaaGreatDoorChecked
import Derived.ProofKit
import Derived.LaidMore
import Derived.OpenShut
import Derived.Stop.Joined
import Derived.MakeChecks
import Derived.SevenTiedAt
import Derived.Lay
import Derived.LaidSub
import Derived.Lib.LaidTab
import Derived.Stop.LaidErr
set_option maxRecDepth 100000
namespace Go.Proofs.YtddlkkmdcfamiaaGreatDoor
open Go.RowKit
theorem forkTakes_uf : (Rows.forkTakesRow.unfollowed == Tryz.pinned.checked.prog.unfollowed 3) = true := by kernel_rfl
theorem forkTakes_rc : (Rows.forkTakesRow.recurses == Tryz.pinned.checked.prog.recurses 3) = true := by kernel_rfl
end Go.Proofs.YtddlkkmdcfamiaaGreatDoor
