/- Part of the row: what the checks read of the program (uf and rc). -/
import Derived.Test.YtpckcpmohcianaaGreatDoorRows
import Derived.Test.YtpckcpmohcianaaGreatDoorCards
import Derived.Test.YtpckcpmohcianaaGreatDoorTie
import Derived.Test.YtpckcpmohcianaaGreatDoorChecked
import Derived.ProofKit
import Derived.LaidMore
import Derived.OpenShut
import Derived.Stop.Joined
import Derived.MakeChecks
import Derived.SevenTiedAt
import Derived.Lay
import Derived.LaidSub
import Derived.Lib.LaidTab
import Derived.Stop.LaidErr
set_option maxRecDepth 100000
namespace Go.Proofs.YtpckcpmohcianaaGreatDoor
open Go.RowKit
theorem shipSends_uf : (Rows.shipSendsRow.unfollowed == Tryz.pinned.checked.prog.unfollowed 3) = true := by kernel_rfl
theorem shipSends_rc : (Rows.shipSendsRow.recurses == Tryz.pinned.checked.prog.recurses 3) = true := by kernel_rfl
end Go.Proofs.YtpckcpmohcianaaGreatDoor
