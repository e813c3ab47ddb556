/- Part of the row: what the checks read of the program (uf and rc). -/
import Derived.Test.YtcpkeddgkpjioaaGreatDoorRows
import Derived.Test.YtcpkeddgkpjioaaGreatDoorCards
import Derived.Test.YtcpkeddgkpjioaaGreatDoorTie
import Derived.Test.YtcpkeddgkpjioaaGreatDoorChecked
import Derived.ProofKit
import Derived.LaidMore
import Derived.OpenShut
import Derived.Stop.Joined
import Derived.MakeChecks
import Derived.SevenTiedAt
import Derived.Lay
import Derived.LaidSub
import Derived.Lib.LaidTab
import Derived.Stop.LaidErr
set_option maxRecDepth 100000
namespace Go.Proofs.YtcpkeddgkpjioaaGreatDoor
open Go.RowKit
theorem applyTwice_uf : (Rows.applyTwiceRow.unfollowed == Tryz.pinned.checked.prog.unfollowed 4) = true := by kernel_rfl
theorem applyTwice_rc : (Rows.applyTwiceRow.recurses == Tryz.pinned.checked.prog.recurses 4) = true := by kernel_rfl
end Go.Proofs.YtcpkeddgkpjioaaGreatDoor
