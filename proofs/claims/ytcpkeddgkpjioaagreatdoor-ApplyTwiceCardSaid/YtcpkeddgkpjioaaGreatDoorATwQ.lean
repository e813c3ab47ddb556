/- Part of the row: what the checks read of the program (ip and vn). -/
import Derived.Test.YtcpkeddgkpjioaaGreatDoorRows
import Derived.Test.YtcpkeddgkpjioaaGreatDoorCards
import Derived.Test.YtcpkeddgkpjioaaGreatDoorTie
import Derived.Test.YtcpkeddgkpjioaaGreatDoorChecked
import Derived.ProofKit
import Derived.LaidMore
import Derived.OpenShut
import Derived.Stop.Joined
import Derived.MakeChecks
import Derived.SevenTiedAt
import Derived.Lay
import Derived.LaidSub
import Derived.Lib.LaidTab
import Derived.Stop.LaidErr
set_option maxRecDepth 100000
namespace Go.Proofs.YtcpkeddgkpjioaaGreatDoor
open Go.RowKit
theorem applyTwice_ip : (Rows.applyTwiceRow.inPlace == Tryz.pinned.checked.prog.inPlace 4) = true := by kernel_rfl
theorem applyTwice_vn : (Rows.applyTwiceRow.named == Tryz.pinned.checked.prog.varsNamed 4) = true := by kernel_rfl
end Go.Proofs.YtcpkeddgkpjioaaGreatDoor
