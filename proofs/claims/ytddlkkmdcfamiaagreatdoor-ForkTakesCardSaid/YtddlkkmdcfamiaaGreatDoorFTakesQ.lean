/- Part of the row: what the checks read of the program (ip and vn). -/
import Derived.Test.YtddlkkmdcfamiaaGreatDoorRows
import Derived.Test.YtddlkkmdcfamiaaGreatDoorCards
import Derived.Test.YtddlkkmdcfamiaaGreatDoorTie
import Derived.Test.YtddlkkmdcfamiaaGreatDoorChecked
import Derived.ProofKit
import Derived.LaidMore
import Derived.OpenShut
import Derived.Stop.Joined
import Derived.MakeChecks
import Derived.SevenTiedAt
import Derived.Lay
import Derived.LaidSub
import Derived.Lib.LaidTab
import Derived.Stop.LaidErr
set_option maxRecDepth 100000
namespace Go.Proofs.YtddlkkmdcfamiaaGreatDoor
open Go.RowKit
theorem forkTakes_ip : (Rows.forkTakesRow.inPlace == Tryz.pinned.checked.prog.inPlace 3) = true := by kernel_rfl
theorem forkTakes_vn : (Rows.forkTakesRow.named == Tryz.pinned.checked.prog.varsNamed 3) = true := by kernel_rfl
end Go.Proofs.YtddlkkmdcfamiaaGreatDoor
