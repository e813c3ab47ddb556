/- Part of the row: what the checks read of the program (ip and vn). -/
import Derived.Test.YtpckcpmohcianaaGreatDoorRows
import Derived.Test.YtpckcpmohcianaaGreatDoorCards
import Derived.Test.YtpckcpmohcianaaGreatDoorTie
import Derived.Test.YtpckcpmohcianaaGreatDoorChecked
import Derived.ProofKit
import Derived.LaidMore
import Derived.OpenShut
import Derived.Stop.Joined
import Derived.MakeChecks
import Derived.SevenTiedAt
import Derived.Lay
import Derived.LaidSub
import Derived.Lib.LaidTab
import Derived.Stop.LaidErr
set_option maxRecDepth 100000
namespace Go.Proofs.YtpckcpmohcianaaGreatDoor
open Go.RowKit
theorem shipSends_ip : (Rows.shipSendsRow.inPlace == Tryz.pinned.checked.prog.inPlace 3) = true := by kernel_rfl
theorem shipSends_vn : (Rows.shipSendsRow.named == Tryz.pinned.checked.prog.varsNamed 3) = true := by kernel_rfl
end Go.Proofs.YtpckcpmohcianaaGreatDoor
