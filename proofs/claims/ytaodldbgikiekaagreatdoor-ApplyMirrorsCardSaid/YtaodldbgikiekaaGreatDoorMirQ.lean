/- Part of the row: what the checks read of the program (ip and vn). -/
import Derived.Test.YtaodldbgikiekaaGreatDoorRows
import Derived.Test.YtaodldbgikiekaaGreatDoorCards
import Derived.Test.YtaodldbgikiekaaGreatDoorTie
import Derived.Test.YtaodldbgikiekaaGreatDoorChecked
import Derived.ProofKit
import Derived.LaidMore
import Derived.OpenShut
import Derived.Stop.Joined
import Derived.MakeChecks
import Derived.SevenTiedAt
import Derived.Lay
import Derived.LaidSub
import Derived.Lib.LaidTab
import Derived.Stop.LaidErr
set_option maxRecDepth 100000
namespace Go.Proofs.YtaodldbgikiekaaGreatDoor
open Go.RowKit
theorem applyMirrors_ip:(Rows.applyMirrorsRow.inPlace==Tryz.pinned.checked.prog.inPlace 3)=true:=by kernel_rfl
theorem applyMirrors_vn:(Rows.applyMirrorsRow.named==Tryz.pinned.checked.prog.varsNamed 3)=true:=by kernel_rfl
end Go.Proofs.YtaodldbgikiekaaGreatDoor
