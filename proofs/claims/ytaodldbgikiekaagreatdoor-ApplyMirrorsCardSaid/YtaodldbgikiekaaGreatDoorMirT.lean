/- Part of the row: what the checks read of the program (uf and rc). -/
import Derived.Test.YtaodldbgikiekaaGreatDoorRows
import Derived.Test.YtaodldbgikiekaaGreatDoorCards
import Derived.Test.YtaodldbgikiekaaGreatDoorTie
import Derived.Test.YtaodldbgikiekaaGreatDoorChecked
import Derived.ProofKit
import Derived.LaidMore
import Derived.OpenShut
import Derived.Stop.Joined
import Derived.MakeChecks
import Derived.SevenTiedAt
import Derived.Lay
import Derived.LaidSub
import Derived.Lib.LaidTab
import Derived.Stop.LaidErr
set_option maxRecDepth 100000
namespace Go.Proofs.YtaodldbgikiekaaGreatDoor
open Go.RowKit
theorem applyMirrors_uf:(Rows.applyMirrorsRow.unfollowed==Tryz.pinned.checked.prog.unfollowed 3)=true:=by kernel_rfl
theorem applyMirrors_rc:(Rows.applyMirrorsRow.recurses==Tryz.pinned.checked.prog.recurses 3)=true:=by kernel_rfl
end Go.Proofs.YtaodldbgikiekaaGreatDoor
