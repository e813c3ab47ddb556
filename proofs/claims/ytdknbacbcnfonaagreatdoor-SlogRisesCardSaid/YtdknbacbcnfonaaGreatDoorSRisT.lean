/- Part of the row: what the checks read of the program (uf and rc). -/
import Derived.Test.YtdknbacbcnfonaaGreatDoorRows
import Derived.Test.YtdknbacbcnfonaaGreatDoorCards
import Derived.Test.YtdknbacbcnfonaaGreatDoorTie
import Derived.Test.YtdknbacbcnfonaaGreatDoorChecked
import Derived.ProofKit
import Derived.LaidMore
import Derived.OpenShut
import Derived.Stop.Joined
import Derived.MakeChecks
import Derived.SevenTiedAt
import Derived.Lay
import Derived.LaidSub
import Derived.Lib.LaidTab
import Derived.Stop.LaidErr
set_option maxRecDepth 100000
namespace Go.Proofs.YtdknbacbcnfonaaGreatDoor
open Go.RowKit
theorem slogRises_uf : (Rows.slogRisesRow.unfollowed == Tryz.pinned.checked.prog.unfollowed 3) = true := by kernel_rfl
theorem slogRises_rc : (Rows.slogRisesRow.recurses == Tryz.pinned.checked.prog.recurses 3) = true := by kernel_rfl
end Go.Proofs.YtdknbacbcnfonaaGreatDoor
