/- Part of the row SlogNil: what the checks read of the program (ip and vn). -/
import Derived.Test.YtcdeoofeofjdnaaGreatDoorRows
import Derived.Test.YtcdeoofeofjdnaaGreatDoorCards
import Derived.Test.YtcdeoofeofjdnaaGreatDoorTie
import Derived.Test.YtcdeoofeofjdnaaGreatDoorChecked
import Derived.ProofKit
import Derived.LaidMore
import Derived.Stop.Joined
import Derived.MakeChecks
import Derived.SevenTiedAt
import Derived.Lay
import Derived.LaidSub
import Derived.Lib.LaidTab
import Derived.Stop.LaidErr
set_option maxRecDepth 100000
namespace Go.Proofs.YtcdeoofeofjdnaaGreatDoor
open Go.RowKit
theorem slogNil_ip : (Rows.slogNilRow.inPlace == Tryz.pinned.checked.prog.inPlace 3) = true := by kernel_rfl
theorem slogNil_vn : (Rows.slogNilRow.named == Tryz.pinned.checked.prog.varsNamed 3) = true := by kernel_rfl
end Go.Proofs.YtcdeoofeofjdnaaGreatDoor
