/- Lists of acts and of bools, read as data; a table's cells. -/
import Derived.Test.YtcdeoofeofjdnaaGreatDoorOpenR
import Derived.Test.YtcdeoofeofjdnaaGreatDoorV27
namespace Go.Proofs.YtcdeoofeofjdnaaGreatDoor
open Go.ChangeShapes Go.WideShapes Go.ChangeAt Go.RowKit
set_option linter.unusedSimpArgs false
set_option linter.unusedVariables false

theorem Tryz.cellsPw : Tryz.prog.cellsOf 185 = 1 := by kernel_rfl
end Go.Proofs.YtcdeoofeofjdnaaGreatDoor
