/- Lists of acts and of bools, read as data; a table's cells. -/
import Derived.Test.YtimbeeiihbmofaaGreatDoorOpenR
import Derived.Test.YtimbeeiihbmofaaGreatDoorW25
set_option linter.unusedSimpArgs false
set_option linter.unusedVariables false
namespace Go.Proofs.YtimbeeiihbmofaaGreatDoor
open Go.ChangeShapes Go.WideShapes Go.ChangeAt Go.RowKit

theorem Tryz.cellsPw : Tryz.prog.cellsOf 186 = 1 := by kernel_rfl
end Go.Proofs.YtimbeeiihbmofaaGreatDoor
