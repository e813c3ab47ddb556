/- Lists of acts and of bools, read as data; a table's cells. -/
import Derived.Test.YtpckcpmohcianaaGreatDoorOpenR
import Derived.Test.YtpckcpmohcianaaGreatDoorS26
set_option linter.unusedSimpArgs false
set_option linter.unusedVariables false
namespace Go.Proofs.YtpckcpmohcianaaGreatDoor
open Go.ChangeShapes Go.WideShapes Go.ChangeAt Go.RowKit

theorem Tryz.cellsPw : Tryz.prog.cellsOf 217 = 1 := by kernel_rfl
end Go.Proofs.YtpckcpmohcianaaGreatDoor
