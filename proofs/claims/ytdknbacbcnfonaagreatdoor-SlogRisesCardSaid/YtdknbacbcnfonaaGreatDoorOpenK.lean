/- Lists of acts and of bools, read as data; a table's cells. -/
import Derived.Test.YtdknbacbcnfonaaGreatDoorOpenR
import Derived.Test.YtdknbacbcnfonaaGreatDoorJ27
set_option linter.unusedSimpArgs false
set_option linter.unusedVariables false
namespace Go.Proofs.YtdknbacbcnfonaaGreatDoor
open Go.ChangeShapes Go.WideShapes Go.ChangeAt Go.RowKit

theorem Tryz.cellsPw : Tryz.prog.cellsOf 171 = 1 := by kernel_rfl
end Go.Proofs.YtdknbacbcnfonaaGreatDoor
