/- Lists of acts and of bools, read as data; a table's cells. -/
import Derived.Test.YtaodldbgikiekaaGreatDoorOpenR
import Derived.Test.YtaodldbgikiekaaGreatDoorW26
set_option linter.unusedSimpArgs false
set_option linter.unusedVariables false
namespace Go.Proofs.YtaodldbgikiekaaGreatDoor
open Go.ChangeShapes Go.WideShapes Go.ChangeAt Go.RowKit

theorem Tryz.cellsPw:Tryz.prog.cellsOf 172=1:=by kernel_rfl
end Go.Proofs.YtaodldbgikiekaaGreatDoor
