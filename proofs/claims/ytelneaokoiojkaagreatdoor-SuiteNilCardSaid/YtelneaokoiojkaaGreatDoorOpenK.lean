/- Lists of acts and of bools, read as data; a table's cells. -/
import Derived.Test.YtelneaokoiojkaaGreatDoorOpenR
import Derived.Test.YtelneaokoiojkaaGreatDoorV25
set_option linter.unusedSimpArgs false
set_option linter.unusedVariables false
namespace Go.Proofs.YtelneaokoiojkaaGreatDoor
open Go.ChangeShapes Go.WideShapes Go.ChangeAt Go.RowKit

theorem Tryz.cellsPw : Tryz.prog.cellsOf 229 = 1 := by kernel_rfl
end Go.Proofs.YtelneaokoiojkaaGreatDoor
