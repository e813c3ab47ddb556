/- Lists of acts and of bools, read as data; a table's cells. -/
import Derived.Test.YtddlkkmdcfamiaaGreatDoorOpenR
import Derived.Test.YtddlkkmdcfamiaaGreatDoorB28
set_option linter.unusedSimpArgs false
set_option linter.unusedVariables false
namespace Go.Proofs.YtddlkkmdcfamiaaGreatDoor
open Go.ChangeShapes Go.WideShapes Go.ChangeAt Go.RowKit

theorem Tryz.cellsPw : Tryz.prog.cellsOf 107 = 1 := by kernel_rfl
end Go.Proofs.YtddlkkmdcfamiaaGreatDoor
