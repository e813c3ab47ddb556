/- What every closing wants: facts on the program's table. -/
import Derived.Test.YtlhlkdeaiobfaaaDoorRows
import Derived.Test.YtlhlkdeaiobfaaaDoorBase
import Derived.ProofKit
namespace Go.Proofs.YtlhlkdeaiobfaaaDoor
open Go.ChangeShapes Go.WideShapes Go.ChangeAt Go.RowKit

theorem Tryd.cellsInt : Tryd.prog.cellsOf 3 = 1 := by kernel_rfl
theorem Tryd.cellsU8 : Tryd.prog.cellsOf 5 = 1 := by kernel_rfl
theorem Tryd.cellsBytes : Tryd.prog.cellsOf 72 = 1 := by kernel_rfl
theorem own0 : ownKnob Tryd.prog.godebug = none := by kernel_rfl
theorem laidOut0 : laidOutB Tryd.prog = true := by kernel_rfl
end Go.Proofs.YtlhlkdeaiobfaaaDoor
