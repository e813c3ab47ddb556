/- What every closing wants: facts on the program's table. -/
import Derived.Test.YtjkbcjliaacebaaRows
import Derived.Test.YtjkbcjliaacebaaRd
import Derived.ProofKit
namespace Go.Proofs.Ytjkbcjliaacebaa
open Go.ChangeShapes Go.WideShapes Go.ChangeAt Go.RowKit

theorem Try.cellsInt : Try.prog.cellsOf 3 = 1 := by kernel_rfl
theorem Try.cellsU8 : Try.prog.cellsOf 5 = 1 := by kernel_rfl
theorem Try.cellsBytes : Try.prog.cellsOf 46 = 1 := by kernel_rfl
theorem own0 : ownKnob Try.prog.godebug = none := by kernel_rfl
theorem laidOut0 : laidOutB Try.prog = true := by kernel_rfl
end Go.Proofs.Ytjkbcjliaacebaa
