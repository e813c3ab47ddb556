/- What every closing wants: facts on the program's table. -/
import Derived.Test.YtaodldbgikiekaaGreatDoorRows
import Derived.Test.YtaodldbgikiekaaGreatDoorW1
import Derived.ProofKit
namespace Go.Proofs.YtaodldbgikiekaaGreatDoor
open Go.ChangeShapes Go.WideShapes Go.ChangeAt Go.RowKit

theorem Tryz.cellsInt:Tryz.prog.cellsOf 3=1:=by kernel_rfl
theorem Tryz.cellsU8:Tryz.prog.cellsOf 5=1:=by kernel_rfl
theorem Tryz.cellsBytes:Tryz.prog.cellsOf 26=1:=by kernel_rfl
theorem own0:ownKnob Tryz.prog.godebug=none:=by kernel_rfl
theorem laidOut0:laidOutB Tryz.prog=true:=by kernel_rfl
end Go.Proofs.YtaodldbgikiekaaGreatDoor
