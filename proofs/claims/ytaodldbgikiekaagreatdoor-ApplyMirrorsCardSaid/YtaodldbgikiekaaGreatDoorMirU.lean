/- Part of the row: what the card's checks read of the program (text, harness, looks, ways). -/
import Derived.Test.YtaodldbgikiekaaGreatDoorRows
import Derived.Test.YtaodldbgikiekaaGreatDoorCards
import Derived.Test.YtaodldbgikiekaaGreatDoorTie
import Derived.Test.YtaodldbgikiekaaGreatDoorChecked
import Derived.ProofKit
import Derived.LaidMore
import Derived.OpenShut
import Derived.Stop.Joined
import Derived.MakeChecks
import Derived.SevenTiedAt
import Derived.Lay
import Derived.LaidSub
import Derived.Lib.LaidTab
import Derived.Stop.LaidErr
set_option maxRecDepth 100000
namespace Go.Proofs.YtaodldbgikiekaaGreatDoor
open Go.RowKit
theorem applyMirrors_wf:Rows.applyMirrorsRow.wfByText (OpenSpec.ofChange Rows.applyMirrorsSpec)=true:=by kernel_rfl
theorem applyMirrors_main:Tryz.pinned.checked.prog.mainIs=some (Rows.applyMirrorsCard.stood.harness.1,Rows.applyMirrorsCard.stood.harness.2.toList):=by kernel_rfl
theorem applyMirrors_looks:true=Tryz.pinned.checked.prog.looks []:=by kernel_rfl
theorem applyMirrors_goes:false=Rows.applyMirrorsRow.goesBy Tryz.pinned.checked.prog:=by kernel_rfl
theorem applyMirrors_want:([22].all fun u=>!Tryz.prog.wantsStandIn u)=true:=by kernel_rfl
end Go.Proofs.YtaodldbgikiekaaGreatDoor
