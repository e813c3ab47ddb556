/- Layers 2, 4: Opened; frame.Put, Take, One. -/
import Derived.Test.YtinbcehlpfnlaaaGreatDoorCrc
import Derived.Test.YtinbcehlpfnlaaaGreatDoorVar
namespace Go.Proofs.YtinbcehlpfnlaaaGreatDoor
open Go.RowKit
set_option linter.unusedSimpArgs false
set_option linter.unusedVariables false
set_option maxRecDepth 100000

/-- bytes without their sum -/
def openB (b : List UInt8) : Nat × List UInt8 := if b.length < 4 then (2, []) else if four (crcOf 0 (b.take (b.length - 4))) = b.drop (b.length - 4) then (0, b.take (b.length - 4)) else (11, [])
def OpenR (r : Nat × List UInt8) (F : Nat → Prop) (w : World) (en : Ending) (w' : World) : Prop :=
  ∃ a c, en = .returned (.tuple #[.slice a r.2.length c, errV r.1]) ∧ w'.ownsRow w.heap.size 5 1 (.slice a r.2.length c) r.2.length (byteVs r.2) ∧ Fr F w w'

end Go.Proofs.YtinbcehlpfnlaaaGreatDoor
