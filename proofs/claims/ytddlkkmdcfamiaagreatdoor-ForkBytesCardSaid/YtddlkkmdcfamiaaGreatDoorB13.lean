/- Proved here: a part of the proof (13 of 35). -/
import Derived.Test.YtddlkkmdcfamiaaGreatDoorB8
import Derived.Lib.ConvBytes
import Derived.Lib.AtoiErrMem
set_option linter.unusedSimpArgs false
set_option linter.unusedVariables false
set_option maxRecDepth 100000
namespace Go.Proofs.YtddlkkmdcfamiaaGreatDoor
open Go.RowKit

theorem bytes_conv (w : World) (d : List UInt8) (n : Nat) (hn : n = d.length) (hd : d.length ≤ 1073741824) : Bytes (Lib.bytesWorld w 5 (strOf d)) (.slice (some ⟨w.heap.size, 0, none⟩) n (grownCap w n 0 5)) d := by
 subst hn
 refine ⟨_, _, rfl, grownCap_ge _ _ _ _, grownCap_le_maxLen _ _ _ _ (by unfold maxLen; omega), by simp, fun j u hu => ⟨_, rfl, ?_⟩⟩
 have e1 : (Addr.add ⟨w.heap.size, 0, none⟩ j) = ⟨w.heap.size, j, none⟩ := by unfold Addr.add; split <;> simp_all
 have hj : j < d.length := by
  have := (List.getElem?_eq_some_iff.1 hu).1
  simpa [byteVs] using this
 rw [e1, Lib.bytesWorld_cell _ _ _ _ (by rw [strOf_size]; exact hj)]
 have e2 : (byteVs d)[j]? = some (byteV d[j]) := by simp [byteVs, hj]
 rw [e2] at hu
 rw [← hu]
 simp [strOf, List.getD, hj, byteV]

end Go.Proofs.YtddlkkmdcfamiaaGreatDoor
