/- Cells and parcels, read as data. -/
import Derived.Test.YtcpkeddgkpjioaaGreatDoorOpenK
import Derived.Test.YtcpkeddgkpjioaaGreatDoorB30
set_option linter.unusedSimpArgs false
set_option linter.unusedVariables false
set_option maxRecDepth 100000
namespace Go.Proofs.YtcpkeddgkpjioaaGreatDoor
open Go.ChangeShapes Go.WideShapes Go.ChangeAt Go.RowKit
theorem Tryz.cellsCellC : Tryz.prog.cellsOf 36 = 2 := by kernel_rfl
theorem rd_cell1 {H : Type} {enc : TypeId × Value → H} {w : World} (r : List Value) (hl : r.length = Tryz.prog.cellsOf 36) (hr : Rd enc Tryz.prog w 36 r) : ∃ x : SL.CE, r = SL.ceV x ∧ Bytes w (.slice x.a x.c.d.length x.k) x.c.d := by
 obtain ⟨c0, c1, rfl⟩ : ∃ c0 c1, r = [c0, c1] := by
  rw [Tryz.cellsCellC] at hl
  match r, hl with
  | [c0, c1], _ => exact ⟨_, _, rfl⟩
 obtain ⟨_, hg⟩ := Rd.struct Tryz.underlying36 hr
 obtain ⟨ck, e0, _⟩ := Rd.int (k := .i64) Tryz.underlying3 (by simpa [Tryz.cellsInt] using hg 0 _ rfl)
 obtain ⟨d, dc, dd, e1, hb⟩ := Rd.bytes Tryz.underlying34 Tryz.underlying5 Tryz.cellsU8 (show Rd enc Tryz.prog w 34 [c1] by simpa [Tryz.cellsInt, Tryz.cellsBytes] using hg 1 _ rfl)
 simp only [List.cons.injEq, and_true] at e0 e1
 subst e0 e1
 exact ⟨⟨⟨ck, dd⟩, d, dc⟩, rfl, hb⟩
theorem rd_cells {H : Type} {enc : TypeId × Value → H} {w : World} {a : Option Addr} {n c : Nat} (h : Rd enc Tryz.prog w 22 [.slice a n c]) : ∃ X : List SL.CE, n = X.length ∧ SL.CEs w a c X := by
 obtain ⟨a', c', X, e, hs, hp⟩ := Rd.rows (f := SL.ceV) (p := fun x => Bytes w (.slice x.a x.c.d.length x.k) x.c.d) Tryz.underlying22 (by rw [Tryz.cellsCellC]; decide) h rd_cell1
 simp only [List.cons.injEq, and_true, Value.slice.injEq] at e
 obtain ⟨rfl, rfl, rfl⟩ := e
 exact ⟨X, rfl, hs, hp⟩
end Go.Proofs.YtcpkeddgkpjioaaGreatDoor
