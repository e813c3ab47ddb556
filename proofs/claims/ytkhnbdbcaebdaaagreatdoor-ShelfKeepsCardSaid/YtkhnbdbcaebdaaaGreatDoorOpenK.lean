/- Lists of acts and of bools, read as data; a table's cells. -/
import Derived.Test.YtkhnbdbcaebdaaaGreatDoorOpenR
import Derived.Test.YtkhnbdbcaebdaaaGreatDoorV28
namespace Go.Proofs.YtkhnbdbcaebdaaaGreatDoor
open Go.ChangeShapes Go.WideShapes Go.ChangeAt Go.RowKit
set_option linter.unusedSimpArgs false
set_option linter.unusedVariables false

theorem Tryz.cellsPw : Tryz.prog.cellsOf 113 = 1 := by kernel_rfl
theorem rd_actsK {H : Type} {enc : TypeId × Value → H} {w : World} {a : Option Addr} {n c : Nat} (h : Rd enc Tryz.prog w 22 [.slice a n c]) : ∃ X : List SH.AcS, n = X.length ∧ SH.ActsAt w (.slice a X.length c) X := by
  obtain ⟨a', c', X, e, hs, hp⟩ := Rd.rows (f := SH.acV) (p := fun x => Bytes w (.slice x.2.1 x.1.d.length x.2.2) x.1.d) Tryz.underlying22 (by rw [Tryz.cellsActR]; decide) h (fun r hl hr => by
    obtain ⟨x, da, dc, he, hb⟩ := rd_act (cs := r.toArray) (by rw [List.size_toArray, hl]; exact Tryz.cellsActR) (by simpa using hr)
    have he' : r = [.int .i64 x.k, .int .i64 x.e, .int .i64 x.a, .slice da x.d.length dc] := by simpa using congrArg Array.toList he
    exact ⟨(x, da, dc), he', hb⟩)
  simp only [List.cons.injEq, and_true, Value.slice.injEq] at e
  obtain ⟨rfl, rfl, rfl⟩ := e
  exact ⟨X, rfl, hs, hp⟩
end Go.Proofs.YtkhnbdbcaebdaaaGreatDoor
