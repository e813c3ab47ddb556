/- Acts of law 25, read as data. -/
import Derived.Test.YtpckcpmohcianaaGreatDoorOpenT
import Derived.Test.YtpckcpmohcianaaGreatDoorS34
set_option linter.unusedSimpArgs false
set_option linter.unusedVariables false
set_option maxRecDepth 100000
namespace Go.Proofs.YtpckcpmohcianaaGreatDoor
open Go.ChangeShapes Go.WideShapes Go.ChangeAt Go.RowKit
theorem Tryz.cellsAct25 : Tryz.prog.cellsOf 53 = 11 := by kernel_rfl
theorem Tryz.cellsRcpt : Tryz.prog.cellsOf 51 = 2 := by kernel_rfl
theorem rd_act25 {H : Type} {enc : TypeId × Value → H} {w : World} {r : List Value} (hl : r.length = 11) (h : Rd enc Tryz.prog w 53 r) : ∃ x : SL.A25, r = SL.a25V x ∧ SL.A13At w x.g ∧ x.bn ≤ 9223372036854775807 := by
 obtain ⟨c0, c1, c2, c3, c4, c5, c6, c7, c8, c9, c10, rfl⟩ : ∃ c0 c1 c2 c3 c4 c5 c6 c7 c8 c9 c10, r = [c0, c1, c2, c3, c4, c5, c6, c7, c8, c9, c10] := by
  match r, hl with
  | [c0, c1, c2, c3, c4, c5, c6, c7, c8, c9, c10], _ => exact ⟨_, _, _, _, _, _, _, _, _, _, _, rfl⟩
 obtain ⟨_, hf⟩ := Rd.struct Tryz.underlying53 h
 obtain ⟨k, e0, _⟩ := Rd.int (k := .i64) Tryz.underlying3 (by simpa [Tryz.cellsInt] using hf 0 _ rfl)
 obtain ⟨g, e1, hg⟩ := rd_act13T (r := [c1, c2, c3, c4, c5, c6, c7]) rfl (by simpa [Tryz.cellsInt, Tryz.cellsActT] using hf 1 _ rfl)
 have h2 : Rd enc Tryz.prog w 51 [c8, c9] := by simpa [Tryz.cellsInt, Tryz.cellsActT, Tryz.cellsRcpt] using hf 2 _ rfl
 obtain ⟨_, hr⟩ := Rd.struct Tryz.underlying51 h2
 obtain ⟨re, e2, _⟩ := Rd.int (k := .i64) Tryz.underlying3 (by simpa [Tryz.cellsInt] using hr 0 _ rfl)
 obtain ⟨ra, e3, _⟩ := Rd.int (k := .i64) Tryz.underlying3 (by simpa [Tryz.cellsInt] using hr 1 _ rfl)
 obtain ⟨d, dc, dd, e4, hb⟩ := Rd.bytes Tryz.underlying45 Tryz.underlying5 Tryz.cellsU8 (show Rd enc Tryz.prog w 45 [c10] by simpa [Tryz.cellsInt, Tryz.cellsActT, Tryz.cellsRcpt, Tryz.cellsBytesT] using hf 3 _ rfl)
 unfold SL.a13V at e1
 simp only [List.cons.injEq, and_true] at e0 e1 e2 e3 e4
 obtain ⟨rfl, rfl, rfl, rfl, rfl, rfl, rfl⟩ := e1
 subst e0 e2 e3 e4
 exact ⟨⟨k, g, re, ra, d, dd.length, dc⟩, rfl, hg, SL.slv_le hb⟩
theorem rd_acts25 {H : Type} {enc : TypeId × Value → H} {w : World} {a : Option Addr} {n c : Nat} (h : Rd enc Tryz.prog w 22 [.slice a n c]) : ∃ X : List SL.A25, n = X.length ∧ SL.A25L w a c X := by
 obtain ⟨a', c', X, e, hs, hp⟩ := Rd.rows (f := SL.a25V) (p := fun x => SL.A13At w x.g ∧ x.bn ≤ 9223372036854775807) Tryz.underlying22 (by rw [Tryz.cellsAct25]; decide) h (fun r hl hr => rd_act25 (by rw [hl]; exact Tryz.cellsAct25) hr)
 simp only [List.cons.injEq, and_true, Value.slice.injEq] at e
 obtain ⟨rfl, rfl, rfl⟩ := e
 exact ⟨X, rfl, hs, fun x hx => (hp x hx).1, fun x hx => (hp x hx).2⟩
end Go.Proofs.YtpckcpmohcianaaGreatDoor
