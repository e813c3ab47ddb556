/- A cell, read as data. -/
import Derived.Test.YtddlkkmdcfamiaaGreatDoorOpen0
import Derived.Test.YtddlkkmdcfamiaaGreatDoorB12
set_option linter.unusedSimpArgs false
set_option linter.unusedVariables false
namespace Go.Proofs.YtddlkkmdcfamiaaGreatDoor
open Go.ChangeShapes Go.WideShapes Go.ChangeAt Go.RowKit
theorem rd_cellF {H : Type} {enc : TypeId × Value → H} {w : World} {cs : Array Value} (hl : cs.size = 2) (h : Rd enc Tryz.prog w 36 cs.toList) : ∃ (x : C) (a : Option Addr) (c : Nat), cs = #[.int .i64 x.k, .slice a x.d.length c] ∧ Bytes w (.slice a x.d.length c) x.d := by
 obtain ⟨c0, c1, rfl⟩ : ∃ c0 c1, cs = #[c0, c1] := by
  match cs, hl with
  | ⟨[c0, c1]⟩, _ => exact ⟨_, _, rfl⟩
 obtain ⟨_, hg⟩ := Rd.struct Tryz.underlying36 h
 obtain ⟨k, e1, _⟩ := Rd.int (k := .i64) Tryz.underlying3 (by simpa [Tryz.cellsInt] using hg 0 _ rfl)
 obtain ⟨da, dc, d, e2, hb⟩ := Rd.bytes Tryz.underlying22 Tryz.underlying5 Tryz.cellsU8 (by simpa [Tryz.cellsInt, Tryz.cellsBytes] using hg 1 _ rfl)
 simp only [List.cons.injEq, and_true] at e1 e2
 subst e1 e2
 exact ⟨⟨k, d⟩, da, dc, rfl, hb⟩
theorem Tryz.cellsCellF : Tryz.prog.cellsOf 36 = 2 := by kernel_rfl
end Go.Proofs.YtddlkkmdcfamiaaGreatDoor
