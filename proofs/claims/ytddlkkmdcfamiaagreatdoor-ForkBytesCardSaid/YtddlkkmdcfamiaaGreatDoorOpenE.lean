/- A list of a unit's entries, read as data. -/
import Derived.Test.YtddlkkmdcfamiaaGreatDoorOpen0
import Derived.Test.YtddlkkmdcfamiaaGreatDoorB12
namespace Go.Proofs.YtddlkkmdcfamiaaGreatDoor
open Go.ChangeShapes Go.WideShapes Go.ChangeAt Go.RowKit

theorem Tryz.cellsEnt : Tryz.prog.cellsOf 73 = 3 := by kernel_rfl
theorem Tryz.cellsCellE : Tryz.prog.cellsOf 36 = 2 := by kernel_rfl
theorem rd_entry {H : Type} {enc : TypeId × Value → H} {w : World} {r : List Value} (hl : r.length = 3) (h : Rd enc Tryz.prog w 73 r) : ∃ x : Ent, r = entV x ∧ Bytes w (.slice x.2.2.1 x.2.1.d.length x.2.2.2) x.2.1.d := by
 obtain ⟨c0, c1, c2, rfl⟩ : ∃ c0 c1 c2, r = [c0, c1, c2] := by
  match r, hl with
  | [c0, c1, c2], _ => exact ⟨_, _, _, rfl⟩
 obtain ⟨_, hf⟩ := Rd.struct Tryz.underlying73 h
 obtain ⟨a, e0, _⟩ := Rd.int (k := .i64) Tryz.underlying3 (by simpa [Tryz.cellsInt] using hf 0 _ rfl)
 have h2 : Rd enc Tryz.prog w 36 [c1, c2] := by simpa [Tryz.cellsInt, Tryz.cellsCellE] using hf 1 _ rfl
 obtain ⟨_, hg⟩ := Rd.struct Tryz.underlying36 h2
 obtain ⟨k, e1, _⟩ := Rd.int (k := .i64) Tryz.underlying3 (by simpa [Tryz.cellsInt] using hg 0 _ rfl)
 obtain ⟨da, dc, d, e2, hb⟩ := Rd.bytes Tryz.underlying22 Tryz.underlying5 Tryz.cellsU8 (by simpa [Tryz.cellsInt, Tryz.cellsBytes] using hg 1 _ rfl)
 simp only [List.cons.injEq, and_true] at e0 e1 e2
 subst e0 e1 e2
 exact ⟨(a, ⟨k, d⟩, da, dc), rfl, hb⟩
theorem rd_entries {H : Type} {enc : TypeId × Value → H} {w : World} {a : Option Addr} {n c : Nat} (h : Rd enc Tryz.prog w 24 [.slice a n c]) : ∃ E : List Ent, n = E.length ∧ EL w a c E := by
 obtain ⟨a', c', X, e, hs, hp⟩ := Rd.rows (f := entV) (p := fun x => Bytes w (.slice x.2.2.1 x.2.1.d.length x.2.2.2) x.2.1.d) Tryz.underlying24 (by rw [Tryz.cellsEnt]; decide) h (fun r hl hr => rd_entry (by rw [hl]; exact Tryz.cellsEnt) hr)
 simp only [List.cons.injEq, and_true, Value.slice.injEq] at e
 obtain ⟨rfl, rfl, rfl⟩ := e
 exact ⟨X, rfl, hs, hp⟩
end Go.Proofs.YtddlkkmdcfamiaaGreatDoor
