/- A list of a unit's entries, read as data. -/
import Derived.Test.YthjigopnlgngdaaOpen0
import Derived.Test.YthjigopnlgngdaaUMakA
namespace Go.Proofs.Ythjigopnlgngdaa
open Go.ChangeShapes Go.WideShapes Go.ChangeAt Go.RowKit

theorem Try.cellsEnt : Try.prog.cellsOf 102 = 3 := by kernel_rfl
theorem Try.cellsCellE : Try.prog.cellsOf 62 = 2 := by kernel_rfl
theorem rd_entry {H : Type} {enc : TypeId × Value → H} {w : World} {r : List Value} (hl : r.length = 3) (h : Rd enc Try.prog w 102 r) : ∃ x : Ent, r = entV x ∧ Bytes w (.slice x.2.2.1 x.2.1.d.length x.2.2.2) x.2.1.d := by
  obtain ⟨c0, c1, c2, rfl⟩ : ∃ c0 c1 c2, r = [c0, c1, c2] := by
    match r, hl with
    | [c0, c1, c2], _ => exact ⟨_, _, _, rfl⟩
  obtain ⟨_, hf⟩ := Rd.struct Try.underlying102 h
  obtain ⟨a, e0, _⟩ := Rd.int (k := .i64) Try.underlying3 (by simpa [Try.cellsInt] using hf 0 _ rfl)
  have h2 : Rd enc Try.prog w 62 [c1, c2] := by simpa [Try.cellsInt, Try.cellsCellE] using hf 1 _ rfl
  obtain ⟨_, hg⟩ := Rd.struct Try.underlying62 h2
  obtain ⟨k, e1, _⟩ := Rd.int (k := .i64) Try.underlying3 (by simpa [Try.cellsInt] using hg 0 _ rfl)
  obtain ⟨da, dc, d, e2, hb⟩ := Rd.bytes Try.underlying22 Try.underlying5 Try.cellsU8 (by simpa [Try.cellsInt, Try.cellsBytes] using hg 1 _ rfl)
  simp only [List.cons.injEq, and_true] at e0 e1 e2
  subst e0 e1 e2
  exact ⟨(a, ⟨k, d⟩, da, dc), rfl, hb⟩
theorem rd_entries {H : Type} {enc : TypeId × Value → H} {w : World} {a : Option Addr} {n c : Nat} (h : Rd enc Try.prog w 66 [.slice a n c]) : ∃ E : List Ent, n = E.length ∧ EL w a c E := by
  obtain ⟨a', c', X, e, hs, hp⟩ := Rd.rows (f := entV) (p := fun x => Bytes w (.slice x.2.2.1 x.2.1.d.length x.2.2.2) x.2.1.d) Try.underlying66 (by rw [Try.cellsEnt]; decide) h (fun r hl hr => rd_entry (by rw [hl]; exact Try.cellsEnt) hr)
  simp only [List.cons.injEq, and_true, Value.slice.injEq] at e
  obtain ⟨rfl, rfl, rfl⟩ := e
  exact ⟨X, rfl, hs, hp⟩
end Go.Proofs.Ythjigopnlgngdaa
