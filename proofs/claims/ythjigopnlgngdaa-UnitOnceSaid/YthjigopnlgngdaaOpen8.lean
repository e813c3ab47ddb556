/- A script of unit's acts, read as data. -/
import Derived.Test.YthjigopnlgngdaaOpen0
import Derived.Test.YthjigopnlgngdaaUPlays
namespace Go.Proofs.Ythjigopnlgngdaa
open Go.ChangeShapes Go.WideShapes Go.ChangeAt Go.RowKit

theorem Try.cellsAct : Try.prog.cellsOf 95 = 4 := by kernel_rfl
theorem rd_act {H : Type} {enc : TypeId × Value → H} {w : World} {r : List Value} (hl : r.length = 4) (h : Rd enc Try.prog w 95 r) : ∃ x : ActX, r = actV x ∧ Bytes w (.slice x.da x.d.length x.dc) x.d := by
  obtain ⟨c0, c1, c2, c3, rfl⟩ : ∃ c0 c1 c2 c3, r = [c0, c1, c2, c3] := by
    match r, hl with
    | [c0, c1, c2, c3], _ => exact ⟨_, _, _, _, rfl⟩
  obtain ⟨_, hf⟩ := Rd.struct Try.underlying95 h
  obtain ⟨k, e0, _⟩ := Rd.int (k := .i64) Try.underlying3 (by simpa [Try.cellsInt] using hf 0 _ rfl)
  obtain ⟨e, e1, _⟩ := Rd.int (k := .i64) Try.underlying3 (by simpa [Try.cellsInt] using hf 1 _ rfl)
  obtain ⟨a, e2, _⟩ := Rd.int (k := .i64) Try.underlying3 (by simpa [Try.cellsInt] using hf 2 _ rfl)
  obtain ⟨da, dc, d, e3, hb⟩ := Rd.bytes Try.underlying22 Try.underlying5 Try.cellsU8 (by simpa [Try.cellsBytes] using hf 3 _ rfl)
  simp only [List.cons.injEq, and_true] at e0 e1 e2 e3
  subst e0 e1 e2 e3
  exact ⟨⟨k, e, a, d, da, dc⟩, rfl, hb⟩
theorem rd_script {H : Type} {enc : TypeId × Value → H} {w : World} {a : Option Addr} {n c : Nat} (h : Rd enc Try.prog w 92 [.slice a n c]) : ∃ X : List ActX, n = X.length ∧ ScriptAt w (.slice a X.length c) X := by
  obtain ⟨a', c', X, e, hs, hp⟩ := Rd.rows (f := actV) (p := fun x => Bytes w (.slice x.da x.d.length x.dc) x.d) Try.underlying92 (by rw [Try.cellsAct]; decide) h (fun r hl hr => rd_act (by rw [hl]; exact Try.cellsAct) hr)
  simp only [List.cons.injEq, and_true, Value.slice.injEq] at e
  obtain ⟨rfl, rfl, rfl⟩ := e
  exact ⟨X, rfl, hs, hp⟩

end Go.Proofs.Ythjigopnlgngdaa
