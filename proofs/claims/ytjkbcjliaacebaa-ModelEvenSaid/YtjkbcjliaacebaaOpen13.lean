/- A script of layer 13's acts, read as data. -/
import Derived.Test.YtjkbcjliaacebaaOpen0
import Derived.Test.YtjkbcjliaacebaaMdlT
namespace Go.Proofs.Ytjkbcjliaacebaa
open Go.ChangeShapes Go.WideShapes Go.ChangeAt Go.RowKit

theorem Try.cellsA13 : Try.prog.cellsOf 66 = 7 := by kernel_rfl
theorem Try.cellsCell : Try.prog.cellsOf 48 = 2 := by kernel_rfl
theorem Try.cellsBools : Try.prog.cellsOf 64 = 1 := by kernel_rfl
theorem Try.cellsInts : Try.prog.cellsOf 25 = 1 := by kernel_rfl
theorem Try.cellsB : Try.prog.cellsOf 4 = 1 := by kernel_rfl
theorem rd_cell {H : Type} {enc : TypeId × Value → H} {w : World} {r : List Value} (hl : r.length = 2) (h : Rd enc Try.prog w 48 r) : ∃ (c : C) (da : Option Addr) (dc : Nat), r = [.int .i64 c.k, .slice da c.d.length dc] ∧ Bytes w (.slice da c.d.length dc) c.d := by
  obtain ⟨c0, c1, rfl⟩ : ∃ c0 c1, r = [c0, c1] := by
    match r, hl with
    | [c0, c1], _ => exact ⟨_, _, rfl⟩
  obtain ⟨_, hf⟩ := Rd.struct Try.underlying48 h
  obtain ⟨k, e0, _⟩ := Rd.int (k := .i64) Try.underlying3 (by simpa [Try.cellsInt] using hf 0 _ rfl)
  obtain ⟨da, dc, d, e3, hb⟩ := Rd.bytes Try.underlying46 Try.underlying5 Try.cellsU8 (by simpa [Try.cellsInt, Try.cellsBytes] using hf 1 _ rfl)
  simp only [List.cons.injEq, and_true] at e0 e3
  subst e0 e3
  exact ⟨⟨k, d⟩, da, dc, rfl, hb⟩
theorem rd_a13 {H : Type} {enc : TypeId × Value → H} {w : World} {r : List Value} (hl : r.length = 7) (h : Rd enc Try.prog w 66 r) : ∃ x : A13, r = a13V x ∧ A13.In w x := by
  obtain ⟨c0, c1, c2, c3, c4, c5, c6, rfl⟩ : ∃ c0 c1 c2 c3 c4 c5 c6, r = [c0, c1, c2, c3, c4, c5, c6] := by
    match r, hl with
    | [c0, c1, c2, c3, c4, c5, c6], _ => exact ⟨_, _, _, _, _, _, _, rfl⟩
  obtain ⟨_, hf⟩ := Rd.struct Try.underlying66 h
  obtain ⟨k, e0, _⟩ := Rd.int (k := .i64) Try.underlying3 (by simpa [Try.cellsInt] using hf 0 _ rfl)
  obtain ⟨un, e1, _⟩ := Rd.int (k := .i64) Try.underlying3 (by simpa [Try.cellsInt] using hf 1 _ rfl)
  obtain ⟨a, e2, _⟩ := Rd.int (k := .i64) Try.underlying3 (by simpa [Try.cellsInt] using hf 2 _ rfl)
  obtain ⟨c, da, dc, e3, hb⟩ := rd_cell (by rfl) (show Rd enc Try.prog w 48 [c3, c4] by simpa [Try.cellsInt, Try.cellsCell] using hf 3 _ rfl)
  obtain ⟨ka, kc, K, e5, hk, _⟩ := Rd.rows (f := fun b : Bool => [.bool b]) (p := fun _ => True) Try.underlying64 (by rw [Try.cellsB]; decide) (show Rd enc Try.prog w 64 [c5] by simpa [Try.cellsInt, Try.cellsCell, Try.cellsBools] using hf 4 _ rfl) (fun r hl hr => by obtain ⟨b, hb⟩ := Rd.bool Try.underlying4 hr; exact ⟨b, hb, trivial⟩)
  obtain ⟨sa, sc, S, e6, hs, _⟩ := Rd.rows (f := fun n : Int => [.int .i64 n]) (p := fun _ => True) Try.underlying25 (by rw [Try.cellsInt]; decide) (show Rd enc Try.prog w 25 [c6] by simpa [Try.cellsInt, Try.cellsCell, Try.cellsBools, Try.cellsInts] using hf 5 _ rfl) (fun r hl hr => by obtain ⟨b, hb, _⟩ := Rd.int (k := .i64) Try.underlying3 hr; exact ⟨b, hb, trivial⟩)
  simp only [List.cons.injEq, and_true] at e0 e1 e2 e3 e5 e6
  obtain ⟨rfl, rfl⟩ := e3
  subst e0 e1 e2 e5 e6
  refine ⟨⟨k, un, a, c, da, dc, ka, K.length, kc, sa, S.length, sc⟩, rfl, hb, ?_, ?_⟩
  · obtain ⟨_, _, he, h1, h2, _⟩ := hk; cases he; exact Nat.le_trans h1 h2
  · obtain ⟨_, _, he, h1, h2, _⟩ := hs; cases he; exact Nat.le_trans h1 h2
theorem rd_s13 {H : Type} {enc : TypeId × Value → H} {w : World} {a : Option Addr} {n c : Nat} (h : Rd enc Try.prog w 41 [.slice a n c]) : ∃ X : List A13, n = X.length ∧ S13At w (.slice a X.length c) X := by
  obtain ⟨a', c', X, e, hs, hp⟩ := Rd.rows (f := a13V) (p := A13.In w) Try.underlying41 (by rw [Try.cellsA13]; decide) h (fun r hl hr => rd_a13 (by rw [hl]; exact Try.cellsA13) hr)
  simp only [List.cons.injEq, and_true, Value.slice.injEq] at e
  obtain ⟨rfl, rfl, rfl⟩ := e
  exact ⟨X, rfl, hs, hp⟩
end Go.Proofs.Ytjkbcjliaacebaa
