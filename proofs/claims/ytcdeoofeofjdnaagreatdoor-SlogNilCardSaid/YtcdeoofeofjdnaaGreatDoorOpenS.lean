/- An act of law 13, read as data. -/
import Derived.Test.YtcdeoofeofjdnaaGreatDoorOpenN
import Derived.Test.YtcdeoofeofjdnaaGreatDoorV31
namespace Go.Proofs.YtcdeoofeofjdnaaGreatDoor
open Go.ChangeShapes Go.WideShapes Go.ChangeAt Go.RowKit
set_option linter.unusedSimpArgs false
set_option linter.unusedVariables false

theorem Tryz.cellsCellS : Tryz.prog.cellsOf 24 = 2 := by kernel_rfl
theorem Tryz.cellsBoolsS : Tryz.prog.cellsOf 25 = 1 := by kernel_rfl
theorem Tryz.cellsIntsS : Tryz.prog.cellsOf 26 = 1 := by kernel_rfl
theorem Tryz.cellsActS : Tryz.prog.cellsOf 28 = 7 := by kernel_rfl
theorem rd_act13 {H : Type} {enc : TypeId × Value → H} {w : World} {cs : Array Value} (hl : cs.size = 7) (h : Rd enc Tryz.prog w 28 cs.toList) :
    ∃ (k u ad ck : Int) (d ka sa : Option Addr) (dn dc kn kc sn sc : Nat), cs = (SL.actV k u ad ck d ka sa dn dc kn kc sn sc).toArray := by
  obtain ⟨c0, c1, c2, c3, c4, c5, c6, rfl⟩ : ∃ c0 c1 c2 c3 c4 c5 c6, cs = #[c0, c1, c2, c3, c4, c5, c6] := by
    match cs, hl with
    | ⟨[c0, c1, c2, c3, c4, c5, c6]⟩, _ => exact ⟨_, _, _, _, _, _, _, rfl⟩
  obtain ⟨_, hf⟩ := Rd.struct Tryz.underlying28 h
  obtain ⟨k, e0, _⟩ := Rd.int (k := .i64) Tryz.underlying3 (by simpa [Tryz.cellsInt] using hf 0 _ rfl)
  obtain ⟨u, e1, _⟩ := Rd.int (k := .i64) Tryz.underlying3 (by simpa [Tryz.cellsInt] using hf 1 _ rfl)
  obtain ⟨ad, e2, _⟩ := Rd.int (k := .i64) Tryz.underlying3 (by simpa [Tryz.cellsInt] using hf 2 _ rfl)
  have h3 : Rd enc Tryz.prog w 24 [c3, c4] := by simpa [Tryz.cellsInt, Tryz.cellsCellS] using hf 3 _ rfl
  obtain ⟨_, hg⟩ := Rd.struct Tryz.underlying24 h3
  obtain ⟨ck, e3, _⟩ := Rd.int (k := .i64) Tryz.underlying3 (by simpa [Tryz.cellsInt] using hg 0 _ rfl)
  obtain ⟨d, dc, dd, e4, _⟩ := Rd.bytes Tryz.underlying22 Tryz.underlying5 Tryz.cellsU8 (show Rd enc Tryz.prog w 22 [c4] by simpa [Tryz.cellsInt, Tryz.cellsBytesR] using hg 1 _ rfl)
  obtain ⟨ka, kc, kl, e5, _, _⟩ := Rd.rows (f := fun n : Bool => [.bool n]) (p := fun _ => True) Tryz.underlying25 (by rw [Tryz.cellsBoolK]; decide) (show Rd enc Tryz.prog w 25 [c5] by simpa [Tryz.cellsInt, Tryz.cellsCellS, Tryz.cellsBoolsS] using hf 4 _ rfl) (fun r hl hr => by obtain ⟨b, hb⟩ := Rd.bool Tryz.underlying4 hr; exact ⟨b, hb, trivial⟩)
  obtain ⟨sa, sc, sl, e6, _, _⟩ := Rd.rows (f := fun n : Int => [.int .i64 n]) (p := fun _ => True) Tryz.underlying26 (by rw [Tryz.cellsInt]; decide) (show Rd enc Tryz.prog w 26 [c6] by simpa [Tryz.cellsInt, Tryz.cellsCellS, Tryz.cellsBoolsS, Tryz.cellsIntsS] using hf 5 _ rfl) (fun r hl hr => by obtain ⟨b, hb, _⟩ := Rd.int (k := .i64) Tryz.underlying3 hr; exact ⟨b, hb, trivial⟩)
  simp only [List.cons.injEq, and_true] at e0 e1 e2 e3 e4 e5 e6
  subst e0 e1 e2 e3 e4 e5 e6
  exact ⟨k, u, ad, ck, d, ka, sa, dd.length, dc, kl.length, kc, sl.length, sc, rfl⟩
end Go.Proofs.YtcdeoofeofjdnaaGreatDoor
