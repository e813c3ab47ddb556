/- Parcels, read as data. -/
import Derived.Test.YtcpkeddgkpjioaaGreatDoorOpenC
import Derived.Test.YtcpkeddgkpjioaaGreatDoorB34
set_option linter.unusedSimpArgs false
set_option linter.unusedVariables false
set_option maxRecDepth 100000
namespace Go.Proofs.YtcpkeddgkpjioaaGreatDoor
open Go.ChangeShapes Go.WideShapes Go.ChangeAt Go.RowKit
theorem Tryz.cellsPclP : Tryz.prog.cellsOf 41 = 4 := by kernel_rfl
theorem Tryz.cellsSegP : Tryz.prog.cellsOf 39 = 2 := by kernel_rfl
theorem Tryz.cellsRowP : Tryz.prog.cellsOf 22 = 1 := by kernel_rfl
theorem rd_pcls {H : Type} {enc : TypeId × Value → H} {w : World} {a : Option Addr} {n c : Nat} (h : Rd enc Tryz.prog w 53 [.slice a n c]) : ∃ Y : List SL.PE, n = Y.length ∧ SL.PEs w a c Y := by
 obtain ⟨a', c', Y, e, hs, hp⟩ := Rd.rows (f := SL.peV) (p := fun y => SL.CEs w y.a y.k y.X) Tryz.underlying53 (by rw [Tryz.cellsPclP]; decide) h (fun r hl hr => by
  obtain ⟨c0, c1, c2, c3, rfl⟩ : ∃ c0 c1 c2 c3, r = [c0, c1, c2, c3] := by
   rw [Tryz.cellsPclP] at hl
   match r, hl with
   | [c0, c1, c2, c3], _ => exact ⟨_, _, _, _, rfl⟩
  obtain ⟨_, hg⟩ := Rd.struct Tryz.underlying41 hr
  obtain ⟨pe, e0, _⟩ := Rd.int (k := .i64) Tryz.underlying3 (by simpa [Tryz.cellsInt] using hg 0 _ rfl)
  obtain ⟨pt, e1, _⟩ := Rd.int (k := .i64) Tryz.underlying3 (by simpa [Tryz.cellsInt] using hg 1 _ rfl)
  have h2 : Rd enc Tryz.prog w 39 [c2, c3] := by simpa [Tryz.cellsInt, Tryz.cellsSegP] using hg 2 _ rfl
  obtain ⟨_, hk⟩ := Rd.struct Tryz.underlying39 h2
  obtain ⟨pf, e2, _⟩ := Rd.int (k := .i64) Tryz.underlying3 (by simpa [Tryz.cellsInt] using hk 0 _ rfl)
  have h3 : Rd enc Tryz.prog w 22 [c3] := by simpa [Tryz.cellsInt, Tryz.cellsRowP] using hk 1 _ rfl
  obtain ⟨pa, pk, X, e3, hx, hxp⟩ := Rd.rows (f := SL.ceV) (p := fun x => Bytes w (.slice x.a x.c.d.length x.k) x.c.d) Tryz.underlying22 (by rw [Tryz.cellsCellC]; decide) h3 rd_cell1
  simp only [List.cons.injEq, and_true] at e0 e1 e2 e3
  subst e0 e1 e2 e3
  exact ⟨⟨pe, pt, pf, X, pa, pk⟩, rfl, hx, hxp⟩)
 simp only [List.cons.injEq, and_true, Value.slice.injEq] at e
 obtain ⟨rfl, rfl, rfl⟩ := e
 exact ⟨Y, rfl, hs, hp⟩
end Go.Proofs.YtcpkeddgkpjioaaGreatDoor
