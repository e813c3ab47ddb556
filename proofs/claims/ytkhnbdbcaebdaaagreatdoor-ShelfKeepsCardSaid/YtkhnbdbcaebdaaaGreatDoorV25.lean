/- Proved here: a part of the proof (25 of 28). -/
import Derived.Test.YtkhnbdbcaebdaaaGreatDoorV2
import Derived.Test.YtkhnbdbcaebdaaaGreatDoorV1
import Derived.Test.YtkhnbdbcaebdaaaGreatDoorV8
import Derived.Test.YtkhnbdbcaebdaaaGreatDoorV3
import Derived.Lib.SliceRun
import Derived.Shelf.GgClosure.Gives
import Derived.Test.YtkhnbdbcaebdaaaGreatDoorSlzL
import Derived.Sort.OwnSortedInts
namespace Go.Proofs.YtkhnbdbcaebdaaaGreatDoor
open Go.RowKit
set_option linter.unusedSimpArgs false
set_option linter.unusedVariables false
set_option maxRecDepth 20000

def zVs (l : List Int) : List Value := l.map (Value.int .i64)
/-- the numbers of a slice value -/
def Zs (w : World) (v : Value) (l : List Int) : Prop := SlV w v l.length (zVs l)
theorem Zs.at {w : World} {a : Option Addr} {n c : Nat} {l : List Int} (h : Zs w (.slice a n c) l) {k : Nat} (hk : k < l.length) :
    ∃ b off, a = some ⟨b, off, none⟩ ∧ b < w.heap.size ∧ w.cell? ⟨b, off + k, none⟩ = some (.int .i64 l[k]) := by
  have h' : SlV w (.slice a n c) n (l.flatMap (fun x => [Value.int .i64 x])) := by
    obtain ⟨a', c', he, r⟩ := h
    cases he
    refine ⟨a, c, rfl, ?_⟩
    have : l.flatMap (fun x => [Value.int .i64 x]) = zVs l := by
      clear r hk; induction l with
      | nil => rfl
      | cons x l ih => rw [List.flatMap_cons, ih]; rfl
    rw [this]; exact r
  obtain ⟨b, off, e, hb, hc⟩ := SlV.row (f := fun x => [Value.int .i64 x]) (s := 1) (fun _ => rfl) (by decide) h' hk
  refine ⟨b, off, e, hb, ?_⟩
  have := hc 0 _ rfl
  simpa using this
/-- a list's slice: the numbers, the address, the capacity -/
abbrev Ch := List Int × Option Addr × Nat
def chV (x : Ch) : Value := .slice x.2.1 x.1.length x.2.2
/-- a slice of slices -/
structure Chs (w : World) (a : Option Addr) (c : Nat) (X : List Ch) : Prop where
  rows : SlV w (.slice a X.length c) X.length (X.map chV)
  each : ∀ x ∈ X, Zs w (chV x) x.1
theorem Chs.at {w : World} {a : Option Addr} {c : Nat} {X : List Ch} (h : Chs w a c X) {k : Nat} (hk : k < X.length) :
    ∃ b off, a = some ⟨b, off, none⟩ ∧ b < w.heap.size ∧ w.cell? ⟨b, off + k, none⟩ = some (.slice X[k].2.1 X[k].1.length X[k].2.2) ∧ Zs w (.slice X[k].2.1 X[k].1.length X[k].2.2) X[k].1 := by
  have h' : SlV w (.slice a X.length c) X.length (X.flatMap (fun x => [chV x])) := by
    have : X.flatMap (fun x => [chV x]) = X.map chV := by
      clear h hk; induction X with
      | nil => rfl
      | cons x l ih => rw [List.flatMap_cons, ih]; rfl
    rw [this]; exact h.rows
  obtain ⟨b, off, e, hb, hc⟩ := SlV.row (f := fun x => [chV x]) (s := 1) (fun _ => rfl) (by decide) h' hk
  refine ⟨b, off, e, hb, ?_, h.each _ (List.getElem_mem hk)⟩
  have := hc 0 _ rfl
  simpa [chV] using this

end Go.Proofs.YtkhnbdbcaebdaaaGreatDoor

namespace Go.Proofs.YtkhnbdbcaebdaaaGreatDoor
open Go.RowKit Go.Sort
set_option linter.unusedSimpArgs false
set_option linter.unusedVariables false
set_option maxRecDepth 20000

end Go.Proofs.YtkhnbdbcaebdaaaGreatDoor
