/- Parts of memory: boxes that hold whole arrays (or structs with arrays): loaded, stored at once. -/
import Derived.Test.YtinbcehlpfnlaaaGreatDoorBase
import Derived.Laws.Tables
import Derived.Deep.MidRow
namespace Go.Proofs.YtinbcehlpfnlaaaGreatDoor
open Go.RowKit
set_option linter.unusedSimpArgs false
set_option linter.unusedVariables false

theorem fr_setRow (w : World) (N : Nat) (cs : Array Value) : Fr (fun k => k = N) w (w.setRow N cs) :=
  ⟨rfl, rfl, rfl, by simp, fun k _ hk => setRow_other w N k cs hk⟩
theorem BoxW.setRow {N t : Nat} {R : List Value} {w : World} (h : BoxW N R t w) (R' : List Value) : BoxW N R' t (w.setRow N R'.toArray) := setRow_heap w N _ _ t (0, 0) h
theorem Sep.setRow {w0 w : World} {F : Nat → Prop} {L : List Asn} (h : Sep w0 F L w) (i : Nat) {N : Nat} {R : List Value} {t : Nat} (hi : L[i]? = some (.box N R t)) (R' : List Value) : Sep w0 F (.box N R' t :: L.eraseIdx i) (w.setRow N R'.toArray) :=
  (h.focus i hi).fr1 (fr_setRow w N R'.toArray) (((h.focus i hi).box 0 rfl).setRow R') (fun b hb => .inr hb)
theorem BoxW.load {P : Program} {N t : Nat} {R : List Value} {w : World} (h : BoxW N R t w) (ty : TypeId) (d : TypeDesc) (hu : P.underlying ty = some d) (hd : d.isRow = true) (hi : (P.info? ty).map (·.size) = some R.length) :
    (loadVar ty ⟨N, 0, none⟩).run P w = .ok (.agg R.toArray) w :=
  run_loadVar_row w N t ty R.toArray (0, 0) d h hu (by cases d <;> first | rfl | cases hd) (by rw [List.size_toArray]; exact hi)
theorem BoxW.store {P : Program} {N t : Nat} {R : List Value} {w : World} (h : BoxW N R t w) (ty : TypeId) (R' : List Value) (hi : (P.info? ty).map (·.size) = some R'.length) (hl : R.length = R'.length) (h1 : R'.all (·.oneCell') = true) :
    (storeVar ty ⟨N, 0, none⟩ (.agg R'.toArray)).run P w = .ok () (w.setRow N R'.toArray) :=
  run_storeVar_row w N t ty R.toArray R'.toArray h (by rw [List.size_toArray]; exact hi) (by simpa using hl) (by simpa using h1)
theorem loadMid {P : Program} {w : World} {b o : Nat} {cs : List Value} (hc : w.rangeAt b o cs) (ty : TypeId) (d : TypeDesc) (hu : P.underlying ty = some d) (hd : d.isRow = true) (hi : (P.info? ty).map (·.size) = some cs.length) :
    (loadVar ty ⟨b, o, none⟩).run P w = .ok (.agg cs.toArray) w := run_loadVar_mid w b o ty cs d hc hu hd hi
theorem Sep.loadB {P : Program} {w0 w : World} {F : Nat → Prop} {L : List Asn} (H : Sep w0 F L w) (i : Nat) {N t : Nat} {R : List Value} (hi : L[i]? = some (.box N R t)) {ops : Array Oper} {rest : List Oper} {o : Oper} {a : Act} {Q : Exit → Act → World → Prop} (hgd : o.guard = none) (ty : TypeId) (x : Operand)
    (ho : o.op = .load ty x) (hx : a.eval x = .pointer (some ⟨N, 0, none⟩)) (d : TypeDesc) (hu : P.underlying ty = some d) (hd : d.isRow = true) (hz : (P.info? ty).map (·.size) = some R.length)
    (h : wpList P ops Q rest (a.put o.dst (.agg R.toArray)) w) : wpList P ops Q (o :: rest) a w :=
  wpList_load_row hgd ty x ho N hx t R.toArray (0, 0) d (H.box i hi) hu (by cases d <;> first | rfl | cases hd) (by rw [List.size_toArray]; exact hz) h
theorem Sep.storeB {P : Program} {w0 w : World} {F : Nat → Prop} {L : List Asn} (H : Sep w0 F L w) (i : Nat) {N t : Nat} {R : List Value} (hi : L[i]? = some (.box N R t)) {ops : Array Oper} {rest : List Oper} {o : Oper} {a : Act} {Q : Exit → Act → World → Prop} (hgd : o.guard = none) (ty : TypeId) (x y : Operand)
    (ho : o.op = .store ty x y) (R' : List Value) (hx : a.eval x = .pointer (some ⟨N, 0, none⟩)) (hy : a.eval y = .agg R'.toArray) (hz : (P.info? ty).map (·.size) = some R'.length) (hl : R.length = R'.length) (h1 : R'.all (·.oneCell') = true)
    (h : wpList P ops Q rest (a.put o.dst undef) (w.setRow N R'.toArray)) : wpList P ops Q (o :: rest) a w :=
  wpList_store_row hgd ty x y ho N R'.toArray hx hy t R.toArray (H.box i hi) (by rw [List.size_toArray]; exact hz) (by simpa using hl) (by simpa using h1) h
theorem wpList_load_at {P : Program} {w : World} {b off : Nat} {cs : List Value} (hc : w.rangeAt b off cs) {ops : Array Oper} {rest : List Oper} {o : Oper} {a : Act} {Q : Exit → Act → World → Prop} (hgd : o.guard = none) (ty : TypeId) (x : Operand)
    (ho : o.op = .load ty x) (hx : a.eval x = .pointer (some ⟨b, off, none⟩)) (d : TypeDesc) (hu : P.underlying ty = some d) (hd : d.isRow = true) (hz : (P.info? ty).map (·.size) = some cs.length)
    (h : wpList P ops Q rest (a.put o.dst (.agg cs.toArray)) w) : wpList P ops Q (o :: rest) a w :=
  wpList_load_mid hgd ty x ho b off hx cs d hc hu hd hz h
/-- a result that lies in a box -/
theorem box_result {P : Program} {fn : Func} {p : Tmp} {ty : TypeId} (hr : fn.results = #[.cell p ty]) {N t : Nat} {R : List Value} {w : World} (h : BoxW N R t w) (tmps : Array Value) (hp : tmps.getD p undef = .pointer (some ⟨N, 0, none⟩)) (d : TypeDesc) (hu : P.underlying ty = some d) (hd : d.isRow = true) (hi : (P.info? ty).map (·.size) = some R.length) :
    (results fn tmps).run P w = .ok (.agg R.toArray) w := by
  have hl := h.load (P := P) ty d hu hd hi
  have hp' : tmps[p]?.getD undef = .pointer (some ⟨N, 0, none⟩) := by simpa using hp
  simp only [results, hr]
  simp [Sem.run_bind, Result.andThen, hp', asAddr, hl]
end Go.Proofs.YtinbcehlpfnlaaaGreatDoor
