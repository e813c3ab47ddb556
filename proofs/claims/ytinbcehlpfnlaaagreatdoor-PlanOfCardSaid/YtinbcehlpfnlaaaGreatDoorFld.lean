/- Fields of a manifest, of a part: read out of a struct's value. -/
import Derived.Test.YtinbcehlpfnlaaaGreatDoorManC
namespace Go.Proofs.YtinbcehlpfnlaaaGreatDoor
open Go.RowKit
set_option linter.unusedSimpArgs false
set_option linter.unusedVariables false
set_option maxRecDepth 100000

theorem run_field {P : Program} (w : World) {t : Nat} {fs : Array Field} (ht : P.underlying t = some (.struct fs)) (xs : Array Value) {i : Nat} {f : Field} (hf : fs[i]? = some f) {v : Value} (hp : (part f.type xs f.offset).run P w = .ok v w) :
    (Instr.field t (.agg xs) i).run P w = .ok v w := by
  simp only [Instr.field, Sem.run_bind, run_underlying ht, Result.andThen_ok, hf, asAgg, Sem.run_pure]
  exact hp
theorem part_one {P : Program} (w : World) {e : TypeId} {d : TypeDesc} (he : P.underlying e = some d) (hd : d.isRow = false) {xs : Array Value} {off : Nat} {v : Value} (hx : xs[off]? = some v) : (part e xs off).run P w = .ok v w := by
  cases d <;> first | (simp [part, isAgg, run_underlying he, hx]; done) | exact absurd hd (by simp [TypeDesc.isRow])
theorem toArr_get {l : List Value} {i : Nat} {v : Value} (h : l[i]? = some v) : l.toArray[i]? = some v := by simpa using h
@[go_sem] theorem mf_n (y : MfP) (w : World) : (Instr.field 48 (.agg (mV y).toArray) 0).run Tryz.prog w = .ok (.int .i64 y.1.n) w := run_field w Tryz.underlying48 _ rfl (part_one w Tryz.underlying3 rfl (toArr_get rfl))
@[go_sem] theorem mf_f (y : MfP) (w : World) : (Instr.field 48 (.agg (mV y).toArray) 1).run Tryz.prog w = .ok (.int .i64 y.1.f) w := run_field w Tryz.underlying48 _ rfl (part_one w Tryz.underlying3 rfl (toArr_get rfl))
@[go_sem] theorem mf_t (y : MfP) (w : World) : (Instr.field 48 (.agg (mV y).toArray) 2).run Tryz.prog w = .ok (.int .i64 y.1.t) w := run_field w Tryz.underlying48 _ rfl (part_one w Tryz.underlying3 rfl (toArr_get rfl))
@[go_sem] theorem mf_r (y : MfP) (w : World) : (Instr.field 48 (.agg (mV y).toArray) 3).run Tryz.prog w = .ok (.int .i64 y.1.r) w := run_field w Tryz.underlying48 _ rfl (part_one w Tryz.underlying3 rfl (toArr_get rfl))
theorem ext_in {A B C : List Value} {i j : Nat} (hi : A.length = i) (hj : B.length = j) : (A ++ B ++ C).toArray.extract i (i + j) = B.toArray := by
  subst hi hj
  simp [List.extract_toArray, List.extract_eq_take_drop]
theorem mf_p (y : MfP) (h : y.1.ok) (w : World) : (Instr.field 48 (.agg (mV y).toArray) 4).run Tryz.prog w = .ok (.agg (byteVs y.1.p).toArray) w := by
  refine run_field w Tryz.underlying48 _ rfl ?_
  refine (part_arr w Tryz.underlying45 dig_size _ _).trans ?_
  exact congrArg (fun q => Result.ok (Value.agg q) w) (ext_in (A := [.int .i64 y.1.n, .int .i64 y.1.f, .int .i64 y.1.t, .int .i64 y.1.r]) (B := byteVs y.1.p) (C := [.slice y.2.1 y.1.ps.length y.2.2]) (i := 4) (j := 32) rfl (by rw [byteVs_length, h.p]))
theorem mf_ps (y : MfP) (h : y.1.ok) (w : World) : (Instr.field 48 (.agg (mV y).toArray) 5).run Tryz.prog w = .ok (.slice y.2.1 y.1.ps.length y.2.2) w :=
  run_field w Tryz.underlying48 _ rfl (part_one w Tryz.underlying46 rfl (toArr_get (mfV_36 h _ _)))
@[go_sem] theorem pt_f (x : Pt) (w : World) : (Instr.field 53 (.agg (ptV x).toArray) 0).run Tryz.prog w = .ok (.int .i64 x.f) w := run_field w Tryz.underlying53 _ rfl (part_one w Tryz.underlying3 rfl (toArr_get rfl))
@[go_sem] theorem pt_m (x : Pt) (w : World) : (Instr.field 53 (.agg (ptV x).toArray) 1).run Tryz.prog w = .ok (.int .i64 x.m) w := run_field w Tryz.underlying53 _ rfl (part_one w Tryz.underlying3 rfl (toArr_get rfl))
@[go_sem] theorem pt_s (x : Pt) (w : World) : (Instr.field 53 (.agg (ptV x).toArray) 2).run Tryz.prog w = .ok (.int .i64 x.s) w := run_field w Tryz.underlying53 _ rfl (part_one w Tryz.underlying3 rfl (toArr_get rfl))
theorem pt_d (x : Pt) (h : x.ok) (w : World) : (Instr.field 53 (.agg (ptV x).toArray) 3).run Tryz.prog w = .ok (.agg (byteVs x.d).toArray) w := by
  refine run_field w Tryz.underlying53 _ rfl ?_
  refine (part_arr w Tryz.underlying45 dig_size _ _).trans ?_
  have := ext_in (A := [.int .i64 x.f, .int .i64 x.m, .int .i64 x.s]) (B := byteVs x.d) (C := []) (i := 3) (j := 32) rfl (by rw [byteVs_length, h.d])
  rw [List.append_nil] at this
  exact congrArg (fun q => Result.ok (Value.agg q) w) this
end Go.Proofs.YtinbcehlpfnlaaaGreatDoor
