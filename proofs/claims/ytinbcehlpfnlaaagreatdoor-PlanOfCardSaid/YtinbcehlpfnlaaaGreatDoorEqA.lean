/- '==' on arrays of bytes. -/
import Derived.Test.YtinbcehlpfnlaaaGreatDoorBase
import Derived.ChangeKeysEq
import Derived.Deep.MidRow
namespace Go.Proofs.YtinbcehlpfnlaaaGreatDoor
open Go.RowKit
set_option linter.unusedSimpArgs false
set_option linter.unusedVariables false
set_option maxRecDepth 20000

theorem part_u8 {P : Program} (w : World) {e : TypeId} (he : P.underlying e = some (.int .u8)) (a : List UInt8) {i : Nat} (hi : i < a.length) : (part e (byteVs a).toArray i).run P w = .ok (.int .u8 (a[i].toNat : Int)) w := by
  simp [part, isAgg, run_underlying he, byteVs, byteV, hi]
theorem run_equalIn_bytes {P : Program} (w : World) (d n : Nat) (t e : TypeId) (ht : P.underlying t = some (.array n e)) (he : P.underlying e = some (.int .u8)) (hs : (P.info? e).map (·.size) = some 1) (a b : List UInt8) (ha : a.length = n) (hb : b.length = n) :
    (Op.equalIn (d + 2) t (.agg (byteVs a).toArray) (.agg (byteVs b).toArray)).run P w = .ok (a == b) w := by
  have hsz : (sizeOf e).run P w = .ok 1 w := by
    cases hq : P.info? e with
    | none => simp [hq] at hs
    | some i => simp [hq] at hs; simp [sizeOf, typeInfo, hq, hs]
  rw [Op.equalIn]
  simp only [Sem.run_bind, run_underlying ht, Result.andThen_ok, hsz]
  simp only [Std.Legacy.Range.forIn_eq_forIn_range', Std.Legacy.Range.size, Nat.sub_zero, Nat.add_sub_cancel, Nat.div_one, Nat.mul_one]
  suffices H : ∀ m s : Nat, s + m = n → (forIn (List.range' s m) ((none, ()) : Option Bool × Unit) (fun i (_ : Option Bool × Unit) => do
      let x ← part e (byteVs a).toArray i
      let y ← part e (byteVs b).toArray i
      let r ← Op.equalIn (d + 1) e x y
      if (!r) = true then pure (ForInStep.done (some false, ())) else pure (ForInStep.yield (none, ()))) : Sem (Option Bool × Unit)).run P w = .ok (if a.drop s == b.drop s then none else some false, ()) w by
    have h := H n 0 (by omega)
    rw [h]
    simp only [Result.andThen_ok, List.drop_zero]
    by_cases hab : (a == b) = true
    · rw [if_pos hab, hab]; rfl
    · rw [if_neg hab]; simp only [Bool.not_eq_true] at hab; rw [hab]; rfl
  intro m
  induction m with
  | zero =>
    intro s hs
    have h1 : a.drop s = [] := List.drop_eq_nil_of_le (by omega)
    have h2 : b.drop s = [] := List.drop_eq_nil_of_le (by omega)
    rw [h1, h2]; rfl
  | succ m ih =>
    intro s hs
    have h1 : s < a.length := by omega
    have h2 : s < b.length := by omega
    have i1 := ih (s + 1) (by omega)
    rw [List.range'_succ, List.forIn_cons]
    have hq : (Op.equalIn (d + 1) e (.int .u8 (a[s].toNat : Int)) (.int .u8 (b[s].toNat : Int))).run P w = .ok ((a[s].toNat : Int) == (b[s].toNat : Int)) w := run_equalIn_int w d e .u8 .u8 _ _ he
    simp only [Sem.run_bind, part_u8 w he a h1, part_u8 w he b h2, Result.andThen_ok, hq]
    have hdr : (a.drop s == b.drop s) = ((a[s] == b[s]) && (a.drop (s + 1) == b.drop (s + 1))) := by
      rw [List.drop_eq_getElem_cons h1, List.drop_eq_getElem_cons h2]; rfl
    rw [hdr]
    by_cases hc : a[s] = b[s]
    · have hc2 : ((a[s].toNat : Int) == (b[s].toNat : Int)) = true := by rw [hc]; simp
      rw [hc2]
      simp only [Bool.not_true, Bool.false_eq_true, if_false, Sem.run_pure, Result.andThen_ok]
      rw [i1, show (a[s] == b[s]) = true from beq_iff_eq.2 hc, Bool.true_and]
    · have hc2 : ((a[s].toNat : Int) == (b[s].toNat : Int)) = false := by
        rw [beq_eq_false_iff_ne]; intro h; exact hc (UInt8.toNat_inj.1 (by exact_mod_cast h))
      rw [hc2, show (a[s] == b[s]) = false from beq_eq_false_iff_ne.2 hc, Bool.false_and]
      rfl
theorem part_arr {P : Program} (w : World) {t n e m : Nat} (ht : P.underlying t = some (.array n e)) (hs : (P.info? t).map (·.size) = some m) (xs : Array Value) (off : Nat) : (part t xs off).run P w = .ok (.agg (xs.extract off (off + m))) w := by
  cases hq : P.info? t with
  | none => simp [hq] at hs
  | some i => simp [hq] at hs; simp [part, isAgg, run_underlying ht, sizeOf, typeInfo, hq, hs]
theorem part_int {P : Program} (w : World) {e : TypeId} {k : IntKind} (he : P.underlying e = some (.int k)) {xs : Array Value} {off : Nat} {v : Value} (hx : xs[off]? = some v) : (part e xs off).run P w = .ok v w := by
  simp [part, isAgg, run_underlying he, hx]
/-- an operation whose guard lets it be done -/
theorem wpList_wanted {P : Program} {ops : Array Oper} {Q : Exit → Act → World → Prop} {a : Act} {w : World} {rest : List Oper} {o : Oper} (hw : Region.wanted o (yielded ops a.tmps) = true) (h : o.wp P a w (wpList P ops Q rest) Q) : wpList P ops Q (o :: rest) a w := by
  unfold wpList
  rw [if_pos hw]
  exact .inl h
theorem wpList_load_atG {P : Program} {w : World} {b off : Nat} {cs : List Value} (hc : w.rangeAt b off cs) {ops : Array Oper} {rest : List Oper} {o : Oper} {a : Act} {Q : Exit → Act → World → Prop} (hw : Region.wanted o (yielded ops a.tmps) = true) (ty : TypeId) (x : Operand)
    (ho : o.op = .load ty x) (hx : a.eval x = .pointer (some ⟨b, off, none⟩)) (d : TypeDesc) (hu : P.underlying ty = some d) (hd : d.isRow = true) (hz : (P.info? ty).map (·.size) = some cs.length)
    (h : wpList P ops Q rest (a.put o.dst (.agg cs.toArray)) w) : wpList P ops Q (o :: rest) a w :=
  wpList_wanted hw (wp_load_mid ty x ho b off hx cs d hc hu hd hz h)
end Go.Proofs.YtinbcehlpfnlaaaGreatDoor
