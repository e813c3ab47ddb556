/- Proved here: a part of the proof (2 of 31). -/
import Derived.Test.YtelneaokoiojkaaGreatDoorProg
import Derived.Test.YtelneaokoiojkaaGreatDoorV1
import Derived.Deep.RegionHeld3
import Derived.Deep.QuietTactic
import Derived.BigQuiet
import Derived.Handy
import Derived.WideLaws
import Derived.LaidEql
import Derived.Test.YtelneaokoiojkaaGreatDoorV8
import Derived.Deep.RegionHeld
import Derived.Tactics
import Derived.Deep.MidRow
set_option linter.unusedSimpArgs false
set_option linter.unusedVariables false
set_option maxRecDepth 20000
namespace Go.Proofs.YtelneaokoiojkaaGreatDoor
open Go.RowKit

theorem etBytes : ElemT Tryz.prog 32 5 1 1 := ElemT.mk' (z := .int .u8 0) Tryz.underlying32 (by kernel_rfl) rfl (by decide) (by decide)

theorem undErr : Tryz.prog.underlying 27 = some (.interface (Tryz.prog.methodsAt 27)) := by kernel_rfl
@[go_sem] theorem eql_held (w : World) (u : TypeId) (x : Value) : (binOp .eql 27 (.iface u x) .nilIface).run Tryz.prog w = .ok (.bool false) w := run_eql_held_nil (P := Tryz.prog) w 27 u x undErr
@[go_sem] theorem neq_held (w : World) (u : TypeId) (x : Value) : (binOp .neq 27 (.iface u x) .nilIface).run Tryz.prog w = .ok (.bool true) w := run_neq_held_nil (P := Tryz.prog) w 27 u x undErr
@[go_sem] theorem eql_nil (w : World) : (binOp .eql 27 .nilIface .nilIface).run Tryz.prog w = .ok (.bool true) w := run_eql_nil_nil (P := Tryz.prog) w 27 undErr
@[go_sem] theorem neq_nil (w : World) : (binOp .neq 27 .nilIface .nilIface).run Tryz.prog w = .ok (.bool false) w := run_neq_nil_nil (P := Tryz.prog) w 27 undErr
@[go_sem] theorem ta_errno (w : World) (n : Int) : (Instr.typeAssert (.iface 46 (.int .i64 n)) 27 46 true).run Tryz.prog w = .ok (.tuple #[.int .i64 n, .bool true]) w := by kernel_rfl

@[go_sem] theorem field_kind (w : World) (x y : Value) : (Instr.field 34 (.agg #[x, y]) 0).run Tryz.prog w = .ok x w := by kernel_rfl
@[go_sem] theorem field_data (w : World) (x y : Value) : (Instr.field 34 (.agg #[x, y]) 1).run Tryz.prog w = .ok y w := by kernel_rfl

/-- an error by its number; 0: none -/
def errV (n : Nat) : Value := if n = 0 then .nilIface else .iface 46 (.int .i64 n)
theorem errV_0 : errV 0 = .nilIface := rfl
theorem errV_pos {n : Nat} (h : n ≠ 0) : errV n = .iface 46 (.int .i64 n) := by simp [errV, h]
theorem ret_eq {a b : Value} (h : a = b) : Ending.returned a = .returned b := by rw [h]

theorem num_any (n : Nat) (w : World) : Calls Tryz.prog 56 #[errV n] w fun e w' => e = .returned (.int .i64 n) ∧ w = w' := by
 by_cases h : n = 0
 ·subst h
  rw [errV_0]
  go_enter Tryz.func56, Tryz.ntmps56
  go_wp2
  go_ret
  exact ⟨rfl, rfl⟩
 ·rw [errV_pos h]
  have h0 : ((n : Int) == 0) = false := by rw [beq_eq_false_iff_ne]; omega
  have h1 : ((n : Int) != 0) = true := by rw [bne_iff_ne]; omega
  clear h
  go_enter Tryz.func56, Tryz.ntmps56
  go_wp2
  go_ret
  exact ⟨rfl, rfl⟩

theorem is_any (n : Nat) (m : Int) (w : World) : Calls Tryz.prog 18 #[errV n, .int .i64 m] w fun e w' => e = .returned (.bool ((n : Int) == m)) ∧ w = w' := by
 obtain ⟨v, hv⟩ : ∃ v, v = errV n := ⟨_, rfl⟩
 have HN := fun w => num_any n w
 rw [← hv] at HN ⊢
 clear hv
 go_enter Tryz.func18, Tryz.ntmps18
 go_wp2_with (go_at_call 56; refine (HN _).mono ?_; rintro e w' ⟨rfl, rfl⟩)
 go_ret
 exact ⟨rfl, rfl⟩

set_option maxHeartbeats 400000 in
theorem clone_any (v : Value) (l : List UInt8) (w : World) (h : Bytes w v l) (hl : l.length ≤ 1099511627776) :
  Calls Tryz.prog 91 #[v] w (OwnR w.heap.size 5 1 l.length (byteVs l) w) := by
 have hh := h
 obtain ⟨a, cap, rfl, h1, h2, h0, h3⟩ := h
 have hq := fun w n c => Lib.run_eql_slice_nil (P := Tryz.prog) w 32 5 a n c 0 0 Tryz.underlying32
 cases a with
 | none =>
  obtain rfl : cap = 0 := h0 rfl
  have hl0 : l = [] := List.eq_nil_of_length_eq_zero (by omega)
  subst hl0
  clear h3 h1 h2 h0 hh
  go_enter Tryz.func91, Tryz.ntmps91
  go_wp2
  go_ret
  exact ⟨_, _, rfl, World.ownsRow_nil _ _ _ _, Below.refl _ _⟩
 | some p =>
  clear h3 h0
  have HH : Hid (Bytes w (.slice (some p) l.length cap) l) := hh
  clear hh
  go_enter Tryz.func91, Tryz.ntmps91
  go_wp2_with (at_builtin; refine append_sl etBytes rfl (.tmp 5) (.tmp 6) rfl w.heap.size 0 [] _ rfl ?own l.length (byteVs l) _ rfl ?src ?len (byteVs_one l) ?cy ?base ?_)
  case own => exact own_empty _ _ _
  case src => exact SlV.below HH.out (Nat.le_refl _) ((Below.refl _ _).alloc (Nat.le_refl _) _)
  case len => simp [byteVs]
  case cy => omega
  case base => simp
  intro a' c' w1 ho hf
  go_wp2
  go_ret
  refine ⟨a', c', by simp, by simpa using ho, ?_⟩
  exact ((Below.refl w.heap.size w).alloc (Nat.le_refl _) _).trans (hf.below (by simp) (fun k hk => by simp [Act.eval, Value.ownBlock] at hk; omega))

end Go.Proofs.YtelneaokoiojkaaGreatDoor

namespace Go.Proofs.YtelneaokoiojkaaGreatDoor
open Go.RowKit
namespace DK
theorem mtFiles : MS.MapT Tryz.prog 153 9 32 (.slice none 0 0) := ⟨Tryz.underlying153, Tryz.underlying9, fun w => by kernel_rfl⟩
abbrev Vs := List (Value × List UInt8)
def FRel (vs : Vs) (x : ByteArray × Value) (y : Nm × List UInt8) : Prop := x.1 = y.1 ∧ (x.2, y.2) ∈ vs
/-- the entries of a map of files, their bytes in the pool -/
def FilesIn (vs : Vs) (L : List (ByteArray × Value)) (M : Fl) : Prop := F2 (FRel vs) L M
theorem FilesIn.get {vs : Vs} {L : List (ByteArray × Value)} {M : Fl} (h : FilesIn vs L M) (n : Nm) : (MS.lookE L n = none ∧ getF M n = none) ∨ ∃ v d, MS.lookE L n = some v ∧ getF M n = some d ∧ (v, d) ∈ vs := by
 rcases F2.find h (f := fun p => p.1 == n) (g := fun p => p.1 == n) (fun p q h => by rw [h.1]) with ⟨e1, e2⟩ | ⟨p, q, e1, e2, hr⟩
 ·left; exact ⟨by simp [MS.lookE, e1], by simp [getF, e2]⟩
 ·right; exact ⟨p.2, q.2, by simp [MS.lookE, e1], by simp [getF, e2], hr.2⟩
theorem FilesIn.put {vs : Vs} {L : List (ByteArray × Value)} {M : Fl} (h : FilesIn vs L M) {v : Value} {d : List UInt8} (hm : (v, d) ∈ vs) (n : Nm) : FilesIn vs (MS.putE L n v) (putF M n d) := by
 unfold MS.putE putF
 rw [F2.any h (f := fun p => p.1 == n) (g := fun p => p.1 == n) (fun p q h => by rw [h.1])]
 split
 ·refine F2.map h (fun a b hab => ?_)
  rw [hab.1]
  split
  ·exact ⟨rfl, hm⟩
  ·exact hab
 ·exact F2.append h (F2.one ⟨rfl, hm⟩)
theorem FilesIn.del {vs : Vs} {L : List (ByteArray × Value)} {M : Fl} (h : FilesIn vs L M) (n : Nm) : FilesIn vs (MS.delE L n) (delF M n) := F2.filter h (fun a b hab => by rw [hab.1])
theorem FilesIn.more {vs us : Vs} {L : List (ByteArray × Value)} {M : Fl} (h : FilesIn vs L M) (hs : ∀ x ∈ vs, x ∈ us) : FilesIn us L M := F2.mono h (fun _ _ _ _ h => ⟨h.1, hs _ h.2⟩)
theorem FilesIn.len {vs : Vs} {L : List (ByteArray × Value)} {M : Fl} (h : FilesIn vs L M) : L.length = M.length := F2.length h
theorem FilesIn.keys {vs : Vs} {L : List (ByteArray × Value)} {M : Fl} (h : FilesIn vs L M) : L.map (·.1) = M.map (·.1) := F2.map_eq h (fun _ _ h => h.1)
/-- a change done to the entries -/
def doE (L : List (ByteArray × Value)) (k : Nat) (n to : Nm) (v : Value) : List (ByteArray × Value) :=
 if k = 0 then MS.putE L n v else match MS.lookE L n with
  | none => L
  | some b => if k = 1 then MS.putE (MS.delE L n) to b else MS.delE L n
theorem FilesIn.do {vs : Vs} {L : List (ByteArray × Value)} {M : Fl} (h : FilesIn vs L M) {v : Value} (c : Chg) (hm : (v, c.d) ∈ vs) : FilesIn vs (doE L c.kind c.name c.to v) (doF M c) := by
 unfold doE doF
 split
 ·exact h.put hm _
 ·rcases h.get c.name with ⟨e1, e2⟩ | ⟨b, d, e1, e2, e3⟩
  ·rw [e1, e2]; exact h
  ·rw [e1, e2]
   show FilesIn vs (if c.kind = 1 then _ else _) (if c.kind = 1 then _ else _)
   split
   ·exact (h.del _).put e3 _
   ·exact h.del _
def lenV : Value → Nat
 | .slice _ n _ => n
 | _ => 0
def sumV (L : List (ByteArray × Value)) : Nat := (L.map (fun p => lenV p.2)).sum
def IsSl (v : Value) : Prop := ∃ a n c, v = .slice a n c
theorem lenV_of {w : World} {v : Value} {d : List UInt8} (h : Bytes w v d) : lenV v = d.length := by
 obtain ⟨a, c, rfl, _⟩ := h; rfl
theorem isSl_of {w : World} {v : Value} {d : List UInt8} (h : Bytes w v d) : IsSl v := by
 obtain ⟨a, c, rfl, _⟩ := h; exact ⟨_, _, _, rfl⟩
/-- a pool's slices -/
def PoolIn (w : World) (vs : Vs) : Prop := ∀ x ∈ vs, Bytes w x.1 x.2
theorem FilesIn.sum {vs : Vs} {L : List (ByteArray × Value)} {M : Fl} (h : FilesIn vs L M) {w : World} (hp : PoolIn w vs) : sumV L = usedF M := by
 have := F2.map_eq h (f := fun p => lenV p.2) (g := fun p => p.2.length) (fun a b hab => lenV_of (hp _ hab.2))
 unfold sumV usedF; rw [this]
theorem FilesIn.sl {vs : Vs} {L : List (ByteArray × Value)} {M : Fl} (h : FilesIn vs L M) {w : World} (hp : PoolIn w vs) : ∀ p ∈ L, IsSl p.2 := fun p hpL => by
 obtain ⟨q, _, hq⟩ := F2.mem_left h hpL
 exact isSl_of (hp _ hq.2)
/-- a change that waits, with its bytes' place -/
def chgV (p : Chg × Value) : List Value := [.int .i64 (p.1.kind : Nat), .string p.1.name, .string p.1.to, p.2]
def chgVs (P : List (Chg × Value)) : List Value := P.flatMap chgV
def diskI (N : Nat) (D : Dk) (K : List Asn) : Prop := ∃ bs bh v P Z vs Ls Lh, K = [.box N [.int .i64 D.room, .map (some bs), .map (some bh), v, .int .i64 D.fuse, .bool D.down] 156, .map bs Ls, .map bh Lh, .row 158 4 v P.length (chgVs P), .pool Z vs] ∧
 FilesIn vs Ls D.sure ∧ FilesIn vs Lh D.shown ∧ P.map (·.1) = D.pend ∧ (∀ p ∈ P, (p.2, p.1.d) ∈ vs) ∧ nilB ∈ vs
/-- a disk in memory -/
abbrev _root_.Go.Proofs.YtelneaokoiojkaaGreatDoor.Asn.disk (N : Nat) (D : Dk) (G : Nat → Prop) : Asn := Asn.ex (diskI N D) G
end DK
end Go.Proofs.YtelneaokoiojkaaGreatDoor

namespace Go.Proofs.YtelneaokoiojkaaGreatDoor
open Go

def nthOp : List Oper → Nat → Option Oper
 | [], _ => none
 | o :: _, 0 => some o
 | _ :: l, i + 1 => nthOp l i
theorem nthOp_eq : ∀ (l : List Oper) (i : Nat), l.toArray[i]? = nthOp l i
 | [], _ => rfl
 | _ :: _, 0 => rfl
 | _ :: l, i + 1 => by have := nthOp_eq l i; simpa [nthOp] using this
theorem put_lit (t : List Value) (ds : List Deferred) (d : Nat) (v : Value) : Act.put ⟨t.toArray, ds⟩ (some d) v = ⟨(t.set d v).toArray, ds⟩ := by
 simp [Act.put]
/-- a small memory of slots: what an operation's operands are -/
def assocV : List (Nat × Value) → Nat → Value
 | [], _ => undef
 | (k, v) :: l, t => if k = t then v else assocV l t
@[go_sem] theorem assocV_hit (k : Nat) (v : Value) (l : List (Nat × Value)) : assocV ((k, v) :: l) k = v := by simp [assocV]
@[go_sem] theorem assocV_miss {k t : Nat} (v : Value) (l : List (Nat × Value)) (h : k ≠ t) : assocV ((k, v) :: l) t = assocV l t := by simp [assocV, h]
def lookV (m : List (Nat × Value)) : Operand → Value
 | .tmp t => assocV m t
 | .const v => v
 | .global g => .pointer (some ⟨g, 0, none⟩)
 | .func f => .func (.func f) #[] #[]
@[go_sem] theorem lookV_tmp (m : List (Nat × Value)) (t : Nat) : lookV m (.tmp t) = assocV m t := rfl
@[go_sem] theorem lookV_const (m : List (Nat × Value)) (v : Value) : lookV m (.const v) = v := rfl
@[go_sem] theorem lookV_global (m : List (Nat × Value)) (g : Nat) : lookV m (.global g) = .pointer (some ⟨g, 0, none⟩) := rfl
@[go_sem] theorem lookV_func (m : List (Nat × Value)) (f : Nat) : lookV m (.func f) = .func (.func f) #[] #[] := rfl
theorem map_at {α β : Type} {f g : α → β} : ∀ {l : List α}, l.map f = l.map g → ∀ x ∈ l, f x = g x
 | [], _, _, h => by cases h
 | a :: l, e, x, h => by
  simp only [List.map_cons, List.cons.injEq] at e
  rcases List.mem_cons.1 h with rfl | h
  ·exact e.1
  ·exact map_at e.2 x h
def noSel : Op → Bool
 | .select .. => false
 | _ => true
section
variable {P : Program} {Q : Exit → Act → World → Prop} {md : Region.Mode} {S : World → Prop}
/-- an operation that yields its value in every world that meets S is taken first -/
theorem takeD {l : List Oper} {i d : Nat} {oi : Oper} {v : Value} {fuel : Nat} {listed : List Bool} {t : List Value} {ds : List Deferred} {w : World}
  (hi : nthOp l i = some oi) (hd : oi.dst = some d) (hs : Region.noSelect l.toArray = true) (hf : Region.free md l.toArray listed.toArray i = true) (hr : (Region.ready md l.toArray listed.toArray).contains i = true)
  (hQ : ∀ c a w, Q (.panic c) (a.put oi.dst v) w → Q (.panic c) a w) (hy : YieldsIf P l.toArray S oi v ⟨t.toArray, ds⟩) (hS : S w)
  (h : wpAnyH P md l.toArray Q S fuel (listed.set i true).toArray ⟨(t.set d v).toArray, ds⟩ w) : wpAnyH P md l.toArray Q S (fuel + 1) listed.toArray ⟨t.toArray, ds⟩ w := by
 refine wpAnyH_take (oi := oi) (by rw [nthOp_eq]; exact hi) hs hf hr hQ hy hS ?_
 rw [hd, put_lit, List.setIfInBounds_toArray]
 exact h
theorem startD {id : Nat} {l : List Oper} {a : Act} {w : World} (hm : P.follows .mixedOrders = true) (hS : S w.drew)
  (h : S w.drew → wpAnyH P .any l.toArray Q S l.length (List.replicate l.length false).toArray a w.drew) : (Code.region id l.toArray true).wp P Q a w := by
 refine wp_region_held_drew hm hS (fun hs => ?_)
 have := h hs
 rwa [List.size_toArray, ← List.toArray_replicate]
/-- what an operation yields, from its operands alone -/
theorem yldV {l : Array Oper} {oi : Oper} {v : Value} {a : Act} (m : List (Nat × Value)) (hw : Region.wanted oi (yielded l a.tmps) = true) (hsel : noSel oi.op = true)
  (hm : oi.op.operands.toList.map a.eval = oi.op.operands.toList.map (lookV m)) (h : ∀ w, S w → (execOp (lookV m) oi).run P w = .ok (.value v) w) : YieldsIf P l S oi v a := by
 refine .inl ⟨hw, fun w hS => ?_⟩
 rw [execOp_congr (ρ' := lookV m) oi (fun cs b e => by rw [e] at hsel; cases hsel) (fun x hx => map_at hm x (by simpa using hx))]
 exact h w hS
theorem tE {l : List Oper} {oi : Oper} {fuel : Nat} {listed : List Bool} {t : List Value} {ds : List Deferred} {w : World} (i d : Nat) (v : Value) (hi : nthOp l i = some oi) (hd : oi.dst = some d) (m : List (Nat × Value)) (hS : S w)
  (hy : ∀ w, S w → (execOp (lookV m) oi).run P w = .ok (.value v) w) (h : wpAnyH P md l.toArray Q S fuel (listed.set i true).toArray ⟨(t.set d v).toArray, ds⟩ w)
  (hs : Region.noSelect l.toArray = true := by kernel_rfl) (hf : Region.free md l.toArray listed.toArray i = true := by kernel_rfl) (hr : (Region.ready md l.toArray listed.toArray).contains i = true := by kernel_rfl)
  (hQ : ∀ c a w, Q (.panic c) (a.put oi.dst v) w → Q (.panic c) a w := by exact fun _ _ _ h => h) (hw : Region.wanted oi (yielded l.toArray t.toArray) = true := by kernel_rfl) (hn : noSel oi.op = true := by rfl)
  (hm : oi.op.operands.toList.map (Act.eval ⟨t.toArray, ds⟩) = oi.op.operands.toList.map (lookV m) := by kernel_rfl) : wpAnyH P md l.toArray Q S (fuel + 1) listed.toArray ⟨t.toArray, ds⟩ w :=
 takeD hi hd hs hf hr hQ (yldV m hw hn hm hy) hS h
theorem tD {l : List Oper} {oi : Oper} {fuel : Nat} {listed : List Bool} {t : List Value} {ds : List Deferred} {w : World} (i d : Nat) (v : Value) (hi : nthOp l i = some oi) (hd : oi.dst = some d) (m : List (Nat × Value)) (hS : S w)
  (h : wpAnyH P md l.toArray Q S fuel (listed.set i true).toArray ⟨(t.set d v).toArray, ds⟩ w)
  (hy : ∀ w, S w → (execOp (lookV m) oi).run P w = .ok (.value v) w := by intro w hSw; go_simp)
  (hs : Region.noSelect l.toArray = true := by kernel_rfl) (hf : Region.free md l.toArray listed.toArray i = true := by kernel_rfl) (hr : (Region.ready md l.toArray listed.toArray).contains i = true := by kernel_rfl)
  (hQ : ∀ c a w, Q (.panic c) (a.put oi.dst v) w → Q (.panic c) a w := by exact fun _ _ _ h => h) (hw : Region.wanted oi (yielded l.toArray t.toArray) = true := by kernel_rfl) (hn : noSel oi.op = true := by rfl)
  (hm : oi.op.operands.toList.map (Act.eval ⟨t.toArray, ds⟩) = oi.op.operands.toList.map (lookV m) := by kernel_rfl) : wpAnyH P md l.toArray Q S (fuel + 1) listed.toArray ⟨t.toArray, ds⟩ w :=
 takeD hi hd hs hf hr hQ (yldV m hw hn hm hy) hS h
end
end Go.Proofs.YtelneaokoiojkaaGreatDoor

namespace Go.Proofs.YtelneaokoiojkaaGreatDoor
open Go.RowKit

end Go.Proofs.YtelneaokoiojkaaGreatDoor

namespace Go.Proofs.YtelneaokoiojkaaGreatDoor
open Go.RowKit

@[go_sem] theorem eql_errV (n : Nat) (w : World) : (binOp .eql 27 (errV n) .nilIface).run Tryz.prog w = .ok (.bool (n == 0)) w := by
 by_cases h : n = 0
 ·subst h; rw [errV_0, eql_nil]; rfl
 ·rw [errV_pos h, eql_held]; simp [h]
@[go_sem] theorem neq_errV (n : Nat) (w : World) : (binOp .neq 27 (errV n) .nilIface).run Tryz.prog w = .ok (.bool (n != 0)) w := by
 by_cases h : n = 0
 ·subst h; rw [errV_0, neq_nil]; rfl
 ·rw [errV_pos h, neq_held]; simp [h]
@[go_sem] theorem guard_eql (t n : Nat) (x : Operand) (v : Value) (w : World) : (eqGuard .eql t x (.const v) (errV n) .nilIface).run Tryz.prog w = .ok () w := by
 by_cases h : n = 0
 ·subst h; rw [errV_0]; simp [eqGuard]
 ·rw [errV_pos h]; simp [eqGuard]
@[go_sem] theorem guard_neq (t n : Nat) (x : Operand) (v : Value) (w : World) : (eqGuard .neq t x (.const v) (errV n) .nilIface).run Tryz.prog w = .ok () w := by
 by_cases h : n = 0
 ·subst h; rw [errV_0]; simp [eqGuard]
 ·rw [errV_pos h]; simp [eqGuard]
end Go.Proofs.YtelneaokoiojkaaGreatDoor
