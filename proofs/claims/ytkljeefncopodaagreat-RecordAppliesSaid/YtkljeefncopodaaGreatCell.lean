/- Layer 5 (cell), errors' numbers: what each function answers. -/
import Derived.Test.YtkljeefncopodaaGreatProg
import Derived.Test.YtkljeefncopodaaGreatBase
import Derived.Test.YtkljeefncopodaaGreatUnitN
import Derived.Deep.RegionHeld3
import Derived.Deep.QuietTactic
import Derived.BigQuiet
import Derived.Handy
import Derived.WideLaws
import Derived.LaidEql
namespace Go.Proofs.YtkljeefncopodaaGreat
open Go.RowKit
set_option linter.unusedSimpArgs false
set_option linter.unusedVariables false
set_option maxRecDepth 20000

theorem etBytes : ElemT Tryz.prog 22 5 1 1 := ElemT.mk' (z := .int .u8 0) Tryz.underlying22 (by kernel_rfl) rfl (by decide) (by decide)

theorem undErr : Tryz.prog.underlying 29 = some (.interface (Tryz.prog.methodsAt 29)) := by kernel_rfl
@[go_sem] theorem eql_held (w : World) (u : TypeId) (x : Value) : (binOp .eql 29 (.iface u x) .nilIface).run Tryz.prog w = .ok (.bool false) w := run_eql_held_nil (P := Tryz.prog) w 29 u x undErr
@[go_sem] theorem neq_held (w : World) (u : TypeId) (x : Value) : (binOp .neq 29 (.iface u x) .nilIface).run Tryz.prog w = .ok (.bool true) w := run_neq_held_nil (P := Tryz.prog) w 29 u x undErr
@[go_sem] theorem eql_nil (w : World) : (binOp .eql 29 .nilIface .nilIface).run Tryz.prog w = .ok (.bool true) w := run_eql_nil_nil (P := Tryz.prog) w 29 undErr
@[go_sem] theorem neq_nil (w : World) : (binOp .neq 29 .nilIface .nilIface).run Tryz.prog w = .ok (.bool false) w := run_neq_nil_nil (P := Tryz.prog) w 29 undErr
@[go_sem] theorem ta_errno (w : World) (n : Int) : (Instr.typeAssert (.iface 71 (.int .i64 n)) 29 71 true).run Tryz.prog w = .ok (.tuple #[.int .i64 n, .bool true]) w := by kernel_rfl

@[go_sem] theorem field_kind (w : World) (x y : Value) : (Instr.field 116 (.agg #[x, y]) 0).run Tryz.prog w = .ok x w := by kernel_rfl
@[go_sem] theorem field_data (w : World) (x y : Value) : (Instr.field 116 (.agg #[x, y]) 1).run Tryz.prog w = .ok y w := by kernel_rfl

/-- an error by its number; 0: none -/
def errV (n : Nat) : Value := if n = 0 then .nilIface else .iface 71 (.int .i64 n)
theorem errV_0 : errV 0 = .nilIface := rfl
theorem errV_pos {n : Nat} (h : n ≠ 0) : errV n = .iface 71 (.int .i64 n) := by simp [errV, h]
theorem ret_eq {a b : Value} (h : a = b) : Ending.returned a = .returned b := by rw [h]

theorem num_any (n : Nat) (w : World) : Calls Tryz.prog 13 #[errV n] w fun e w' => e = .returned (.int .i64 n) ∧ w = w' := by
  by_cases h : n = 0
  · subst h
    rw [errV_0]
    go_enter Tryz.func13, Tryz.ntmps13
    go_wp2
    go_ret
    exact ⟨rfl, rfl⟩
  · rw [errV_pos h]
    have h0 : ((n : Int) == 0) = false := by rw [beq_eq_false_iff_ne]; omega
    have h1 : ((n : Int) != 0) = true := by rw [bne_iff_ne]; omega
    clear h
    go_enter Tryz.func13, Tryz.ntmps13
    go_wp2
    go_ret
    exact ⟨rfl, rfl⟩

theorem is_any (n : Nat) (m : Int) (w : World) : Calls Tryz.prog 29 #[errV n, .int .i64 m] w fun e w' => e = .returned (.bool ((n : Int) == m)) ∧ w = w' := by
  obtain ⟨v, hv⟩ : ∃ v, v = errV n := ⟨_, rfl⟩
  have HN := fun w => num_any n w
  rw [← hv] at HN ⊢
  clear hv
  go_enter Tryz.func29, Tryz.ntmps29
  go_wp2_with (go_at_call 13; refine (HN _).mono ?_; rintro e w' ⟨rfl, rfl⟩)
  go_ret
  exact ⟨rfl, rfl⟩

theorem strOf_toList (l : List UInt8) : (strOf l).toList = l := by rw [ByteArray.toList_eq]; simp [strOf]

theorem bytesEq_any (u v : Value) (a b : List UInt8) (w : World) (ha : Bytes w u a) (hb : Bytes w v b) : Calls Tryz.prog 130 #[u, v] w fun e w' => e = .returned (.bool (a == b)) ∧ w = w' := by
  have h1 := run_string_of (P := Tryz.prog) 22 5 9 Tryz.underlying22 Tryz.underlying5 Tryz.underlying9 ha
  have h2 := run_string_of (P := Tryz.prog) 22 5 9 Tryz.underlying22 Tryz.underlying5 Tryz.underlying9 hb
  clear ha hb
  go_enter Tryz.func130, Tryz.ntmps130
  go_wp2
  go_ret
  exact ⟨ret_eq (by rw [strOf_toList, strOf_toList]; rfl), rfl⟩

theorem numBytes_any (u v : Value) (a b : List UInt8) (w : World) (ha : Bytes w u a) (hb : Bytes w v b) : Calls Tryz.prog 21 #[u, v] w fun e w' => e = .returned (.bool (a == b)) ∧ w = w' := by
  have h1 := run_string_of (P := Tryz.prog) 22 5 9 Tryz.underlying22 Tryz.underlying5 Tryz.underlying9 ha
  have h2 := run_string_of (P := Tryz.prog) 22 5 9 Tryz.underlying22 Tryz.underlying5 Tryz.underlying9 hb
  clear ha hb
  go_enter Tryz.func21, Tryz.ntmps21
  go_wp2
  go_ret
  exact ⟨ret_eq (by rw [strOf_toList, strOf_toList]; rfl), rfl⟩

set_option maxHeartbeats 400000 in
theorem clone_any (v : Value) (l : List UInt8) (w : World) (h : Bytes w v l) (hl : l.length ≤ 1099511627776) :
    Calls Tryz.prog 122 #[v] w (OwnR w.heap.size 5 1 l.length (byteVs l) w) := by
  have hh := h
  obtain ⟨a, cap, rfl, h1, h2, h0, h3⟩ := h
  have hq := fun w n c => Lib.run_eql_slice_nil (P := Tryz.prog) w 22 5 a n c 0 0 Tryz.underlying22
  cases a with
  | none =>
    obtain rfl : cap = 0 := h0 rfl
    have hl0 : l = [] := List.eq_nil_of_length_eq_zero (by omega)
    subst hl0
    clear h3 h1 h2 h0 hh
    go_enter Tryz.func122, Tryz.ntmps122
    go_wp2
    go_ret
    exact ⟨_, _, rfl, World.ownsRow_nil _ _ _ _, Below.refl _ _⟩
  | some p =>
    clear h3 h0
    have HH : Hid (Bytes w (.slice (some p) l.length cap) l) := hh
    clear hh
    go_enter Tryz.func122, Tryz.ntmps122
    go_wp2_with (at_builtin; refine append_sl etBytes rfl (.tmp 5) (.tmp 6) rfl w.heap.size 0 [] _ rfl ?own l.length (byteVs l) _ rfl ?src ?len (byteVs_one l) ?cy ?base ?_)
    case own => exact own_empty _ _ _
    case src => exact SlV.below HH.out (Nat.le_refl _) ((Below.refl _ _).alloc (Nat.le_refl _) _)
    case len => simp [byteVs]
    case cy => omega
    case base => simp
    intro a' c' w1 ho hf
    go_wp2
    go_ret
    refine ⟨a', c', by simp, by simpa using ho, ?_⟩
    exact ((Below.refl w.heap.size w).alloc (Nat.le_refl _) _).trans (hf.below (by simp) (fun k hk => by simp [Act.eval, Value.ownBlock] at hk; omega))

/-- v reads as the cell c -/
def CellIs (w : World) (v : Value) (c : C) : Prop := ∃ a cap, v = .agg #[.int .i64 c.k, .slice a c.d.length cap] ∧ Bytes w (.slice a c.d.length cap) c.d

def CopyR (c : C) (w : World) (en : Ending) (w' : World) : Prop :=
  ∃ a cap, en = .returned (.agg #[.int .i64 c.k, .slice a c.d.length cap]) ∧ w'.ownsRow w.heap.size 5 1 (.slice a c.d.length cap) c.d.length (byteVs c.d) ∧ Below w.heap.size w w'

set_option maxHeartbeats 400000 in
theorem copy_any (v : Value) (c : C) (w : World) (h : CellIs w v c) (hl : c.d.length ≤ 1099511627776) :
    Calls Tryz.prog 71 #[v] w (CopyR c w) := by
  obtain ⟨k, d⟩ := c
  obtain ⟨a, cap, rfl, hh⟩ := h
  have HH : Hid (Bytes w (.slice a d.length cap) d) := hh
  clear hh
  simp only at hl
  go_enter Tryz.func71, Tryz.ntmps71
  go_wp2
  have l2 : ∀ n : Nat, n < n + 1 + 1 := by omega
  go_region_held3 (fun w' => w'.cell? ⟨w.heap.size, 0, none⟩ = some (.int .i64 k) ∧ w'.cell? ⟨w.heap.size, 1, none⟩ = some (.slice a d.length cap)) (go_keep) (first | (go_at_call 122; refine (clone_any _ d _ ?_ hl).mono ?_; (exact SlV.below HH.out (Nat.le_refl _) (by go_grown)); rintro e w' ⟨a', c', rfl, ho, hb⟩; obtain ⟨hc, hf⟩ := bcell hb))
  clear l2
  have c0 : w'.cell? ⟨w.heap.size + 1, 0, none⟩ = some (.int .i64 0) := (hc _ _ (by simp)).trans (by simp [go_sem])
  have c1 : w'.cell? ⟨w.heap.size + 1, 1, none⟩ = some (.slice none 0 0) := (hc _ _ (by simp)).trans (by simp [go_sem])
  go_wp2
  refine bodyPost_ret (v := .agg #[.int .i64 k, .slice a' d.length c']) (by simp [results, Tryz.results71, go_sem, c0, c1]) rfl ⟨_, _, rfl, ?_, ?_⟩
  · exact own_base (ownsRow_setCell_below (ownsRow_setCell_below ho (by simp) _) (by simp) _) (by simp; omega)
  · exact ((below_call (by go_grown) (by simp; omega) hb).setCell (by simp) _).setCell (by simp) _

theorem same_any (u v : Value) (a b : C) (w : World) (ha : CellIs w u a) (hb : CellIs w v b) :
    Calls Tryz.prog 74 #[u, v] w fun e w' => e = .returned (.bool (decide (a = b))) ∧ Below w.heap.size w w' := by
  obtain ⟨k, d⟩ := a
  obtain ⟨k', d'⟩ := b
  obtain ⟨p, cp, rfl, h1⟩ := ha
  obtain ⟨q, cq, rfl, h2⟩ := hb
  have H1 : Hid (Bytes w (.slice p d.length cp) d) := h1
  have H2 : Hid (Bytes w (.slice q d'.length cq) d') := h2
  clear h1 h2
  simp only
  cases hk : (k == k') with
  | false =>
    have hne : ¬ k = k' := by simpa using hk
    have Hne : Hid (¬ k = k') := hne
    clear hne
    go_enter Tryz.func74, Tryz.ntmps74
    go_wp2
    go_ret
    exact ⟨ret_eq (by have := Hne.out; simp [this]), by go_grown⟩
  | true =>
    have he : k = k' := by simpa using hk
    subst he
    clear hk
    go_enter Tryz.func74, Tryz.ntmps74
    go_wp2_with (go_at_call 130; refine (bytesEq_any _ _ d d' _ (SlV.below H1.out (Nat.le_refl _) (by go_grown)) (SlV.below H2.out (Nat.le_refl _) (by go_grown))).mono ?_; rintro e w' ⟨rfl, rfl⟩)
    go_ret
    exact ⟨ret_eq (by simp; rw [Bool.eq_iff_iff]; simp), by go_grown⟩

theorem check_any (v : Value) (c : C) (w : World) (h : CellIs w v c) :
    Calls Tryz.prog 127 #[v] w fun e w' => e = .returned (errV c.check) ∧ Below w.heap.size w w' := by
  obtain ⟨p, cp, rfl, h⟩ := h
  clear h
  go_enter Tryz.func127, Tryz.ntmps127
  go_wp2
  all_goals go_ret
  all_goals (refine ⟨ret_eq ?_, by go_grown⟩)
  all_goals (unfold C.check; (repeat' split) <;> first | rfl | (exfalso; omega) | (exfalso; simp_all; done) | (exfalso; simp_all; omega))

theorem CellIs.below {w w' : World} {v : Value} {c : C} (h : CellIs w v c) {B : Nat} (hB : w.heap.size ≤ B) (hb : Below B w w') : CellIs w' v c := by
  obtain ⟨a, cap, rfl, hh⟩ := h
  exact ⟨a, cap, rfl, SlV.below hh hB hb⟩


end Go.Proofs.YtkljeefncopodaaGreat
