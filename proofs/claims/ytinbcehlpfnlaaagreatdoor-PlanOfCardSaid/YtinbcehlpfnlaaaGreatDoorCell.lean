/- Layer 5 (cell), errors' numbers: what each function answers. -/
import Derived.Test.YtinbcehlpfnlaaaGreatDoorProg
import Derived.Test.YtinbcehlpfnlaaaGreatDoorBase
import Derived.Test.YtinbcehlpfnlaaaGreatDoorUnitN
import Derived.Deep.RegionHeld3
import Derived.Deep.QuietTactic
import Derived.BigQuiet
import Derived.Handy
import Derived.WideLaws
import Derived.LaidEql
namespace Go.Proofs.YtinbcehlpfnlaaaGreatDoor
open Go.RowKit
set_option linter.unusedSimpArgs false
set_option linter.unusedVariables false
set_option maxRecDepth 20000

theorem etBytes : ElemT Tryz.prog 85 5 1 1 := ElemT.mk' (z := .int .u8 0) Tryz.underlying85 (by kernel_rfl) rfl (by decide) (by decide)

theorem undErr : Tryz.prog.underlying 29 = some (.interface (Tryz.prog.methodsAt 29)) := by kernel_rfl
@[go_sem] theorem eql_held (w : World) (u : TypeId) (x : Value) : (binOp .eql 29 (.iface u x) .nilIface).run Tryz.prog w = .ok (.bool false) w := run_eql_held_nil (P := Tryz.prog) w 29 u x undErr
@[go_sem] theorem neq_held (w : World) (u : TypeId) (x : Value) : (binOp .neq 29 (.iface u x) .nilIface).run Tryz.prog w = .ok (.bool true) w := run_neq_held_nil (P := Tryz.prog) w 29 u x undErr
@[go_sem] theorem eql_nil (w : World) : (binOp .eql 29 .nilIface .nilIface).run Tryz.prog w = .ok (.bool true) w := run_eql_nil_nil (P := Tryz.prog) w 29 undErr
@[go_sem] theorem neq_nil (w : World) : (binOp .neq 29 .nilIface .nilIface).run Tryz.prog w = .ok (.bool false) w := run_neq_nil_nil (P := Tryz.prog) w 29 undErr
@[go_sem] theorem ta_errno (w : World) (n : Int) : (Instr.typeAssert (.iface 59 (.int .i64 n)) 29 59 true).run Tryz.prog w = .ok (.tuple #[.int .i64 n, .bool true]) w := by kernel_rfl


/-- an error by its number; 0: none -/
def errV (n : Nat) : Value := if n = 0 then .nilIface else .iface 59 (.int .i64 n)
theorem errV_0 : errV 0 = .nilIface := rfl
theorem errV_pos {n : Nat} (h : n ≠ 0) : errV n = .iface 59 (.int .i64 n) := by simp [errV, h]
theorem ret_eq {a b : Value} (h : a = b) : Ending.returned a = .returned b := by rw [h]

theorem num_any (n : Nat) (w : World) : Calls Tryz.prog 11 #[errV n] w fun e w' => e = .returned (.int .i64 n) ∧ w = w' := by
  by_cases h : n = 0
  · subst h
    rw [errV_0]
    go_enter Tryz.func11, Tryz.ntmps11
    go_wp2
    go_ret
    exact ⟨rfl, rfl⟩
  · rw [errV_pos h]
    have h0 : ((n : Int) == 0) = false := by rw [beq_eq_false_iff_ne]; omega
    have h1 : ((n : Int) != 0) = true := by rw [bne_iff_ne]; omega
    clear h
    go_enter Tryz.func11, Tryz.ntmps11
    go_wp2
    go_ret
    exact ⟨rfl, rfl⟩


theorem strOf_toList (l : List UInt8) : (strOf l).toList = l := by rw [ByteArray.toList_eq]; simp [strOf]



set_option maxHeartbeats 400000 in
theorem clone_any (v : Value) (l : List UInt8) (w : World) (h : Bytes w v l) (hl : l.length ≤ 1099511627776) :
    Calls Tryz.prog 77 #[v] w (OwnR w.heap.size 5 1 l.length (byteVs l) w) := by
  have hh := h
  obtain ⟨a, cap, rfl, h1, h2, h0, h3⟩ := h
  have hq := fun w n c => Lib.run_eql_slice_nil (P := Tryz.prog) w 85 5 a n c 0 0 Tryz.underlying85
  cases a with
  | none =>
    obtain rfl : cap = 0 := h0 rfl
    have hl0 : l = [] := List.eq_nil_of_length_eq_zero (by omega)
    subst hl0
    clear h3 h1 h2 h0 hh
    go_enter Tryz.func77, Tryz.ntmps77
    go_wp2
    go_ret
    exact ⟨_, _, rfl, World.ownsRow_nil _ _ _ _, Below.refl _ _⟩
  | some p =>
    clear h3 h0
    have HH : Hid (Bytes w (.slice (some p) l.length cap) l) := hh
    clear hh
    go_enter Tryz.func77, Tryz.ntmps77
    go_wp2_with (at_builtin; refine append_sl etBytes rfl (.tmp 5) (.tmp 6) rfl w.heap.size 0 [] _ rfl ?own l.length (byteVs l) _ rfl ?src ?len (byteVs_one l) ?cy ?base ?_)
    case own => exact own_empty _ _ _
    case src => exact SlV.below HH.out (Nat.le_refl _) ((Below.refl _ _).alloc (Nat.le_refl _) _)
    case len => simp [byteVs]
    case cy => omega
    case base => simp
    intro a' c' w1 ho hf
    go_wp2
    go_ret
    refine ⟨a', c', by simp, by simpa using ho, ?_⟩
    exact ((Below.refl w.heap.size w).alloc (Nat.le_refl _) _).trans (hf.below (by simp) (fun k hk => by simp [Act.eval, Value.ownBlock] at hk; omega))

/-- v reads as the cell c -/
def CellIs (w : World) (v : Value) (c : C) : Prop := ∃ a cap, v = .agg #[.int .i64 c.k, .slice a c.d.length cap] ∧ Bytes w (.slice a c.d.length cap) c.d

def CopyR (c : C) (w : World) (en : Ending) (w' : World) : Prop :=
  ∃ a cap, en = .returned (.agg #[.int .i64 c.k, .slice a c.d.length cap]) ∧ w'.ownsRow w.heap.size 5 1 (.slice a c.d.length cap) c.d.length (byteVs c.d) ∧ Below w.heap.size w w'




theorem CellIs.below {w w' : World} {v : Value} {c : C} (h : CellIs w v c) {B : Nat} (hB : w.heap.size ≤ B) (hb : Below B w w') : CellIs w' v c := by
  obtain ⟨a, cap, rfl, hh⟩ := h
  exact ⟨a, cap, rfl, SlV.below hh hB hb⟩


end Go.Proofs.YtinbcehlpfnlaaaGreatDoor
