/- Layers 3, 15: the zero digest; a manifest's check. -/
import Derived.Test.YtinbcehlpfnlaaaGreatDoorManL
import Derived.Test.YtinbcehlpfnlaaaGreatDoorEqA
namespace Go.Proofs.YtinbcehlpfnlaaaGreatDoor
open Go.RowKit
set_option linter.unusedSimpArgs false
set_option linter.unusedVariables false
set_option maxRecDepth 100000

theorem dig_size : (Tryz.prog.info? 45).map (·.size) = some 32 := by kernel_rfl
theorem u8_size : (Tryz.prog.info? 5).map (·.size) = some 1 := by kernel_rfl
theorem lit32 : (#[.int .u8 0, .int .u8 0, .int .u8 0, .int .u8 0, .int .u8 0, .int .u8 0, .int .u8 0, .int .u8 0, .int .u8 0, .int .u8 0, .int .u8 0, .int .u8 0, .int .u8 0, .int .u8 0, .int .u8 0, .int .u8 0, .int .u8 0, .int .u8 0, .int .u8 0, .int .u8 0, .int .u8 0, .int .u8 0, .int .u8 0, .int .u8 0, .int .u8 0, .int .u8 0, .int .u8 0, .int .u8 0, .int .u8 0, .int .u8 0, .int .u8 0, .int .u8 0] : Array Value) = (byteVs zero32B).toArray := rfl
theorem eqD (a b : List UInt8) (ha : a.length = 32) (hb : b.length = 32) (w : World) : (Op.equalIn 10000 45 (.agg (byteVs a).toArray) (.agg (byteVs b).toArray)).run Tryz.prog w = .ok (a == b) w :=
  run_equalIn_bytes w 9998 32 45 5 Tryz.underlying45 Tryz.underlying5 u8_size a b ha hb
set_option maxHeartbeats 2000000 in
theorem szero_any (p : List UInt8) (hp : p.length = 32) (w : World) : Calls Tryz.prog 39 #[.agg (byteVs p).toArray] w fun e w' => e = .returned (.bool (p == zero32B)) ∧ Below w.heap.size w w' := by
  have HQ : ∀ wq : World, (Op.equalIn 10000 45 (.agg (byteVs p).toArray) (.agg #[.int .u8 0, .int .u8 0, .int .u8 0, .int .u8 0, .int .u8 0, .int .u8 0, .int .u8 0, .int .u8 0, .int .u8 0, .int .u8 0, .int .u8 0, .int .u8 0, .int .u8 0, .int .u8 0, .int .u8 0, .int .u8 0, .int .u8 0, .int .u8 0, .int .u8 0, .int .u8 0, .int .u8 0, .int .u8 0, .int .u8 0, .int .u8 0, .int .u8 0, .int .u8 0, .int .u8 0, .int .u8 0, .int .u8 0, .int .u8 0, .int .u8 0, .int .u8 0])).run Tryz.prog wq = .ok (p == zero32B) wq := fun wq => eqD p zero32B hp rfl wq
  have hz : (Tryz.prog.info? 45).map (·.size) = some (byteVs p).length := by rw [byteVs_length, hp]; exact dig_size
  generalize byteVs p = X at *
  generalize (p == zero32B) = r at *
  clear hp
  go_enter Tryz.func39, Tryz.ntmps39
  go_upto_region 1 with fail
  have H0 : Sep w NoF [.box w.heap.size X 45] (w.alloc (.cells X.toArray 45)) := (Sep.start w).allocAt (w.heap.size) X 45 rfl
  generalize w.alloc (.cells X.toArray 45) = w1 at *
  go_wp2_with (refine Sep.loadB H0 0 rfl rfl 45 (.tmp 1) rfl rfl _ Tryz.underlying45 rfl hz ?_)
  go_ret
  exact ⟨rfl, H0.toBelow⟩
end Go.Proofs.YtinbcehlpfnlaaaGreatDoor
