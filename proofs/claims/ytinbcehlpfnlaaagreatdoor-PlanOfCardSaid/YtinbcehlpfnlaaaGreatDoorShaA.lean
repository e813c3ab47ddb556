/- Layer 3 (sha): a word turned right. -/
import Derived.Test.YtinbcehlpfnlaaaGreatDoorShaM
import Derived.Test.YtinbcehlpfnlaaaGreatDoorCell
namespace Go.Proofs.YtinbcehlpfnlaaaGreatDoor
open Go.RowKit
set_option linter.unusedSimpArgs false
set_option linter.unusedVariables false
set_option maxRecDepth 100000

theorem and31 (k m : Nat) (h1 : 0 < k) (h2 : k < 32) (hm : m = 32 - k) : bits .and .u64 (18446744073709551616 - (k : Int)) 31 = (m : Int) := by
  rw [u64_and _ _ (by omega) (by omega) (by omega) (by omega)]
  have e1 : (18446744073709551616 - (k : Int)).toNat = 18446744073709551616 - k := by omega
  have e2 : (31 : Int).toNat = 2 ^ 5 - 1 := rfl
  rw [e1, e2, Nat.and_two_pow_sub_one_eq_mod]
  omega
theorem rotl_any (x : W32) (k : Nat) (h1 : 0 < k) (h2 : k < 32) (w : World) : Calls Tryz.prog 93 #[wV x, .int .i64 (-(k : Int))] w fun e w' => e = .returned (wV (rotr x k)) ∧ w' = w := by
  obtain ⟨m, hm⟩ : ∃ m, m = 32 - k := ⟨_, rfl⟩
  have e1 : IntKind.u64.wrap (-(k : Int)) = 18446744073709551616 - (k : Int) := by rw [IntKind.wrap_u64]; omega
  have e2 := and31 k m h1 h2 hm
  have e3 : IntKind.u64.wrap (32 - (m : Int)) = (k : Int) := by rw [IntKind.wrap_u64]; omega
  have g1 : (0 : Int) ≤ (m : Int) := by omega
  have g2 : (m : Int) ≤ 32 := by omega
  have g3 : (0 : Int) ≤ (k : Int) := by omega
  have g4 : (k : Int) ≤ 32 := by omega
  have HR := Lib.hid' (show rotr x k = x <<< m ||| x >>> k by unfold rotr; rw [hm, BitVec.or_comm])
  clear hm h1 h2
  unfold wV
  go_enter Tryz.func93, Tryz.ntmps93
  go_wp2
  go_ret
  refine ⟨ret_eq (show Value.int .u32 (bits .or .u32 (((wN x : Nat) : Int) * 2 ^ m % 4294967296) (((wN x : Nat) : Int) / 2 ^ k)) = _ from ?_), rfl⟩
  rw [w_shl2, w_shr, w_or, HR.out]
theorem right_any (x : W32) (k : Nat) (h1 : 0 < k) (h2 : k < 32) (w : World) : Calls Tryz.prog 91 #[wV x, .int .i64 (k : Int)] w fun e w' => e = .returned (wV (rotr x k)) ∧ w' = w := by
  have e1 : IntKind.i64.wrap (-(k : Int)) = -(k : Int) := IntWalk.i64_in _ (by omega)
  have HC := Lib.hid' (rotl_any x k h1 h2 w)
  unfold wV at HC ⊢
  go_enter Tryz.func91, Tryz.ntmps91
  go_wp2_with fail
  refine HC.out.mono ?_
  rintro e w' ⟨rfl, rfl⟩
  go_wp2
  go_ret
  exact ⟨rfl, rfl⟩
end Go.Proofs.YtinbcehlpfnlaaaGreatDoor
