/- Layer 2 (crc): the sums. -/
import Derived.Test.YtkljeefncopodaaGreatCell
import Derived.Test.YtkljeefncopodaaGreatCrcM
import Derived.Test.YtkljeefncopodaaGreatBits
import Derived.Test.YtkljeefncopodaaGreatBox
import Derived.WalkLawsBesides
namespace Go.Proofs.YtkljeefncopodaaGreat
open Go.RowKit
set_option linter.unusedSimpArgs false
set_option linter.unusedVariables false
set_option maxRecDepth 20000

set_option maxHeartbeats 400000 in
theorem step_any (x : Nat) (hx : x < 4294967296) (w : World) : Calls Tryz.prog 189 #[.int .u32 x] w fun e w' => e = .returned (.int .u32 (crcByte x)) ∧ w = w' := by
  go_enter Tryz.func189, Tryz.ntmps189
  go_wp2_with fail
  go_loop [0, 4] (fun v0 v4 => ∃ k : Nat, v4 = .int .i64 k ∧ k ≤ 8 ∧ v0 = .int .u32 (crcBits k x)) (fun _ v4 => 8 - (intOf v4).toNat)
  case atStart => exact ⟨0, rfl, Nat.zero_le _, rfl⟩
  case round =>
    obtain ⟨k, rfl, hk, rfl⟩ := hrel
    have hlt32 := crcBits_lt k hx
    have HS := Lib.hid' (crcBits_succ k x)
    have HE := Lib.hid' (show k = 8 → crcBits k x = crcByte x from fun h => by subst h; rfl)
    generalize crcBits k x = y at *
    by_cases hlt : k < 8
    · have HA := Lib.hid' (and1_u32 hlt32)
      have HX := Lib.hid' (show bits .xor .u32 ((y : Int) / 2) 2197175160 = ((y / 2 ^^^ 2197175160 : Nat) : Int) from xor_u32 (a := y / 2) (b := 2197175160) (by omega) (by decide))
      cases hb : (bits BinOp.and IntKind.u32 (y : Int) 1 == 1) with
      | true =>
        have HV := Lib.hid' (show ((y / 2 ^^^ 2197175160 : Nat)) = crcBit y by
          unfold crcBit
          have := HA.out; simp only [beq_iff_eq] at hb; rw [if_pos (by omega)])
        go_wp2_with fail
        go_round
        case rel => exact ⟨k + 1, by go_num, by omega, by rw [HX.out, HV.out, HS.out]⟩
        case measure => simp [intOf]; omega
      | false =>
        have HV := Lib.hid' (show y / 2 = crcBit y by
          unfold crcBit
          have := HA.out; rw [beq_eq_false_iff_ne] at hb; rw [if_neg (by omega)])
        go_wp2_with fail
        go_round
        case rel => exact ⟨k + 1, by go_num, by omega, by rw [HS.out, ← HV.out]; go_num⟩
        case measure => simp [intOf]; omega
    · have HF := Lib.hid' (HE.out (by omega))
      go_wp2_with fail
      go_ret
      exact ⟨ret_eq (by rw [← HF.out]; rfl), rfl⟩
end Go.Proofs.YtkljeefncopodaaGreat
