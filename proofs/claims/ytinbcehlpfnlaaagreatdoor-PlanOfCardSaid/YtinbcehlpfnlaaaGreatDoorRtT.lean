/- The document's SHA-256: its tables. -/
import Derived.Test.YtinbcehlpfnlaaaGreatDoorCell
import Derived.Test.YtinbcehlpfnlaaaGreatDoorShaM
import Derived.Deep.DeepCutAuto
import Derived.Deep.CutBlock
namespace Go.Proofs.YtinbcehlpfnlaaaGreatDoor
open Go.RowKit
set_option linter.unusedSimpArgs false
set_option linter.unusedVariables false
set_option maxRecDepth 20000

theorem mul_parts (a b : Nat) : a * b = ((a / 4294967296) * (b / 4294967296)) * 18446744073709551616 + ((a / 4294967296) * (b % 4294967296) + (a % 4294967296) * (b / 4294967296)) * 4294967296 + (a % 4294967296) * (b % 4294967296) := by
  have ha := Nat.div_add_mod a 4294967296
  have hb := Nat.div_add_mod b 4294967296
  generalize a / 4294967296 = ah at *
  generalize a % 4294967296 = al at *
  generalize b / 4294967296 = bh at *
  generalize b % 4294967296 = bl at *
  subst ha hb
  simp only [Nat.mul_add, Nat.add_mul]
  have e1 : 4294967296 * ah * (4294967296 * bh) = (ah * bh) * 18446744073709551616 := by
    rw [Nat.mul_mul_mul_comm, Nat.mul_comm]
  have e2 : 4294967296 * ah * bl = ah * bl * 4294967296 := by rw [Nat.mul_assoc, Nat.mul_comm]
  have e3 : al * (4294967296 * bh) = al * bh * 4294967296 := by rw [Nat.mul_left_comm, Nat.mul_comm]
  rw [e1, e2, e3]; omega
set_option maxHeartbeats 2000000 in
theorem times_any (a b : Nat) (ha : a < 18446744073709551616) (hb : b < 18446744073709551616) (w : World) :
    Calls Tryz.prog 74 #[.int .u64 a, .int .u64 b] w fun e w' => e = .returned (.tuple #[.int .u64 ((a * b / 18446744073709551616 : Nat) : Int), .int .u64 ((a * b % 18446744073709551616 : Nat) : Int)]) ∧ w = w' := by
  have hm := mul_parts a b
  have hlt : a * b / 18446744073709551616 < 18446744073709551616 := Nat.div_lt_of_lt_mul (Nat.mul_lt_mul'' ha hb)
  have hw : IntKind.u64.wrap ((a : Int) * (b : Int)) = ((a * b % 18446744073709551616 : Nat) : Int) := by rw [← Int.natCast_mul, IntKind.wrap_u64]; omega
  have hah : a / 4294967296 < 4294967296 := by omega
  have hbh : b / 4294967296 < 4294967296 := by omega
  have hal : a % 4294967296 < 4294967296 := by omega
  have hbl : b % 4294967296 < 4294967296 := by omega
  have ea : (a : Int) / 4294967296 = ((a / 4294967296 : Nat) : Int) := by omega
  have eb : (b : Int) / 4294967296 = ((b / 4294967296 : Nat) : Int) := by omega
  have fa : (a : Int) % 4294967296 = ((a % 4294967296 : Nat) : Int) := by omega
  have fb : (b : Int) % 4294967296 = ((b % 4294967296 : Nat) : Int) := by omega
  generalize a / 4294967296 = ah at *
  generalize a % 4294967296 = al at *
  generalize b / 4294967296 = bh at *
  generalize b % 4294967296 = bl at *
  have u1 : al * bl ≤ 4294967295 * 4294967295 := Nat.mul_le_mul (by omega) (by omega)
  have u2 : ah * bl ≤ 4294967295 * 4294967295 := Nat.mul_le_mul (by omega) (by omega)
  have u3 : al * bh ≤ 4294967295 * 4294967295 := Nat.mul_le_mul (by omega) (by omega)
  have u4 : ah * bh ≤ 4294967295 * 4294967295 := Nat.mul_le_mul (by omega) (by omega)
  have p1 : IntKind.u64.wrap ((al : Int) * (bl : Int)) = ((al * bl : Nat) : Int) := by rw [← Int.natCast_mul]; exact IntWalk.u64_in _ (by omega)
  have p2 : IntKind.u64.wrap ((ah : Int) * (bl : Int)) = ((ah * bl : Nat) : Int) := by rw [← Int.natCast_mul]; exact IntWalk.u64_in _ (by omega)
  have p3 : IntKind.u64.wrap ((al : Int) * (bh : Int)) = ((al * bh : Nat) : Int) := by rw [← Int.natCast_mul]; exact IntWalk.u64_in _ (by omega)
  have p4 : IntKind.u64.wrap ((ah : Int) * (bh : Int)) = ((ah * bh : Nat) : Int) := by rw [← Int.natCast_mul]; exact IntWalk.u64_in _ (by omega)
  generalize al * bl = p at *
  generalize ah * bl = q at *
  generalize al * bh = r at *
  generalize ah * bh = s at *
  have d1 : ((p : Nat) : Int).tdiv 4294967296 = ((p / 4294967296 : Nat) : Int) := by rw [Int.tdiv_eq_ediv_of_nonneg (by omega)]; omega
  have d2 : ((q : Nat) : Int).tdiv 4294967296 = ((q / 4294967296 : Nat) : Int) := by rw [Int.tdiv_eq_ediv_of_nonneg (by omega)]; omega
  have d3 : ((r : Nat) : Int).tdiv 4294967296 = ((r / 4294967296 : Nat) : Int) := by rw [Int.tdiv_eq_ediv_of_nonneg (by omega)]; omega
  have m2 : ((q : Nat) : Int).tmod 4294967296 = ((q % 4294967296 : Nat) : Int) := by rw [Int.tmod_eq_emod_of_nonneg (by omega)]; omega
  have m3 : ((r : Nat) : Int).tmod 4294967296 = ((r % 4294967296 : Nat) : Int) := by rw [Int.tmod_eq_emod_of_nonneg (by omega)]; omega
  have hres : a * b / 18446744073709551616 = s + q / 4294967296 + r / 4294967296 + (p / 4294967296 + q % 4294967296 + r % 4294967296) / 4294967296 := by omega
  rw [hres] at hlt ⊢
  generalize a * b % 18446744073709551616 = lo at *
  clear hm hres ha hb
  have b1 : p / 4294967296 < 4294967296 := by omega
  have b2 : q / 4294967296 < 4294967296 := by omega
  have b3 : r / 4294967296 < 4294967296 := by omega
  have b4 : q % 4294967296 < 4294967296 := by omega
  have b5 : r % 4294967296 < 4294967296 := by omega
  generalize p / 4294967296 = pd at *
  generalize q / 4294967296 = qd at *
  generalize r / 4294967296 = rd at *
  generalize q % 4294967296 = qm at *
  generalize r % 4294967296 = rm at *
  have d4 : ((pd : Int) + (qm : Int) + (rm : Int)).tdiv 4294967296 = (((pd + qm + rm) / 4294967296 : Nat) : Int) := by rw [Int.tdiv_eq_ediv_of_nonneg (by omega)]; omega
  generalize (pd + qm + rm) / 4294967296 = md at *
  clear u1 u2 u3
  go_enter Tryz.func74, Tryz.ntmps74
  go_wp2
  go_ret2
  exact ⟨ret_eq (by simp), rfl⟩
end Go.Proofs.YtinbcehlpfnlaaaGreatDoor

namespace Go.Proofs.YtinbcehlpfnlaaaGreatDoor
open Go.RowKit
set_option linter.unusedSimpArgs false
set_option linter.unusedVariables false
set_option maxRecDepth 20000

def sqHit (p y : Nat) : Bool := decide (y * y / 18446744073709551616 < p) || (y * y / 18446744073709551616 == p && y * y % 18446744073709551616 == 0)
def sqL (p : Nat) : Nat → Nat → Nat
  | 0, x => x
  | i + 1, x => sqL p i (if sqHit p (x + 2 ^ i) = true then x + 2 ^ i else x)
def sqN (p : Nat) : Nat := sqL p 37 0 % 4294967296
theorem sqL_next (p i x : Nat) : sqL p (i + 1) x = sqL p i (if sqHit p (x + 2 ^ i) = true then x + 2 ^ i else x) := rfl
theorem half_pow (i : Nat) : 2 ^ (i + 1) / 2 = 2 ^ i := by rw [Nat.pow_succ]; omega
set_option maxHeartbeats 4000000 in
theorem square_any (p : Nat) (hp : p < 4294967296) (w : World) : Calls Tryz.prog 60 #[.int .u64 p] w fun e w' => e = .returned (.int .u32 ((sqN p : Nat) : Int)) ∧ w = w' := by
  go_enter Tryz.func60, Tryz.ntmps60
  go_wp2_with fail
  go_loop [4, 3] (fun v4 v3 => ∃ i x : Nat, v4 = .int .u64 ((2 ^ i / 2 : Nat) : Int) ∧ v3 = .int .u64 (x : Nat) ∧ x + 2 ^ i ≤ 137438953472 ∧ Hid (sqL p 37 0 = sqL p i x)) (fun v4 _ => (intOf v4).toNat)
  case atStart => exact ⟨37, 0, rfl, rfl, by decide, Lib.hid' rfl⟩
  case round =>
    obtain ⟨i, x, rfl, rfl, hx, HI⟩ := hrel
    cases i with
    | zero =>
      have HR := Lib.hid' (show sqN p = x % 4294967296 by unfold sqN; rw [HI.out]; rfl)
      have hb : 2 ^ 0 / 2 = 0 := rfl
      rw [hb]
      have hc : IntKind.u32.wrap (x : Int) = ((x % 4294967296 : Nat) : Int) := by rw [IntKind.wrap_u32]; omega
      clear hb hx
      go_wp2_with fail
      go_ret
      exact ⟨ret_eq (by rw [HR.out]; simp), rfl⟩
    | succ i =>
      have HI2 := Lib.hid' (HI.out.trans (sqL_next p i x))
      have hpos : 1 ≤ 2 ^ i := Nat.one_le_two_pow
      rw [Nat.pow_succ] at hx
      rw [half_pow]
      have hT : Calls Tryz.prog 74 #[.int .u64 ((x : Int) + ((2 ^ i : Nat) : Int)), .int .u64 ((x : Int) + ((2 ^ i : Nat) : Int))] w (fun e w' => e = .returned (.tuple #[.int .u64 (((x + 2 ^ i) * (x + 2 ^ i) / 18446744073709551616 : Nat) : Int), .int .u64 (((x + 2 ^ i) * (x + 2 ^ i) % 18446744073709551616 : Nat) : Int)]) ∧ w = w') := by
        have := times_any (x + 2 ^ i) (x + 2 ^ i) (by omega) (by omega) w
        rw [Int.natCast_add] at this
        exact this
      have HT := Lib.hid' hT
      have HH := Lib.hid' (show sqHit p (x + 2 ^ i) = (decide ((x + 2 ^ i) * (x + 2 ^ i) / 18446744073709551616 < p) || ((x + 2 ^ i) * (x + 2 ^ i) / 18446744073709551616 == p && (x + 2 ^ i) * (x + 2 ^ i) % 18446744073709551616 == 0)) from rfl)
      have hhi : (x + 2 ^ i) * (x + 2 ^ i) / 18446744073709551616 < 4294967296 := by
        have : (x + 2 ^ i) * (x + 2 ^ i) ≤ 137438953472 * 137438953472 := Nat.mul_le_mul (by omega) (by omega)
        omega
      have hlo : (x + 2 ^ i) * (x + 2 ^ i) % 18446744073709551616 < 18446744073709551616 := Nat.mod_lt _ (by decide)
      generalize (x + 2 ^ i) * (x + 2 ^ i) / 18446744073709551616 = hi at *
      generalize (x + 2 ^ i) * (x + 2 ^ i) % 18446744073709551616 = lo at *
      generalize sqHit p (x + 2 ^ i) = hit at *
      generalize hbb : 2 ^ i = b at *
      have HBB := Lib.hid' hbb
      clear hT HI hbb
      have hb0 : (0 : Int) < (b : Int) := by omega
      have HB2 := Lib.hid' (show ((b : Int) / 2) = ((2 ^ i / 2 : Nat) : Int) by rw [HBB.out]; omega)
      go_upto_region 6 with (go_at_call 74; refine HT.out.mono ?_; rintro e w' ⟨rfl, rfl⟩)
      have hbm : b / 2 < b := by omega
      cases hit with
      | true =>
        have HI3 := Lib.hid' (HI2.out.trans (by rw [if_pos rfl]))
        have hor := HH.out
        by_cases h1 : hi < p
        · have h1' : (hi : Int) < (p : Int) := by omega
          clear hor
          go_wp2_with fail
          go_round
          case rel => exact ⟨i, x + b, by rw [HB2.out], by simp, by rw [HBB.out]; omega, HI3⟩
          case measure => simp [intOf]; omega
        · rw [decide_eq_false h1, Bool.false_or, eq_comm, Bool.and_eq_true, beq_iff_eq, beq_iff_eq] at hor
          have h1' : ¬ (hi : Int) < (p : Int) := by omega
          have h2' : ((hi : Int) == (p : Int)) = true := by rw [beq_iff_eq]; omega
          have h3' : ((lo : Int) == 0) = true := by rw [beq_iff_eq]; omega
          clear hor h1
          go_wp2_with fail
          go_round
          case rel => exact ⟨i, x + b, by rw [HB2.out], by simp, by rw [HBB.out]; omega, HI3⟩
          case measure => simp [intOf]; omega
      | false =>
        have HI3 := Lib.hid' (HI2.out.trans (by rw [if_neg (by decide)]))
        have hor := HH.out
        rw [eq_comm, Bool.or_eq_false_iff, decide_eq_false_iff_not, Bool.and_eq_false_iff, beq_eq_false_iff_ne, beq_eq_false_iff_ne] at hor
        have h1' : ¬ (hi : Int) < (p : Int) := by omega
        by_cases h2 : hi = p
        · have h2' : ((hi : Int) == (p : Int)) = true := by rw [beq_iff_eq]; omega
          have h3' : ((lo : Int) == 0) = false := by rw [beq_eq_false_iff_ne]; omega
          clear hor h2
          go_wp2_with fail
          go_round
          case rel => exact ⟨i, x, by rw [HB2.out], rfl, by rw [HBB.out]; omega, HI3⟩
          case measure => simp [intOf]; omega
        · have h2' : ((hi : Int) == (p : Int)) = false := by rw [beq_eq_false_iff_ne]; omega
          clear hor h2
          go_wp2_with fail
          go_round
          case rel => exact ⟨i, x, by rw [HB2.out], rfl, by rw [HBB.out]; omega, HI3⟩
          case measure => simp [intOf]; omega
end Go.Proofs.YtinbcehlpfnlaaaGreatDoor

namespace Go.Proofs.YtinbcehlpfnlaaaGreatDoor
open Go.RowKit
set_option linter.unusedSimpArgs false
set_option linter.unusedVariables false
set_option maxRecDepth 20000

def cuTop (y : Nat) : Nat := y * y / 18446744073709551616 * y + y * y % 18446744073709551616 * y / 18446744073709551616
def cuLow (y : Nat) : Nat := y * y % 18446744073709551616 * y % 18446744073709551616
def cuHit (p y : Nat) : Bool := decide (cuTop y / 4294967296 < p) || (cuTop y / 4294967296 == p && cuTop y % 4294967296 == 0 && cuLow y == 0)
def cuL (p : Nat) : Nat → Nat → Nat
  | 0, x => x
  | i + 1, x => cuL p i (if cuHit p (x + 2 ^ i) = true then x + 2 ^ i else x)
def cuN (p : Nat) : Nat := cuL p 36 0 % 4294967296
theorem cuL_next (p i x : Nat) : cuL p (i + 1) x = cuL p i (if cuHit p (x + 2 ^ i) = true then x + 2 ^ i else x) := rfl
set_option maxHeartbeats 4000000 in
theorem cube_any (p : Nat) (hp : p < 4294967296) (w : World) : Calls Tryz.prog 58 #[.int .u64 p] w fun e w' => e = .returned (.int .u32 ((cuN p : Nat) : Int)) ∧ w = w' := by
  go_enter Tryz.func58, Tryz.ntmps58
  go_wp2_with fail
  go_loop [4, 3] (fun v4 v3 => ∃ i x : Nat, v4 = .int .u64 ((2 ^ i / 2 : Nat) : Int) ∧ v3 = .int .u64 (x : Nat) ∧ x + 2 ^ i ≤ 68719476736 ∧ Hid (cuL p 36 0 = cuL p i x)) (fun v4 _ => (intOf v4).toNat)
  case atStart => exact ⟨36, 0, rfl, rfl, by decide, Lib.hid' rfl⟩
  case round =>
    obtain ⟨i, x, rfl, rfl, hx, HI⟩ := hrel
    cases i with
    | zero =>
      have HR := Lib.hid' (show cuN p = x % 4294967296 by unfold cuN; rw [HI.out]; rfl)
      have hb : 2 ^ 0 / 2 = 0 := rfl
      rw [hb]
      have hc : IntKind.u32.wrap (x : Int) = ((x % 4294967296 : Nat) : Int) := by rw [IntKind.wrap_u32]; omega
      clear hb hx
      go_wp2_with fail
      go_ret
      exact ⟨ret_eq (by rw [HR.out]; simp), rfl⟩
    | succ i =>
      have HI2 := Lib.hid' (HI.out.trans (cuL_next p i x))
      have hpos : 1 ≤ 2 ^ i := Nat.one_le_two_pow
      rw [Nat.pow_succ] at hx
      rw [half_pow]
      have hy : x + 2 ^ i < 68719476736 := by omega
      have hylo : x + 2 ^ i + 2 ^ i ≤ 68719476736 := by omega
      have HYD := Lib.hid' (show ((x : Int) + ((2 ^ i : Nat) : Int)) = ((x + 2 ^ i : Nat) : Int) by rw [Int.natCast_add])
      have HH := Lib.hid' (show cuHit p (x + 2 ^ i) = (decide (cuTop (x + 2 ^ i) / 4294967296 < p) || (cuTop (x + 2 ^ i) / 4294967296 == p && cuTop (x + 2 ^ i) % 4294967296 == 0 && cuLow (x + 2 ^ i) == 0)) from rfl)
      have HTP := Lib.hid' (show cuTop (x + 2 ^ i) = (x + 2 ^ i) * (x + 2 ^ i) / 18446744073709551616 * (x + 2 ^ i) + (x + 2 ^ i) * (x + 2 ^ i) % 18446744073709551616 * (x + 2 ^ i) / 18446744073709551616 from rfl)
      have HLW := Lib.hid' (show cuLow (x + 2 ^ i) = (x + 2 ^ i) * (x + 2 ^ i) % 18446744073709551616 * (x + 2 ^ i) % 18446744073709551616 from rfl)
      generalize hyy : x + 2 ^ i = y at *
      have HYY := Lib.hid' hyy
      have hT1 := times_any y y (by omega) (by omega) w
      have hlo : y * y % 18446744073709551616 < 18446744073709551616 := Nat.mod_lt _ (by decide)
      have hhi : y * y / 18446744073709551616 ≤ 256 := by
        have : y * y ≤ 68719476736 * 68719476736 := Nat.mul_le_mul (by omega) (by omega)
        omega
      generalize y * y / 18446744073709551616 = hi at *
      generalize y * y % 18446744073709551616 = lo at *
      have hT2 := times_any lo y hlo (by omega) w
      have hh2 : lo * y / 18446744073709551616 ≤ 68719476736 := by
        have : lo * y ≤ 18446744073709551616 * 68719476736 := Nat.mul_le_mul (by omega) (by omega)
        omega
      have hl2 : lo * y % 18446744073709551616 < 18446744073709551616 := Nat.mod_lt _ (by decide)
      have hpr : hi * y ≤ 256 * 68719476736 := Nat.mul_le_mul hhi (by omega)
      have hpw : IntKind.u64.wrap ((hi : Int) * (y : Int)) = ((hi * y : Nat) : Int) := by rw [← Int.natCast_mul]; exact IntWalk.u64_in _ (by omega)
      generalize lo * y / 18446744073709551616 = h2 at *
      generalize lo * y % 18446744073709551616 = l2 at *
      generalize hi * y = pr at *
      rw [HTP.out, HLW.out] at HH
      generalize cuHit p y = hit at *
      have htl : pr + h2 < 18446744073709551616 := by omega
      have HT1 := Lib.hid' hT1
      have HT2 := Lib.hid' hT2
      have tq : ((pr : Int) + (h2 : Int)) / 4294967296 = (((pr + h2) / 4294967296 : Nat) : Int) := by omega
      have tm : ((pr : Int) + (h2 : Int)) % 4294967296 = (((pr + h2) % 4294967296 : Nat) : Int) := by omega
      have tq2 : ((pr : Int) + (h2 : Int)).tdiv 4294967296 = (((pr + h2) / 4294967296 : Nat) : Int) := by rw [Int.tdiv_eq_ediv_of_nonneg (by omega)]; omega
      have tm2 : ((pr : Int) + (h2 : Int)).tmod 4294967296 = (((pr + h2) % 4294967296 : Nat) : Int) := by rw [Int.tmod_eq_emod_of_nonneg (by omega)]; omega
      have tb : (pr + h2) / 4294967296 < 4294967296 := by omega
      have tb2 : (pr + h2) % 4294967296 < 4294967296 := by omega
      generalize (pr + h2) / 4294967296 = tp at *
      generalize (pr + h2) % 4294967296 = tl at *
      generalize hbb : 2 ^ i = b at *
      have HBB := Lib.hid' hbb
      clear hT1 hT2 HI hyy hbb HTP HLW hlo
      have hb0 : (0 : Int) < (b : Int) := by omega
      have HB2 := Lib.hid' (show ((b : Int) / 2) = ((2 ^ i / 2 : Nat) : Int) by rw [HBB.out]; omega)
      have hbm : b / 2 < b := by omega
      have hyd := HYD.out
      go_upto_region 7 with (go_at_call 74; refine HT1.out.mono ?_; rintro e w' ⟨rfl, rfl⟩)
      go_upto_region 9 with (go_at_call 74; refine HT2.out.mono ?_; rintro e w' ⟨rfl, rfl⟩)
      cases hit with
      | true =>
        have HI3 := Lib.hid' (HI2.out.trans (by rw [if_pos rfl]))
        have hor := HH.out
        by_cases h1 : tp < p
        · have h1' : (tp : Int) < (p : Int) := by omega
          clear hor
          go_wp2_with fail
          go_round
          case rel => exact ⟨i, y, by rw [HB2.out], by first | rfl | simp, by rw [HBB.out]; omega, HI3⟩
          case measure => simp [intOf]; omega
        · rw [decide_eq_false h1, Bool.false_or, eq_comm, Bool.and_eq_true, Bool.and_eq_true, beq_iff_eq, beq_iff_eq, beq_iff_eq] at hor
          have h1' : ¬ (tp : Int) < (p : Int) := by omega
          have h2' : ((tp : Int) == (p : Int)) = true := by rw [beq_iff_eq]; omega
          have h3' : ((tl : Int) == 0) = true := by rw [beq_iff_eq]; omega
          have h4' : ((l2 : Int) == 0) = true := by rw [beq_iff_eq]; omega
          clear hor h1
          go_wp2_with fail
          go_round
          case rel => exact ⟨i, y, by rw [HB2.out], by first | rfl | simp, by rw [HBB.out]; omega, HI3⟩
          case measure => simp [intOf]; omega
      | false =>
        have HI3 := Lib.hid' (HI2.out.trans (by rw [if_neg (by decide)]))
        have hor := HH.out
        rw [eq_comm, Bool.or_eq_false_iff, decide_eq_false_iff_not, Bool.and_eq_false_iff, Bool.and_eq_false_iff, beq_eq_false_iff_ne, beq_eq_false_iff_ne, beq_eq_false_iff_ne] at hor
        have h1' : ¬ (tp : Int) < (p : Int) := by omega
        by_cases h2 : tp = p
        · have h2' : ((tp : Int) == (p : Int)) = true := by rw [beq_iff_eq]; omega
          by_cases h3 : tl = 0
          · have h3' : ((tl : Int) == 0) = true := by rw [beq_iff_eq]; omega
            have h4' : ((l2 : Int) == 0) = false := by rw [beq_eq_false_iff_ne]; omega
            clear hor h2 h3
            go_wp2_with fail
            go_round
            case rel => exact ⟨i, x, by rw [HB2.out], by first | rfl | simp, by rw [HBB.out]; omega, HI3⟩
            case measure => simp [intOf]; omega
          · have h3' : ((tl : Int) == 0) = false := by rw [beq_eq_false_iff_ne]; omega
            clear hor h2 h3
            go_wp2_with fail
            go_round
            case rel => exact ⟨i, x, by rw [HB2.out], by first | rfl | simp, by rw [HBB.out]; omega, HI3⟩
            case measure => simp [intOf]; omega
        · have h2' : ((tp : Int) == (p : Int)) = false := by rw [beq_eq_false_iff_ne]; omega
          clear hor h2
          go_wp2_with fail
          go_round
          case rel => exact ⟨i, x, by rw [HB2.out], by first | rfl | simp, by rw [HBB.out]; omega, HI3⟩
          case measure => simp [intOf]; omega
end Go.Proofs.YtinbcehlpfnlaaaGreatDoor

namespace Go.Proofs.YtinbcehlpfnlaaaGreatDoor
open Go.RowKit
set_option linter.unusedSimpArgs false
set_option linter.unusedVariables false
set_option maxRecDepth 20000

def prD : Nat → Nat → Nat → Option Nat
  | 0, _, _ => none
  | f + 1, n, d => if d * d ≤ n then (if n % d = 0 then prD f (n + 1) 2 else prD f n (d + 1)) else some n
def PRM : List Nat := [2, 3, 5, 7, 11, 13, 17, 19, 23, 29, 31, 37, 41, 43, 47, 53, 59, 61, 67, 71, 73, 79, 83, 89, 97, 101, 103, 107, 109, 113, 127, 131, 137, 139, 149, 151, 157, 163, 167, 173, 179, 181, 191, 193, 197, 199, 211, 223, 227, 229, 233, 239, 241, 251, 257, 263, 269, 271, 277, 281, 283, 293, 307, 311]
/-- the prime ahead of the i-th -/
def prevP (i : Nat) : Nat := (1 :: PRM).getD i 0
theorem prev_all : (List.range 64).all (fun i => prD 400 (prevP i + 1) 2 == some (prevP (i + 1)) && decide (prevP i + 1 ≤ 312)) = true := by decide +kernel
theorem prev_at {i : Nat} (h : i < 64) : prD 400 (prevP i + 1) 2 = some (prevP (i + 1)) ∧ prevP i ≤ 311 := by
  have := List.all_eq_true.1 prev_all i (List.mem_range.2 h)
  simp only [Bool.and_eq_true, beq_iff_eq, decide_eq_true_eq] at this
  exact ⟨this.1, by omega⟩
theorem prD_le : ∀ {f n d r : Nat}, prD f n d = some r → n ≤ r
  | 0, _, _, _, h => by cases h
  | f + 1, n, d, r, h => by
    unfold prD at h
    split at h
    · split at h
      · have := prD_le h; omega
      · exact prD_le h
    · simp only [Option.some.injEq] at h; omega
theorem prD_some {f n d r : Nat} (h : prD f n d = some r) : ∃ g, f = g + 1 ∧ (if d * d ≤ n then (if n % d = 0 then prD g (n + 1) 2 else prD g n (d + 1)) else some n) = some r := by
  cases f with
  | zero => cases h
  | succ g => exact ⟨g, rfl, h⟩
theorem sq_small {d n : Nat} (h : d * d ≤ n) (hn : n ≤ 400) : d ≤ 20 := by
  apply Nat.le_of_not_lt
  intro h2
  have : 21 * 21 ≤ d * d := Nat.mul_le_mul h2 h2
  omega
theorem prev_le {i : Nat} (h : i ≤ 64) : prevP i ≤ 311 := by
  cases i with
  | zero => decide
  | succ i =>
    by_cases h2 : i + 1 < 64
    · exact (prev_at h2).2
    · obtain rfl : i = 63 := by omega
      decide
set_option maxHeartbeats 4000000 in
theorem prime_any (k : Nat) (hk : k < 64) (w : World) : Calls Tryz.prog 59 #[.int .i64 k] w fun e w' => e = .returned (.int .u64 ((prevP (k + 1) : Nat) : Int)) ∧ w = w' := by
  go_enter Tryz.func59, Tryz.ntmps59
  go_wp2_with fail
  go_loop [4, 3] (fun v4 v3 => ∃ i : Nat, v4 = .int .i64 (i : Nat) ∧ i ≤ k + 1 ∧ v3 = .int .u64 ((prevP i : Nat) : Int)) (fun v4 _ => k + 1 - (intOf v4).toNat)
  case atStart => exact ⟨0, rfl, Nat.zero_le _, rfl⟩
  case round =>
    obtain ⟨i, rfl, hi, rfl⟩ := hrel
    by_cases hlt : i ≤ k
    · have hlt' : (i : Int) ≤ (k : Int) := by omega
      obtain ⟨h1, h2⟩ := prev_at (show i < 64 by omega)
      have h3 := prev_le (show i + 1 ≤ 64 by omega)
      have HP := Lib.hid' h1
      have HPV := Lib.hid' (show prevP (i + 1) = prevP (i + 1) from rfl)
      generalize hr : prevP (i + 1) = r at *
      generalize prevP i = n0 at *
      have HRR := Lib.hid' hr
      clear h1 hr
      go_wp2_with fail
      go_loop [5, 3] (fun v5 v3 => ∃ d n f : Nat, v5 = .int .u64 (d : Nat) ∧ v3 = .int .u64 (n : Nat) ∧ 2 ≤ d ∧ d ≤ 21 ∧ n ≤ r ∧ Hid (prD f n d = some r)) (fun v5 v3 => (r - (intOf v3).toNat) * 100 + (30 - (intOf v5).toNat))
      case atStart => exact ⟨2, n0 + 1, 400, rfl, by simp, by omega, by omega, prD_le HP.out, HP⟩
      case round =>
        obtain ⟨d, n, f, rfl, rfl, hd1, hd2, hn, HF⟩ := hrel
        obtain ⟨g, _, hg⟩ := prD_some HF.out
        have hdd : d * d ≤ 441 := Nat.mul_le_mul hd2 hd2
        have hsq : d * d ≤ n → d ≤ 20 := fun h => sq_small h (by omega)
        have hw : IntKind.u64.wrap ((d : Int) * (d : Int)) = ((d * d : Nat) : Int) := by rw [← Int.natCast_mul]; exact IntWalk.u64_in _ (by omega)
        generalize d * d = dd at *
        by_cases hq : dd ≤ n
        · have hq' : (dd : Int) ≤ (n : Int) := by omega
          have hd20 := hsq hq
          rw [if_pos hq] at hg
          have hd0 : ¬ (d : Int) = 0 := by omega
          have hd0' : ((d : Int) == 0) = false := by rw [beq_eq_false_iff_ne]; omega
          have ht : (n : Int).tmod (d : Int) = ((n % d : Nat) : Int) := by rw [Int.tmod_eq_emod_of_nonneg (by omega)]; omega
          have ht2 : (n : Int) % (d : Int) = ((n % d : Nat) : Int) := by omega
          have hml : n % d < d := Nat.mod_lt _ (by omega)
          by_cases hz : n % d = 0
          · rw [if_pos hz] at hg
            have hle := prD_le hg
            have HG := Lib.hid' hg
            have hz' : (((n % d : Nat) : Int) == 0) = true := by rw [hz]; rfl
            generalize n % d = md at *
            clear hz hg hsq HF
            go_wp2_with fail
            go_round
            case rel => exact ⟨2, n + 1, g, rfl, by simp, by omega, by omega, hle, HG⟩
            case measure => simp [intOf]; omega
          · rw [if_neg hz] at hg
            have HG := Lib.hid' hg
            have hz' : (((n % d : Nat) : Int) == 0) = false := by rw [beq_eq_false_iff_ne]; omega
            generalize n % d = md at *
            clear hz hg hsq HF
            go_wp2_with fail
            go_round
            case rel => exact ⟨d + 1, n, g, by simp, rfl, by omega, by omega, hn, HG⟩
            case measure => simp [intOf]; omega
        · have hq' : ¬ (dd : Int) ≤ (n : Int) := by omega
          rw [if_neg hq, Option.some.injEq] at hg
          have HG := Lib.hid' hg
          clear hg hsq HF
          go_wp2_with fail
          go_round
          case rel => exact ⟨i + 1, by go_num, by omega, by rw [HG.out, HRR.out]⟩
          case measure => simp [intOf]; omega
    · obtain rfl : i = k + 1 := by omega
      have hlt' : ¬ ((k : Int) + 1) ≤ (k : Int) := by omega
      go_wp2_with fail
      go_ret
      exact ⟨rfl, rfl⟩
end Go.Proofs.YtinbcehlpfnlaaaGreatDoor

namespace Go.Proofs.YtinbcehlpfnlaaaGreatDoor
open Go.RowKit
set_option linter.unusedSimpArgs false
set_option linter.unusedVariables false
set_option maxRecDepth 20000

theorem etWs : ElemT Tryz.prog 95 111 1 4 := ElemT.mk' (z := .int .u32 0) Tryz.underlying95 (by kernel_rfl) rfl (by decide) (by decide)
theorem cu_all : (List.range 64).all (fun i => cuN (prevP (i + 1)) == (shaK.getD i 0).toNat) = true := by decide +kernel
theorem sq_all : (List.range 8).all (fun i => sqN (prevP (i + 1)) == (shaH.list.getD i 0).toNat) = true := by decide +kernel
theorem cu_at {i : Nat} (h : i < 64) : cuN (prevP (i + 1)) = wN (shaK.getD i 0) := by
  have := List.all_eq_true.1 cu_all i (List.mem_range.2 h)
  exact beq_iff_eq.1 this
theorem sq_at {i : Nat} (h : i < 8) : sqN (prevP (i + 1)) = wN (shaH.list.getD i 0) := by
  have := List.all_eq_true.1 sq_all i (List.mem_range.2 h)
  exact beq_iff_eq.1 this
theorem take_w (X : List W32) {i : Nat} (h : i < X.length) : (X.take i).map wV ++ [wV (X.getD i 0)] = (X.take (i + 1)).map wV := by
  rw [List.take_succ_eq_append_getElem h, List.map_append]
  simp [List.getD, h]
def TabR (w : World) (en : Ending) (w' : World) : Prop :=
  ∃ a c a2 c2, en = .returned (.tuple #[.slice a 64 c, .slice a2 8 c2]) ∧ SlV w' (.slice a 64 c) 64 (shaK.map wV) ∧ SlV w' (.slice a2 8 c2) 8 (shaH.list.map wV) ∧ Below w.heap.size w w'
set_option maxHeartbeats 4000000 in
theorem tables_any (w : World) : Calls Tryz.prog 41 #[] w (TabR w) := by
  go_enter Tryz.func41, Tryz.ntmps41
  go_wp2_with fail
  have H0 : Sep w NoF [.row 111 1 (.slice (some ⟨w.heap.size, 0, none⟩) 0 0) 0 [], .row 111 1 (.slice (some ⟨w.heap.size + 1, 0, none⟩) 0 0) 0 []] ((w.alloc (.cells #[] 111)).alloc (.cells #[] 111)) :=
    (((Sep.start w).newRowAt w.heap.size 111 1 rfl).newRowAt (w.heap.size + 1) 111 1 (by simp)).focus 1 rfl
  generalize (w.alloc (.cells #[] 111)).alloc (.cells #[] 111) = w1 at *
  have HH0 := Lib.hid' H0
  clear H0
  go_loopw [4, 2] (fun v4 v2 wr => ∃ (i : Nat) (a : Option Addr) (c : Nat), v4 = .int .i64 (i : Nat) ∧ i ≤ 64 ∧ v2 = .slice a i c ∧ Hid (Sep w NoF [.row 111 1 (.slice a i c) i ((shaK.take i).map wV), .row 111 1 (.slice (some ⟨w.heap.size + 1, 0, none⟩) 0 0) 0 []] wr)) (fun v4 _ _ => 64 - (intOf v4).toNat)
  case atStart => exact ⟨0, _, 0, rfl, by decide, rfl, HH0⟩
  case round =>
    obtain ⟨i, a, c, rfl, hi, rfl, HS⟩ := hrel
    by_cases hlt : i < 64
    · have hlt' : (i : Int) < 64 := by omega
      have HP := Lib.hid' (prime_any i hlt wr)
      have HCU := Lib.hid' (cube_any (prevP (i + 1)) (by have := prev_le (show i + 1 ≤ 64 by omega); omega) wr)
      rw [cu_at hlt] at HCU
      have HT := Lib.hid' (take_w shaK (show i < shaK.length from hlt))
      generalize prevP (i + 1) = pp at *
      have HW := Lib.hid' (show wV (shaK.getD i 0) = .int .u32 ((wN (shaK.getD i 0) : Nat) : Int) from rfl)
      generalize shaK.getD i 0 = x at *
      have H1 := HS.out
      go_upto_region 4 with (first | (go_at_call 59; refine HP.out.mono ?_; rintro e w' ⟨rfl, rfl⟩) | (go_at_call 58; refine HCU.out.mono ?_; rintro e w' ⟨rfl, rfl⟩) | (at_builtin; refine Sep.append etWs rfl (.tmp 12) (.tmp 16) rfl [wV x] rfl H1 0 rfl rfl rfl (by simp [Value.oneCell', wV]) (by omega) ?_; intro a9 c9 w9 H9))
      have H9' : Sep w NoF [.row 111 1 (.slice a9 (i + 1) c9) (i + 1) ((shaK.take i).map wV ++ [wV x]), .row 111 1 (.slice (some ⟨w.heap.size + 1, 0, none⟩) 0 0) 0 []] w9 := H9
      rw [HT.out] at H9'
      have H10 := Lib.hid' H9'
      clear H9 H9' H1 HS HP HCU
      go_wp2_with fail
      go_roundw
      case rel => exact ⟨i + 1, a9, c9, by go_num, by omega, by first | rfl | simp, H10⟩
      case measure => simp [intOf]; omega
    · obtain rfl : i = 64 := by omega
      have H1 : Sep w NoF [.row 111 1 (.slice a 64 c) 64 (shaK.map wV), .row 111 1 (.slice (some ⟨w.heap.size + 1, 0, none⟩) 0 0) 0 []] wr := by have := HS.out; rwa [List.take_of_length_le (by decide)] at this
      have H2 := Lib.hid' (H1.focus 1 rfl)
      rw [show ((64 : Nat) : Int) = 64 from rfl]
      clear hlt hi HS H1
      go_wp2_with fail
      go_loopw [5, 3] (fun v5 v3 wr => ∃ (i : Nat) (a2 : Option Addr) (c2 : Nat), v5 = .int .i64 (i : Nat) ∧ i ≤ 8 ∧ v3 = .slice a2 i c2 ∧ Hid (Sep w NoF [.row 111 1 (.slice a2 i c2) i ((shaH.list.take i).map wV), .row 111 1 (.slice a 64 c) 64 (shaK.map wV)] wr)) (fun v5 _ _ => 8 - (intOf v5).toNat)
      case atStart => exact ⟨0, _, 0, rfl, by decide, rfl, H2⟩
      case round =>
        obtain ⟨i, a2, c2, rfl, hi, rfl, HS⟩ := hrel
        by_cases hlt : i < 8
        · have hlt' : (i : Int) < 8 := by omega
          have HP := Lib.hid' (prime_any i (by omega) wr)
          have HCU := Lib.hid' (square_any (prevP (i + 1)) (by have := prev_le (show i + 1 ≤ 64 by omega); omega) wr)
          rw [sq_at hlt] at HCU
          have HT := Lib.hid' (take_w shaH.list (show i < shaH.list.length from hlt))
          generalize prevP (i + 1) = pp at *
          generalize shaH.list.getD i 0 = x at *
          have H1 := HS.out
          go_upto_region 8 with (first | (go_at_call 59; refine HP.out.mono ?_; rintro e w' ⟨rfl, rfl⟩) | (go_at_call 60; refine HCU.out.mono ?_; rintro e w' ⟨rfl, rfl⟩) | (at_builtin; refine Sep.append etWs rfl (.tmp 22) (.tmp 26) rfl [wV x] rfl H1 0 rfl rfl rfl (by simp [Value.oneCell', wV]) (by omega) ?_; intro a9 c9 w9 H9))
          have H9' : Sep w NoF [.row 111 1 (.slice a9 (i + 1) c9) (i + 1) ((shaH.list.take i).map wV ++ [wV x]), .row 111 1 (.slice a 64 c) 64 (shaK.map wV)] w9 := H9
          rw [HT.out] at H9'
          have H10 := Lib.hid' H9'
          clear H9 H9' H1 HS HP HCU
          go_wp2_with fail
          go_roundw
          case rel => exact ⟨i + 1, a9, c9, by go_num, by omega, by first | rfl | simp, H10⟩
          case measure => simp [intOf]; omega
        · obtain rfl : i = 8 := by omega
          have H1 : Sep w NoF [.row 111 1 (.slice a2 8 c2) 8 (shaH.list.map wV), .row 111 1 (.slice a 64 c) 64 (shaK.map wV)] wr := by have := HS.out; rwa [List.take_of_length_le (by decide)] at this
          rw [show ((8 : Nat) : Int) = 8 from rfl]
          have hs1 := Lib.hid' (SlV.of_own (H1.row 1 rfl))
          have hs2 := Lib.hid' (SlV.of_own (H1.row 0 rfl))
          have hb := Lib.hid' H1.toBelow
          clear hlt hi HS H1
          go_wp2_with fail
          go_ret2
          exact ⟨a, c, a2, c2, rfl, hs1.out, hs2.out, hb.out⟩
end Go.Proofs.YtinbcehlpfnlaaaGreatDoor
