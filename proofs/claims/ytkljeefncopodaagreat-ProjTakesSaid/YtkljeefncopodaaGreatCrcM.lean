/- The check sum, bit by bit and by a table: the same number. Plain. -/
import Derived.KernelRfl
namespace Go.Proofs.YtkljeefncopodaaGreat
set_option linter.unusedSimpArgs false
set_option linter.unusedVariables false

/-- one bit goes -/
def crcBit (x : Nat) : Nat := if x % 2 = 1 then (x / 2) ^^^ 2197175160 else x / 2
def crcBits : Nat → Nat → Nat
  | 0, x => x
  | k + 1, x => crcBits k (crcBit x)
def crcByte (x : Nat) : Nat := crcBits 8 x
theorem crcBits_succ (k x : Nat) : crcBits (k + 1) x = crcBit (crcBits k x) := by
  induction k generalizing x with
  | zero => rfl
  | succ k ih => rw [crcBits, ih]; rfl
theorem crcBit_xor (a b : Nat) : crcBit (a ^^^ b) = crcBit a ^^^ crcBit b := by
  unfold crcBit
  have hd : (a ^^^ b) / 2 = a / 2 ^^^ b / 2 := Nat.xor_div_two
  have hm := @Nat.xor_mod_two_eq_one a b
  rw [hd]
  have ha := Nat.mod_two_eq_zero_or_one a
  have hb := Nat.mod_two_eq_zero_or_one b
  rcases ha with ha | ha <;> rcases hb with hb | hb
  · rw [if_neg (by rw [hm]; omega), if_neg (by omega), if_neg (by omega)]
  · rw [if_pos (by rw [hm]; omega), if_neg (by omega), if_pos hb, Nat.xor_assoc]
  · rw [if_pos (by rw [hm]; omega), if_pos ha, if_neg (by omega), Nat.xor_assoc, Nat.xor_assoc, Nat.xor_comm 2197175160]
  · rw [if_neg (by rw [hm]; omega), if_pos ha, if_pos hb, Nat.xor_assoc, ← Nat.xor_assoc 2197175160, Nat.xor_comm 2197175160 (b / 2), Nat.xor_assoc, Nat.xor_self, Nat.xor_zero]
theorem crcBits_xor (k a b : Nat) : crcBits k (a ^^^ b) = crcBits k a ^^^ crcBits k b := by
  induction k generalizing a b with
  | zero => rfl
  | succ k ih => simp only [crcBits, crcBit_xor, ih]
theorem crcBits_shift (k h : Nat) : crcBits k (h * 2 ^ k) = h := by
  induction k generalizing h with
  | zero => simp [crcBits]
  | succ k ih =>
    have e : crcBit (h * 2 ^ (k + 1)) = h * 2 ^ k := by
      have h1 : h * 2 ^ (k + 1) = 2 * (h * 2 ^ k) := by rw [Nat.pow_succ, ← Nat.mul_assoc, Nat.mul_comm]
      rw [h1]
      unfold crcBit
      rw [if_neg (by omega)]; omega
    rw [crcBits, e, ih]
theorem split_byte (x : Nat) : x = (x / 256 * 2 ^ 8) ^^^ (x % 256) := by
  apply Nat.eq_of_testBit_eq
  intro i
  rw [Nat.testBit_xor, Nat.testBit_mul_two_pow, show (256 : Nat) = 2 ^ 8 from rfl, Nat.testBit_mod_two_pow, ← Nat.shiftRight_eq_div_pow, Nat.testBit_shiftRight]
  by_cases h : 8 ≤ i
  · have h1 : 8 + (i - 8) = i := by omega
    have h2 : ¬ i < 8 := by omega
    simp [h, h1, h2]
  · have h2 : i < 8 := by omega
    simp [h, h2]
theorem crcByte_split (x : Nat) : crcByte x = crcByte (x % 256) ^^^ (x / 256) := by
  conv => lhs; rw [split_byte x]
  unfold crcByte
  rw [crcBits_xor, crcBits_shift, Nat.xor_comm]
theorem xor_byte (x c : Nat) (hc : c < 256) : (x ^^^ c) % 256 = (x % 256) ^^^ c ∧ (x ^^^ c) / 256 = x / 256 := by
  have h1 : c % 2 ^ 8 = c := Nat.mod_eq_of_lt hc
  have h2 : c / 2 ^ 8 = 0 := Nat.div_eq_of_lt hc
  constructor
  · rw [show (256 : Nat) = 2 ^ 8 from rfl, Nat.xor_mod_two_pow, h1]
  · rw [show (256 : Nat) = 2 ^ 8 from rfl, Nat.xor_div_two_pow, h2, Nat.xor_zero]
/-- a byte more, bit by bit -/
def crcRef (x : Nat) (c : UInt8) : Nat := crcByte (x ^^^ c.toNat)
/-- .. and by the table -/
def crcTab (x : Nat) (c : UInt8) : Nat := crcByte ((x % 256) ^^^ c.toNat) ^^^ (x / 256)
theorem crc_same (x : Nat) (c : UInt8) : crcTab x c = crcRef x c := by
  unfold crcTab crcRef
  obtain ⟨h1, h2⟩ := xor_byte x c.toNat c.toNat_lt
  rw [crcByte_split (x ^^^ c.toNat), h1, h2]
def crcNot (x : Nat) : Nat := x ^^^ 4294967295
def crcOf (s : Nat) (b : List UInt8) : Nat := crcNot (b.foldl crcRef (crcNot s))
theorem crcBit_lt {x : Nat} (h : x < 4294967296) : crcBit x < 4294967296 := by
  unfold crcBit
  split
  · have := @Nat.xor_lt_two_pow (x / 2) 2197175160 32 (by omega) (by decide); simpa using this
  · omega
theorem crcBits_lt (k : Nat) {x : Nat} (h : x < 4294967296) : crcBits k x < 4294967296 := by
  induction k generalizing x with
  | zero => exact h
  | succ k ih => exact ih (crcBit_lt h)
theorem crcRef_lt {x : Nat} (h : x < 4294967296) (c : UInt8) : crcRef x c < 4294967296 := by
  unfold crcRef crcByte
  refine crcBits_lt 8 ?_
  have := @Nat.xor_lt_two_pow x c.toNat 32 (by simpa using h) (by have := c.toNat_lt; simp; omega); simpa using this
theorem crcNot_lt {x : Nat} (h : x < 4294967296) : crcNot x < 4294967296 := by
  have := @Nat.xor_lt_two_pow x 4294967295 32 (by simpa using h) (by decide); simpa [crcNot] using this
theorem crcFold_lt (b : List UInt8) {x : Nat} (h : x < 4294967296) : b.foldl crcRef x < 4294967296 := by
  induction b generalizing x with
  | nil => exact h
  | cons c b ih => exact ih (crcRef_lt h c)
theorem crcOf_lt {s : Nat} (h : s < 4294967296) (b : List UInt8) : crcOf s b < 4294967296 := crcNot_lt (crcFold_lt b (crcNot_lt h))
theorem crcNot_not (x : Nat) : crcNot (crcNot x) = x := by unfold crcNot; rw [Nat.xor_assoc, Nat.xor_self, Nat.xor_zero]
theorem crcOf_append (s : Nat) (a b : List UInt8) : crcOf (crcOf s a) b = crcOf s (a ++ b) := by
  unfold crcOf; rw [crcNot_not, List.foldl_append]
/-- a sum's four bytes -/
def four (x : Nat) : List UInt8 := [UInt8.ofNat (x / 16777216), UInt8.ofNat (x / 65536), UInt8.ofNat (x / 256), UInt8.ofNat x]
theorem four_length (x : Nat) : (four x).length = 4 := rfl
end Go.Proofs.YtkljeefncopodaaGreat
