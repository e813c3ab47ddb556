/- Layer 3: the digest, plain: words of 32 bits; the program's way and the document's. -/
import Derived.Test.YtinbcehlpfnlaaaGreatDoorBase
import Derived.Laws.BitsAllLaws
namespace Go.Proofs.YtinbcehlpfnlaaaGreatDoor
set_option linter.unusedSimpArgs false
set_option linter.unusedVariables false

abbrev W32 := BitVec 32
/-- a word's number (no rule of simp's opens it) -/
def wN (x : W32) : Nat := x.toNat
def wV (x : W32) : Value := .int .u32 ((wN x : Nat) : Int)
theorem wN_lt (x : W32) : wN x < 4294967296 := x.isLt
def rotr (x : W32) (k : Nat) : W32 := x >>> k ||| x <<< (32 - k)
def sg0 (x : W32) : W32 := rotr x 7 ^^^ rotr x 18 ^^^ x >>> 3
def sg1 (x : W32) : W32 := rotr x 17 ^^^ rotr x 19 ^^^ x >>> 10
def word4 (a b c d : UInt8) : W32 := BitVec.ofNat 32 (a.toNat * 16777216 + b.toNat * 65536 + c.toNat * 256 + d.toNat)
def wordAt (b : List UInt8) (t : Nat) : W32 := word4 (b.getD (4 * t) 0) (b.getD (4 * t + 1) 0) (b.getD (4 * t + 2) 0) (b.getD (4 * t + 3) 0)
def nextW (b : List UInt8) (t : Nat) (S : List W32) : W32 := if t < 16 then wordAt b t else S.getD (t - 16) 0 + S.getD (t - 7) 0 + sg0 (S.getD (t - 15) 0) + sg1 (S.getD (t - 2) 0)
def sched (b : List UInt8) : Nat → List W32
  | 0 => []
  | t + 1 => sched b t ++ [nextW b t (sched b t)]
theorem sched_len (b : List UInt8) (t : Nat) : (sched b t).length = t := by
  induction t with
  | zero => rfl
  | succ t ih => simp [sched, ih]
structure H8 where
  a : W32
  b : W32
  c : W32
  d : W32
  e : W32
  f : W32
  g : W32
  h : W32
def H8.list (s : H8) : List W32 := [s.a, s.b, s.c, s.d, s.e, s.f, s.g, s.h]
def H8.vals (s : H8) : List Value := [wV s.a, wV s.b, wV s.c, wV s.d, wV s.e, wV s.f, wV s.g, wV s.h]
def H8.x (s : H8) (k w : W32) : W32 := s.h + (rotr s.e 6 ^^^ rotr s.e 11 ^^^ rotr s.e 25) + (s.g ^^^ (s.e &&& (s.f ^^^ s.g))) + k + w
def H8.y (s : H8) : W32 := (rotr s.a 2 ^^^ rotr s.a 13 ^^^ rotr s.a 22) + ((s.a &&& s.b) ||| (s.c &&& (s.a ||| s.b)))
def H8.rnd (s : H8) (k w : W32) : H8 := ⟨s.x k w + s.y, s.a, s.b, s.c, s.d + s.x k w, s.e, s.f, s.g⟩
def H8.add (s t : H8) : H8 := ⟨s.a + t.a, s.b + t.b, s.c + t.c, s.d + t.d, s.e + t.e, s.f + t.f, s.g + t.g, s.h + t.h⟩
def shaK : List W32 := [
    1116352408, 1899447441, 3049323471, 3921009573, 961987163, 1508970993, 2453635748, 2870763221,
    3624381080, 310598401, 607225278, 1426881987, 1925078388, 2162078206, 2614888103, 3248222580,
    3835390401, 4022224774, 264347078, 604807628, 770255983, 1249150122, 1555081692, 1996064986,
    2554220882, 2821834349, 2952996808, 3210313671, 3336571891, 3584528711, 113926993, 338241895,
    666307205, 773529912, 1294757372, 1396182291, 1695183700, 1986661051, 2177026350, 2456956037,
    2730485921, 2820302411, 3259730800, 3345764771, 3516065817, 3600352804, 4094571909, 275423344,
    430227734, 506948616, 659060556, 883997877, 958139571, 1322822218, 1537002063, 1747873779,
    1955562222, 2024104815, 2227730452, 2361852424, 2428436474, 2756734187, 3204031479, 3329325298]
def shaH : H8 := ⟨1779033703, 3144134277, 1013904242, 2773480762, 1359893119, 2600822924, 528734635, 1541459225⟩
def rounds (S : List W32) : Nat → H8 → H8
  | 0, s => s
  | t + 1, s => (rounds S t s).rnd (shaK.getD t 0) (S.getD t 0)
def stepS (s : H8) (b : List UInt8) : H8 := (rounds (sched b 64) 64 s).add s
def blocks (b : List UInt8) : Nat → H8 → H8
  | 0, s => s
  | n + 1, s => stepS (blocks b n s) ((b.drop (64 * n)).take 64)
def be8 (n : Nat) : List UInt8 := [UInt8.ofNat (n / 72057594037927936), UInt8.ofNat (n / 281474976710656), UInt8.ofNat (n / 1099511627776), UInt8.ofNat (n / 4294967296), UInt8.ofNat (n / 16777216), UInt8.ofNat (n / 65536), UInt8.ofNat (n / 256), UInt8.ofNat n]
/-- how many zero bytes stand behind the mark -/
def padZ (n : Nat) : Nat := (119 - n % 64) % 64
def padB (n : Nat) : List UInt8 := [128] ++ List.replicate (padZ n) 0 ++ be8 (n * 8)
theorem padB_len (n : Nat) : (padB n).length = 1 + padZ n + 8 := by simp [padB, be8]; omega
theorem pad_full (n : Nat) : (n + (padB n).length) % 64 = 0 := by rw [padB_len]; unfold padZ; omega
def four8 (x : W32) : List UInt8 := [UInt8.ofNat (x.toNat / 16777216), UInt8.ofNat (x.toNat / 65536), UInt8.ofNat (x.toNat / 256), UInt8.ofNat x.toNat]
def H8.bytes (s : H8) : List UInt8 := s.list.flatMap four8
def shaB (t : List UInt8) : List UInt8 := (blocks (t ++ padB t.length) ((t ++ padB t.length).length / 64) shaH).bytes
theorem bytes_len8 (s : H8) : s.bytes.length = 32 := rfl
theorem shaB_len (t : List UInt8) : (shaB t).length = 32 := rfl

-- words in the walk
theorem w_add (x y : W32) : IntKind.u32.wrap (((wN x : Nat) : Int) + ((wN y : Nat) : Int)) = ((wN (x + y) : Nat) : Int) := by
  unfold wN
  rw [IntKind.wrap_u32', BitVec.toNat_add]; omega
theorem w_xor (x y : W32) : bits .xor .u32 ((wN x : Nat) : Int) ((wN y : Nat) : Int) = ((wN (x ^^^ y) : Nat) : Int) := by
  unfold wN
  rw [u32_xor_nat _ _ x.isLt y.isLt, BitVec.toNat_xor]
theorem w_and (x y : W32) : bits .and .u32 ((wN x : Nat) : Int) ((wN y : Nat) : Int) = ((wN (x &&& y) : Nat) : Int) := by
  unfold wN
  rw [u32_and_nat _ _ x.isLt y.isLt, BitVec.toNat_and]
theorem w_or (x y : W32) : bits .or .u32 ((wN x : Nat) : Int) ((wN y : Nat) : Int) = ((wN (x ||| y) : Nat) : Int) := by
  unfold wN
  rw [u32_or_nat _ _ x.isLt y.isLt, BitVec.toNat_or]
theorem w_shr (x : W32) (k : Nat) : ((wN x : Nat) : Int) / 2 ^ k = ((wN (x >>> k) : Nat) : Int) := by
  unfold wN
  rw [BitVec.toNat_ushiftRight, Nat.shiftRight_eq_div_pow]; simp
theorem w_shl (x : W32) (k : Nat) : IntKind.u32.wrap (((wN x : Nat) : Int) * 2 ^ k) = ((wN (x <<< k) : Nat) : Int) := by
  unfold wN
  rw [IntKind.wrap_u32', BitVec.toNat_shiftLeft, Nat.shiftLeft_eq]; simp
theorem w_shr' (x : W32) (k : Nat) : ((wN x : Nat) : Int) >>> k = ((wN (x >>> k) : Nat) : Int) := by rw [← w_shr, Int.shiftRight_eq_div_pow]; simp
theorem w_shl' (x : W32) (k : Nat) : (((wN x : Nat) : Int) <<< k) % 4294967296 = ((wN (x <<< k) : Nat) : Int) := by rw [← w_shl, IntKind.wrap_u32', Int.shiftLeft_eq]
theorem w_shl2 (x : W32) (k : Nat) : (((wN x : Nat) : Int) * 2 ^ k) % 4294967296 = ((wN (x <<< k) : Nat) : Int) := by rw [← w_shl, IntKind.wrap_u32']
theorem w_add2 (x y : W32) : (((wN x : Nat) : Int) + ((wN y : Nat) : Int)) % 4294967296 = ((wN (x + y) : Nat) : Int) := by rw [← w_add, IntKind.wrap_u32']
theorem w_shr3 (x : W32) : ((wN x : Nat) : Int) / 8 = ((wN (x >>> 3) : Nat) : Int) := w_shr x 3
theorem w_shr10 (x : W32) : ((wN x : Nat) : Int) / 1024 = ((wN (x >>> 10) : Nat) : Int) := w_shr x 10
theorem w_byte (c : UInt8) (k : Nat) (hk : k ≤ 24) : (c.toNat * 2 ^ k) < 4294967296 := by
  have h1 : c.toNat < 256 := c.toNat_lt
  have h2 : 2 ^ k ≤ 2 ^ 24 := Nat.pow_le_pow_right (by decide) hk
  calc c.toNat * 2 ^ k ≤ 255 * 2 ^ 24 := Nat.mul_le_mul (by omega) h2
    _ < 4294967296 := by decide
theorem or_shift (x y k : Nat) (hy : y < 2 ^ k) : (x * 2 ^ k) ||| y = x * 2 ^ k + y := nat_join k _ _ (Nat.mul_mod_left _ _) hy
end Go.Proofs.YtinbcehlpfnlaaaGreatDoor
