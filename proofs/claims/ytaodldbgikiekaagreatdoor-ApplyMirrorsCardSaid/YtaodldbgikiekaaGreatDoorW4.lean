/- Proved here: a part of the proof (4 of 35). -/
import Derived.Test.YtaodldbgikiekaaGreatDoorW1
import Derived.Lib.EndianBits
set_option linter.unusedSimpArgs false
set_option linter.unusedVariables false
set_option maxRecDepth 20000
namespace Go.Proofs.YtaodldbgikiekaaGreatDoor
open Go.RowKit

theorem bits_xor_nat (k:IntKind) (hk:∀ n:Int,0≤n→n<2 ^ k.bits→k.wrap n=n) (a b:Nat) (ha:a<2 ^ k.bits) (hb:b<2 ^ k.bits):bits .xor k (a:Int) (b:Int)=((a ^^^ b:Nat):Int):=by
 have h:=Nat.xor_lt_two_pow ha hb
 show k.wrap ((BitVec.ofInt k.bits (a:Int) ^^^ BitVec.ofInt k.bits (b:Int)).toNat:Int)=_
 rw [BitVec.toNat_xor,BitVec.ofInt_natCast,BitVec.ofInt_natCast,BitVec.toNat_ofNat,BitVec.toNat_ofNat,Nat.mod_eq_of_lt ha,Nat.mod_eq_of_lt hb]
 exact hk _ (by omega) (by exact_mod_cast h)
theorem xor_u32 {a b:Nat} (ha:a<4294967296) (hb:b<4294967296):bits .xor .u32 (a:Int) (b:Int)=((a ^^^ b:Nat):Int):=bits_xor_nat .u32 wraps_u32 a b ha hb
theorem wraps_u8' (n:Int) (h₀:0≤n) (h₁:n<2 ^ 8):IntKind.u8.wrap n=n:=by simp [IntKind.wrap,IntKind.bits,IntKind.signed];omega
theorem xor_u8 {a b:Nat} (ha:a<256) (hb:b<256):bits .xor .u8 (a:Int) (b:Int)=((a ^^^ b:Nat):Int):=bits_xor_nat .u8 wraps_u8' a b ha hb
theorem and1_u32 {a:Nat} (ha:a<4294967296):bits .and .u32 (a:Int) 1=((a % 2:Nat):Int):=by
 have:=(bits_nat .u32 32 (by decide) wraps_u32 a 1 ha (by decide)).1
 rw [show ((1:Nat):Int)=1 from rfl] at this
 rw [this,Nat.and_one_is_mod]
theorem or_u64 {a b:Nat} (ha:a<18446744073709551616) (hb:b<18446744073709551616):bits .or .u64 (a:Int) (b:Int)=((a ||| b:Nat):Int):=(bits_nat .u64 64 (by decide) wraps_u64 a b ha hb).2
theorem or_add {a b k:Nat} (ha:a<2 ^ k):(a ||| 2 ^ k*b)=a+2 ^ k*b:=by
 rw [Nat.or_comm]
 have:=Nat.two_pow_add_eq_or_of_lt ha b
 omega
theorem or128:∀ n:Fin 256,bits .or .u8 ((n.val:Nat):Int) 128=((n.val % 128+128:Nat):Int):=by decide +kernel
theorem or128_u8 (n:Nat):bits .or .u8 (((n % 256:Nat):Int)) 128=((n % 128+128:Nat):Int):=by
 have:=or128 ⟨n % 256,Nat.mod_lt _ (by decide)⟩
 simp only at this
 rw [this];congr 1;omega
theorem andNot128:∀ n:Fin 256,bits .andNot .u8 ((n.val:Nat):Int) 128=((n.val % 128:Nat):Int):=by decide +kernel
theorem andNot128_u8 (b:UInt8):bits .andNot .u8 ((b.toNat:Nat):Int) 128=((b.toNat % 128:Nat):Int):=by
 have h:=b.toNat_lt
 exact andNot128 ⟨b.toNat,by omega⟩
end Go.Proofs.YtaodldbgikiekaaGreatDoor
