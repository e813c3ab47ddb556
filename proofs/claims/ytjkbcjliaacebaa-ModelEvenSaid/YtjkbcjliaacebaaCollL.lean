/-
  DERIVED: THE SHELF's CONTRACTS AT THIS DUMP, IN PLAIN WORDS (tools/lay-plain.mjs out of 'YtjkbcjliaacebaaCollL.lean', which tools/lay-shelf.mjs wrote): THE SAME DECLARATIONS UNDER THE SAME NAMES: 'import', 'namespace', 'open', 'def', 'theorem' AND NOTHING ELSE: no command of the shelf's: FOR A HAND-IN. Each laying: the table of numbers ('.._ren') and one theorem, a field a fact of the dump's own or the kernel's comparison; each contract: ONE APPLICATION.
-/
import Derived.Shelf.SlIterI.Collect
import Derived.Ground.GgzProg
import Derived.Test.YtjkbcjliaacebaaProg
namespace Go.Proofs
open Go.Shelf
def Try.collectA_ren : Go.Shelf.Ren := ⟨fun | 8 => 78 | 11 => 115 | n => n, fun | 26 => 3 | 28 => 115 | 24 => 25 | 0 => 0 | 33 => 95 | 4 => 4 | n => n, fun | n => n⟩
theorem Try.collectA : Go.Proofs.SlLaysZI.n8 Try.prog Try.collectA_ren := {
  mixed := by kernel_rfl
  f8 := ⟨Try.f78.name, by decide, Try.func78.trans (congrArg some (by kernel_rfl))⟩
  f11 := ⟨Try.f115.name, by decide, Try.func115.trans (congrArg some (by kernel_rfl))⟩
  t0 := Try.underlying0
  a0 := Try.isAgg0
  z0 := Try.sizeOf0
  v0 := Try.zeroValue0
  t24 := Try.underlying25
  a24 := Try.isAgg25
  z24 := Try.sizeOf25
  v24 := Try.zeroValue25
  t26 := Try.underlying3
  a26 := Try.isAgg3
  z26 := Try.sizeOf3
  v26 := Try.zeroValue3
  t28 := Try.underlying115
  a28 := Try.isAgg115
  z28 := Try.sizeOf115
  v28 := Try.zeroValue115
  i26 := by kernel_rfl }
def Try.appendSeqA_ren : Go.Shelf.Ren := ⟨fun | 11 => 115 | n => n, fun | 24 => 25 | 26 => 3 | 28 => 115 | 0 => 0 | 33 => 95 | 4 => 4 | n => n, fun | n => n⟩
theorem Try.appendSeqA : Go.Proofs.SlLaysZI.n11 Try.prog Try.appendSeqA_ren := {
  mixed := by kernel_rfl
  f11 := ⟨Try.f115.name, by decide, Try.func115.trans (congrArg some (by kernel_rfl))⟩
  t0 := Try.underlying0
  a0 := Try.isAgg0
  z0 := Try.sizeOf0
  v0 := Try.zeroValue0
  t24 := Try.underlying25
  a24 := Try.isAgg25
  z24 := Try.sizeOf25
  v24 := Try.zeroValue25
  t26 := Try.underlying3
  a26 := Try.isAgg3
  z26 := Try.sizeOf3
  v26 := Try.zeroValue3
  t28 := Try.underlying115
  a28 := Try.isAgg115
  z28 := Try.sizeOf115
  v28 := Try.zeroValue115
  i26 := by kernel_rfl }
end Go.Proofs
