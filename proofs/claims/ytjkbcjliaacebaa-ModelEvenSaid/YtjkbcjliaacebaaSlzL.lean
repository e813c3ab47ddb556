/-
  DERIVED: THE SHELF's CONTRACTS AT THIS DUMP, IN PLAIN WORDS (tools/lay-plain.mjs out of 'YtjkbcjliaacebaaSlzL.lean', which tools/lay-shelf.mjs wrote): THE SAME DECLARATIONS UNDER THE SAME NAMES: 'import', 'namespace', 'open', 'def', 'theorem' AND NOTHING ELSE: no command of the shelf's: FOR A HAND-IN. Each laying: the table of numbers ('.._ren') and one theorem, a field a fact of the dump's own or the kernel's comparison; each contract: ONE APPLICATION.
-/
import Derived.Shelf.SortM.Plain
import Derived.Shelf.SortM.SortNone
import Derived.Shelf.SlicesG.CompactI
import Derived.Shelf.SlicesE.DeleteFunc
import Derived.Shelf.Spec.SlicesGrow
import Derived.Ground.Names8Prog
import Derived.Ground.SlgmProg
import Derived.Ground.SlgnProg
import Derived.Ground.SlgfProg
import Derived.Test.YtjkbcjliaacebaaProg
namespace Go.Proofs
open Go.Shelf
def Try.sortZ_ren : Go.Shelf.Ren := ⟨fun | 5 => 79 | 8 => 117 | 7 => 116 | 19 => 133 | 20 => 134 | 10 => 124 | 11 => 125 | 12 => 126 | 13 => 127 | 14 => 128 | 15 => 129 | 16 => 130 | 17 => 131 | 18 => 132 | 30 => 135 | 31 => 136 | 32 => 137 | 33 => 138 | 34 => 139 | 35 => 140 | 40 => 141 | n => n, fun | 23 => 25 | 25 => 3 | 3 => 3 | 32 => 83 | 22 => 25 | 0 => 0 | 44 => 179 | 46 => 181 | 4 => 4 | 36 => 173 | 35 => 172 | 41 => 74 | 5 => 5 | 9 => 9 | 53 => 182 | 57 => 186 | 63 => 188 | 64 => 189 | n => n, fun | n => n⟩
theorem Try.sortZ : Go.Proofs.SlLaysM.n5 Try.prog Try.sortZ_ren := {
  mixed := by kernel_rfl
  f5 := ⟨Try.f79.name, by decide, Try.func79.trans (congrArg some (by kernel_rfl))⟩
  f7 := ⟨Try.f116.name, by decide, Try.func116.trans (congrArg some (by kernel_rfl))⟩
  f8 := Try.func117.trans (congrArg some (by kernel_rfl))
  f10 := ⟨Try.f124.name, by decide, Try.func124.trans (congrArg some (by kernel_rfl))⟩
  f11 := ⟨Try.f125.name, by decide, Try.func125.trans (congrArg some (by kernel_rfl))⟩
  f12 := ⟨Try.f126.name, by decide, Try.func126.trans (congrArg some (by kernel_rfl))⟩
  f13 := ⟨Try.f127.name, by decide, Try.func127.trans (congrArg some (by kernel_rfl))⟩
  f14 := ⟨Try.f128.name, by decide, Try.func128.trans (congrArg some (by kernel_rfl))⟩
  f15 := ⟨Try.f129.name, by decide, Try.func129.trans (congrArg some (by kernel_rfl))⟩
  f16 := ⟨Try.f130.name, by decide, Try.func130.trans (congrArg some (by kernel_rfl))⟩
  f17 := ⟨Try.f131.name, by decide, Try.func131.trans (congrArg some (by kernel_rfl))⟩
  f18 := ⟨Try.f132.name, by decide, Try.func132.trans (congrArg some (by kernel_rfl))⟩
  f19 := Try.func133.trans (congrArg some (by kernel_rfl))
  f20 := Try.func134.trans (congrArg some (by kernel_rfl))
  f30 := ⟨Try.f135.name, by decide, Try.func135.trans (congrArg some (by kernel_rfl))⟩
  f31 := Try.func136.trans (congrArg some (by kernel_rfl))
  f32 := Try.func137.trans (congrArg some (by kernel_rfl))
  f33 := ⟨Try.f138.name, by decide, Try.func138.trans (congrArg some (by kernel_rfl))⟩
  f34 := ⟨Try.f139.name, by decide, Try.func139.trans (congrArg some (by kernel_rfl))⟩
  f35 := ⟨Try.f140.name, by decide, Try.func140.trans (congrArg some (by kernel_rfl))⟩
  f40 := ⟨Try.f141.name, by decide, Try.func141.trans (congrArg some (by kernel_rfl))⟩
  t0 := Try.underlying0
  a0 := Try.isAgg0
  z0 := Try.sizeOf0
  v0 := Try.zeroValue0
  t3 := Try.underlying3
  a3 := Try.isAgg3
  z3 := Try.sizeOf3
  v3 := Try.zeroValue3
  t4 := Try.underlying4
  a4 := Try.isAgg4
  z4 := Try.sizeOf4
  v4 := Try.zeroValue4
  t5 := Try.underlying5
  a5 := Try.isAgg5
  z5 := Try.sizeOf5
  v5 := Try.zeroValue5
  t9 := Try.underlying9
  a9 := Try.isAgg9
  z9 := Try.sizeOf9
  v9 := Try.zeroValue9
  t22 := Try.underlying25
  a22 := Try.isAgg25
  z22 := Try.sizeOf25
  v22 := Try.zeroValue25
  t23 := Try.underlying25
  a23 := Try.isAgg25
  z23 := Try.sizeOf25
  v23 := Try.zeroValue25
  t25 := Try.underlying3
  a25 := Try.isAgg3
  z25 := Try.sizeOf3
  v25 := Try.zeroValue3
  t32 := Try.underlying83
  a32 := Try.isAgg83
  z32 := Try.sizeOf83
  v32 := Try.zeroValue83
  t35 := Try.underlying172
  a35 := Try.isAgg172
  z35 := Try.sizeOf172
  v35 := Try.zeroValue172
  t36 := Try.underlying173
  a36 := Try.isAgg173
  z36 := Try.sizeOf173
  v36 := Try.zeroValue173
  t41 := Try.underlying74
  a41 := Try.isAgg74
  z41 := Try.sizeOf74
  v41 := Try.zeroValue74
  t44 := Try.underlying179
  a44 := Try.isAgg179
  z44 := Try.sizeOf179
  v44 := Try.zeroValue179
  t46 := Try.underlying181
  a46 := Try.isAgg181
  z46 := Try.sizeOf181
  v46 := Try.zeroValue181
  t53 := Try.underlying182
  a53 := Try.isAgg182
  z53 := Try.sizeOf182
  v53 := Try.zeroValue182
  t57 := Try.underlying186
  a57 := Try.isAgg186
  z57 := Try.sizeOf186
  v57 := Try.zeroValue186
  t63 := Try.underlying188
  a63 := Try.isAgg188
  z63 := Try.sizeOf188
  v63 := Try.zeroValue188
  t64 := Try.underlying189
  a64 := Try.isAgg189
  z64 := Try.sizeOf189
  v64 := Try.zeroValue189 }
def Try.compZ_ren : Go.Shelf.Ren := ⟨fun | 43 => 107 | n => n, fun | 22 => 25 | 23 => 3 | 3 => 3 | 4 => 4 | 0 => 0 | n => n, fun | n => n⟩
theorem Try.compZ : Go.Proofs.SlLaysN.n43 Try.prog Try.compZ_ren := {
  mixed := by kernel_rfl
  f43 := ⟨Try.f107.name, by decide, Try.func107.trans (congrArg some (by kernel_rfl))⟩
  t0 := Try.underlying0
  a0 := Try.isAgg0
  z0 := Try.sizeOf0
  v0 := Try.zeroValue0
  t3 := Try.underlying3
  a3 := Try.isAgg3
  z3 := Try.sizeOf3
  v3 := Try.zeroValue3
  t4 := Try.underlying4
  a4 := Try.isAgg4
  z4 := Try.sizeOf4
  v4 := Try.zeroValue4
  t22 := Try.underlying25
  a22 := Try.isAgg25
  z22 := Try.sizeOf25
  v22 := Try.zeroValue25
  t23 := Try.underlying3
  a23 := Try.isAgg3
  z23 := Try.sizeOf3
  v23 := Try.zeroValue3
  i23 := by kernel_rfl }
def Try.delZ_ren : Go.Shelf.Ren := ⟨fun | 10 => 48 | 6 => 104 | n => n, fun | 22 => 25 | 23 => 3 | 25 => 95 | 3 => 3 | 4 => 4 | 0 => 0 | n => n, fun | n => n⟩
theorem Try.delZ : Go.Proofs.SlLaysH.n10 Try.prog Try.delZ_ren := {
  mixed := by kernel_rfl
  f6 := ⟨Try.f104.name, by decide, Try.func104.trans (congrArg some (by kernel_rfl))⟩
  f10 := ⟨Try.f48.name, by decide, Try.func48.trans (congrArg some (by kernel_rfl))⟩
  t0 := Try.underlying0
  a0 := Try.isAgg0
  z0 := Try.sizeOf0
  v0 := Try.zeroValue0
  t3 := Try.underlying3
  a3 := Try.isAgg3
  z3 := Try.sizeOf3
  v3 := Try.zeroValue3
  t4 := Try.underlying4
  a4 := Try.isAgg4
  z4 := Try.sizeOf4
  v4 := Try.zeroValue4
  t22 := Try.underlying25
  a22 := Try.isAgg25
  z22 := Try.sizeOf25
  v22 := Try.zeroValue25
  a23 := Try.isAgg3
  z23 := Try.sizeOf3
  t25 := Try.underlying95
  a25 := Try.isAgg95
  z25 := Try.sizeOf95
  v25 := Try.zeroValue95 }
def Try.growZ_ren : Go.Shelf.Ren := ⟨fun | 4 => 114 | n => n, fun | 22 => 25 | 25 => 3 | 3 => 3 | 4 => 4 | 9 => 9 | 20 => 20 | 0 => 0 | n => n, fun | n => n⟩
theorem Try.growZ : Go.Proofs.Lays8.n4 Try.prog Try.growZ_ren := {
  mixed := by kernel_rfl
  f4 := ⟨Try.f114.name, by decide, Try.func114.trans (congrArg some (by kernel_rfl))⟩
  t0 := Try.underlying0
  a0 := Try.isAgg0
  z0 := Try.sizeOf0
  v0 := Try.zeroValue0
  t3 := Try.underlying3
  a3 := Try.isAgg3
  z3 := Try.sizeOf3
  v3 := Try.zeroValue3
  t4 := Try.underlying4
  a4 := Try.isAgg4
  z4 := Try.sizeOf4
  v4 := Try.zeroValue4
  t9 := Try.underlying9
  a9 := Try.isAgg9
  z9 := Try.sizeOf9
  v9 := Try.zeroValue9
  t20 := Try.underlying20
  a20 := Try.isAgg20
  z20 := Try.sizeOf20
  v20 := Try.zeroValue20
  t22 := Try.underlying25
  a22 := Try.isAgg25
  z22 := Try.sizeOf25
  v22 := Try.zeroValue25 }
end Go.Proofs
