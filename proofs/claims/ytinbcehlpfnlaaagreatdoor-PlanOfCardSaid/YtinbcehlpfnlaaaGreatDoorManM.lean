/- Layer 15 (manifest): parts and manifests, plain; small functions. -/
import Derived.Test.YtinbcehlpfnlaaaGreatDoorShaG
import Derived.Test.YtinbcehlpfnlaaaGreatDoorUnitN
import Derived.Test.YtinbcehlpfnlaaaGreatDoorFmtM
namespace Go.Proofs.YtinbcehlpfnlaaaGreatDoor
open Go.RowKit
set_option linter.unusedSimpArgs false
set_option linter.unusedVariables false
set_option maxRecDepth 100000

/-- a part of a manifest: where it begins, how many cells, how many bytes, its digest -/
structure Pt where
  f : Int
  m : Int
  s : Int
  d : List UInt8
structure Mf where
  n : Int
  f : Int
  t : Int
  r : Int
  p : List UInt8
  ps : List Pt
def ptV (x : Pt) : List Value := [.int .i64 x.f, .int .i64 x.m, .int .i64 x.s] ++ byteVs x.d
def mfV (x : Mf) (a : Option Addr) (c : Nat) : List Value := [.int .i64 x.n, .int .i64 x.f, .int .i64 x.t, .int .i64 x.r] ++ byteVs x.p ++ [.slice a x.ps.length c]
def zero32B : List UInt8 := List.replicate 32 0
def Pt.check (x : Pt) (at' : Int) : Nat := if x.m < 1 ∨ 64 < x.m ∨ x.s < 1 ∨ 65536 < x.s then 1 else if x.f ≠ at' then 2 else 0
/-- the parts' error, and where they end -/
def partsCheck : List Pt → Int → Nat × Int
  | [], at' => (0, at')
  | x :: L, at' => if x.check at' ≠ 0 then (x.check at', at') else partsCheck L (at' + x.m)
def Mf.check (x : Mf) : Nat :=
  if x.n < 0 ∨ 999999 < x.n ∨ x.f < 0 ∨ 1048576 < x.f ∨ x.t < 0 ∨ 1048576 < x.t ∨ x.r < 0 ∨ 1048576 < x.r then 1
  else if x.t < x.f ∨ x.n = 0 ∧ x.p ≠ zero32B then 2 else if 1024 < x.ps.length then 3
  else if (partsCheck x.ps x.f).1 ≠ 0 then (partsCheck x.ps x.f).1 else if (partsCheck x.ps x.f).2 ≠ x.t then 2 else 0
def partB (x : Pt) : List UInt8 := vb x.m.toNat ++ vb x.s.toNat ++ x.d
def Mf.text (x : Mf) : List UInt8 := vb x.n.toNat ++ vb x.f.toNat ++ vb x.t.toNat ++ vb x.r.toNat ++ x.p ++ vb x.ps.length ++ x.ps.flatMap partB
def Mf.put (x : Mf) : List UInt8 := frameB x.text
def Mf.digest (x : Mf) : List UInt8 := shaB x.put

theorem min_any (x m : Int) (w : World) : Calls Tryz.prog 38 #[.int .i64 x, .int .i64 m] w fun e w' => e = .returned (.bool (inR x m)) ∧ w = w' := by
  by_cases h : 0 ≤ x
  · go_enter Tryz.func38, Tryz.ntmps38
    go_wp2
    go_ret
    exact ⟨ret_eq (by simp [inR, h]), rfl⟩
  · have h' : x < 0 := by omega
    go_enter Tryz.func38, Tryz.ntmps38
    go_wp2
    go_ret
    exact ⟨ret_eq (by simp [inR]; omega), rfl⟩
end Go.Proofs.YtinbcehlpfnlaaaGreatDoor
