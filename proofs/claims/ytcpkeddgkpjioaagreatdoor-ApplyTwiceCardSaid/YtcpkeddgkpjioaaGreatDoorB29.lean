/- Proved here: a part of the proof (29 of 34). -/
import Derived.Test.YtcpkeddgkpjioaaGreatDoorB14
import Derived.Test.YtcpkeddgkpjioaaGreatDoorB8
import Derived.Test.YtcpkeddgkpjioaaGreatDoorB28
import Derived.Test.YtcpkeddgkpjioaaGreatDoorB3
set_option linter.unusedSimpArgs false
set_option linter.unusedVariables false
namespace Go.Proofs.YtcpkeddgkpjioaaGreatDoor
namespace SL
open DK SH SQ
/-- a unit: its disk, its shelf (none: it is off) -/
structure Un where
 d : Dk
 s : Option Sf
structure Cl where
 us : List Un
 p : Pj
 q : Q
def Cl.put (M : Cl) (u : Nat) (x : Un) : Cl := { M with us := M.us.set u x }
/-- an act is done with a unit -/
def Cl.do (M : Cl) (u : Nat) (x : Ac) : Nat × Int × Cl := match M.us[u]? with
 | some ⟨D, some S⟩ => ((doS S D x).1, (doS S D x).2.1, M.put u ⟨(doS S D x).2.2.2, some (doS S D x).2.2.1⟩)
 | _ => (14, 0, M)
def Cl.home (M : Cl) (a : Int) : List Int := M.p.cs.getD (a % (M.p.cs.length : Int)).toNat []
/-- a thing is done with units, in order: the first error -/
def allC {St : Type} (f : St → Int → Nat × St) : List Int → St → Nat × St
 | [], s => (0, s)
 | u :: l, s => if (f s u).1 ≠ 0 then f s u else allC f l (f s u).2
/-- a cell of a unit -/
def Cl.readU (M : Cl) (u : Nat) (e a : Int) : Nat × C := match M.us[u]? with
 | some ⟨D, some S⟩ => readS S D e a
 | _ => (14, ⟨0, []⟩)
def Cl.read (M : Cl) (a : Int) : Nat × C := if inB a 1048575 = false then (1, ⟨0, []⟩) else M.readU ((M.home a).getLast?.getD 0).toNat M.p.e a
def Cl.tail (M : Cl) : Nat × Int := M.q.tail M.p.e
/-- what is always so of a cluster -/
structure Cl.ok (M : Cl) : Prop where
 proj : M.p.check = 0
 many : M.us.length ≤ 8
 there : ∀ u ∈ M.p.all, 0 ≤ u ∧ u < (M.us.length : Int)
 seq : M.q.ok
 disk : ∀ x ∈ M.us, Sd x.d
theorem Sd.doS {S : Sf} {D : Dk} (h : Sd D) (x : Ac) : Sd (doS S D x).2.2.2 := by
 unfold SH.doS
 split
 ·exact h
 ·split
  ·exact h
  ·split
   ·exact h
   ·split
    ·exact h.put _ _
    ·exact h.put _ _
theorem Cl.ok.put {M : Cl} (h : M.ok) (u : Nat) {x : Un} (hx : Sd x.d) : (M.put u x).ok := by
 refine ⟨h.proj, by show (M.us.set u x).length ≤ 8; rw [List.length_set]; exact h.many, fun v hv => by show 0 ≤ v ∧ v < ((M.us.set u x).length : Int); rw [List.length_set]; exact h.there v hv, h.seq, fun y hy => ?_⟩
 rcases List.mem_or_eq_of_mem_set (show y ∈ M.us.set u x from hy) with hy | rfl
 ·exact h.disk y hy
 ·exact hx
theorem Cl.ok.do {M : Cl} (h : M.ok) (u : Nat) (x : Ac) : (M.do u x).2.2.ok := by
 unfold Cl.do
 split
 ·rename_i D S hu
  exact h.put u (Sd.doS (h.disk _ (List.mem_of_getElem? hu)) x)
 ·exact h
theorem Cl.do_len (M : Cl) (u : Nat) (x : Ac) : (M.do u x).2.2.us.length = M.us.length ∧ (M.do u x).2.2.p = M.p ∧ (M.do u x).2.2.q = M.q := by
 unfold Cl.do
 split
 ·exact ⟨List.length_set .., rfl, rfl⟩
 ·exact ⟨rfl, rfl, rfl⟩
theorem allC_inv {St : Type} {f : St → Int → Nat × St} {I : St → Prop} : ∀ {l : List Int} {s : St}, (∀ s u, u ∈ l → I s → I (f s u).2) → I s → I (allC f l s).2
 | [], s, _, h => h
 | u :: l, s, hf, h => by
  unfold allC
  split
  ·exact hf s u List.mem_cons_self h
  ·exact allC_inv (fun s v hv => hf s v (List.mem_cons_of_mem _ hv)) (hf s u List.mem_cons_self h)
end SL
end Go.Proofs.YtcpkeddgkpjioaaGreatDoor
