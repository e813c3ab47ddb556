/- Proved here: a part of the proof (28 of 35). -/
import Derived.Test.YtaodldbgikiekaaGreatDoorW14
import Derived.Test.YtaodldbgikiekaaGreatDoorW8
import Derived.Test.YtaodldbgikiekaaGreatDoorW27
import Derived.Test.YtaodldbgikiekaaGreatDoorW3
set_option linter.unusedSimpArgs false
set_option linter.unusedVariables false
namespace Go.Proofs.YtaodldbgikiekaaGreatDoor
namespace SL
open DK SH SQ
/-- a unit: its disk, its shelf (none: it is off) -/
structure Un where
 d:Dk
 s:Option Sf
structure Cl where
 us:List Un
 p:Pj
 q:Q
def Cl.put (M:Cl) (u:Nat) (x:Un):Cl:={ M with us:=M.us.set u x }
/-- an act is done with a unit -/
def Cl.do (M:Cl) (u:Nat) (x:Ac):Nat×Int×Cl:=match M.us[u]? with
 | some ⟨D,some S⟩=>((doS S D x).1,(doS S D x).2.1,M.put u ⟨(doS S D x).2.2.2,some (doS S D x).2.2.1⟩)
 | _=>(14,0,M)
def Cl.home (M:Cl) (a:Int):List Int:=M.p.cs.getD (a % (M.p.cs.length:Int)).toNat []
/-- a thing is done with units, in order: the first error -/
def allC {St:Type} (f:St→Int→Nat×St):List Int→St→Nat×St
 | [],s=>(0,s)
 | u::l,s=>if (f s u).1≠0 then f s u else allC f l (f s u).2
def Cl.write (x:Ac) (M:Cl) (u:Int):Nat×Cl:=((M.do u.toNat x).1,(M.do u.toNat x).2.2)
/-- a cell of a unit -/
def Cl.readU (M:Cl) (u:Nat) (e a:Int):Nat×C:=match M.us[u]? with
 | some ⟨D,some S⟩=>readS S D e a
 | _=>(14,⟨0,[]⟩)
/-- one try to append: whether it is tried again; an error's number, the address, the cluster then -/
def Cl.try (M:Cl) (d:List UInt8):Bool×Nat×Int×Cl :=
 if (M.q.take M.p.e 1).1≠0 then (false,(M.q.take M.p.e 1).1,0,{ M with q:=(M.q.take M.p.e 1).2.2 }) else
 match M.home (M.q.take M.p.e 1).2.1 with
 | []=>(false,0,0,M)
 | u::r =>
  if (Cl.write ⟨2,M.p.e,(M.q.take M.p.e 1).2.1,d⟩ { M with q:=(M.q.take M.p.e 1).2.2 } u).1=8∨(Cl.write ⟨2,M.p.e,(M.q.take M.p.e 1).2.1,d⟩ { M with q:=(M.q.take M.p.e 1).2.2 } u).1=9 then
   (true,0,0,(Cl.write ⟨2,M.p.e,(M.q.take M.p.e 1).2.1,d⟩ { M with q:=(M.q.take M.p.e 1).2.2 } u).2) else
  if (Cl.write ⟨2,M.p.e,(M.q.take M.p.e 1).2.1,d⟩ { M with q:=(M.q.take M.p.e 1).2.2 } u).1≠0 then
   (false,(Cl.write ⟨2,M.p.e,(M.q.take M.p.e 1).2.1,d⟩ { M with q:=(M.q.take M.p.e 1).2.2 } u).1,0,(Cl.write ⟨2,M.p.e,(M.q.take M.p.e 1).2.1,d⟩ { M with q:=(M.q.take M.p.e 1).2.2 } u).2) else
  if (allC (Cl.write ⟨2,M.p.e,(M.q.take M.p.e 1).2.1,d⟩) r (Cl.write ⟨2,M.p.e,(M.q.take M.p.e 1).2.1,d⟩ { M with q:=(M.q.take M.p.e 1).2.2 } u).2).1≠0 then
   (false,(allC (Cl.write ⟨2,M.p.e,(M.q.take M.p.e 1).2.1,d⟩) r (Cl.write ⟨2,M.p.e,(M.q.take M.p.e 1).2.1,d⟩ { M with q:=(M.q.take M.p.e 1).2.2 } u).2).1,0,(allC (Cl.write ⟨2,M.p.e,(M.q.take M.p.e 1).2.1,d⟩) r (Cl.write ⟨2,M.p.e,(M.q.take M.p.e 1).2.1,d⟩ { M with q:=(M.q.take M.p.e 1).2.2 } u).2).2)
  else (false,0,(M.q.take M.p.e 1).2.1,(allC (Cl.write ⟨2,M.p.e,(M.q.take M.p.e 1).2.1,d⟩) r (Cl.write ⟨2,M.p.e,(M.q.take M.p.e 1).2.1,d⟩ { M with q:=(M.q.take M.p.e 1).2.2 } u).2).2)
def Cl.appendF (d:List UInt8):Nat→Cl→Nat×Int×Cl
 | 0,M=>(5,0,M)
 | k+1,M=>if (M.try d).1=true then Cl.appendF d k (M.try d).2.2.2 else (M.try d).2
def Cl.fuel (M:Cl):Nat:=(1048577 - M.q.n).toNat
def Cl.append (M:Cl) (d:List UInt8):Nat×Int×Cl:=if 64<d.length then (3,0,M) else M.appendF d M.fuel
def Cl.read (M:Cl) (a:Int):Nat×C:=if inB a 1048575=false then (1,⟨0,[]⟩) else M.readU ((M.home a).getLast?.getD 0).toNat M.p.e a
def Cl.tail (M:Cl):Nat×Int:=M.q.tail M.p.e
/-- what is always so of a cluster -/
structure Cl.ok (M:Cl):Prop where
 proj:M.p.check=0
 many:M.us.length≤8
 there:∀ u∈M.p.all,0≤u∧u<(M.us.length:Int)
 seq:M.q.ok
 disk:∀ x∈M.us,Sd x.d
theorem Sd.doS {S:Sf} {D:Dk} (h:Sd D) (x:Ac):Sd (doS S D x).2.2.2:=by
 unfold SH.doS
 split
 ·exact h
 ·split
  ·exact h
  ·split
   ·exact h
   ·split
    ·exact h.put _ _
    ·exact h.put _ _
theorem Cl.ok.put {M:Cl} (h:M.ok) (u:Nat) {x:Un} (hx:Sd x.d):(M.put u x).ok:=by
 refine ⟨h.proj,by show (M.us.set u x).length≤8;rw [List.length_set];exact h.many,fun v hv=>by show 0≤v∧v<((M.us.set u x).length:Int);rw [List.length_set];exact h.there v hv,h.seq,fun y hy=>?_⟩
 rcases List.mem_or_eq_of_mem_set (show y∈M.us.set u x from hy) with hy | rfl
 ·exact h.disk y hy
 ·exact hx
theorem Cl.ok.do {M:Cl} (h:M.ok) (u:Nat) (x:Ac):(M.do u x).2.2.ok:=by
 unfold Cl.do
 split
 ·rename_i D S hu
  exact h.put u (Sd.doS (h.disk _ (List.mem_of_getElem? hu)) x)
 ·exact h
theorem Cl.do_len (M:Cl) (u:Nat) (x:Ac):(M.do u x).2.2.us.length=M.us.length∧(M.do u x).2.2.p=M.p∧(M.do u x).2.2.q=M.q:=by
 unfold Cl.do
 split
 ·exact ⟨List.length_set ..,rfl,rfl⟩
 ·exact ⟨rfl,rfl,rfl⟩
theorem allC_inv {St:Type} {f:St→Int→Nat×St} {I:St→Prop}:∀ {l:List Int} {s:St},(∀ s u,u∈l→I s→I (f s u).2)→I s→I (allC f l s).2
 | [],s,_,h=>h
 | u::l,s,hf,h=>by
  unfold allC
  split
  ·exact hf s u List.mem_cons_self h
  ·exact allC_inv (fun s v hv=>hf s v (List.mem_cons_of_mem _ hv)) (hf s u List.mem_cons_self h)
end SL
end Go.Proofs.YtaodldbgikiekaaGreatDoor
