/- Proved here: a part of the proof (11 of 35). -/
import Derived.Test.YtaodldbgikiekaaGreatDoorW10
import Derived.Shelf.SlIterI.Nil
import Derived.Shelf.SortM.Plain
import Derived.Shelf.SortM.SortNone
import Derived.Ground.GgzProg
import Derived.Ground.SlgmProg
import Derived.Test.YtaodldbgikiekaaGreatDoorW1
import Derived.Test.YtaodldbgikiekaaGreatDoorW3
import Derived.Laws.StructEq
import Derived.Laws.Externs
import Derived.MapKept
import Derived.Test.YtaodldbgikiekaaGreatDoorW8
set_option linter.unusedSimpArgs false
set_option linter.unusedVariables false
set_option maxRecDepth 20000
namespace Go.Proofs.YtaodldbgikiekaaGreatDoor
open Go.RowKit

abbrev Ent:=Int×C×Option Addr×Nat
def entV (x:Ent):List Value:=[.int .i64 x.1,.int .i64 x.2.1.k,.slice x.2.2.1 x.2.1.d.length x.2.2.2]
def sortA (M:List (Int×C)):List Int:=(M.map (·.1)).mergeSort (fun x y=>decide (x≤y))
def sortC (M:List (Int×C)):List (Int×C):=(sortA M).map (fun a=>(a,lookC M a))

end Go.Proofs.YtaodldbgikiekaaGreatDoor

namespace Go.Proofs.YtaodldbgikiekaaGreatDoor

def Rise (S:List (Int×C)):Prop:=S.Pairwise (fun p q=>p.1<q.1)

theorem lookC_of_mem {M:List (Int×C)} (hn:(M.map (·.1)).Nodup) {p:Int×C} (hp:p∈M):lookC M p.1=p.2:=by
 induction M with
 | nil=>cases hp
 | cons q M ih =>
  simp only [List.map_cons,List.nodup_cons] at hn
  unfold lookC
  by_cases hq:q.1=p.1
  ·rcases List.mem_cons.1 hp with rfl | hp
   ·simp
   ·exact absurd (List.mem_map.2 ⟨p,hp,rfl⟩) (hq▸hn.1)
  ·have hpM:p∈M:=by
    rcases List.mem_cons.1 hp with rfl | hp
    ·exact absurd rfl hq
    ·exact hp
   have:=ih hn.2 hpM
   unfold lookC at this
   simp only [List.find?_cons,show (q.1==p.1)=false from by simpa using hq]
   exact this

theorem putC_same (M:List (Int×C)) (hn:(M.map (·.1)).Nodup) (a:Int) (c:C) (h:M.any (·.1==a)=true) (hc:lookC M a=c):putC M a c=M:=by
 unfold putC
 rw [if_pos h]
 conv=>rhs;rw [←List.map_id M]
 refine List.map_congr_left fun p hp=>?_
 by_cases hpa:p.1=a
 ·have:=lookC_of_mem hn hp
  rw [hpa,hc] at this
  simp only [hpa,if_true,id]
  rw [←hpa,this]
 ·simp [hpa]

theorem putC_len (L:List (Int×C)) (a:Int) (c:C):(putC L a c).length≤L.length+1:=by
 unfold putC;split<;>simp

structure M where
 u:U
 t:Int
structure M.ok (m:M):Prop where
 u:m.u.ok
 e:m.u.e=0
 lt:m.u.l≤m.t
 t1:m.t≤1048576
 below:∀ p∈m.u.cells,p.1<m.t
def M.new:M:=⟨U.new,0⟩
def M.put' (m:M) (a:Int) (c:C):M:=⟨{ m.u with cells:=putC m.u.cells a c },max m.t (a+1)⟩
def M.app (m:M) (d:List UInt8):Nat×Int×M:=if 64<d.length then (3,0,m) else if 1048576≤m.t then (5,0,m) else (0,m.t,m.put' m.t ⟨1,d⟩)
def M.rd (m:M) (a:Int):Nat×C:=if !inR a 1048575 then (1,⟨0,[]⟩) else (0,m.u.at a)
def M.fil (m:M) (a:Int):Nat×M:=if !inR a 1048575 then (1,m) else if (m.u.at a).k=3 then (9,m) else if (m.u.at a).k=1 then (8,m.put' a (m.u.at a)) else (0,m.put' a ⟨2,[]⟩)
def M.put (m:M) (a:Int) (x:C):Nat×M :=
 if !inR a 1048575 then (1,m) else if x.check≠0 then (x.check,m) else if x.k≠1∧x.k≠2 then (2,m) else if (m.u.at a).k=3 then (9,m) else if !C.may (m.u.at a) x then (8,m) else (0,m.put' a x)
def M.trim' (m:M) (b:Int):M:=⟨{ m.u with l:=max m.u.l b,cells:=m.u.cells.filter (fun p=>!decide (p.1<max m.u.l b))},max m.t b⟩
def M.trim (m:M) (b:Int):Nat×M:=if !inR b 1048576 then (1,m) else (0,m.trim' b)
theorem M.ok_new:M.new.ok:=⟨U.ok_new,rfl,Int.le_refl _,by decide,by simp [M.new,U.new]⟩
theorem at_some {u:U} (h:u.ok) {a:Int} (h3:(u.at a).k≠3) (h0:(u.at a).k≠0):u.cells.any (·.1==a)=true∧u.at a=lookC u.cells a∧(a,u.at a)∈u.cells:=by
 have hl:¬a<u.l:=by intro hl;exact h3 (by simp [U.at,hl])
 have hat:u.at a=lookC u.cells a:=by simp [U.at,hl]
 have hany:u.cells.any (·.1==a)=true:=by
  cases hq:u.cells.any (·.1==a) with
  | true=>rfl
  | false=>rw [hat,lookC_none hq] at h0;exact absurd rfl h0
 exact ⟨hany,hat,by rw [hat];exact lookC_mem hany⟩
theorem at_low {u:U} {a:Int} (h3:(u.at a).k≠3):u.l≤a:=by
 by_cases hl:a<u.l
 ·exact absurd (by simp [U.at,hl]) h3
 ·omega
theorem put_same {u:U} (h:u.ok) {a:Int} (h3:(u.at a).k≠3) (h0:(u.at a).k≠0):putC u.cells a (u.at a)=u.cells:=by
 obtain ⟨h1,h2,_⟩:=at_some h h3 h0
 exact putC_same _ h.nodup _ _ h1 h2.symm
theorem M.ok_put {m:M} (h:m.ok) {a:Int} {c:C} (ha:inR a 1048575=true) (h3:(m.u.at a).k≠3) (hc:(c.k=1∨c.k=2∧c.d=[])∧c.d.length≤64):(m.put' a c).ok:=by
 have hl:=at_low h3
 have h1:=h.lt;have h2:=h.t1
 simp [inR] at ha
 refine ⟨U.ok_put h.u hl (by omega) hc,h.e,?_,?_,fun p hp=>?_⟩
 ·show m.u.l≤max m.t (a+1);omega
 ·show max m.t (a+1)≤1048576;omega
 ·show p.1<max m.t (a+1)
  rcases mem_putC hp with rfl | hp
  ·simp only;omega
  ·have:=h.below p hp;omega
theorem M.at_tail {m:M} (h:m.ok):m.u.at m.t=⟨0,[]⟩:=by
 have h1:=h.lt
 have hn:m.u.cells.any (·.1==m.t)=false:=by
  rw [List.any_eq_false]
  intro p hp
  have:=h.below p hp
  simp;omega
 simp only [U.at,if_neg (show ¬m.t<m.u.l by omega),lookC_none hn]
theorem at_kind {u:U} (h:u.ok) (a:Int):(u.at a).k=3∧(u.at a).d=[]∨(u.at a).k=0∧(u.at a).d=[]∨(((u.at a).k=1∨(u.at a).k=2∧(u.at a).d=[])∧(u.at a).d.length≤64):=by
 by_cases hl:a<u.l
 ·left;simp [U.at,hl]
 ·by_cases hq:u.cells.any (·.1==a)=true
  ·right;right
   have:=h.kind _ (lookC_mem hq)
   simpa [U.at,hl] using this
  ·right;left
   have hq':u.cells.any (·.1==a)=false:=by simpa only [Bool.not_eq_true] using hq
   simp [U.at,hl,lookC_none hq']
theorem check_zero {x:C} (h:x.check=0) (hk:¬(x.k≠1∧x.k≠2)):(x.k=1∨x.k=2∧x.d=[])∧x.d.length≤64:=by
 unfold C.check at h
 split at h;· cases h
 split at h;· cases h
 split at h;· cases h
 rename_i h1 h2 h3
 refine ⟨?_,by omega⟩
 by_cases h4:x.k=1
 ·exact .inl h4
 ·right
  have h5:x.k=2:=by omega
  refine ⟨h5,?_⟩
  cases hd:x.d with
  | nil=>rfl
  | cons b l=>rw [hd] at h3;simp at h3;exact absurd h3 h4
theorem M.ok_putx {m:M} (h:m.ok) (a:Int) (x:C):(m.put a x).2.ok:=by
 unfold M.put
 split;· exact h
 rename_i h1
 have ha:inR a 1048575=true:=by simpa using h1
 split;· exact h
 rename_i hc
 split;· exact h
 rename_i hk
 split;· exact h
 rename_i h3
 split;· exact h
 exact M.ok_put h ha h3 (check_zero (by simpa using hc) hk)
theorem M.ok_trim {m:M} (h:m.ok) (b:Int):(m.trim b).2.ok:=by
 unfold M.trim
 split;· exact h
 rename_i h1
 have ha:inR b 1048576=true:=by simpa using h1
 simp [inR] at ha
 have h2:=h.u.l1;have h3:=h.lt;have h4:=h.t1
 refine ⟨U.ok_filter (u:=m.u) h.u (l:=max m.u.l b) (by omega) (by omega) (fun p hp hf=>by simpa using hf),h.e,?_,?_,fun p hp=>?_⟩
 ·show max m.u.l b≤max m.t b;omega
 ·show max m.t b≤1048576;omega
 ·have:=h.below p (List.mem_filter.1 hp).1
  show p.1<max m.t b;omega
theorem at_check {u:U} (h:u.ok) (a:Int):(u.at a).check=0:=by
 rcases at_kind h a with ⟨h1,h2⟩ | ⟨h1,h2⟩ | ⟨h1,h2⟩
 ·simp [C.check,h1,h2]
 ·simp [C.check,h1,h2]
 ·rcases h1 with h1 | ⟨h1,h3⟩
  ·have:¬64<(u.at a).d.length:=by omega
   simp [C.check,h1,this]
  ·simp [C.check,h1,h3]

theorem look_put (L:List (Int×C)) (a:Int) (c:C) (x:Int) (hx:x≠a):lookC (putC L a c) x=lookC L x:=by
 unfold putC
 split
 ·rename_i hany
  clear hany
  unfold lookC
  congr 2
  induction L with
  | nil=>rfl
  | cons p L ih =>
   by_cases hp:p.1=a
   ·have h1:(a==x)=false:=by rw [beq_eq_false_iff_ne];exact fun h=>hx h.symm
    have h2:(p.1==x)=false:=by rw [hp];exact h1
    simp only [List.map_cons,if_pos hp,List.find?_cons,h1,h2,ih]
   ·simp only [List.map_cons,if_neg hp,List.find?_cons,ih]
 ·unfold lookC
  rw [List.find?_append]
  have h1:(a==x)=false:=by rw [beq_eq_false_iff_ne];exact fun h=>hx h.symm
  simp [h1]
theorem look_filter (L:List (Int×C)) (f:Int×C→Bool) (hn:(L.map (·.1)).Nodup) {p:Int×C} (hp:p∈L) (hf:f p=true):lookC (L.filter f) p.1=p.2 :=
 lookC_of_mem (hn.sublist (List.filter_sublist.map _)) (List.mem_filter.2 ⟨hp,hf⟩)


def noneE (p:Int×C):Bool:=p.2.k==0||p.2.k==3

def cellB (c:C):List UInt8:=vb c.k.toNat++(if c.k=1 then headB c.d else [])
def entsB:Int→List (Int×C)→List UInt8
 | _,[]=>[]
 | f,p::L=>vb (p.1 - f).toNat++(cellB p.2++entsB (p.1+1) L)
def unitB (e l:Int) (L:List (Int×C)):List UInt8:=vb e.toNat++(vb l.toNat++(vb L.length++entsB l L))
def RD.cell (r:RD):C×RD :=
 if (if (r.within 3).1=1 then (r.within 3).2.text 64 else ([],(r.within 3).2)).2.bad≠0 then (⟨0,[]⟩,(if (r.within 3).1=1 then (r.within 3).2.text 64 else ([],(r.within 3).2)).2)
 else (⟨((r.within 3).1:Nat),(if (r.within 3).1=1 then (r.within 3).2.text 64 else ([],(r.within 3).2)).1⟩,(if (r.within 3).1=1 then (r.within 3).2.text 64 else ([],(r.within 3).2)).2)
/-- the reader ahead of an entry's cell -/
def RD.by1 (r:RD) (f:Int):RD:=if (1048576 - f).toNat≤r.num.1 then r.num.2.fail 1 else r.num.2
def RD.ents:Nat→Int→RD→List (Int×C)→List (Int×C)×RD
 | 0,_,r,acc=>(acc,r)
 | n+1,f,r,acc=>if (r.by1 f).cell.2.bad≠0 then ([],(r.by1 f).cell.2) else RD.ents n (f+(r.num.1:Nat)+1) (r.by1 f).cell.2 (acc++[(f+(r.num.1:Nat),(r.by1 f).cell.1)])
def readU (r:RD):U×RD :=
 let e:=r.within 1099511627776
 let l:=e.2.within 1048576
 let m:=l.2.num
 let x:=RD.ents (min m.1 65536) (l.1:Nat) (if 65536<m.1 then m.2.fail 3 else m.2) []
 (⟨(e.1:Nat),(l.1:Nat),x.1⟩,x.2)
def U.zero:U:=⟨0,0,[]⟩
def takeU (b:List UInt8):Nat×U :=
 if (fone b).1≠0 then ((fone b).1,U.zero) else
  if (readU ⟨(fone b).2,0⟩).2.fin≠0 then ((readU ⟨(fone b).2,0⟩).2.fin,U.zero)
  else if (readU ⟨(fone b).2,0⟩).1.cells.any noneE=true then (2,U.zero) else (0,(readU ⟨(fone b).2,0⟩).1)
def putU (e l:Int) (L:List (Int×C)):Nat×List UInt8:=if 65536<(unitB e l L).length then (3,[]) else (0,frameB (unitB e l L))
def RightL (f:Int) (L:List (Int×C)):Prop:=(∀ p∈L,f≤p.1∧p.1<1048576∧p.2.check=0)∧Rise L
theorem RightL.tail {f:Int} {p:Int×C} {L:List (Int×C)} (h:RightL f (p::L)):RightL (p.1+1) L:=by
 obtain ⟨h1,h2⟩:=h
 obtain ⟨h3,h4⟩:=List.pairwise_cons.1 h2
 exact ⟨fun q hq=>⟨by have:=h3 q hq;omega,(h1 q (List.mem_cons_of_mem _ hq)).2⟩,h4⟩
end Go.Proofs.YtaodldbgikiekaaGreatDoor

namespace Go.Proofs.YtaodldbgikiekaaGreatDoor
open Go.RowKit

/-- no byte lies in a unit's own two blocks -/
theorem UnitAt.no_byte {A:Nat→Prop} {w:World} {bu bm:Nat} {u:U} (h:UnitAt A w bu bm u) {p:Addr} {b:UInt8} (hp:w.cell? p=some (byteV b)):¬(p.block=bu∨p.block=bm):=by
 obtain ⟨blk,off,row⟩:=p
 obtain ⟨L,⟨es,clock,h1,_⟩,_⟩:=h.map
 rintro (rfl | rfl)
 ·unfold World.cell? at hp
  rw [h.blk] at hp
  simp only at hp
  split at hp
  ·cases hp
  ·match off with
   | 0=>simp [byteV] at hp
   | 1=>simp [byteV] at hp
   | 2=>simp [byteV] at hp
   | n+3=>simp at hp
 ·unfold World.cell? at hp
  rw [h1] at hp
  simp only at hp
  cases hp
theorem UnitAt.bytes {A:Nat→Prop} {w w':World} {bu bm:Nat} {u:U} (h:UnitAt A w bu bm u) {v:Value} {d:List UInt8} (hd:Bytes w v d) (hf:Fr (fun k=>k=bu∨k=bm) w w'):Bytes w' v d:=by
 obtain ⟨a,cap,rfl,h1,h2,h3,h4⟩:=hd
 refine ⟨a,cap,rfl,h1,h2,h3,fun j x hx=>?_⟩
 obtain ⟨p,hp,hc⟩:=h4 j x hx
 refine ⟨p,hp,hf.cell hc ?_⟩
 have hx':∃ b,x=byteV b:=by
  simp only [byteVs,List.getElem?_map] at hx
  cases hq:d[j]? with
  | none=>rw [hq] at hx;simp at hx
  | some b=>rw [hq] at hx;simp at hx;exact ⟨b,hx.symm⟩
 obtain ⟨b,rfl⟩:=hx'
 exact h.no_byte hc


theorem run_equalIn_map_nil' {P:Program} {w:World} (d:Nat) (t k e:TypeId) (p:Option Nat) (h:P.underlying t=some (.map k e)) :
  (Op.equalIn (d+1) t (.map p) (.map none)).run P w=.ok p.isNone w:=by
 cases p<;>simp [Op.equalIn,run_underlying h]
theorem run_eql_map_nil' {P:Program} {w:World} (t k e:TypeId) (p:Option Nat) (h:P.underlying t=some (.map k e)) :
  (binOp .eql t (.map p) (.map none)).run P w=.ok (.bool p.isNone) w:=by
 simp only [binOp]
 simp [show Op.equal t (.map p) (.map none)=Op.equalIn (9999+1) t (.map p) (.map none) from rfl,run_equalIn_map_nil' 9999 t k e p h]
theorem run_typeAssert_map' {P:Program} {w:World} (t xT k e:TypeId) (v:Value) (h:P.underlying t=some (.map k e)):(Instr.typeAssert (.iface t v) xT t false).run P w=.ok v w:=by
 simp [Instr.typeAssert,run_underlying h,go_sem,Result.andThen]
theorem run_maps_clone' {P:Program} {w:World} {r:Nat} {es:Array MapEntry} {clock:Nat} (t:TypeId) (hb:w.heap[r]?=some (.map es clock)) :
  (Extern.MapsClone.clone #[.iface t (.map (some r))]).run P w=.ok (.iface t (.map (some w.heap.size))) (w.alloc (.map es clock)):=by
 have e:Extern.MapsClone.clone #[.iface t (.map (some r))]=(getObj r >>= fun o=>match o with
   | .map entries clock=>(newObj (.map entries clock) >>= fun n=>pure (.iface t (.map (some n))))
   | _ => stuck "maps.clone: a map expected") := rfl
 rw [e]
 simp [MapKept.run_getObj_map hb,Result.andThen,go_sem]

def CloneR (bm:Nat) (L:List (Int×Value)) (w:World) (en:Ending) (w':World):Prop :=
 en=.returned (.map (some w.heap.size))∧Below w.heap.size w w'∧w'.heap.size=w.heap.size+1∧MapAt w' w.heap.size L
set_option maxHeartbeats 1000000 in
theorem mclone_any (bm:Nat) (L:List (Int×Value)) (w:World) (h:MapAt w bm L):Calls Tryz.prog 171 #[.map (some bm)] w (CloneR bm L w):=by
 obtain ⟨es,clock,hb,hs⟩:=h
 have hq:=fun w=>run_eql_map_nil' (P:=Tryz.prog) (w:=w) 209 _ _ (some bm) Tryz.underlying209
 go_enter Tryz.func171, Tryz.ntmps171
 go_wp2
 rw [run_callFunc_extern Tryz.func221 (by kernel_rfl) (by kernel_rfl) (by kernel_rfl) (e:=Extern.MapsClone.clone) (by kernel_rfl),run_maps_clone' (w:=w) 209 hb]
 simp only [Result.andThen]
 rw [Oper.upon_value]
 go_wp2
 rw [run_typeAssert_map' 209 _ _ _ _ Tryz.underlying209]
 simp only [Result.andThen]
 rw [Oper.upon_value]
 go_wp2
 go_ret
 exact ⟨rfl,by go_grown,by simp,⟨es,clock,by show (w.heap.push _)[w.heap.size]?=_;simp,hs⟩⟩

/-- one apart -/
def CopyUR (A0:Nat→Prop) (u:U) (w:World) (en:Ending) (w':World):Prop :=
 en=.returned (.pointer (some ⟨w.heap.size+1,0,none⟩))∧Below w.heap.size w w'∧w'.heap.size=w.heap.size+2 ∧
  ∀ A:Nat→Prop,(∀ k,A k→A0 k∨w.heap.size≤k)→A w.heap.size→A (w.heap.size+1)→UnitAt A w' (w.heap.size+1) w.heap.size u
theorem EntIs.weak {A A':Nat→Prop} {w:World} {p:Int×Value} {q:Int×C} (h:EntIs A w p q) (hA:∀ k,A' k→A k∨w.heap.size≤k):EntIs A' w p q:=by
 obtain ⟨h1,a,cap,h2,h3,h4⟩:=h
 refine ⟨h1,a,cap,h2,h3,fun x hx=>⟨fun hk=>?_,(h4 x hx).2⟩⟩
 rcases hA _ hk with h5 | h5
 ·exact (h4 x hx).1 h5
 ·have:=(h4 x hx).2;omega
set_option maxHeartbeats 1000000 in
theorem ucopy_any {A:Nat→Prop} {bu bm:Nat} {u:U} (w:World) (h:UnitAt A w bu bm u):Calls Tryz.prog 118 #[.pointer (some ⟨bu,0,none⟩)] w (CopyUR A u w):=by
 obtain ⟨c0,c1,c2⟩:=h.cell
 have hlt:=h.lt.1
 obtain ⟨L,hm,hL⟩:=h.map
 have H:=Lib.hid' h
 have HM:=Lib.hid' hm
 have HL:=Lib.hid' hL
 clear h hm hL
 go_enter Tryz.func118, Tryz.ntmps118
 go_wp2_with fail
 refine wp_region_held_drew (S:=(fun w'=>w'.cell? ⟨bu,0,none⟩=some (.int .i64 u.e)∧w'.cell? ⟨bu,1,none⟩=some (.int .i64 u.l)∧w'.cell? ⟨bu,2,none⟩=some (.map (some bm)))) (by kernel_rfl) ⟨by simpa using c0,by simpa using c1,by simpa using c2⟩ (fun hH0=>?_)
 refine tA 0 (.pointer (some ⟨bu,0,none⟩)) rfl hH0 ?_ ?_
 ·intro w hSw;go_simp
 simp only [Act.put,gA,gZ,gS,sA,sZ,sS]
 refine tA 1 (.pointer (some ⟨bu,0,none⟩)) rfl hH0 ?_ ?_
 ·intro w hSw;go_simp
 simp only [Act.put,gA,gZ,gS,sA,sZ,sS]
 refine tA 2 (.pointer (some ⟨bu,0,none⟩)) rfl hH0 ?_ ?_
 ·intro w hSw;go_simp
 simp only [Act.put,gA,gZ,gS,sA,sZ,sS]
 refine tA 3 (.int .i64 u.e) rfl hH0 ?_ ?_
 ·intro w hSw;go_simp
 simp only [Act.put,gA,gZ,gS,sA,sZ,sS]
 refine tA 4 (.pointer (some ⟨bu,0,none⟩)) rfl hH0 ?_ ?_
 ·intro w hSw;go_simp
 simp only [Act.put,gA,gZ,gS,sA,sZ,sS]
 refine tA 5 (.pointer (some ⟨bu,0,none⟩)) rfl hH0 ?_ ?_
 ·intro w hSw;go_simp
 simp only [Act.put,gA,gZ,gS,sA,sZ,sS]
 refine tA 6 (.pointer (some ⟨bu,1,none⟩)) rfl hH0 ?_ ?_
 ·intro w hSw;go_simp
 simp only [Act.put,gA,gZ,gS,sA,sZ,sS]
 refine tA 7 (.int .i64 u.l) rfl hH0 ?_ ?_
 ·intro w hSw;go_simp
 simp only [Act.put,gA,gZ,gS,sA,sZ,sS]
 refine tA 8 (.pointer (some ⟨bu,0,none⟩)) rfl hH0 ?_ ?_
 ·intro w hSw;go_simp
 simp only [Act.put,gA,gZ,gS,sA,sZ,sS]
 refine tA 9 (.pointer (some ⟨bu,0,none⟩)) rfl hH0 ?_ ?_
 ·intro w hSw;go_simp
 simp only [Act.put,gA,gZ,gS,sA,sZ,sS]
 refine tA 10 (.pointer (some ⟨bu,2,none⟩)) rfl hH0 ?_ ?_
 ·intro w hSw;go_simp
 simp only [Act.put,gA,gZ,gS,sA,sZ,sS]
 refine tA 11 (.map (some bm)) rfl hH0 ?_ ?_
 ·intro w hSw;go_simp
 simp only [Act.put,gA,gZ,gS,sA,sZ,sS]
 refine rD 12 rfl (fun K hK=>?_)
 go_simp
 refine (mclone_any bm L w.drew (HM.out.block rfl)).mono ?_
 rintro en w2 ⟨rfl,hb2,hz2',hm2⟩
 have hz2:w2.heap.size=w.heap.size+1:=hz2'
 clear hz2'
 have HM2:=Zh (show MapAt w2 w.heap.size L from hm2)
 have HB2:=Zh (show Below w.heap.size w w2 from (Below.drew (Below.refl _ _)).trans hb2)
 have z0:=(HB2.out.cell (p:=⟨bu,0,none⟩) hlt).trans c0
 have z1:=(HB2.out.cell (p:=⟨bu,1,none⟩) hlt).trans c1
 have z2:=(HB2.out.cell (p:=⟨bu,2,none⟩) hlt).trans c2
 have hlt2:bu<w2.heap.size:=by omega
 clear hm2 hb2
 refine hK.out _ _ ?_ (fun hH1=>?_)
 ·exact ⟨z0,z1,z2⟩
 clear hK K
 refine tA 13 (.agg #[.int .i64 u.e,.int .i64 u.l,.map (some w.heap.size)]) rfl hH1 ?_ ?_
 ·intro w hSw;go_simp
 simp only [Act.put,gA,gZ,gS,sA,sZ,sS]
 refine rD 14 rfl (fun K hK=>?_)
 go_simp
 refine hK.out _ _ ?_ (fun hH2=>?_)
 ·refine ⟨?_,?_,?_⟩<;>simp [go_sem,z0,z1,z2,hlt2]
 clear hK K
 refine tA 15 (.pointer (some ⟨w2.heap.size,0,none⟩)) rfl hH2 ?_ ?_
 ·intro w hSw;go_simp
 simp only [Act.put,gA,gZ,gS,sA,sZ,sS]
 refine wpAnyH_done (by kernel_rfl) ?_ _
 go_wp2
 go_ret
 rw [hz2]
 refine ⟨rfl,?_,by simp [hz2],fun A' hA h1 h2=>?_⟩
 ·exact HB2.out.trans ((show Below w2.heap.size w2 _ by go_grown).mono (by omega))
 ·have hblk:=heap_alloc2_new
  refine ⟨?_,⟨L,HM2.out.block (Below.heap_alloc _ _ _ (by omega)),?_⟩,H.out.ok,h2,h1⟩
  ·rw [←hz2];show (w2.heap.push _)[w2.heap.size]?=_;simp
  ·refine HL.out.mono fun q r _ _ hqr=>(hqr.weak hA).fr (F:=fun k=>False) (Fr.of_below ?_) (fun _ h=>h.elim)
   exact HB2.out.trans ((show Below w2.heap.size w2 _ by go_grown).mono (by omega))

abbrev PoolL:=List (Value×List UInt8)
/-- an entry of a map of cells, its bytes in the pool -/
def CRel (vs:PoolL) (x:Int×Value) (y:Int×C):Prop:=x.1=y.1∧∃ a c,x.2=.agg #[.int .i64 y.2.k,.slice a y.2.d.length c]∧(Value.slice a y.2.d.length c,y.2.d)∈vs
def Asn.unit (bu bm:Nat) (u:U) (vs:PoolL):Asn where
 holds:=fun w=>w.heap[bu]?=some (.cells #[.int .i64 u.e,.int .i64 u.l,.map (some bm)] 211 (0,0))∧(∃ L,MapAt w bm L∧F2 (CRel vs) L u.cells)∧u.ok
 foot:=fun k=>k=bu∨k=bm
 lt:=fun w h b hb=>by
  obtain ⟨h1,⟨L,h2,_⟩,_⟩:=h
  rcases hb with rfl | rfl
  ·exact (Array.getElem?_eq_some_iff.1 h1).1
  ·exact h2.lt
 keep:=fun w w' h k=>⟨(k bu (.inl rfl)).trans h.1,by
  obtain ⟨L,h2,h3⟩:=h.2.1
  exact ⟨L,h2.block (k bm (.inr rfl)),h3⟩,h.2.2⟩
theorem Asn.unit_more {w:World} {bu bm:Nat} {u:U} {vs us:PoolL} (h:(Asn.unit bu bm u vs).holds w) (hs:∀ x∈vs,x∈us):(Asn.unit bu bm u us).holds w:=by
 obtain ⟨h1,⟨L,h2,h3⟩,h4⟩:=h
 exact ⟨h1,⟨L,h2,h3.mono (fun _ _ _ _ ⟨q1,a,c,q2,q3⟩=>⟨q1,a,c,q2,hs _ q3⟩)⟩,h4⟩
/-- what a call with the unit may not have told of its bytes -/
def Off (w:World) (Z:Nat→Prop):Nat→Prop:=fun k=>k<w.heap.size∧¬Z k
theorem Asn.unitAt {w:World} {bu bm:Nat} {u:U} {vs:PoolL} {Z:Nat→Prop} (h:(Asn.unit bu bm u vs).holds w) (hp:(Asn.pool Z vs).holds w) (h1:¬Z bu) (h2:¬Z bm):UnitAt (Off w Z) w bu bm u:=by
 have hl1:=(Asn.unit bu bm u vs).lt w h bu (.inl rfl)
 have hl2:=(Asn.unit bu bm u vs).lt w h bm (.inr rfl)
 obtain ⟨q1,⟨L,q2,q3⟩,q4⟩:=h
 refine ⟨q1,⟨L,q2,q3.mono (fun x y _ _ ⟨r1,a,c,r2,r3⟩=>⟨r1,a,c,r2,(hp.1 _ r3).1,fun p hpa=>?_⟩)⟩,q4,⟨hl1,h1⟩,⟨hl2,h2⟩⟩
 have hz:Z p.block:=(hp.1 _ r3).2 p _ _ (by rw [hpa])
 exact ⟨fun hk=>hk.2 hz,hp.2 _ hz⟩
theorem Sep.unitAt {w0 w:World} {F Z:Nat→Prop} {bu bm:Nat} {u:U} {vs:PoolL} {L:List Asn} (h:Sep w0 F (Asn.unit bu bm u vs::Asn.pool Z vs::L) w):UnitAt (Off w Z) w bu bm u :=
 Asn.unitAt (h.at 0 rfl) (h.at 1 rfl) (h.off 0 1 rfl rfl (by decide) bu (.inl rfl)) (h.off 0 1 rfl rfl (by decide) bm (.inr rfl))
/-- the bytes of a unit's cells -/
theorem unit_pool {A:Nat→Prop} {w:World} {bu bm:Nat} {u:U} (h:UnitAt A w bu bm u):∃ us:PoolL,(Asn.unit bu bm u us).holds w∧∀ x∈us,Bytes w x.1 x.2∧SlIn (fun k=>¬A k∧k<w.heap.size) x.1:=by
 obtain ⟨L,h1,h2⟩:=h.map
 have key:∀ (L:List (Int×Value)) (M:List (Int×C)),F2 (EntIs A w) L M→∃ us:PoolL,F2 (CRel us) L M∧∀ x∈us,Bytes w x.1 x.2∧SlIn (fun k=>¬A k∧k<w.heap.size) x.1:=by
  intro L M h
  induction h with
  | nil=>exact ⟨[],.nil,by simp⟩
  | cons hab _ ih =>
   obtain ⟨us,q1,q2⟩:=ih
   obtain ⟨r1,a,c,r2,r3,r4⟩:=hab
   refine ⟨(Value.slice a _ c,_)::us,.cons ⟨r1,a,c,r2,List.mem_cons_self⟩ (q1.mono (fun _ _ _ _ ⟨s1,a,c,s2,s3⟩=>⟨s1,a,c,s2,List.mem_cons_of_mem _ s3⟩)),fun x hx=>?_⟩
   rcases List.mem_cons.1 hx with rfl | hx
   ·refine ⟨r3,fun p n cc hv=>?_⟩
    simp only [Value.slice.injEq] at hv
    exact r4 p hv.1
   ·exact q2 x hx
 obtain ⟨us,q1,q2⟩:=key L u.cells h2
 exact ⟨us,⟨h.blk,⟨L,h1,q1⟩,h.ok⟩,q2⟩
/-- behind a call with the unit that told its world anew -/
theorem Sep.unitCall {w0 w w':World} {F Z:Nat→Prop} {bu bm:Nat} {u u':U} {vs:PoolL} {L:List Asn} (h:Sep w0 F (Asn.unit bu bm u vs::Asn.pool Z vs::L) w) (hU:UnitAt (Off w Z) w' bu bm u') (hf:Fr (fun k=>k=bu∨k=bm) w w') :
  ∃ Z' vs',(∀ x∈vs,x∈vs')∧Sep w0 F (Asn.unit bu bm u' vs'::Asn.pool Z' vs'::L) w':=by
 obtain ⟨us,q1,q2⟩:=unit_pool hU
 have hbu:=h.lt' 0 rfl (b:=bu) (.inl rfl)
 have hbm:=h.lt' 0 rfl (b:=bm) (.inr rfl)
 have hzu:¬Z bu:=h.off 0 1 rfl rfl (by decide) bu (.inl rfl)
 have hzm:¬Z bm:=h.off 0 1 rfl rfl (by decide) bm (.inr rfl)
 have hp:=h.at 1 rfl
 have hp':(Asn.pool Z vs).holds w':=(Asn.pool Z vs).keep w w' hp (fun b hb=>hf.block b (hp.2 b hb) (by rintro (rfl | rfl);exact hzu hb;exact hzm hb))
 refine ⟨fun k=>Z k∨(w.heap.size≤k∧k<w'.heap.size),vs++us,fun x hx=>List.mem_append_left _ hx,?_⟩
 have h1:Sep w0 F ((Asn.unit bu bm u vs).sep (Asn.pool Z vs)::L) w:=h.join
 have h2:Sep w0 F ((Asn.unit bu bm u' (vs++us)).sep (Asn.pool (fun k=>Z k∨(w.heap.size≤k∧k<w'.heap.size)) (vs++us))::L) w':=by
  refine h1.fr1 (hf.mono (fun i hi=>.inl hi)) ⟨Asn.unit_more q1 (fun x hx=>List.mem_append_right _ hx),⟨fun x hx=>?_,fun b hb=>?_⟩,fun b hb hc=>?_⟩ (fun b hb=>?_)
  ·rcases List.mem_append.1 hx with hx | hx
   ·exact ⟨(hp'.1 x hx).1,fun p n c hv=>.inl ((hp'.1 x hx).2 p n c hv)⟩
   ·refine ⟨(q2 x hx).1,fun p n c hv=>?_⟩
    obtain ⟨r1,r2⟩:=(q2 x hx).2 p n c hv
    by_cases hz:Z p.block
    ·exact .inl hz
    ·exact .inr ⟨Nat.le_of_not_lt (fun hlt=>r1 ⟨hlt,hz⟩),r2⟩
  ·rcases hb with hb | hb
   ·exact hp'.2 b hb
   ·exact hb.2
  ·rcases hb with rfl | rfl
   ·rcases hc with hc | hc
    ·exact hzu hc
    ·omega
   ·rcases hc with hc | hc
    ·exact hzm hc
    ·omega
  ·rcases hb with hb | hb | hb
   ·exact .inr (.inl hb)
   ·exact .inr (.inr hb)
   ·exact .inl hb.1
 exact h2.part
/-- a new unit, its bytes in the pool, or new -/
theorem Sep.unitNew {w0 w w':World} {F Z:Nat→Prop} {bu bm:Nat} {u:U} {vs:PoolL} {L:List Asn} (h:Sep w0 F (Asn.pool Z vs::L) w) (hb:Below w.heap.size w w') (h1:w.heap.size≤bu) (h2:w.heap.size≤bm) (hU:UnitAt (fun k=>Off w Z k∨k=bu∨k=bm) w' bu bm u) :
  ∃ Z' vs',(∀ x∈vs,x∈vs')∧Sep w0 F (Asn.unit bu bm u vs'::Asn.pool Z' vs'::L) w':=by
 obtain ⟨us,q1,q2⟩:=unit_pool hU
 have hl1:=(Asn.unit bu bm u us).lt w' q1 bu (.inl rfl)
 have hl2:=(Asn.unit bu bm u us).lt w' q1 bm (.inr rfl)
 have hp:=h.at 0 rfl
 have hp':(Asn.pool Z vs).holds w':=(Asn.pool Z vs).keep w w' hp (fun b hb'=>hb.block b (hp.2 b hb'))
 refine ⟨fun k=>Z k∨((w.heap.size≤k∧k<w'.heap.size)∧k≠bu∧k≠bm),vs++us,fun x hx=>List.mem_append_left _ hx,?_⟩
 have h3:Sep w0 F ((Asn.unit bu bm u (vs++us)).sep (Asn.pool (fun k=>Z k∨((w.heap.size≤k∧k<w'.heap.size)∧k≠bu∧k≠bm)) (vs++us))::L) w':=by
  refine h.fr1 (Fr.of_below hb) ⟨Asn.unit_more q1 (fun x hx=>List.mem_append_right _ hx),⟨fun x hx=>?_,fun b hb=>?_⟩,fun b hb hc=>?_⟩ (fun b hb=>?_)
  ·rcases List.mem_append.1 hx with hx | hx
   ·exact ⟨(hp'.1 x hx).1,fun p n c hv=>.inl ((hp'.1 x hx).2 p n c hv)⟩
   ·refine ⟨(q2 x hx).1,fun p n c hv=>?_⟩
    obtain ⟨r1,r2⟩:=(q2 x hx).2 p n c hv
    by_cases hz:Z p.block
    ·exact .inl hz
    ·exact .inr ⟨⟨Nat.le_of_not_lt (fun hlt=>r1 (.inl ⟨hlt,hz⟩)),r2⟩,fun e=>r1 (.inr (.inl e)),fun e=>r1 (.inr (.inr e))⟩
  ·rcases hb with hb | hb
   ·exact hp'.2 b hb
   ·exact hb.1.2
  ·rcases hb with rfl | rfl
   ·rcases hc with hc | hc
    ·have:=hp.2 b hc;omega
    ·exact hc.2.1 rfl
   ·rcases hc with hc | hc
    ·have:=hp.2 b hc;omega
    ·exact hc.2.2 rfl
  ·rcases hb with (rfl | rfl) | hb | hb
   ·exact .inl h1
   ·exact .inl h2
   ·exact .inr hb
   ·exact .inl hb.1.1
 exact h3.part

/-- a list of entries, and where their data lie -/
def EL (w:World) (a:Option Addr) (c:Nat) (E:List Ent):Prop:=SlV w (.slice a E.length c) E.length (E.flatMap entV)∧∀ x∈E,Bytes w (.slice x.2.2.1 x.2.1.d.length x.2.2.2) x.2.1.d
theorem take_any {α:Type} (f:α→Bool) (L:List α) (k:Nat) (hk:k<L.length):(L.take (k+1)).any f=((L.take k).any f||f L[k]):=by
 rw [List.take_succ_eq_append_getElem hk,List.any_append];simp
end Go.Proofs.YtaodldbgikiekaaGreatDoor
