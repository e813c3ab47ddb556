/- Proved here: a part of the proof (8 of 35). -/
import Derived.Test.YtaodldbgikiekaaGreatDoorW1
import Derived.Laws.Strings
import Derived.Laws.Tables
import Derived.Deep.MidRow
set_option linter.unusedSimpArgs false
set_option linter.unusedVariables false
set_option maxRecDepth 20000
namespace Go.Proofs.YtaodldbgikiekaaGreatDoor
open Go.RowKit
namespace MS
instance:LawfulBEq ByteArray where
 eq_of_beq {a b} h:=by
  cases a;cases b
  have h2:=eq_of_beq (show (ByteArray.data _==ByteArray.data _)=true from h)
  cases h2;rfl
 rfl {a}:=by
  cases a
  exact beq_self_eq_true (α:=Array UInt8) _
structure MapT (P:Program) (t k e:Nat) (z:Value):Prop where
 under:P.underlying t=some (.map k e)
 key:P.underlying k=some .string
 zero:∀ w,(zeroValue e).run P w=.ok z w

def kv (e:MapEntry):Value×Value:=(e.key,e.val)
def vk (p:ByteArray×Value):Value×Value:=(.string p.1,p.2)

/-- the entries es show the association list L -/
structure Shows (es:List MapEntry) (clock:Nat) (L:List (ByteArray×Value)):Prop where
 eq:es.map kv=L.map vk
 nodup:(L.map (·.1)).Nodup
 rise:es.Pairwise (fun x y=>x.born<y.born)
 old:∀ e∈es,e.born<clock

def MapAt (w:World) (b:Nat) (L:List (ByteArray×Value)):Prop:=∃ es clock,w.heap[b]?=some (.map es clock)∧Shows es.toList clock L

theorem MapAt.block {w w':World} {b:Nat} {L:List (ByteArray×Value)} (h:MapAt w b L) (hb:w'.heap[b]?=w.heap[b]?):MapAt w' b L:=by
 obtain ⟨es,clock,h1,h2⟩:=h
 exact ⟨es,clock,hb.trans h1,h2⟩
theorem MapAt.lt {w:World} {b:Nat} {L:List (ByteArray×Value)} (h:MapAt w b L):b<w.heap.size:=by
 obtain ⟨es,clock,h1,_⟩:=h
 exact (Array.getElem?_eq_some_iff.1 h1).1
theorem MapAt.nodup {w:World} {b:Nat} {L:List (ByteArray×Value)} (h:MapAt w b L):(L.map (·.1)).Nodup:=by
 obtain ⟨_,_,_,h2⟩:=h;exact h2.nodup

theorem MapAt.made (w:World):MapAt (w.alloc (.map #[] 0)) w.heap.size [] :=
 ⟨#[],0,by show (w.heap.push _)[w.heap.size]?=_;simp,⟨rfl,by simp,by simp,by simp⟩⟩

theorem findNow_int {a:ByteArray}:∀ (es:List MapEntry) (L:List (ByteArray×Value)) (i:Nat),es.map kv=L.map vk →
  Instr.findNow .string (.string a) es i=some ((L.findIdx? (·.1==a)).bind fun j=>(L[j]?).map fun p=>(i+j,p.2))
 | [],L,i,h=>by
  have:L=[]:=by simpa using h.symm
  subst this;simp [Instr.findNow]
 | e::es,[],i,h=>by simp at h
 | e::es,p::L,i,h=>by
  simp only [List.map_cons,List.cons.injEq] at h
  obtain ⟨h1,h2⟩:=h
  have hk:e.key=.string p.1:=congrArg Prod.fst h1
  have hv:e.val=p.2:=congrArg Prod.snd h1
  unfold Instr.findNow
  rw [hk]
  simp only [Instr.sameNow,if_true]
  by_cases hpa:p.1=a
  ·subst hpa;simp [List.findIdx?_cons,hv]
  ·have e1:(a==p.1)=false:=by simp;exact fun h=>hpa h.symm
   have e2:(p.1==a)=false:=by simp [hpa]
   rw [e1]
   simp only [List.findIdx?_cons,e2]
   rw [findNow_int es L (i+1) h2]
   cases hf:L.findIdx? (fun x=>x.1==a) with
   | none=>simp
   | some j=>simp [Nat.add_assoc,Nat.add_comm 1 j]

theorem run_checkKey' {P:Program} {t k e:Nat} {z:Value} (T:MapT P t k e z) (w:World) (b:Bool) (n:Nat) (a:ByteArray):(Instr.checkKey b (n+1) k (.string a)).run P w=.ok () w:=by
 simp [Instr.checkKey,run_underlying T.key,go_sem]
theorem run_checkKey {P:Program} {t k e:Nat} {z:Value} (T:MapT P t k e z) (w:World) (b:Bool) (a:ByteArray):(Instr.checkKey b 10000 k (.string a)).run P w=.ok () w:=run_checkKey' T w b 9999 a
theorem run_findKey {P:Program} {t k e:Nat} {z:Value} (T:MapT P t k e z) (w:World) {es:List MapEntry} {L:List (ByteArray×Value)} (h:es.map kv=L.map vk) (a:ByteArray) :
  (Instr.findKey k (.string a) es).run P w=.ok ((L.findIdx? (·.1==a)).bind fun j=>(L[j]?).map fun p=>(j,p.2)) w:=by
 have hf:=findNow_int (a:=a) es L 0 h
 simp [Instr.findKey,run_underlying T.key,go_sem,hf]

def lookE (L:List (ByteArray×Value)) (a:ByteArray):Option Value:=(L.find? (·.1==a)).map (·.2)
theorem find_idx {α:Type} (p:α→Bool):∀ L:List α,L.find? p=(L.findIdx? p).bind fun j=>L[j]?
 | []=>rfl
 | x::L=>by
  by_cases h:p x=true
  ·simp [List.find?_cons,List.findIdx?_cons,h]
  ·have h':p x=false:=by simpa using h
   simp only [List.find?_cons,List.findIdx?_cons,h',find_idx p L]
   cases L.findIdx? p<;>simp

theorem run_look {P:Program} {t k e:Nat} {z:Value} (T:MapT P t k e z) {w:World} {b:Nat} {L:List (ByteArray×Value)} (h:MapAt w b L) (a:ByteArray) :
  (Instr.lookup t (.map (some b)) (.string a) false).run P w=.ok ((lookE L a).getD z) w:=by
 obtain ⟨es,clock,hb,hs⟩:=h
 have hz:=T.zero w
 have hf:=fun w=>run_findKey T w hs.eq a
 have hck:=run_checkKey T
 have hk:=T.key
 simp only [Instr.lookup]
 simp [run_underlying T.under,getObj,Sem.run,hb,go_sem,hck,hf,lookE,find_idx]
 cases hj:L.findIdx? (fun x=>x.1==a) with
 | none=>simp [hz,go_sem]
 | some j =>
  have hlt:j<L.length:=(List.findIdx?_eq_some_iff_getElem.1 hj).1
  simp [List.getElem?_eq_getElem hlt,go_sem]

def setBlk (w:World) (b:Nat) (o:Obj):World:={ w with heap:=w.heap.setIfInBounds b o }
theorem setBlk_size (w:World) (b:Nat) (o:Obj):(setBlk w b o).heap.size=w.heap.size:=by simp [setBlk]
theorem setBlk_at {w:World} {b:Nat} (o:Obj) (h:b<w.heap.size):(setBlk w b o).heap[b]?=some o:=by simp [setBlk,h]
theorem setBlk_ne {w:World} {b k:Nat} (o:Obj) (h:k≠b):(setBlk w b o).heap[k]?=w.heap[k]?:=by
 simp only [setBlk];rw [Array.getElem?_setIfInBounds_ne (by omega)]
theorem setBlk_fr (w:World) (b:Nat) (o:Obj):Fr (·=b) w (setBlk w b o):=⟨rfl,rfl,rfl,by simp [setBlk_size],fun _ _ hn=>setBlk_ne o hn⟩

def putE (L:List (ByteArray×Value)) (a:ByteArray) (v:Value):List (ByteArray×Value):=if L.any (·.1==a) then L.map (fun p=>if p.1=a then (a,v) else p) else L++[(a,v)]

theorem modify_map {es:List MapEntry} {L:List (ByteArray×Value)} {a:ByteArray} {v:Value} {j:Nat} (h:es.map kv=L.map vk) (hn:(L.map (·.1)).Nodup) (hj:L.findIdx? (fun x=>x.1==a)=some j) :
  (es.modify j (fun e=>{ e with key:=.string a,val:=v })).map kv=(L.map (fun p=>if p.1=a then (a,v) else p)).map vk:=by
 induction es generalizing L j with
 | nil =>
  have:L=[]:=by simpa using h.symm
  subst this;simp at hj
 | cons e es ih =>
  cases L with
  | nil=>simp at h
  | cons p L =>
   simp only [List.map_cons,List.cons.injEq] at h
   simp only [List.map_cons,List.nodup_cons] at hn
   by_cases hpa:p.1=a
   ·simp [List.findIdx?_cons,hpa] at hj
    subst hj
    have hrest:L.map (fun p=>if p.1=a then (a,v) else p)=L:=by
     conv=>rhs;rw [←List.map_id L]
     refine List.map_congr_left fun q hq=>?_
     have:q.1≠a:=fun hqa=>hn.1 (by rw [hpa,←hqa];exact List.mem_map_of_mem (f:=(·.1)) hq)
     simp [this]
    simp [hpa,hrest,h.2,kv,vk]
   ·have e2:(p.1==a)=false:=by simp [hpa]
    simp only [List.findIdx?_cons,e2] at hj
    obtain ⟨j',hj',rfl⟩:∃ j',L.findIdx? (fun x=>x.1==a)=some j'∧j'+1=j:=by
     cases hq:L.findIdx? (fun x=>x.1==a) with
     | none=>simp [hq] at hj
     | some j'=>simp [hq] at hj;exact ⟨j',rfl,hj⟩
    simp only [List.modify_succ_cons,List.map_cons,hpa,if_false,h.1,List.cons.injEq,true_and]
    exact ih h.2 hn.2 hj'

theorem modify_born {es:List MapEntry} {f:MapEntry→MapEntry} (hf:∀ e,(f e).born=e.born) (j:Nat):(es.modify j f).map (·.born)=es.map (·.born):=by
 induction es generalizing j with
 | nil=>simp
 | cons e es ih=>cases j with
  | zero=>simp [hf]
  | succ j=>simp [ih]

theorem rise_iff (es:List MapEntry):es.Pairwise (fun x y=>x.born<y.born)↔(es.map (·.born)).Pairwise (·<·):=by rw [List.pairwise_map]
theorem old_iff (es:List MapEntry) (c:Nat):(∀ e∈es,e.born<c)↔∀ n∈es.map (·.born),n<c:=by simp

theorem putE_keys (L:List (ByteArray×Value)) (a:ByteArray) (v:Value) (h:(L.map (·.1)).Nodup):((putE L a v).map (·.1)).Nodup:=by
 unfold putE
 split
 ·have:(L.map (fun p=>if p.1=a then (a,v) else p)).map (·.1)=L.map (·.1):=by
   rw [List.map_map];refine List.map_congr_left fun p _=>?_
   by_cases hp:p.1=a<;>simp [hp]
  rw [this];exact h
 ·rename_i hn
  rw [List.map_append,List.nodup_append]
  refine ⟨h,by simp,?_⟩
  intro x hx y hy
  simp at hy;subst hy
  intro hxa;subst hxa
  apply hn
  simp only [List.any_eq_true,beq_iff_eq]
  obtain ⟨p,hp,hpx⟩:=List.mem_map.1 hx
  exact ⟨p,hp,hpx⟩

theorem run_store {P:Program} {t k e:Nat} {z:Value} (T:MapT P t k e z) {w:World} {b:Nat} {L:List (ByteArray×Value)} (h:MapAt w b L) (a:ByteArray) (v:Value) :
  ∃ o,(Instr.mapUpdate t (.map (some b)) (.string a) v).run P w=.ok () (setBlk w b o)∧MapAt (setBlk w b o) b (putE L a v):=by
 have hlt:=h.lt
 obtain ⟨es,clock,hb,hs⟩:=h
 have hf:=fun w=>run_findKey T w hs.eq a
 have hck:=run_checkKey T
 have hset:∀ o,(setObj b o).run P w=.ok () (setBlk w b o):=fun o=>by simp [setObj,Sem.run,hb,setBlk]
 cases hj:L.findIdx? (fun x=>x.1==a) with
 | none =>
  refine ⟨.map (es.push { key:=.string a,val:=v,born:=clock }) (clock+1),?_,?_⟩
  ·simp only [Instr.mapUpdate]
   simp [run_underlying T.under,getObj,Sem.run,hb,go_sem,hck,hf,hj,hset]
  ·refine ⟨_,_,setBlk_at _ hlt,⟨?_,putE_keys L a v hs.nodup,?_,?_⟩⟩
   ·have hany:(L.any (·.1==a))=false:=by
     rw [List.findIdx?_eq_none_iff] at hj
     rw [List.any_eq_false];intro x hx;simpa using hj x hx
    simp only [putE,hany,Array.toList_push,List.map_append,hs.eq,Bool.false_eq_true,if_false]
    simp [kv,vk]
   ·simp only [Array.toList_push,List.pairwise_append]
    exact ⟨hs.rise,by simp,fun x hx y hy=>by simp at hy;subst hy;exact hs.old x hx⟩
   ·intro x hx
    simp only [Array.toList_push,List.mem_append,List.mem_singleton] at hx
    rcases hx with hx | rfl
    ·exact Nat.lt_succ_of_lt (hs.old x hx)
    ·exact Nat.lt_succ_self _
 | some j =>
  obtain ⟨hjl,hjp,_⟩:=List.findIdx?_eq_some_iff_getElem.1 hj
  have hla:(L[j]).1=a:=by simpa using hjp
  have hel:j<es.size:=by
   have:es.toList.length=L.length:=by have:=congrArg List.length hs.eq;simpa using this
   simp at this;omega
  have hkey:(es[j]).key=.string a:=by
   have h1:(es.toList.map kv)[j]?=(L.map vk)[j]?:=by rw [hs.eq]
   simp [hjl,hel,kv,vk] at h1
   rw [h1.1,hla]
  refine ⟨.map (es.modify j fun e=>{ e with key:=.string a,val:=v }) clock,?_,?_⟩
  ·simp only [Instr.mapUpdate]
   simp [run_underlying T.under,getObj,Sem.run,hb,go_sem,hck,hf,hj,List.getElem?_eq_getElem hjl,hset,Instr.keyThatStays,hel,hkey,Instr.sameBits]
  ·have hany:(L.any (·.1==a))=true:=by
    rw [List.any_eq_true];exact ⟨L[j],List.getElem_mem _,by simpa using hjp⟩
   have hb':((es.modify j fun e=>{ e with key:=.string a,val:=v }).toList).map (·.born)=es.toList.map (·.born):=by
    rw [Array.toList_modify];exact modify_born (f:=fun e=>{ e with key:=.string a,val:=v }) (fun _=>rfl) j
   refine ⟨_,_,setBlk_at _ hlt,⟨?_,putE_keys L a v hs.nodup,?_,?_⟩⟩
   ·simp only [putE,hany,if_true,Array.toList_modify]
    exact modify_map hs.eq hs.nodup hj
   ·rw [rise_iff,hb',←rise_iff];exact hs.rise
   ·rw [old_iff,hb',←old_iff];exact hs.old

/-- Block r ranges over the map at block b, which shows L; 'left' are still to come; 'last' was met last and is still there. -/
def IterAt (w:World) (r b:Nat) (L left:List (ByteArray×Value)) (last:Option (ByteArray×Value)):Prop :=
 ∃ es clock seen,w.heap[b]?=some (.map es clock)∧Shows es.toList clock L∧w.heap[r]?=some (.mapIter (some b) clock seen clock) ∧
  (es.toList.filter (fun e=>!seen.contains e.born)).map kv=left.map vk ∧
  (∀ p,last=some p→∃ e,e∈es.toList∧kv e=vk p∧seen.back?=some e.born)

def iterLeft (w:World) (r:Nat):Nat :=
 match w.heap[r]? with
 | some (.mapIter (some m) _ seen _)=>match w.heap[m]? with
  | some (.map es _)=>(es.toList.filter (fun e=>!seen.contains e.born)).length
  | _=>0
 | _=>0

theorem IterAt.left_eq {w:World} {r b:Nat} {L left:List (ByteArray×Value)} {last:Option (ByteArray×Value)} (h:IterAt w r b L left last):iterLeft w r=left.length:=by
 obtain ⟨es,clock,seen,h1,h2,h3,h4,_⟩:=h
 have:=congrArg List.length h4
 simp only [List.length_map] at this
 simp only [iterLeft,h3,h1];exact this
theorem IterAt.map {w:World} {r b:Nat} {L left:List (ByteArray×Value)} {last:Option (ByteArray×Value)} (h:IterAt w r b L left last):MapAt w b L:=by
 obtain ⟨es,clock,seen,h1,h2,_⟩:=h
 exact ⟨es,clock,h1,h2⟩
theorem IterAt.ne {w:World} {r b:Nat} {L left:List (ByteArray×Value)} {last:Option (ByteArray×Value)} (h:IterAt w r b L left last):r≠b:=by
 obtain ⟨es,clock,seen,h1,h2,h3,_⟩:=h
 intro e;subst e;rw [h1] at h3;simp at h3
theorem IterAt.lt {w:World} {r b:Nat} {L left:List (ByteArray×Value)} {last:Option (ByteArray×Value)} (h:IterAt w r b L left last):r<w.heap.size:=by
 obtain ⟨_,_,_,_,_,h1,_⟩:=h
 exact (Array.getElem?_eq_some_iff.1 h1).1
theorem run_range_map {P:Program} {t k e:Nat} {z:Value} (T:MapT P t k e z) {w:World} {b:Nat} {L:List (ByteArray×Value)} (h:MapAt w b L) :
  ∃ o,(Instr.range t (.map (some b))).run P w=.ok (.pointer (some ⟨w.heap.size,0,none⟩)) (w.alloc o)∧IterAt (w.alloc o) w.heap.size b L L none:=by
 have hlt:=h.lt
 obtain ⟨es,clock,hb,hs⟩:=h
 refine ⟨.mapIter (some b) clock #[] clock,?_,es,clock,#[],?_,hs,?_,?_,by simp⟩
 ·simp only [Instr.range]
  simp [run_underlying T.under,getObj,newObj,Sem.run,hb,go_sem]
 ·show (w.heap.push _)[b]?=_;rw [Array.getElem?_push,if_neg (by omega)];exact hb
 ·show (w.heap.push _)[w.heap.size]?=_;simp
 ·rw [List.filter_eq_self.2 (by simp)];exact hs.eq

/-- what a step of the range leaves -/
inductive Stepped (w:World) (r b:Nat) (L left:List (ByteArray×Value)):Value→World→Prop
 | over (w':World) (hl:left=[]) (hw:Below w.heap.size w w') (hh:w'.heap=w.heap):Stepped w r b L left (.tuple #[.bool false]) w'
 | one (w':World) (a:ByteArray) (v:Value) (pre post:List (ByteArray×Value)) (hl:left=pre++(a,v)::post) (hi:IterAt w' r b L (pre++post) (some (a,v))) (hf:Fr (·=r) w w'):Stepped w r b L left (.tuple #[.bool true,.string a,v]) w'

theorem filter_push {es:List MapEntry} {seen:Array Nat} {pre post:List MapEntry} {e:MapEntry} (hr:es.Pairwise (fun x y=>x.born<y.born)) (h:es.filter (fun x=>!seen.contains x.born)=pre++e::post) :
  es.filter (fun x=>!(seen.push e.born).contains x.born)=pre++post:=by
 have h1:es.filter (fun x=>!(seen.push e.born).contains x.born)=(es.filter (fun x=>!seen.contains x.born)).filter (fun x=>x.born != e.born):=by
  rw [List.filter_filter]
  refine List.filter_congr fun x _=>?_
  simp only [Array.contains_push,Bool.not_or]
  cases h:(seen.contains x.born)<;>simp [bne,BEq.comm]
 have h2:(pre++e::post).Pairwise (fun x y=>x.born<y.born):=by rw [←h];exact hr.filter _
 rw [h1,h,List.filter_append,List.filter_cons]
 rw [List.pairwise_append] at h2
 obtain ⟨_,h3,h4⟩:=h2
 rw [List.pairwise_cons] at h3
 have e1:pre.filter (fun x=>x.born != e.born)=pre:=List.filter_eq_self.2 fun x hx=>by have:=h4 x hx e List.mem_cons_self;simp;omega
 have e2:post.filter (fun x=>x.born != e.born)=post:=List.filter_eq_self.2 fun x hx=>by have:=h3.1 x hx;simp;omega
 rw [e1,e2];simp

theorem split_map {es:List MapEntry} {left:List (ByteArray×Value)} {i:Nat} {e:MapEntry} (h:es.map kv=left.map vk) (hi:es[i]?=some e) :
  ∃ a pre post epre epost,left=pre++(a,e.val)::post∧e.key=.string a∧es=epre++e::epost∧epre.map kv=pre.map vk∧epost.map kv=post.map vk:=by
 have hlen:es.length=left.length:=by have:=congrArg List.length h;simpa using this
 obtain ⟨hlt,he⟩:=List.getElem?_eq_some_iff.1 hi
 have hlt':i<left.length:=by omega
 have hkv:kv e=vk left[i]:=by
  have h1:(es.map kv)[i]?=(left.map vk)[i]?:=by rw [h]
  simpa [hlt,hlt',he] using h1
 refine ⟨left[i].1,left.take i,left.drop (i+1),es.take i,es.drop (i+1),?_,congrArg Prod.fst hkv,?_,?_,?_⟩
 ·have h2:e.val=left[i].2:=congrArg Prod.snd hkv
  have:(left[i].1,e.val)=left[i]:=by rw [h2]
  rw [this];simp
 ·rw [←he];simp
 ·rw [List.map_take,h,List.map_take]
 ·rw [List.map_drop,h,List.map_drop]

theorem setBlock_eq (w:World) (r:Nat) (o:Obj):ChangeMaps.setBlock w r o=setBlk w r o:=rfl

theorem run_next {P:Program} {w:World} {r b:Nat} {L left:List (ByteArray×Value)} {last:Option (ByteArray×Value)} (h:IterAt w r b L left last) (ty:TypeId) :
  ∃ v w',(Instr.next (.pointer (some ⟨r,0,none⟩)) false ty).run P w=.ok v w'∧Stepped w r b L left v w':=by
 have hne:=h.ne
 have hrl:=h.lt
 obtain ⟨es,clock,seen,hb,hs,hr,hleft,hlast⟩:=h
 have hfl:(leftOf es seen).toList=es.toList.filter fun e=>!seen.contains e.born:=by simp [leftOf]
 rcases run_next_at (P:=P) w ty r b clock clock seen es clock hr hb hs.old (Nat.le_refl _) with ⟨h0,hrun⟩ | ⟨e,he,w1,hw1,hrun⟩
 ·refine ⟨_,w,hrun,.over w ?_ (Below.refl _ _) rfl⟩
  have hn:(leftOf es seen).toList=[]:=by
   have:(leftOf es seen)=#[]:=Array.eq_empty_of_size_eq_zero h0
   rw [this]
  rw [hfl] at hn
  rw [hn] at hleft
  simpa using hleft.symm
 ·rw [hfl] at he
  obtain ⟨i,hi⟩:=List.getElem?_of_mem he
  obtain ⟨a,pre,post,epre,epost,hl,hk,hes,hp1,hp2⟩:=split_map hleft hi
  have q1:w1.heap=w.heap:=by rcases hw1 with rfl | rfl<;>rfl
  have hrl1:r<w1.heap.size:=by rw [q1];exact hrl
  rw [hk,setBlock_eq] at hrun
  refine ⟨_,_,hrun,.one _ a e.val pre post hl ?_ ?_⟩
  ·refine ⟨es,clock,seen.push e.born,?_,hs,setBlk_at _ hrl1,?_,?_⟩
   ·rw [setBlk_ne _ (fun h=>hne h.symm),q1];exact hb
   ·rw [filter_push hs.rise hes,List.map_append,hp1,hp2,List.map_append]
   ·intro p hp
    cases hp
    exact ⟨e,(List.mem_filter.1 he).1,by simp [kv,vk,hk],by simp⟩
  ·refine ⟨?_,?_,?_,by simp [setBlk_size,q1],fun k _ hn=>by rw [setBlk_ne _ hn,q1]⟩<;>rcases hw1 with rfl | rfl<;>rfl

theorem born_inj {es:List MapEntry} (h:es.Pairwise (fun x y=>x.born<y.born)) {x y:MapEntry} (hx:x∈es) (hy:y∈es) (hb:x.born=y.born):x=y:=by
 induction es with
 | nil=>cases hx
 | cons e es ih =>
  rw [List.pairwise_cons] at h
  rcases List.mem_cons.1 hx with h1 | h1<;>rcases List.mem_cons.1 hy with h2 | h2
  ·rw [h1,h2]
  ·have:=h.1 y h2;rw [h1] at hb;omega
  ·have:=h.1 x h1;rw [h2] at hb;omega
  ·exact ih h.2 h1 h2

theorem run_entry {P:Program} {w:World} {r b:Nat} {L left:List (ByteArray×Value)} {a:ByteArray} {v:Value} (h:IterAt w r b L left (some (a,v))) :
  (Instr.entry (.pointer (some ⟨r,0,none⟩))).run P w=.ok (.tuple #[.string a,v]) w:=by
 obtain ⟨es,clock,seen,hb,hs,hr,hleft,hlast⟩:=h
 obtain ⟨e,he,hkv,hback⟩:=hlast _ rfl
 have hfind:es.find? (fun x=>x.born==e.born)=some e:=by
  rw [←Array.find?_toList]
  cases hq:es.toList.find? (fun x=>x.born==e.born) with
  | none=>rw [List.find?_eq_none] at hq;have:=hq e he;simp at this
  | some x =>
   have h1:=List.mem_of_find?_eq_some hq
   have h2:=List.find?_some hq
   simp at h2
   rw [born_inj hs.rise h1 he h2]
 have h1:e.key=.string a:=congrArg Prod.fst hkv
 have h2:e.val=v:=congrArg Prod.snd hkv
 simp only [Instr.entry]
 simp [getObj,Sem.run,hr,hb,go_sem,hback,hfind,h1,h2]

def delE (L:List (ByteArray×Value)) (a:ByteArray):List (ByteArray×Value):=L.filter (fun p=>p.1 != a)

theorem erase_map {α β:Type} (f:α→β):∀ (l:List α) (j:Nat),(l.eraseIdx j).map f=(l.map f).eraseIdx j
 | [],_=>rfl
 | _::l,0=>rfl
 | x::l,j+1=>by simp [erase_map f l j]

theorem erase_shows {es:List MapEntry} {clock:Nat} {L:List (ByteArray×Value)} {a:ByteArray} {j:Nat} (h:Shows es clock L) (hj:L.findIdx? (fun x=>x.1==a)=some j):Shows (es.eraseIdx j) clock (delE L a):=by
 obtain ⟨h1,h2,h3,h4⟩:=h
 have hd:delE L a=L.eraseIdx j:=by
  clear h1 h3 h4
  induction L generalizing j with
  | nil=>simp at hj
  | cons p L ih =>
   simp only [List.map_cons,List.nodup_cons] at h2
   by_cases hpa:p.1=a
   ·simp [List.findIdx?_cons,hpa] at hj
    subst hj
    have:∀ q∈L,q.1≠a:=fun q hq hqa=>h2.1 (by rw [hpa,←hqa];exact List.mem_map_of_mem (f:=(·.1)) hq)
    simp only [delE,List.filter_cons,hpa,bne_self_eq_false,Bool.false_eq_true,if_false,List.eraseIdx_zero,List.tail_cons]
    exact List.filter_eq_self.2 fun q hq=>by simpa using this q hq
   ·have e2:(p.1==a)=false:=by simp [hpa]
    simp only [List.findIdx?_cons,e2] at hj
    cases hq:L.findIdx? (fun x=>x.1==a) with
    | none=>simp [hq] at hj
    | some j' =>
     simp [hq] at hj;subst hj
     simp only [delE,List.filter_cons,List.eraseIdx_cons_succ]
     rw [if_pos (by simpa using hpa)]
     have:=ih hq h2.2
     simp only [delE] at this
     rw [this]
 rw [hd]
 refine ⟨?_,?_,h3.sublist (List.eraseIdx_sublist ..),fun e he=>h4 e ((List.eraseIdx_sublist ..).mem he)⟩
 ·rw [erase_map,h1,erase_map]
 ·rw [erase_map];exact h2.sublist (List.eraseIdx_sublist ..)

/-- delete of a key that is there: its entry goes; whatever ranges over the map has the same still to come, if the key isn't among them. -/
theorem run_del {P:Program} {t k e:Nat} {z:Value} (T:MapT P t k e z) {w:World} {r b:Nat} {L left:List (ByteArray×Value)} {a:ByteArray} {v:Value} (h:IterAt w r b L left (some (a,v))) (hl:∀ p∈left,p.1≠a) (ty:TypeId) :
  ∃ o,(Builtin.delete_ #[t,k] ty #[.map (some b),.string a]).run P w=.ok (.tuple #[]) (setBlk w b o)∧IterAt (setBlk w b o) r b (delE L a) left none:=by
 have hne:=h.ne
 have hlt:=h.map.lt
 obtain ⟨es,clock,seen,hb,hs,hr,hleft,hlast⟩:=h
 obtain ⟨e0,he0,hkv0,_⟩:=hlast _ rfl
 have hf:=fun w=>run_findKey T w hs.eq a
 have hck:=run_checkKey T
 have hset:∀ o,(setObj b o).run P w=.ok () (setBlk w b o):=fun o=>by simp [setObj,Sem.run,hb,setBlk]
 have hmem:(a,v)∈L:=by
  have:kv e0∈es.toList.map kv:=List.mem_map_of_mem he0
  rw [hs.eq,hkv0] at this
  obtain ⟨q,hq,hqe⟩:=List.mem_map.1 this
  simp only [vk,Prod.mk.injEq,Value.int.injEq,true_and] at hqe
  have:q=(a,v):=Prod.ext (by simpa using hqe.1) hqe.2
  rw [←this];exact hq
 cases hj:L.findIdx? (fun x=>x.1==a) with
 | none=>rw [List.findIdx?_eq_none_iff] at hj;have:=hj _ hmem;simp at this
 | some j =>
  have hjl:j<L.length:=(List.findIdx?_eq_some_iff_getElem.1 hj).1
  refine ⟨.map (es.eraseIdxIfInBounds j) clock,?_,es.eraseIdxIfInBounds j,clock,seen,setBlk_at _ hlt,?_,?_,?_,by simp⟩
  ·simp only [Builtin.delete_]
   simp [run_underlying T.under,getObj,Sem.run,hb,go_sem,hck,hf,hj,List.getElem?_eq_getElem hjl,hset]
  ·rw [Array.toList_eraseIdxIfInBounds];exact erase_shows hs hj
  ·rw [setBlk_ne _ hne];exact hr
  ·rw [Array.toList_eraseIdxIfInBounds]
   have hel:j<es.toList.length:=by have:=congrArg List.length hs.eq;simp at this;simp;omega
   have hkey:(es.toList[j]).key=.string a:=by
    obtain ⟨_,hjp,_⟩:=List.findIdx?_eq_some_iff_getElem.1 hj
    have h1:(es.toList.map kv)[j]?=(L.map vk)[j]?:=by rw [hs.eq]
    rw [List.getElem?_map,List.getElem?_map,List.getElem?_eq_getElem hel,List.getElem?_eq_getElem hjl] at h1
    simp only [Option.map_some,Option.some.injEq,kv,vk,Prod.mk.injEq] at h1
    rw [h1.1];simp at hjp;rw [hjp]
   rw [←hleft]
   congr 1
   -- the erased entry isn't among those still to come
   have hsplit:es.toList=es.toList.take j++es.toList[j]::es.toList.drop (j+1):=by
    rw [←List.drop_eq_getElem_cons hel,List.take_append_drop]
   rw [List.eraseIdx_eq_take_drop_succ]
   conv=>rhs;rw [hsplit]
   rw [List.filter_append,List.filter_append,List.filter_cons]
   rw [if_neg]
   intro hc
   have hin:es.toList[j]∈es.toList.filter (fun e=>!seen.contains e.born):=List.mem_filter.2 ⟨List.getElem_mem _,hc⟩
   have hin2:kv es.toList[j]∈left.map vk:=by rw [←hleft];exact List.mem_map_of_mem hin
   obtain ⟨q,hq,hqe⟩:=List.mem_map.1 hin2
   simp only [vk,kv,hkey,Prod.mk.injEq,Value.int.injEq,true_and] at hqe
   exact hl q hq (by simpa using hqe.1)

theorem run_len_map {P:Program} {t k e:Nat} {z:Value} (T:MapT P t k e z) {w:World} {b:Nat} {L:List (ByteArray×Value)} (h:MapAt w b L) (ty:TypeId) :
  (Builtin.len_ #[t] ty #[.map (some b)]).run P w=.ok (.int .i64 L.length) w:=by
 obtain ⟨es,clock,hb,hs⟩:=h
 have:es.size=L.length:=by have:=congrArg List.length hs.eq;simpa using this
 simp only [Builtin.len_]
 simp [run_underlying T.under,getObj,Sem.run,hb,go_sem,goInt,this]

section
variable {P:Program} {t k e:Nat} {z:Value} {w:World} {ops:Array Oper} {rest:List Oper} {o:Oper} {a:Act} {Q:Exit→Act→World→Prop}

theorem wp_look (T:MapT P t k e z) (hgd:o.guard=none) (m x:Operand) (ho:o.op=.lookup t m x false) {b:Nat} {L:List (ByteArray×Value)} (hm:a.eval m=.map (some b)) (x0:ByteArray) (hx:a.eval x=.string x0) (h:MapAt w b L)
  (hk:wpList P ops Q rest (a.put o.dst ((lookE L x0).getD z)) w):wpList P ops Q (o::rest) a w:=by
 refine wpList_plain hgd fun K hK=>?_
 have hrun:=run_look T h x0
 unfold Oper.wp
 simp [execOp,ho,hm,hx,hrun,Result.andThen]
 exact hK _ _ hk

theorem wp_store (T:MapT P t k e z) (hgd:o.guard=none) (m x y:Operand) (ho:o.op=.mapUpdate t m x y) {b:Nat} {L:List (ByteArray×Value)} (hm:a.eval m=.map (some b)) (x0:ByteArray) (hx:a.eval x=.string x0) (v:Value) (hy:a.eval y=v) (h:MapAt w b L)
  (hk:∀ w',MapAt w' b (putE L x0 v)→Fr (·=b) w w'→w'.heap.size=w.heap.size→wpList P ops Q rest (a.put o.dst undef) w'):wpList P ops Q (o::rest) a w:=by
 refine wpList_plain hgd fun K hK=>?_
 obtain ⟨ob,hrun,hm'⟩:=run_store T h x0 v
 unfold Oper.wp
 simp [execOp,ho,hm,hx,hy,hrun,Result.andThen]
 exact hK _ _ (hk _ hm' (setBlk_fr _ _ _) (setBlk_size _ _ _))

theorem wp_range (T:MapT P t k e z) (hgd:o.guard=none) (m:Operand) (ho:o.op=.range t m) {b:Nat} {L:List (ByteArray×Value)} (hm:a.eval m=.map (some b)) (h:MapAt w b L)
  (hk:∀ w',IterAt w' w.heap.size b L L none→Below w.heap.size w w'→w'.heap.size=w.heap.size+1→wpList P ops Q rest (a.put o.dst (.pointer (some ⟨w.heap.size,0,none⟩))) w'):wpList P ops Q (o::rest) a w:=by
 refine wpList_plain hgd fun K hK=>?_
 obtain ⟨ob,hrun,hi⟩:=run_range_map T h
 unfold Oper.wp
 simp [execOp,ho,hm,hrun,Result.andThen]
 exact hK _ _ (hk _ hi ((Below.refl _ _).alloc (Nat.le_refl _) _) (by simp))

theorem wp_next (hgd:o.guard=none) (it:Operand) (ho:o.op=.next it false) {r b:Nat} {L left:List (ByteArray×Value)} {last:Option (ByteArray×Value)} (hm:a.eval it=.pointer (some ⟨r,0,none⟩)) (h:IterAt w r b L left last)
  (hover:left=[]→∀ w',Below w.heap.size w w'→w'.heap=w.heap→wpList P ops Q rest (a.put o.dst (.tuple #[.bool false])) w')
  (hone:∀ w' x v pre post,left=pre++(x,v)::post→IterAt w' r b L (pre++post) (some (x,v))→Fr (·=r) w w'→wpList P ops Q rest (a.put o.dst (.tuple #[.bool true,.string x,v])) w'):wpList P ops Q (o::rest) a w:=by
 refine wpList_plain hgd fun K hK=>?_
 obtain ⟨v,w',hrun,hs⟩:=run_next (P:=P) h o.type
 unfold Oper.wp
 simp [execOp,ho,hm,hrun,Result.andThen]
 cases hs with
 | over _ hl hw hh=>exact hK _ _ (hover hl _ hw hh)
 | one _ x v pre post hl hi hf=>exact hK _ _ (hone _ _ _ _ _ hl hi hf)

theorem wp_entry (hgd:o.guard=none) (it:Operand) (ho:o.op=.entry it) {r b:Nat} {L left:List (ByteArray×Value)} {x:ByteArray} {v:Value} (hm:a.eval it=.pointer (some ⟨r,0,none⟩)) (h:IterAt w r b L left (some (x,v)))
  (hk:wpList P ops Q rest (a.put o.dst (.tuple #[.string x,v])) w):wpList P ops Q (o::rest) a w:=by
 refine wpList_plain hgd fun K hK=>?_
 have hrun:=run_entry (P:=P) h
 unfold Oper.wp
 simp [execOp,ho,hm,hrun,Result.andThen]
 exact hK _ _ hk

theorem wp_len (T:MapT P t k e z) (hgd:o.guard=none) (m:Operand) (ho:o.op=.call { callee:=.builtin .len,args:=#[m],argTypes:=#[t]}) {b:Nat} {L:List (ByteArray×Value)} (hm:a.eval m=.map (some b)) (h:MapAt w b L)
  (hk:wpList P ops Q rest (a.put o.dst (.int .i64 L.length)) w):wpList P ops Q (o::rest) a w:=by
 refine wpList_plain hgd fun K hK=>?_
 have hrun:=run_len_map T h o.type
 unfold Oper.wp
 simp [execOp,ho,resolve,invoke,builtin,hm,hrun,Result.andThen]
 exact hK _ _ hk

theorem wp_del (T:MapT P t k e z) (hgd:o.guard=none) (m x:Operand) (ho:o.op=.call { callee:=.builtin .delete,args:=#[m,x],argTypes:=#[t,k]}) {r b:Nat} {L left:List (ByteArray×Value)} {x0:ByteArray} {v:Value} (hm:a.eval m=.map (some b)) (hx:a.eval x=.string x0)
  (h:IterAt w r b L left (some (x0,v))) (hl:∀ p∈left,p.1≠x0)
  (hk:∀ w',IterAt w' r b (delE L x0) left none→Fr (·=b) w w'→w'.heap.size=w.heap.size→wpList P ops Q rest (a.put o.dst (.tuple #[])) w'):wpList P ops Q (o::rest) a w:=by
 refine wpList_plain hgd fun K hK=>?_
 obtain ⟨ob,hrun,hi⟩:=run_del T h hl o.type
 unfold Oper.wp
 simp [execOp,ho,resolve,invoke,builtin,hm,hx,hrun,Result.andThen]
 exact hK _ _ (hk _ hi (setBlk_fr _ _ _) (setBlk_size _ _ _))
end

end MS
end Go.Proofs.YtaodldbgikiekaaGreatDoor

namespace Go.Proofs.YtaodldbgikiekaaGreatDoor
namespace DK
abbrev Nm:=ByteArray
abbrev Fl:=List (Nm×List UInt8)
def less (a b:Nm):Bool:=Go.Op.bytesLess a.toList b.toList
structure Strict (lt:Nm→Nm→Bool):Prop where
 irr:∀ a,lt a a=false
 tr:∀ a b c,lt a b=true→lt b c=true→lt a c=true
 tot:∀ a b,a≠b→lt a b=true∨lt b a=true
theorem bl_irr:∀ l:List UInt8,Go.Op.bytesLess l l=false
 | []=>rfl
 | a::l=>by simp [Go.Op.bytesLess,bl_irr l]
theorem bl_tr:∀ x y z:List UInt8,Go.Op.bytesLess x y=true→Go.Op.bytesLess y z=true→Go.Op.bytesLess x z=true
 | _,[],_,h,_=>by simp [Go.Op.bytesLess] at h
 | _,_::_,[],_,h=>by simp [Go.Op.bytesLess] at h
 | [],b::y,c::z,_,_=>rfl
 | a::x,b::y,c::z,h1,h2=>by
  simp only [Go.Op.bytesLess,Bool.or_eq_true,Bool.and_eq_true,decide_eq_true_eq,beq_iff_eq] at h1 h2 ⊢
  rcases h1 with h1 | ⟨rfl,h1⟩
  ·rcases h2 with h2 | ⟨rfl,h2⟩
   ·left
    rw [UInt8.lt_iff_toNat_lt] at *;omega
   ·left;exact h1
  ·rcases h2 with h2 | ⟨rfl,h2⟩
   ·left;exact h2
   ·right;exact ⟨rfl,bl_tr x y z h1 h2⟩
theorem bl_tot:∀ x y:List UInt8,x≠y→Go.Op.bytesLess x y=true∨Go.Op.bytesLess y x=true
 | [],[],h=>absurd rfl h
 | [],_::_,_=>.inl rfl
 | _::_,[],_=>.inr rfl
 | a::x,b::y,h=>by
  simp only [Go.Op.bytesLess,Bool.or_eq_true,Bool.and_eq_true,decide_eq_true_eq,beq_iff_eq]
  by_cases hab:a=b
  ·subst hab
   have hxy:x≠y:=fun e=>h (by rw [e])
   rcases bl_tot x y hxy with h1 | h1
   ·exact .inl (.inr ⟨rfl,h1⟩)
   ·exact .inr (.inr ⟨rfl,h1⟩)
  ·have hn:a.toNat≠b.toNat:=fun e=>hab (UInt8.toNat_inj.1 e)
   rcases Nat.lt_or_gt_of_ne hn with h1 | h1
   ·exact .inl (.inl (UInt8.lt_iff_toNat_lt.2 h1))
   ·exact .inr (.inl (UInt8.lt_iff_toNat_lt.2 h1))
theorem ba_toList (a:Nm):a.toList=a.data.toList:=ByteArray.toList_eq a
theorem less_strict:Strict less where
 irr a:=bl_irr _
 tr a b c:=bl_tr _ _ _
 tot a b h:=bl_tot _ _ (fun e=>h (by rw [ba_toList,ba_toList] at e;cases a;cases b;exact congrArg ByteArray.mk (Array.toList_inj.1 e)))

def getF (L:Fl) (n:Nm):Option (List UInt8):=(L.find? (·.1==n)).map (·.2)
def putF (L:Fl) (n:Nm) (d:List UInt8):Fl:=if L.any (·.1==n) then L.map (fun p=>if p.1=n then (n,d) else p) else L++[(n,d)]
def delF (L:Fl) (n:Nm):Fl:=L.filter (fun p=>p.1 != n)
def usedF (L:Fl):Nat:=(L.map (·.2.length)).sum
def insR (lt:Nm→Nm→Bool) (f:Nm×List UInt8):Fl→Fl
 | []=>[f]
 | x::L=>if lt f.1 x.1=true then f::x::L else x::insR lt f L

theorem insR_mem {lt:Nm→Nm→Bool} {f q:Nm×List UInt8}:∀ {L:Fl},q∈insR lt f L↔q=f∨q∈L
 | []=>by simp [insR]
 | x::L=>by
  unfold insR
  split
  ·simp
  ·simp only [List.mem_cons,insR_mem (L:=L)]
   constructor
   ·rintro (h | h | h)<;>simp [h]
   ·rintro (h | h | h)<;>simp [h]
theorem insR_sorted {lt:Nm→Nm→Bool} (S:Strict lt) {f:Nm×List UInt8}:∀ {L:Fl},L.Pairwise (fun x y=>lt x.1 y.1=true)→(∀ x∈L,x.1≠f.1)→(insR lt f L).Pairwise (fun x y=>lt x.1 y.1=true)
 | [],_,_=>by simp [insR]
 | x::L,h,hn=>by
  rw [List.pairwise_cons] at h
  unfold insR
  split
  ·rename_i hlt
   rw [List.pairwise_cons]
   refine ⟨fun y hy=>?_,List.pairwise_cons.2 h⟩
   rcases List.mem_cons.1 hy with rfl | hy
   ·exact hlt
   ·exact S.tr _ _ _ hlt (h.1 y hy)
  ·rename_i hlt
   rw [List.pairwise_cons]
   refine ⟨fun y hy=>?_,insR_sorted S h.2 (fun z hz=>hn z (List.mem_cons_of_mem _ hz))⟩
   rcases insR_mem.1 hy with rfl | hy
   ·rcases S.tot _ _ (hn x List.mem_cons_self) with h1 | h1
    ·exact h1
    ·exact absurd h1 hlt
   ·exact h.1 y hy
theorem insR_used {lt:Nm→Nm→Bool} {f:Nm×List UInt8}:∀ (L:Fl),usedF (insR lt f L)=f.2.length+usedF L
 | []=>rfl
 | x::L=>by
  have ih:=insR_used (lt:=lt) (f:=f) L
  unfold insR
  split
  ·rfl
  ·simp only [usedF,List.map_cons,List.sum_cons] at ih ⊢;omega

/-- the program's files and the document's are the same files -/
structure Same (L R:Fl):Prop where
 nodup:(L.map (·.1)).Nodup
 sorted:R.Pairwise (fun x y=>less x.1 y.1=true)
 mem:∀ p,p∈L↔p∈R
theorem Same.nodupR {L R:Fl} (h:Same L R):(R.map (·.1)).Nodup:=by
 rw [List.nodup_iff_pairwise_ne,List.pairwise_map]
 refine h.sorted.imp ?_
 intro a b hab e
 rw [e,less_strict.irr] at hab
 cases hab
theorem nodup_of_keys {L:Fl} (h:(L.map (·.1)).Nodup):L.Nodup:=by
 rw [List.nodup_iff_pairwise_ne,List.pairwise_map] at h
 exact h.imp (fun hab e=>hab (by rw [e]))
theorem Same.perm {L R:Fl} (h:Same L R):L.Perm R:=(List.perm_ext_iff_of_nodup (nodup_of_keys h.nodup) (nodup_of_keys h.nodupR)).2 h.mem
theorem Same.len {L R:Fl} (h:Same L R):L.length=R.length:=h.perm.length_eq
theorem Same.used {L R:Fl} (h:Same L R):usedF L=usedF R:=by
 unfold usedF
 exact (h.perm.map _).sum_nat
theorem getF_iff {L:Fl} (h:(L.map (·.1)).Nodup) {n:Nm} {d:List UInt8}:getF L n=some d↔(n,d)∈L:=by
 unfold getF
 induction L with
 | nil=>simp
 | cons x L ih =>
  simp only [List.map_cons,List.nodup_cons] at h
  by_cases hx:x.1=n
  ·rw [List.find?_cons_of_pos (by simpa using hx)]
   simp only [Option.map_some,Option.some.injEq,List.mem_cons]
   constructor
   ·intro e;left;rw [←hx,←e]
   ·rintro (e | e)
    ·rw [←e]
    ·exact absurd (by rw [hx];exact List.mem_map_of_mem (f:=(·.1)) e) h.1
  ·rw [List.find?_cons_of_neg (by simpa using hx),ih h.2]
   simp only [List.mem_cons]
   constructor
   ·exact .inr
   ·rintro (e | e)
    ·exact absurd (by rw [←e]) hx
    ·exact e
theorem Same.get {L R:Fl} (h:Same L R) (n:Nm):getF L n=getF R n:=by
 cases hl:getF L n with
 | some d=>exact ((getF_iff h.nodupR).2 ((h.mem _).1 ((getF_iff h.nodup).1 hl))).symm
 | none =>
  cases hr:getF R n with
  | none=>rfl
  | some d=>rw [(getF_iff h.nodup).2 ((h.mem _).2 ((getF_iff h.nodupR).1 hr))] at hl;cases hl
theorem delF_keys {L:Fl} (h:(L.map (·.1)).Nodup) (n:Nm):((delF L n).map (·.1)).Nodup:=(List.filter_sublist.map _).nodup h
theorem Same.del {L R:Fl} (h:Same L R) (n:Nm):Same (delF L n) (delF R n) :=
 ⟨delF_keys h.nodup n,h.sorted.filter _,fun p=>by unfold delF;rw [List.mem_filter,List.mem_filter,h.mem]⟩
theorem putF_mem {L:Fl} {n:Nm} {d:List UInt8} {p:Nm×List UInt8}:p∈putF L n d↔p=(n,d)∨(p∈L∧p.1≠n):=by
 unfold putF
 split
 ·rename_i hany
  rw [List.mem_map]
  constructor
  ·rintro ⟨q,hq,rfl⟩
   by_cases hqn:q.1=n
   ·left;rw [if_pos hqn]
   ·right;rw [if_neg hqn];exact ⟨hq,hqn⟩
  ·rintro (rfl | ⟨hp,hn⟩)
   ·obtain ⟨q,hq,hqn⟩:=List.any_eq_true.1 hany
    exact ⟨q,hq,if_pos (by simpa using hqn)⟩
   ·exact ⟨p,hp,if_neg hn⟩
 ·rename_i hany
  rw [List.mem_append,List.mem_singleton]
  constructor
  ·rintro (h | h)
   ·right
    refine ⟨h,fun e=>hany ?_⟩
    rw [List.any_eq_true];exact ⟨p,h,by simpa using e⟩
   ·exact .inl h
  ·rintro (h | h)
   ·exact .inr h
   ·exact .inl h.1
theorem putF_keys {L:Fl} (h:(L.map (·.1)).Nodup) (n:Nm) (d:List UInt8):((putF L n d).map (·.1)).Nodup:=by
 unfold putF
 split
 ·have:(L.map (fun p=>if p.1=n then (n,d) else p)).map (·.1)=L.map (·.1):=by
   rw [List.map_map];refine List.map_congr_left fun p _=>?_
   by_cases hp:p.1=n<;>simp [hp]
  rw [this];exact h
 ·rename_i hn
  rw [List.map_append,List.nodup_append]
  refine ⟨h,by simp,?_⟩
  intro x hx y hy
  simp at hy;subst hy
  intro hxa;subst hxa
  apply hn
  obtain ⟨p,hp,hpx⟩:=List.mem_map.1 hx
  rw [List.any_eq_true];exact ⟨p,hp,by simpa using hpx⟩
theorem Same.put {L R:Fl} (h:Same L R) (n:Nm) (d:List UInt8):Same (putF L n d) (insR less (n,d) (delF R n)):=by
 have hd:=h.del n
 refine ⟨putF_keys h.nodup n d,insR_sorted less_strict hd.sorted (fun x hx=>by unfold delF at hx;have:=(List.mem_filter.1 hx).2;simpa [bne] using this),fun p=>?_⟩
 rw [putF_mem,insR_mem]
 unfold delF
 rw [List.mem_filter,h.mem]
 simp [bne]
structure Chg where
 kind:Nat
 name:Nm
 to:Nm
 d:List UInt8
def doF (L:Fl) (c:Chg):Fl :=
 if c.kind=0 then putF L c.name c.d else match getF L c.name with
  | none=>L
  | some b=>if c.kind=1 then putF (delF L c.name) c.to b else delF L c.name
def doR (R:Fl) (c:Chg):Fl :=
 if c.kind=0 then insR less (c.name,c.d) (delF R c.name) else match getF R c.name with
  | none=>R
  | some b=>if c.kind=1 then insR less (c.to,b) (delF (delF R c.name) c.to) else delF R c.name
theorem Same.do {L R:Fl} (h:Same L R) (c:Chg):Same (doF L c) (doR R c):=by
 unfold doF doR
 rw [h.get]
 split
 ·exact h.put _ _
 ·split
  ·exact h
  ·split
   ·exact (h.del _).put _ _
   ·exact h.del _
def allF (L:Fl) (cs:List Chg):Fl:=cs.foldl doF L
def allR (R:Fl) (cs:List Chg):Fl:=cs.foldl doR R
theorem Same.all {L R:Fl} (h:Same L R):∀ cs,Same (allF L cs) (allR R cs)
 | []=>h
 | c::cs=>by
  show Same ((cs).foldl doF (doF L c)) ((cs).foldl doR (doR R c))
  exact Same.all (h.do c) cs
theorem putF_len (L:Fl) (n:Nm) (d:List UInt8):(putF L n d).length=L.length+if (getF L n).isSome then 0 else 1:=by
 unfold putF getF
 by_cases h:L.any (·.1==n)=true
 ·rw [if_pos h]
  have:(L.find? (·.1==n)).isSome=true:=by rw [List.find?_isSome];obtain ⟨q,hq,hqn⟩:=List.any_eq_true.1 h;exact ⟨q,hq,hqn⟩
  simp [this]
 ·rw [if_neg h]
  have:(L.find? (·.1==n)).isSome=false:=by
   rw [Bool.eq_false_iff];intro h2
   rw [List.find?_isSome] at h2
   obtain ⟨q,hq,hqn⟩:=h2
   exact h (List.any_eq_true.2 ⟨q,hq,hqn⟩)
  simp [this]
theorem delF_len (L:Fl) (n:Nm):(delF L n).length≤L.length:=List.length_filter_le _ _
def sign (c:UInt8):Bool:=(97≤c&&c≤122)||(48≤c&&c≤57)||c==45||c==46||c==126
def named (n:Nm):Bool:=decide (1≤n.size)&&decide (n.size≤24)&&n.data.toList.all sign
structure Dk where
 room:Int
 sure:Fl
 shown:Fl
 pend:List Chg
 fuse:Int
 down:Bool
structure Rk where
 room:Int
 sure:Fl
 ch:List Chg
 fuse:Int
 down:Bool
def lower (f:Int):Int:=if 0<f then f - 1 else f
def worksD (D:Dk):Nat×Dk:=if D.down=true then (14,D) else if D.fuse=0 then (14,{ D with down:=true }) else (0,{ D with fuse:=lower D.fuse })
def worksR (R:Rk):Nat×Rk:=if R.down=true∨R.fuse=0 then (14,{ R with down:=true }) else (0,{ R with fuse:=lower R.fuse })
def addD (D:Dk) (c:Chg):Dk:={ D with pend:=D.pend++[c],shown:=doF D.shown c }
def addR (R:Rk) (c:Chg):Rk:={ R with ch:=R.ch++[c]}
def shownR (R:Rk):Fl:=allR R.sure R.ch
def oldLen (L:Fl) (n:Nm):Nat:=match getF L n with
 | some d=>d.length
 | none=>0
def writeD (D0:Dk) (n:Nm) (d:List UInt8):Nat×Dk :=
 let r:=worksD D0
 if r.1≠0 then r else if named n=false then (2,r.2) else if 65536<d.length then (3,r.2)
 else if ((getF r.2.shown n).isNone=true∧512≤r.2.shown.length)∨r.2.room<(usedF r.2.shown:Int) - oldLen r.2.shown n+d.length then (5,r.2)
 else (0,addD r.2 ⟨0,n,⟨#[]⟩,d⟩)
def writeR (R0:Rk) (n:Nm) (d:List UInt8):Nat×Rk :=
 let r:=worksR R0
 if r.1≠0 then r else if named n=false then (2,r.2) else if 65536<d.length then (3,r.2)
 else if 512<(shownR (addR r.2 ⟨0,n,⟨#[]⟩,d⟩)).length∨r.2.room<(usedF (shownR (addR r.2 ⟨0,n,⟨#[]⟩,d⟩)):Int) then (5,r.2)
 else (0,addR r.2 ⟨0,n,⟨#[]⟩,d⟩)
def renameD (D0:Dk) (f t:Nm):Nat×Dk :=
 let r:=worksD D0
 if r.1≠0 then r else if named f=false∨named t=false then (2,r.2) else if (getF r.2.shown f).isNone=true then (4,r.2) else (0,addD r.2 ⟨1,f,t,[]⟩)
def renameR (R0:Rk) (f t:Nm):Nat×Rk :=
 let r:=worksR R0
 if r.1≠0 then r else if named f=false∨named t=false then (2,r.2) else if (getF (shownR r.2) f).isNone=true then (4,r.2) else (0,addR r.2 ⟨1,f,t,[]⟩)
def removeD (D0:Dk) (n:Nm):Nat×Dk :=
 let r:=worksD D0
 if r.1≠0 then r else if named n=false then (2,r.2) else if (getF r.2.shown n).isNone=true then (4,r.2) else (0,addD r.2 ⟨2,n,⟨#[]⟩,[]⟩)
def syncD (D0:Dk):Nat×Dk :=
 let r:=worksD D0
 if r.1≠0 then r else (0,{ r.2 with sure:=r.2.shown,pend:=[]})
def syncR (R0:Rk):Nat×Rk :=
 let r:=worksR R0
 if r.1≠0 then r else (0,{ r.2 with sure:=shownR r.2,ch:=[]})
def readD (D:Dk) (n:Nm):Nat×List UInt8:=if D.down=true then (14,[]) else match getF D.shown n with
 | some d=>(0,d)
 | none=>(4,[])
/-- the changes that a cut keeps -/
def kept:List Chg→List Bool→List Chg
 | c::cs,true::ks=>c::kept cs ks
 | _::cs,false::ks=>kept cs ks
 | _,_=>[]
def cutD (D:Dk) (ks:List Bool):Dk:={ D with sure:=allF D.sure (kept D.pend ks),shown:=allF D.sure (kept D.pend ks),pend:=[],down:=true }
def upD (D:Dk):Dk:=if D.down=true then { cutD D [] with down:=false,fuse:=-1 } else { D with fuse:=-1 }
/-- how many of the changes write a file -/
def wr (cs:List Chg):Nat:=(cs.filter (fun c=>c.kind==0)).length
/-- the program's disk and the document's are the same disk -/
structure DR (m:Nat) (D:Dk) (R:Rk):Prop where
 room:D.room=R.room
 fuse:D.fuse=R.fuse
 down:D.down=R.down
 pend:D.pend=R.ch
 sure:Same D.sure R.sure
 shown:Same D.shown (shownR R)
 few:D.sure.length+wr D.pend≤m
 fewS:D.shown.length≤m
theorem shownR_add (R:Rk) (c:Chg):shownR (addR R c)=doR (shownR R) c:=by
 unfold shownR addR allR;rw [List.foldl_append];rfl
theorem delF_lt {L:Fl} {n:Nm} {b:List UInt8} (h:getF L n=some b):(delF L n).length<L.length:=by
 unfold getF at h
 cases hf:L.find? (·.1==n) with
 | none=>rw [hf] at h;cases h
 | some p =>
  have hp:=List.find?_some hf
  have hm:=List.mem_of_find?_eq_some hf
  unfold delF
  exact List.length_filter_lt_length_iff_exists.2 ⟨p,hm,by simpa [bne] using hp⟩
theorem doF_len (L:Fl) (c:Chg):(doF L c).length≤L.length+wr [c]:=by
 unfold doF wr
 by_cases hk:c.kind=0
 ·rw [if_pos hk,putF_len]
  simp only [hk,beq_self_eq_true,List.filter_cons_of_pos,List.filter_nil,List.length_cons,List.length_nil]
  split<;>omega
 ·rw [if_neg hk]
  split
  ·omega
  ·rename_i b hb
   have hlt:=delF_lt hb
   split
   ·rw [putF_len];split<;>omega
   ·omega
theorem wr_cons (c:Chg) (cs:List Chg):wr (c::cs)=wr [c]+wr cs:=by
 unfold wr
 rw [←List.length_append,←List.filter_append];rfl
theorem wr_append (cs ds:List Chg):wr (cs++ds)=wr cs+wr ds:=by unfold wr;rw [List.filter_append,List.length_append]
theorem allF_len:∀ (cs:List Chg) (L:Fl),(allF L cs).length≤L.length+wr cs
 | [],L=>Nat.le_refl _
 | c::cs,L=>by
  have h1:=allF_len cs (doF L c)
  have h2:=doF_len L c
  have h3:=wr_cons c cs
  show (allF (doF L c) cs).length≤_
  omega
theorem kept_len:∀ (cs:List Chg) (ks:List Bool),wr (kept cs ks)≤wr cs
 | [],ks=>by cases ks<;>simp [kept]
 | c::cs,[]=>by simp [kept,wr]
 | c::cs,true::ks=>by
  have:=kept_len cs ks
  have h1:=wr_cons c cs
  have h2:=wr_cons c (kept cs ks)
  simp only [kept];omega
 | c::cs,false::ks=>by
  have:=kept_len cs ks
  have h1:=wr_cons c cs
  simp only [kept];omega
theorem DR.add {m:Nat} {D:Dk} {R:Rk} (h:DR m D R) (c:Chg):DR (m+wr [c]) (addD D c) (addR R c) :=
 ⟨h.room,h.fuse,h.down,by show D.pend++[c]=R.ch++[c];rw [h.pend],h.sure,by rw [shownR_add];exact h.shown.do c,by
  show D.sure.length+wr (D.pend++[c])≤_
  have:=h.few
  rw [wr_append];omega,by
  have h1:=doF_len D.shown c
  have h2:=h.fewS
  show (doF D.shown c).length≤_
  omega⟩
theorem DR.mono {m m':Nat} {D:Dk} {R:Rk} (h:DR m D R) (hm:m≤m'):DR m' D R:=⟨h.room,h.fuse,h.down,h.pend,h.sure,h.shown,Nat.le_trans h.few hm,Nat.le_trans h.fewS hm⟩
theorem DR.works {m:Nat} {D:Dk} {R:Rk} (h:DR m D R):(worksD D).1=(worksR R).1∧DR m (worksD D).2 (worksR R).2:=by
 unfold worksD worksR
 rw [h.down,h.fuse]
 by_cases hd:R.down=true
 ·rw [if_pos hd,if_pos (.inl hd)]
  exact ⟨rfl,⟨h.room,h.fuse,h.down.trans hd,h.pend,h.sure,h.shown,h.few,h.fewS⟩⟩
 ·rw [if_neg hd]
  by_cases hf:R.fuse=0
  ·rw [if_pos hf,if_pos (.inr hf)]
   exact ⟨rfl,⟨h.room,rfl,rfl,h.pend,h.sure,h.shown,h.few,h.fewS⟩⟩
  ·rw [if_neg hf,if_neg (by rintro (h | h);exact hd h;exact hf h)]
   exact ⟨rfl,⟨h.room,rfl,rfl,h.pend,h.sure,h.shown,h.few,h.fewS⟩⟩
theorem used_del {L:Fl} (h:(L.map (·.1)).Nodup) (n:Nm):usedF (delF L n)+oldLen L n=usedF L:=by
 induction L with
 | nil=>rfl
 | cons x L ih =>
  simp only [List.map_cons,List.nodup_cons] at h
  by_cases hx:x.1=n
  ·have h1:delF (x::L) n=delF L n:=by unfold delF;rw [List.filter_cons_of_neg (by simp [hx])]
   have h2:delF L n=L:=by
    unfold delF
    refine List.filter_eq_self.2 (fun p hp=>?_)
    have:p.1≠n:=fun e=>h.1 (by rw [hx,←e];exact List.mem_map_of_mem (f:=(·.1)) hp)
    simpa [bne] using this
   have h3:oldLen (x::L) n=x.2.length:=by unfold oldLen getF;rw [List.find?_cons_of_pos (by simpa using hx)];rfl
   rw [h1,h2,h3]
   simp only [usedF,List.map_cons,List.sum_cons];omega
  ·have h1:delF (x::L) n=x::delF L n:=by unfold delF;rw [List.filter_cons_of_pos (by simpa [bne] using hx)]
   have h3:oldLen (x::L) n=oldLen L n:=by unfold oldLen getF;rw [List.find?_cons_of_neg (by simpa using hx)]
   have ih':=ih h.2
   rw [h1,h3]
   simp only [usedF,List.map_cons,List.sum_cons] at ih' ⊢;omega
theorem Same.oldLen {L R:Fl} (h:Same L R) (n:Nm):oldLen L n=oldLen R n:=by unfold DK.oldLen;rw [h.get]
theorem write_same {m:Nat} {D:Dk} {R:Rk} (h:DR m D R) (hm:m<512) (n:Nm) (d:List UInt8):(writeD D n d).1=(writeR R n d).1∧DR (m+1) (writeD D n d).2 (writeR R n d).2:=by
 obtain ⟨h1,h2⟩:=h.works
 unfold writeD writeR
 simp only
 generalize worksD D=p at *
 generalize worksR R=q at *
 obtain ⟨e,D1⟩:=p
 obtain ⟨e',R1⟩:=q
 simp only at h1 h2 ⊢
 subst h1
 by_cases he:e≠0
 ·rw [if_pos he,if_pos he];exact ⟨rfl,h2.mono (Nat.le_succ _)⟩
 rw [if_neg he,if_neg he]
 by_cases hn:named n=false
 ·rw [if_pos hn,if_pos hn];exact ⟨rfl,h2.mono (Nat.le_succ _)⟩
 rw [if_neg hn,if_neg hn]
 by_cases hl:65536<d.length
 ·rw [if_pos hl,if_pos hl];exact ⟨rfl,h2.mono (Nat.le_succ _)⟩
 rw [if_neg hl,if_neg hl]
 have hfs:=h2.fewS
 have hS:=h2.shown.put n d
 have hsh:shownR (addR R1 ⟨0,n,⟨#[]⟩,d⟩)=insR less (n,d) (delF (shownR R1) n):=by rw [shownR_add];rfl
 have hlen:(insR less (n,d) (delF (shownR R1) n)).length≤512:=by
  rw [←hS.len,putF_len];split<;>omega
 have hu:(usedF (insR less (n,d) (delF (shownR R1) n)):Int)=(usedF D1.shown:Int) - oldLen D1.shown n+d.length:=by
  have h3:=used_del h2.shown.nodupR n
  have h4:=insR_used (lt:=less) (f:=(n,d)) (delF (shownR R1) n)
  have h5:=h2.shown.used
  have h6:=h2.shown.oldLen n
  simp only at h4
  omega
 rw [hsh,hu,←h2.room]
 by_cases hr:D1.room<(usedF D1.shown:Int) - oldLen D1.shown n+d.length
 ·rw [if_pos (.inr hr),if_pos (.inr hr)];exact ⟨rfl,h2.mono (Nat.le_succ _)⟩
 ·rw [if_neg (by rintro (⟨_,h⟩ | h);omega;exact hr h),if_neg (by rintro (h | h);omega;exact hr h)]
  exact ⟨rfl,h2.add ⟨0,n,⟨#[]⟩,d⟩⟩
theorem rename_same {m:Nat} {D:Dk} {R:Rk} (h:DR m D R) (f t:Nm):(renameD D f t).1=(renameR R f t).1∧DR m (renameD D f t).2 (renameR R f t).2:=by
 obtain ⟨h1,h2⟩:=h.works
 unfold renameD renameR
 simp only
 generalize worksD D=p at *
 generalize worksR R=q at *
 obtain ⟨e,D1⟩:=p
 obtain ⟨e',R1⟩:=q
 simp only at h1 h2 ⊢
 subst h1
 rw [h2.shown.get]
 split
 ·exact ⟨rfl,h2⟩
 ·split
  ·exact ⟨rfl,h2⟩
  ·split
   ·exact ⟨rfl,h2⟩
   ·exact ⟨rfl,h2.add ⟨1,f,t,[]⟩⟩
theorem sync_same {m:Nat} {D:Dk} {R:Rk} (h:DR m D R):(syncD D).1=(syncR R).1∧DR m (syncD D).2 (syncR R).2:=by
 obtain ⟨h1,h2⟩:=h.works
 unfold syncD syncR
 simp only
 generalize worksD D=p at *
 generalize worksR R=q at *
 obtain ⟨e,D1⟩:=p
 obtain ⟨e',R1⟩:=q
 simp only at h1 h2 ⊢
 subst h1
 split
 ·exact ⟨rfl,h2⟩
 ·exact ⟨rfl,⟨h2.room,h2.fuse,h2.down,rfl,h2.shown,h2.shown,h2.fewS,h2.fewS⟩⟩
theorem kept_nil (cs:List Chg):kept cs []=[]:=by cases cs<;>rfl
def tilde:Nm:=⟨#[126]⟩
def noTilde (n:Nm):Bool:=n.data.toList.all (· != 126)
def objNamed (n:Nm):Bool:=decide (n.size≤20)&&named n&&noTilde n
def begun (n:Nm):Bool:=n.data.toList.head?==some 126
def sweepD:List Nm→Bool→Dk→Nat×Bool×Dk
 | [],s,D=>(0,s,D)
 | n::l,s,D=>if begun n=false then sweepD l s D else if (removeD D n).1≠0 then ((removeD D n).1,s,(removeD D n).2) else sweepD l true (removeD D n).2
def openD (l:List Nm) (D:Dk):Nat×Dk :=
 if D.down=true then (14,D) else if (sweepD l false D).1≠0 then ((sweepD l false D).1,(sweepD l false D).2.2) else if (sweepD l false D).2.1=true then syncD (sweepD l false D).2.2 else (0,(sweepD l false D).2.2)
def putD (D:Dk) (n:Nm) (d:List UInt8):Nat×Dk :=
 if objNamed n=false then (2,D) else
 if (writeD D (tilde++n) d).1≠0 then writeD D (tilde++n) d else
 if (syncD (writeD D (tilde++n) d).2).1≠0 then syncD (writeD D (tilde++n) d).2 else
 if (renameD (syncD (writeD D (tilde++n) d).2).2 (tilde++n) n).1≠0 then renameD (syncD (writeD D (tilde++n) d).2).2 (tilde++n) n else
 syncD (renameD (syncD (writeD D (tilde++n) d).2).2 (tilde++n) n).2
def putR (R:Rk) (n:Nm) (d:List UInt8):Nat×Rk :=
 if objNamed n=false then (2,R) else
 if (writeR R (tilde++n) d).1≠0 then writeR R (tilde++n) d else
 if (syncR (writeR R (tilde++n) d).2).1≠0 then syncR (writeR R (tilde++n) d).2 else
 if (renameR (syncR (writeR R (tilde++n) d).2).2 (tilde++n) n).1≠0 then renameR (syncR (writeR R (tilde++n) d).2).2 (tilde++n) n else
 syncR (renameR (syncR (writeR R (tilde++n) d).2).2 (tilde++n) n).2
def getD (D:Dk) (n:Nm):Nat×List UInt8:=if objNamed n=false then (2,[]) else readD D n
def dropD (D:Dk) (n:Nm):Nat×Dk:=if objNamed n=false then (2,D) else if (removeD D n).1≠0 then removeD D n else syncD (removeD D n).2
def begins (b n:Nm):Bool:=b.data.toList.isPrefixOf n.data.toList
def listN (l:List Nm) (b:Nm):List Nm:=l.filter (fun n=>objNamed n&&begins b n)

theorem put_same {m:Nat} {D:Dk} {R:Rk} (h:DR m D R) (hm:m<512) (n:Nm) (d:List UInt8):(putD D n d).1=(putR R n d).1∧DR (m+1) (putD D n d).2 (putR R n d).2:=by
 have w:=write_same h hm (tilde++n) d
 have s:=sync_same w.2
 have r:=rename_same s.2 (tilde++n) n
 have s2:=sync_same r.2
 unfold putD putR
 by_cases c0:objNamed n=false
 ·rw [if_pos c0,if_pos c0];exact ⟨rfl,h.mono (by omega)⟩
 rw [if_neg c0,if_neg c0]
 rw [←w.1,←s.1,←r.1]
 by_cases c1:(writeD D (tilde++n) d).1≠0
 ·rw [if_pos c1,if_pos c1];exact ⟨w.1,w.2.mono (by omega)⟩
 rw [if_neg c1,if_neg c1]
 by_cases c2:(syncD (writeD D (tilde++n) d).2).1≠0
 ·rw [if_pos c2,if_pos c2];exact ⟨s.1,s.2.mono (by omega)⟩
 rw [if_neg c2,if_neg c2]
 by_cases c3:(renameD (syncD (writeD D (tilde++n) d).2).2 (tilde++n) n).1≠0
 ·rw [if_pos c3,if_pos c3];exact ⟨r.1,r.2.mono (by omega)⟩
 rw [if_neg c3,if_neg c3]
 exact ⟨s2.1,s2.2.mono (by omega)⟩
structure Good (L:Fl):Prop where
 nodup:(L.map (·.1)).Nodup
 files:∀ f∈L,named f.1=true∧f.2.length≤65536
structure GoodC (c:Chg):Prop where
 kind:c.kind<3
 len:c.d.length≤65536
 k0:c.kind=0→named c.name=true
 k1:c.kind=1→named c.to=true
theorem Good.nil:Good []:=⟨by simp,by simp⟩
theorem Good.put {L:Fl} (h:Good L) {n:Nm} {d:List UInt8} (hn:named n=true) (hd:d.length≤65536):Good (putF L n d) :=
 ⟨putF_keys h.nodup n d,fun f hf=>by
  rcases putF_mem.1 hf with rfl | ⟨hf,_⟩
  ·exact ⟨hn,hd⟩
  ·exact h.files f hf⟩
theorem Good.del {L:Fl} (h:Good L) (n:Nm):Good (delF L n):=⟨delF_keys h.nodup n,fun f hf=>h.files f (List.mem_filter.1 hf).1⟩
theorem Good.get {L:Fl} (h:Good L) {n:Nm} {d:List UInt8} (hg:getF L n=some d):named n=true∧d.length≤65536:=h.files (n,d) ((getF_iff h.nodup).1 hg)
theorem Good.do {L:Fl} (h:Good L) {c:Chg} (hc:GoodC c):Good (doF L c):=by
 unfold doF
 by_cases h0:c.kind=0
 ·rw [if_pos h0];exact h.put (hc.k0 h0) hc.len
 ·rw [if_neg h0]
  cases hg:getF L c.name with
  | none=>exact h
  | some b =>
   show Good (if c.kind=1 then _ else _)
   by_cases h1:c.kind=1
   ·rw [if_pos h1];exact (h.del _).put (hc.k1 h1) (h.get hg).2
   ·rw [if_neg h1];exact h.del _
theorem Good.all:∀ {cs:List Chg} {L:Fl},Good L→(∀ c∈cs,GoodC c)→Good (allF L cs)
 | [],L,h,_=>h
 | c::cs,L,h,hc=>by
  show Good (allF (doF L c) cs)
  exact Good.all (h.do (hc c List.mem_cons_self)) (fun x hx=>hc x (List.mem_cons_of_mem _ hx))
theorem kept_mem:∀ {cs:List Chg} {ks:List Bool} {c:Chg},c∈kept cs ks→c∈cs
 | [],[],c,h=>by simp [kept] at h
 | [],_::_,c,h=>by simp [kept] at h
 | x::cs,[],c,h=>by simp [kept] at h
 | x::cs,true::ks,c,h=>by
  simp only [kept] at h
  rcases List.mem_cons.1 h with rfl | h
  ·exact List.mem_cons_self
  ·exact List.mem_cons_of_mem _ (kept_mem h)
 | x::cs,false::ks,c,h=>by
  simp only [kept] at h
  exact List.mem_cons_of_mem _ (kept_mem h)
/-- a disk's bounds: at most m files ever written -/
structure Ok (m:Nat) (D:Dk):Prop where
 few:D.sure.length+wr D.pend≤m
 fewS:D.shown.length≤m
 sure:Good D.sure
 shown:Good D.shown
 pend:∀ c∈D.pend,GoodC c
 room:0≤D.room∧D.room≤1073741824
 fuse:-1≤D.fuse∧D.fuse<9223372036854775808
theorem Ok.mono {m k:Nat} {D:Dk} (h:Ok m D) (hk:m≤k):Ok k D:={ h with few:=Nat.le_trans h.few hk,fewS:=Nat.le_trans h.fewS hk }
theorem Ok.works {m:Nat} {D:Dk} (h:Ok m D):Ok m (worksD D).2:=by
 unfold worksD
 split
 ·exact h
 ·split
  ·exact ⟨h.few,h.fewS,h.sure,h.shown,h.pend,h.room,h.fuse⟩
  ·refine ⟨h.few,h.fewS,h.sure,h.shown,h.pend,h.room,?_⟩
   have:=h.fuse
   show -1≤lower D.fuse∧lower D.fuse<_
   unfold lower
   split<;>omega
theorem works_ok {D:Dk} (h:(worksD D).1=0):D.down=false∧D.fuse≠0∧(worksD D).2={ D with fuse:=lower D.fuse }:=by
 unfold worksD at h ⊢
 split at h
 ·cases h
 ·rename_i hd
  split at h
  ·cases h
  ·rename_i hf
   rw [if_neg hd,if_neg hf]
   exact ⟨by simpa using hd,hf,rfl⟩
theorem works_err (D:Dk):(worksD D).1=0∨(worksD D).1=14:=by
 unfold worksD
 split
 ·exact .inr rfl
 ·split
  ·exact .inr rfl
  ·exact .inl rfl
theorem Ok.add {m:Nat} {D:Dk} (h:Ok m D) {c:Chg} (hc:GoodC c):Ok (m+wr [c]) (addD D c) :=
 ⟨by
  show D.sure.length+wr (D.pend++[c])≤_
  have:=h.few
  rw [wr_append];omega,by
  have h1:=doF_len D.shown c
  have h2:=h.fewS
  show (doF D.shown c).length≤_
  omega,h.sure,h.shown.do hc,fun x hx=>by
   have hx:x∈D.pend++[c]:=hx
   rcases List.mem_append.1 hx with hx | hx
   ·exact h.pend x hx
   ·obtain rfl:=List.mem_singleton.1 hx;exact hc,h.room,h.fuse⟩
theorem Ok.write {m:Nat} {D:Dk} (h:Ok m D) (n:Nm) (d:List UInt8):Ok (m+1) (writeD D n d).2:=by
 have hw:=h.works.mono (Nat.le_succ m)
 unfold writeD
 simp only
 split
 ·exact hw
 ·split
  ·exact hw
  ·rename_i hn
   split
   ·exact hw
   ·rename_i hl
    split
    ·exact hw
    ·exact (h.works.add (c:=⟨0,n,⟨#[]⟩,d⟩) ⟨by show (0:Nat)<3;decide,by show d.length≤_;omega,fun _=>by simpa using hn,(fun h=>by cases h)⟩).mono (Nat.le_refl _)
theorem wr_one {k:Nat} {a b:Nm} {d:List UInt8} (hk:k≠0):wr [⟨k,a,b,d⟩]=0:=by
 unfold wr;simp [hk]
theorem Ok.rename {m:Nat} {D:Dk} (h:Ok m D) (f t:Nm):Ok m (renameD D f t).2:=by
 unfold renameD
 simp only
 split
 ·exact h.works
 ·split
  ·exact h.works
  ·rename_i hn
   split
   ·exact h.works
   ·have:=h.works.add (c:=⟨1,f,t,[]⟩) ⟨by show (1:Nat)<3;decide,by show (0:Nat)≤_;omega,(fun h=>by cases h),fun _=>(by
     cases ht:named t with
     | true=>rfl
     | false=>exact absurd (.inr ht) hn)⟩
    rw [wr_one (by decide)] at this;exact this
theorem Ok.remove {m:Nat} {D:Dk} (h:Ok m D) (n:Nm):Ok m (removeD D n).2:=by
 unfold removeD
 simp only
 split
 ·exact h.works
 ·split
  ·exact h.works
  ·split
   ·exact h.works
   ·have:=h.works.add (c:=⟨2,n,⟨#[]⟩,[]⟩) ⟨by show (2:Nat)<3;decide,by show (0:Nat)≤_;omega,(fun h=>by cases h),(fun h=>by cases h)⟩
    rw [wr_one (by decide)] at this;exact this
theorem Ok.sync {m:Nat} {D:Dk} (h:Ok m D):Ok m (syncD D).2:=by
 have hw:=h.works
 unfold syncD
 simp only
 split
 ·exact hw
 ·exact ⟨by show (worksD D).2.shown.length+wr []≤m;simpa [wr] using hw.fewS,hw.fewS,hw.shown,hw.shown,(by intro c hc;simp at hc),hw.room,hw.fuse⟩
theorem Ok.cut {m:Nat} {D:Dk} (h:Ok m D) (ks:List Bool):Ok m (cutD D ks):=by
 have hl:(allF D.sure (kept D.pend ks)).length≤m:=by
  have h1:=allF_len (kept D.pend ks) D.sure
  have h2:=kept_len D.pend ks
  have h3:=h.few
  omega
 have hg:Good (allF D.sure (kept D.pend ks)):=h.sure.all (fun c hc=>h.pend c (kept_mem hc))
 exact ⟨by show (allF D.sure (kept D.pend ks)).length+wr []≤m;simpa [wr] using hl,hl,hg,hg,(by intro c hc;exact absurd (show c∈[] from hc) (by simp)),h.room,h.fuse⟩
theorem Ok.start {m:Nat} {D:Dk} (h:Ok m D):Ok m (upD D):=by
 unfold upD
 split
 ·have hc:=h.cut []
  exact ⟨hc.few,hc.fewS,hc.sure,hc.shown,hc.pend,hc.room,by show (-1:Int)≤-1∧(-1:Int)<_;decide⟩
 ·exact ⟨h.few,h.fewS,h.sure,h.shown,h.pend,h.room,by show (-1:Int)≤-1∧(-1:Int)<_;decide⟩
theorem Ok.sweep:∀ (l:List Nm) {m:Nat} {D:Dk} (s:Bool),Ok m D→Ok m (sweepD l s D).2.2
 | [],m,D,s,h=>h
 | n::l,m,D,s,h=>by
  unfold sweepD
  split
  ·exact Ok.sweep l s h
  ·split
   ·exact h.remove n
   ·exact Ok.sweep l true (h.remove n)
theorem Ok.open {m:Nat} {D:Dk} (h:Ok m D) (l:List Nm):Ok m (openD l D).2:=by
 unfold openD
 split
 ·exact h
 ·split
  ·exact h.sweep l false
  ·split
   ·exact (h.sweep l false).sync
   ·exact h.sweep l false
/-- a new disk -/
def newD (room:Int):Dk:=⟨room,[],[],[],-1,false⟩
theorem Ok.new {room:Int} (h:0≤room∧room≤1073741824):Ok 0 (newD room) :=
 ⟨by show ([]:Fl).length+wr []≤0;simp [wr],Nat.le_refl _,Good.nil,Good.nil,(by intro c hc;exact absurd (show c∈[] from hc) (by simp)),h,by show (-1:Int)≤-1∧(-1:Int)<_;decide⟩
theorem used_le {L:Fl} (h:Good L) {m:Nat} (hm:L.length≤m):usedF L≤65536*m:=by
 have:∀ (L:Fl),(∀ f∈L,f.2.length≤65536)→usedF L≤65536*L.length:=by
  intro L
  induction L with
  | nil=>intro _;simp [usedF]
  | cons x L ih =>
   intro h
   have h1:=h x List.mem_cons_self
   have h2:=ih (fun f hf=>h f (List.mem_cons_of_mem _ hf))
   unfold usedF at h2 ⊢
   rw [List.map_cons,List.sum_cons,List.length_cons];omega
 have h1:=this L (fun f hf=>(h.files f hf).2)
 have h2:65536*L.length≤65536*m:=Nat.mul_le_mul_left _ hm
 omega
end DK
end Go.Proofs.YtaodldbgikiekaaGreatDoor

namespace Go.Proofs.YtaodldbgikiekaaGreatDoor
open Go.RowKit

/-- parts that meet I, lying within G -/
def Asn.ex (I:List Asn→Prop) (G:Nat→Prop):Asn where
 holds:=fun w=>∃ K,I K∧(Asn.all K).holds w∧(∀ b,(Asn.all K).foot b→G b)∧∀ b,G b→b<w.heap.size
 foot:=G
 lt:=fun _ ⟨_,_,_,_,h⟩ b hb=>h b hb
 keep:=fun w w' ⟨K,h1,h2,h3,h4⟩ k=>⟨K,h1,(Asn.all K).keep w w' h2 (fun b hb=>k b (h3 b hb)),h3,fun b hb=>by
  have h5:=h4 b hb
  have h6:=k b hb
  rw [Array.getElem?_eq_getElem h5] at h6
  exact (Array.getElem?_eq_some_iff.1 h6).1⟩

theorem Sep.split {w0 w:World} {F:Nat→Prop}:∀ {K L:List Asn},Sep w0 F (Asn.all K::L) w→Sep w0 F (K++L) w
 | [],L,h=>h.tail
 | A::K,L,h=>by
  have h1:Sep w0 F (A::Asn.all K::L) w:=Sep.part h
  have h2:Sep w0 F (Asn.all K::A::L) w:=h1.perm (List.Perm.swap _ _ _)
  have h3:=Sep.split h2
  exact h3.perm List.perm_middle
theorem Sep.merge {w0 w:World} {F:Nat→Prop}:∀ {K L:List Asn},Sep w0 F (K++L) w→Sep w0 F (Asn.all K::L) w
 | [],L,h=>h.addEmp trivial (fun _ h=>h)
 | A::K,L,h=>by
  have h1:Sep w0 F (K++(A::L)) w:=h.perm List.perm_middle.symm
  have h2:=Sep.merge h1
  have h3:Sep w0 F (A::Asn.all K::L) w:=h2.perm (List.Perm.swap _ _ _)
  exact h3.join
/-- a known part is opened -/
theorem Sep.unpack {w0 w:World} {F G:Nat→Prop} {I:List Asn→Prop} {L:List Asn} (h:Sep w0 F (Asn.ex I G::L) w):∃ K,I K∧Sep w0 F (K++L) w:=by
 obtain ⟨K,h1,h2,h3,_⟩:=h.each _ List.mem_cons_self
 exact ⟨K,h1,(h.turn h2 h3).split⟩
/-- parts are closed to a known one -/
theorem Sep.pack {w0 w:World} {F:Nat→Prop} {I:List Asn→Prop} (K:List Asn) {L:List Asn} (h:Sep w0 F (K++L) w) (hI:I K):∃ G,Sep w0 F (Asn.ex I G::L) w:=by
 have h1:=h.merge
 have h2:=h1.each _ List.mem_cons_self
 exact ⟨(Asn.all K).foot,h1.turn (B:=Asn.ex I (Asn.all K).foot) ⟨K,hI,h2,fun _ h=>h,(Asn.all K).lt w h2⟩ (fun _ h=>h)⟩
/-- a call with one part, by itself -/
theorem Sep.open1 {w:World} {G:Nat→Prop} {I:List Asn→Prop} (h:(Asn.ex I G).holds w):∃ K,I K∧Sep w G K w:=by
 obtain ⟨K,h1,h2⟩:=(Sep.start1 _ h).unpack
 rw [List.append_nil] at h2
 exact ⟨K,h1,h2⟩
theorem Sep.close1 {w w':World} {G:Nat→Prop} {I:List Asn→Prop} {K:List Asn} (h:Sep w G K w') (hI:I K):∃ G',Sep w G [Asn.ex I G'] w':=Sep.pack K (by rw [List.append_nil];exact h) hI
theorem Sep.idle {w:World} {A:Asn} (h:A.holds w):Sep w A.foot [A] w:=Sep.start1 A h
/-- parts of a longer list, in the order of a shorter one, and the rest -/
theorem Sep.swap1 {w0 w:World} {F:Nat→Prop} {A B:Asn} {L:List Asn} (h:Sep w0 F (A::B::L) w):Sep w0 F (B::A::L) w:=h.perm (List.Perm.swap _ _ _)
theorem Sep.callN {w0 w w':World} {F:Nat→Prop} {K J L:List Asn} (h:Sep w0 F (J++L) w) (k:Sep w (Asn.all J).foot K w'):Sep w0 F (K++L) w':=(h.merge).call k
theorem Sep.call1 {w0 w w':World} {F G:Nat→Prop} {A:Asn} {L K:List Asn} (h:Sep w0 F (A::L) w) (hG:A.foot=G) (k:Sep w G K w'):Sep w0 F (K++L) w':=h.call (by rw [hG];exact k)
/-- a contract told of less is one told of more -/
theorem Sep.under {w w':World} {F F':Nat→Prop} {L:List Asn} (h:Sep w F L w') (hF:∀ b,F b→F' b):Sep w F' L w' :=
 ⟨h.fr.mono hF,h.each,h.apart,fun A hA b hb=>(h.new A hA b hb).imp id (hF b)⟩

/-- bytes that nobody writes: the blocks of Z, and the slices vs that lie there -/
def Asn.pool (Z:Nat→Prop) (vs:List (Value×List UInt8)):Asn where
 holds:=fun w=>(∀ x∈vs,Bytes w x.1 x.2∧SlIn Z x.1)∧∀ b,Z b→b<w.heap.size
 foot:=Z
 lt:=fun _ h b hb=>h.2 b hb
 keep:=fun w w' h k=>by
  refine ⟨fun x hx=>?_,fun b hb=>?_⟩
  ·obtain ⟨h1,h2⟩:=h.1 x hx
   obtain ⟨a,c,he,q1,q2,q0,q3⟩:=h1
   refine ⟨⟨a,c,he,q1,q2,q0,fun j u hu=>?_⟩,h2⟩
   obtain ⟨p,hp,hc⟩:=q3 j u hu
   refine ⟨p,hp,?_⟩
   have hz:Z p.block:=h2 p _ _ (by rw [he,hp])
   have hkb:=k p.block hz
   rw [←hc]
   have hadd:(p.add j).block=p.block:=add_block ..
   unfold World.cell?
   rw [hadd,hkb]
  ·have h5:=h.2 b hb
   have h6:=k b hb
   rw [Array.getElem?_eq_getElem h5] at h6
   exact (Array.getElem?_eq_some_iff.1 h6).1
def nilB:Value×List UInt8:=(.slice none 0 0,[])
theorem bytes_nil (w:World):Bytes w (.slice none 0 0) []:=SlV.empty w none 0 (Nat.zero_le _) (fun _=>rfl)
theorem slin_nil (Z:Nat→Prop) (n c:Nat):SlIn Z (.slice none n c):=by intro p n c h;cases h
theorem Sep.pool0 {w0 w:World} {F:Nat→Prop} {L:List Asn} (h:Sep w0 F L w):Sep w0 F (Asn.pool NoF [nilB]::L) w :=
 h.addEmp ⟨by intro x hx;obtain rfl:=List.mem_singleton.1 hx;exact ⟨bytes_nil w,slin_nil _ _ _⟩,fun b hb=>hb.elim⟩ (fun b hb=>hb)
theorem Sep.bytes {w0 w:World} {F Z:Nat→Prop} {L:List Asn} {vs:List (Value×List UInt8)} (h:Sep w0 F L w) (i:Nat) (hi:L[i]?=some (Asn.pool Z vs)) {v:Value} {d:List UInt8} (hm:(v,d)∈vs):Bytes w v d:=((h.at i hi).1 _ hm).1
/-- a row of the call's own joins the pool -/
theorem Sep.toPool {w0 w:World} {F Z:Nat→Prop} {L:List Asn} {vs:List (Value×List UInt8)} {e:Nat} {v:Value} {d:List UInt8} (h:Sep w0 F (.row e 1 v d.length (byteVs d)::Asn.pool Z vs::L) w) :
  ∃ Z',Sep w0 F (Asn.pool Z' ((v,d)::vs)::L) w:=by
 have h1:=h.join
 have hr:=h.row 0 rfl
 have hp:=h.at 1 rfl
 refine ⟨fun b=>v.ownBlock=some b∨Z b,h1.turn ⟨fun x hx=>?_,fun b hb=>?_⟩ (fun b hb=>hb)⟩
 ·rcases List.mem_cons.1 hx with rfl | hx
  ·refine ⟨SlV.of_own hr,fun p n c hv=>?_⟩
   obtain ⟨_,h2⟩:=hr
   rcases h2 with ⟨h2,h3⟩ | ⟨g,cap,cur,hv2,_⟩
   ·rw [h2] at hv;cases hv
   ·left
    rw [hv2] at hv
    simp only [Value.slice.injEq,Option.some.injEq] at hv
    show v.ownBlock=some p.block
    rw [hv2,←hv.1];rfl
  ·obtain ⟨q1,q2⟩:=hp.1 x hx
   exact ⟨q1,fun p n c hv=>.inr (q2 p n c hv)⟩
 ·rcases hb with hb | hb
  ·exact (own_blk hr hb).2
  ·exact hp.2 b hb
/-- blocks of the pool's own -/
theorem Sep.poolJoin {w0 w:World} {F Z Y:Nat→Prop} {L:List Asn} {vs us:List (Value×List UInt8)} (h:Sep w0 F (Asn.pool Z vs::Asn.pool Y us::L) w):Sep w0 F (Asn.pool (fun b=>Z b∨Y b) (vs++us)::L) w:=by
 have h1:=h.join
 have hp:=h.at 0 rfl
 have hq:=h.at 1 rfl
 refine h1.turn ⟨fun x hx=>?_,fun b hb=>hb.elim (hp.2 b) (hq.2 b)⟩ (fun b hb=>hb)
 rcases List.mem_append.1 hx with hx | hx
 ·exact ⟨(hp.1 x hx).1,fun p n c hv=>.inl ((hp.1 x hx).2 p n c hv)⟩
 ·exact ⟨(hq.1 x hx).1,fun p n c hv=>.inr ((hq.1 x hx).2 p n c hv)⟩

theorem fr_setRow (w:World) (N:Nat) (cs:Array Value):Fr (fun k=>k=N) w (w.setRow N cs) :=
 ⟨rfl,rfl,rfl,by simp,fun k _ hk=>setRow_other w N k cs hk⟩
theorem BoxW.setRow {N t:Nat} {R:List Value} {w:World} (h:BoxW N R t w) (R':List Value):BoxW N R' t (w.setRow N R'.toArray):=setRow_heap w N _ _ t (0,0) h
theorem Sep.setRow {w0 w:World} {F:Nat→Prop} {L:List Asn} (h:Sep w0 F L w) (i:Nat) {N:Nat} {R:List Value} {t:Nat} (hi:L[i]?=some (.box N R t)) (R':List Value):Sep w0 F (.box N R' t::L.eraseIdx i) (w.setRow N R'.toArray) :=
 (h.focus i hi).fr1 (fr_setRow w N R'.toArray) (((h.focus i hi).box 0 rfl).setRow R') (fun b hb=>.inr hb)
end Go.Proofs.YtaodldbgikiekaaGreatDoor

namespace Go.Proofs.YtaodldbgikiekaaGreatDoor
open Go.RowKit
namespace MS

def _root_.Go.Proofs.YtaodldbgikiekaaGreatDoor.Asn.map (b:Nat) (L:List (ByteArray×Value)):Asn where
 holds:=fun w=>MapAt w b L
 foot:=fun k=>k=b
 lt:=fun _ h k e=>by subst e;exact h.lt
 keep:=fun _ _ h k=>h.block (k b rfl)

theorem run_look_ok {P:Program} {t k e:Nat} {z:Value} (T:MapT P t k e z) {w:World} {b:Nat} {L:List (ByteArray×Value)} (h:MapAt w b L) (a:ByteArray) :
  (Instr.lookup t (.map (some b)) (.string a) true).run P w=.ok (.tuple #[(lookE L a).getD z,.bool (lookE L a).isSome]) w:=by
 obtain ⟨es,clock,hb,hs⟩:=h
 have hz:=T.zero w
 have hf:=fun w=>run_findKey T w hs.eq a
 have hck:=run_checkKey T
 have hk:=T.key
 simp only [Instr.lookup]
 simp [run_underlying T.under,getObj,Sem.run,hb,go_sem,hck,hf,lookE,find_idx]
 cases hj:L.findIdx? (fun x=>x.1==a) with
 | none=>simp [hz,go_sem]
 | some j =>
  have hlt:j<L.length:=(List.findIdx?_eq_some_iff_getElem.1 hj).1
  simp [List.getElem?_eq_getElem hlt,go_sem]
theorem delE_none {L:List (ByteArray×Value)} {a:ByteArray} (h:L.findIdx? (fun x=>x.1==a)=none):delE L a=L:=by
 rw [List.findIdx?_eq_none_iff] at h
 unfold delE
 exact List.filter_eq_self.2 (fun p hp=>by have:=h p hp;simpa [bne] using this)
theorem run_delete {P:Program} {t k e:Nat} {z:Value} (T:MapT P t k e z) {w:World} {b:Nat} {L:List (ByteArray×Value)} (h:MapAt w b L) (a:ByteArray) (ty:TypeId) :
  ∃ o,(Builtin.delete_ #[t,k] ty #[.map (some b),.string a]).run P w=.ok (.tuple #[]) (setBlk w b o)∧MapAt (setBlk w b o) b (delE L a):=by
 have hlt:=h.lt
 obtain ⟨es,clock,hb,hs⟩:=h
 have hf:=fun w=>run_findKey T w hs.eq a
 have hck:=run_checkKey T
 have hset:∀ o,(setObj b o).run P w=.ok () (setBlk w b o):=fun o=>by simp [setObj,Sem.run,hb,setBlk]
 cases hj:L.findIdx? (fun x=>x.1==a) with
 | none =>
  refine ⟨.map es clock,?_,?_⟩
  ·simp only [Builtin.delete_]
   simp [run_underlying T.under,getObj,Sem.run,hb,go_sem,hck,hf,hj,hset]
  ·rw [delE_none hj]
   exact ⟨es,clock,setBlk_at _ hlt,hs⟩
 | some j =>
  have hjl:j<L.length:=(List.findIdx?_eq_some_iff_getElem.1 hj).1
  refine ⟨.map (es.eraseIdxIfInBounds j) clock,?_,es.eraseIdxIfInBounds j,clock,setBlk_at _ hlt,?_⟩
  ·simp only [Builtin.delete_]
   simp [run_underlying T.under,getObj,Sem.run,hb,go_sem,hck,hf,hj,List.getElem?_eq_getElem hjl,hset]
  ·rw [Array.toList_eraseIdxIfInBounds];exact erase_shows hs hj

section
variable {P:Program} {t k e:Nat} {z:Value} {w0 w:World} {F:Nat→Prop} {M:List Asn} {ops:Array Oper} {rest:List Oper} {o:Oper} {a:Act} {Q:Exit→Act→World→Prop}

theorem wp_look_ok (T:MapT P t k e z) (hw:Region.wanted o (yielded ops a.tmps)=true) (m x:Operand) (ho:o.op=.lookup t m x true) {b:Nat} {L:List (ByteArray×Value)} (hm:a.eval m=.map (some b)) (x0:ByteArray) (hx:a.eval x=.string x0) (h:MapAt w b L)
  (hk:wpList P ops Q rest (a.put o.dst (.tuple #[(lookE L x0).getD z,.bool (lookE L x0).isSome])) w):wpList P ops Q (o::rest) a w:=by
 refine wpList_step fun K hK=>?_
 rw [if_pos hw]
 have hrun:=run_look_ok T h x0
 unfold Oper.wp
 simp [execOp,ho,hm,hx,hrun,Result.andThen]
 exact hK _ _ hk
theorem wp_delete (T:MapT P t k e z) (hgd:o.guard=none) (m x:Operand) (ho:o.op=.call { callee:=.builtin .delete,args:=#[m,x],argTypes:=#[t,k]}) {b:Nat} {L:List (ByteArray×Value)} (hm:a.eval m=.map (some b)) (x0:ByteArray) (hx:a.eval x=.string x0) (h:MapAt w b L)
  (hk:∀ w',MapAt w' b (delE L x0)→Fr (·=b) w w'→w'.heap.size=w.heap.size→wpList P ops Q rest (a.put o.dst (.tuple #[])) w'):wpList P ops Q (o::rest) a w:=by
 refine wpList_plain hgd fun K hK=>?_
 obtain ⟨ob,hrun,hat⟩:=run_delete T h x0 o.type
 unfold Oper.wp execOp
 simp only [ho,resolve,invoke,builtin,Sem.run_bind,Sem.run_pure,Result.andThen_ok,List.map_toArray,List.map_cons,List.map_nil,hm,hx,hrun]
 exact hK _ _ (hk _ hat (setBlk_fr _ _ _) (setBlk_size _ _ _))
theorem sep_made (H:Sep w0 F M w) (N:Nat) (hN:w.heap.size=N):Sep w0 F (.map N []::M) (w.alloc (.map #[] 0)):=by
 subst hN
 exact H.below1 ((Below.refl _ _).alloc (Nat.le_refl _) _) (MapAt.made w) (fun b hb=>by have:b=w.heap.size:=hb;omega)
end
end MS
end Go.Proofs.YtaodldbgikiekaaGreatDoor

namespace Go.Proofs.YtaodldbgikiekaaGreatDoor
open Go.RowKit

def idxB {α:Type} (f:α→Bool) (l:List α):Int:=match l.findIdx? f with | some i=>(i:Int) | none=>-1
theorem idxB_hit {α:Type} {f:α→Bool} {l:List α} {k:Nat} (hk:k<l.length) (h1:∀ y∈l.take k,f y=false) (h2:f l[k]=true):idxB f l=k:=by
 have:l.findIdx? f=some k:=by
  rw [List.findIdx?_eq_some_iff_getElem]
  refine ⟨hk,h2,fun j hj=>?_⟩
  have:=h1 l[j] (by rw [List.mem_take_iff_getElem];exact ⟨j,by omega,rfl⟩)
  simp [this]
 unfold idxB;rw [this]
theorem idxB_none {α:Type} {f:α→Bool} {l:List α} (h1:∀ y∈l,f y=false):idxB f l=-1:=by
 have:l.findIdx? f=none:=by rw [List.findIdx?_eq_none_iff];exact h1
 unfold idxB;rw [this]
theorem idxB_any {α:Type} (f:α→Bool) (l:List α):decide (0≤idxB f l)=l.any f:=by
 unfold idxB
 cases h:l.findIdx? f with
 | none =>
  rw [List.findIdx?_eq_none_iff] at h
  have:l.any f=false:=by rw [List.any_eq_false];intro x hx;rw [h x hx];decide
  rw [this];rfl
 | some i =>
  rw [List.findIdx?_eq_some_iff_getElem] at h
  obtain ⟨h1,h2,_⟩:=h
  have:l.any f=true:=List.any_eq_true.2 ⟨_,List.getElem_mem h1,h2⟩
  rw [this];simp
theorem idxB_ge {α:Type} (f:α→Bool) (l:List α):-1≤idxB f l∧idxB f l≤l.length:=by
 unfold idxB
 cases h:l.findIdx? f with
 | none=>simp
 | some i=>rw [List.findIdx?_eq_some_iff_getElem] at h;obtain ⟨h1,_⟩:=h;simp;omega
theorem take_no {α:Type} {f:α→Bool} {l:List α} {k:Nat} (hk:k<l.length) (h1:∀ y∈l.take k,f y=false) (h2:f l[k]=false):∀ y∈l.take (k+1),f y=false:=by
 intro y hy
 rw [List.take_succ_eq_append_getElem hk] at hy
 rcases List.mem_append.1 hy with hy | hy
 ·exact h1 y hy
 ·simp at hy;subst hy;exact h2

end Go.Proofs.YtaodldbgikiekaaGreatDoor

namespace Go.Proofs.YtaodldbgikiekaaGreatDoor
namespace DK
/-- what is so even between two of a store's operations -/
structure Sw (D:Dk):Prop where
 goodS:Good D.sure
 goodH:Good D.shown
 goodP:∀ c∈D.pend,GoodC c
 room:0≤D.room∧D.room≤1073741824
 fuse:-1≤D.fuse∧D.fuse<9223372036854775808
 sh:D.shown=allF D.sure D.pend
 lenS:D.sure.length≤512
 lenH:D.shown.length≤512
 form:D.pend.length≤1∨((∀ c∈D.pend,c.kind=2)∧D.pend.length+D.shown.length≤512)
structure Sd (D:Dk):Prop extends Sw D where
 idle:D.down=false→D.pend=[]
theorem wr_le (cs:List Chg):wr cs≤cs.length:=List.length_filter_le _ _
theorem wr_two {cs:List Chg} (h:∀ c∈cs,c.kind=2):wr cs=0:=by
 unfold wr
 rw [List.filter_eq_nil_iff.2 (fun c hc=>by simp [h c hc])];rfl
theorem Sw.ok {D:Dk} (h:Sw D):Ok 1024 D :=
 ⟨by
  have h1:=h.lenS
  rcases h.form with h2 | ⟨h2,_⟩
  ·have:=wr_le D.pend;omega
  ·rw [wr_two h2];omega,by have:=h.lenH;omega,h.goodS,h.goodH,h.goodP,h.room,h.fuse⟩
theorem Sw.pendLen {D:Dk} (h:Sw D):D.pend.length≤512:=by
 rcases h.form with h2 | ⟨_,h2⟩<;>omega
theorem Sw.works {D:Dk} (h:Sw D):Sw (worksD D).2:=by
 have ho:=h.ok.works.fuse
 unfold worksD at ho ⊢
 split
 ·exact h
 ·rename_i h1
  rw [if_neg h1] at ho
  split
  ·exact { h with }
  ·rename_i h2
   rw [if_neg h2] at ho
   exact { h with fuse:=ho }
theorem Sd.works {D:Dk} (h:Sd D):Sd (worksD D).2:=by
 refine { h.toSw.works with idle:=?_ }
 unfold worksD
 split
 ·exact h.idle
 ·split
  ·intro hd;cases hd
  ·exact h.idle
/-- works with an error leaves a disk without power -/
theorem Sw.fell {D:Dk} (h:Sw D) (he:(worksD D).1≠0):Sd (worksD D).2∧(worksD D).1=14∧(worksD D).2.down=true:=by
 have hw:=h.works
 unfold worksD at he hw ⊢
 split
 ·rename_i hd
  rw [if_pos hd] at hw
  exact ⟨{ hw with idle:=fun h=>by rw [hd] at h;cases h },rfl,hd⟩
 ·rename_i hd
  rw [if_neg hd] at he hw
  split
  ·rename_i hf
   exact ⟨{ h with idle:=fun h=>by cases h },rfl,rfl⟩
  ·rename_i hf
   rw [if_neg hf] at he
   exact absurd rfl he
theorem works_up {D:Dk} (he:(worksD D).1=0):(worksD D).2.down=false:=by
 have:=works_ok he
 rw [this.2.2];exact this.1
theorem Sw.sync {D:Dk} (h:Sw D):Sd (syncD D).2∧((syncD D).1=0∨(syncD D).1=14∧(syncD D).2.down=true):=by
 unfold syncD
 simp only
 by_cases he:(worksD D).1≠0
 ·rw [if_pos he]
  obtain ⟨a,b,c⟩:=h.fell he
  exact ⟨a,.inr ⟨b,c⟩⟩
 ·rw [if_neg he]
  have hw:=h.works
  refine ⟨⟨⟨hw.goodH,hw.goodH,(by intro c hc;exact absurd (show c∈[] from hc) (by simp)),hw.room,hw.fuse,rfl,hw.lenH,hw.lenH,.inl (by simp)⟩,fun _=>rfl⟩,.inl rfl⟩
theorem Sd.add {D:Dk} (h:Sd D) (hd:D.down=false) {c:Chg} (hc:GoodC c) (hl:(doF D.shown c).length≤512):Sw (addD D c):=by
 have hp:=h.idle hd
 have hs:D.shown=D.sure:=by rw [h.sh,hp];rfl
 refine ⟨h.goodS,h.goodH.do hc,fun x hx=>?_,h.room,h.fuse,?_,h.lenS,hl,.inl ?_⟩
 ·have hx:x∈D.pend++[c]:=hx
  rw [hp] at hx
  simp at hx;rw [hx];exact hc
 ·show doF D.shown c=allF D.sure (D.pend++[c])
  rw [hp,hs];rfl
 ·show (D.pend++[c]).length≤1
  rw [hp];simp
theorem Sd.write {D:Dk} (h:Sd D) (n:Nm) (d:List UInt8):((writeD D n d).1≠0→Sd (writeD D n d).2)∧((writeD D n d).1=0→Sw (writeD D n d).2∧(writeD D n d).2.down=false):=by
 unfold writeD
 simp only
 by_cases he:(worksD D).1≠0
 ·rw [if_pos he];exact ⟨fun _=>h.works,fun h0=>absurd h0 he⟩
 rw [if_neg he]
 have hw:=h.works
 have hu:=works_up (D:=D) (by omega)
 by_cases hn:named n=false
 ·rw [if_pos hn];exact ⟨fun _=>hw,fun h0=>by cases h0⟩
 rw [if_neg hn]
 by_cases hl:65536<d.length
 ·rw [if_pos hl];exact ⟨fun _=>hw,fun h0=>by cases h0⟩
 rw [if_neg hl]
 by_cases hf:((getF (worksD D).2.shown n).isNone=true∧512≤(worksD D).2.shown.length)∨(worksD D).2.room<(usedF (worksD D).2.shown:Int) - oldLen (worksD D).2.shown n+d.length
 ·rw [if_pos hf];exact ⟨fun _=>hw,fun h0=>by cases h0⟩
 rw [if_neg hf]
 refine ⟨fun h0=>absurd rfl h0,fun _=>⟨hw.add hu ⟨by show (0:Nat)<3;decide,by show d.length≤_;omega,fun _=>by simpa using hn,fun h=>by cases h⟩ ?_,hu⟩⟩
 show (doF (worksD D).2.shown ⟨0,n,⟨#[]⟩,d⟩).length≤512
 unfold doF
 rw [if_pos rfl,putF_len]
 have:=hw.lenH
 by_cases hg:(getF (worksD D).2.shown n).isSome=true
 ·rw [if_pos hg];omega
 ·rw [if_neg hg]
  have:¬512≤(worksD D).2.shown.length:=fun h5=>hf (.inl ⟨by cases hq:getF (worksD D).2.shown n with | none=>rfl | some _=>rw [hq] at hg;exact absurd rfl hg,h5⟩)
  omega
theorem Sd.rename {D:Dk} (h:Sd D) (f t:Nm):((renameD D f t).1≠0→Sd (renameD D f t).2)∧((renameD D f t).1=0→Sw (renameD D f t).2∧(renameD D f t).2.down=false):=by
 unfold renameD
 simp only
 by_cases he:(worksD D).1≠0
 ·rw [if_pos he];exact ⟨fun _=>h.works,fun h0=>absurd h0 he⟩
 rw [if_neg he]
 have hw:=h.works
 have hu:=works_up (D:=D) (by omega)
 by_cases hn:named f=false∨named t=false
 ·rw [if_pos hn];exact ⟨fun _=>hw,fun h0=>by cases h0⟩
 rw [if_neg hn]
 by_cases hg:(getF (worksD D).2.shown f).isNone=true
 ·rw [if_pos hg];exact ⟨fun _=>hw,fun h0=>by cases h0⟩
 rw [if_neg hg]
 refine ⟨fun h0=>absurd rfl h0,fun _=>⟨hw.add hu ⟨by show (1:Nat)<3;decide,by show (0:Nat)≤_;omega,(fun h=>by cases h),fun _=>(by cases ht:named t with | true=>rfl | false=>exact absurd (.inr ht) hn)⟩ ?_,hu⟩⟩
 have h1:=doF_len (worksD D).2.shown ⟨1,f,t,[]⟩
 rw [wr_one (by decide)] at h1
 have:=hw.lenH
 omega
theorem Sd.put {D:Dk} (h:Sd D) (n:Nm) (d:List UInt8):Sd (putD D n d).2:=by
 unfold putD
 split
 ·exact h
 ·have hw:=h.write (tilde++n) d
  split
  ·rename_i h1;exact hw.1 h1
  ·rename_i h1
   have hs:=(hw.2 (by omega)).1.sync
   split
   ·exact hs.1
   ·have hr:=hs.1.rename (tilde++n) n
    split
    ·rename_i h3;exact hr.1 h3
    ·rename_i h3
     exact (hr.2 (by omega)).1.sync.1
/-- removing, one file behind the other -/
structure Sr (D:Dk):Prop extends Sw D where
 two:∀ c∈D.pend,c.kind=2
 few:D.pend.length+D.shown.length≤512
theorem Sd.sr {D:Dk} (h:Sd D) (hd:D.down=false):Sr D:={ h.toSw with two:=by rw [h.idle hd];simp,few:=by rw [h.idle hd];have:=h.lenH;simpa using this }
theorem allF_snoc (L:Fl) (cs:List Chg) (c:Chg):allF L (cs++[c])=doF (allF L cs) c:=by unfold allF;rw [List.foldl_append];rfl
theorem Sr.remove {D:Dk} (h:Sr D) (n:Nm):((removeD D n).1=0∧Sr (removeD D n).2∧(removeD D n).2.down=false)∨((removeD D n).1=14∧Sd (removeD D n).2∧(removeD D n).2.down=true)∨(((removeD D n).1=2∨(removeD D n).1=4)∧Sr (removeD D n).2∧(removeD D n).2.pend=D.pend∧(removeD D n).2.down=false):=by
 unfold removeD
 simp only
 by_cases he:(worksD D).1≠0
 ·rw [if_pos he]
  obtain ⟨a,b,c⟩:=h.toSw.fell he
  exact .inr (.inl ⟨b,a,c⟩)
 rw [if_neg he]
 have hw:=h.toSw.works
 have hu:=works_up (D:=D) (by omega)
 have hq:=(works_ok (D:=D) (by omega)).2.2
 have h2:∀ c∈(worksD D).2.pend,c.kind=2:=by rw [hq];exact h.two
 have h3:(worksD D).2.pend.length+(worksD D).2.shown.length≤512:=by rw [hq];exact h.few
 have hpd:(worksD D).2.pend=D.pend:=by rw [hq]
 by_cases hn:named n=false
 ·rw [if_pos hn];exact .inr (.inr ⟨.inl rfl,{ hw with two:=h2,few:=h3 },hpd,hu⟩)
 rw [if_neg hn]
 by_cases hg:(getF (worksD D).2.shown n).isNone=true
 ·rw [if_pos hg];exact .inr (.inr ⟨.inr rfl,{ hw with two:=h2,few:=h3 },hpd,hu⟩)
 rw [if_neg hg]
 left
 obtain ⟨b,hb⟩:∃ b,getF (worksD D).2.shown n=some b:=by
  cases hq:getF (worksD D).2.shown n with
  | none=>rw [hq] at hg;exact absurd rfl hg
  | some b=>exact ⟨b,rfl⟩
 have hdo:doF (worksD D).2.shown ⟨2,n,⟨#[]⟩,[]⟩=delF (worksD D).2.shown n:=by
  show (if (2:Nat)=0 then _ else match getF (worksD D).2.shown n with | none=>_ | some b=>if (2:Nat)=1 then _ else _)=_
  rw [if_neg (by decide),hb]
  show (if (2:Nat)=1 then _ else _)=_
  rw [if_neg (by decide)]
 have hlt:=delF_lt hb
 have hpl:(addD (worksD D).2 ⟨2,n,⟨#[]⟩,[]⟩).pend.length+(addD (worksD D).2 ⟨2,n,⟨#[]⟩,[]⟩).shown.length≤512:=by
  show ((worksD D).2.pend++[_]).length+(doF (worksD D).2.shown ⟨2,n,⟨#[]⟩,[]⟩).length≤512
  rw [hdo];simp only [List.length_append,List.length_singleton];omega
 have h2':∀ c∈(addD (worksD D).2 ⟨2,n,⟨#[]⟩,[]⟩).pend,c.kind=2:=by
  intro c hc
  have hc:c∈(worksD D).2.pend++[⟨2,n,⟨#[]⟩,[]⟩]:=hc
  rcases List.mem_append.1 hc with hc | hc
  ·exact h2 c hc
  ·simp at hc;rw [hc]
 refine ⟨rfl,⟨⟨hw.goodS,?_,?_,hw.room,hw.fuse,?_,hw.lenS,?_,.inr ⟨h2',hpl⟩⟩,h2',hpl⟩,hu⟩
 ·show Good (doF (worksD D).2.shown ⟨2,n,⟨#[]⟩,[]⟩)
  rw [hdo];exact hw.goodH.del _
 ·intro c hc
  have hc:c∈(worksD D).2.pend++[⟨2,n,⟨#[]⟩,[]⟩]:=hc
  rcases List.mem_append.1 hc with hc | hc
  ·exact hw.goodP c hc
  ·simp at hc;rw [hc]
   exact ⟨by show (2:Nat)<3;decide,by show (0:Nat)≤_;omega,(fun h=>by cases h),(fun h=>by cases h)⟩
 ·show doF (worksD D).2.shown ⟨2,n,⟨#[]⟩,[]⟩=allF (worksD D).2.sure ((worksD D).2.pend++[⟨2,n,⟨#[]⟩,[]⟩])
  rw [allF_snoc,←hw.sh]
 ·show (doF (worksD D).2.shown ⟨2,n,⟨#[]⟩,[]⟩).length≤512
  rw [hdo];have:=hw.lenH;omega
theorem Sr.sweep:∀ (l:List Nm) {D:Dk} (s:Bool),Sr D→D.down=false→(∀ n∈l,named n=true)→(∀ n∈l,(getF D.shown n).isSome=true)→l.Nodup →
  ((sweepD l s D).1=0∧Sr (sweepD l s D).2.2∧(sweepD l s D).2.2.down=false∧((sweepD l s D).2.1=false→(sweepD l s D).2.2.pend=D.pend))∨((sweepD l s D).1=14∧Sd (sweepD l s D).2.2∧(sweepD l s D).2.2.down=true)
 | [],D,s,h,hd,_,_,_=>.inl ⟨rfl,h,hd,fun _=>rfl⟩
 | n::l,D,s,h,hd,hn,hg,hnd=>by
  have ih:=fun (D':Dk) (s':Bool) (h':Sr D') (hd':D'.down=false) (hg':∀ n∈l,(getF D'.shown n).isSome=true)=>Sr.sweep l s' h' hd' (fun m hm=>hn m (List.mem_cons_of_mem _ hm)) hg' (List.nodup_cons.1 hnd).2
  unfold sweepD
  by_cases hb:begun n=false
  ·rw [if_pos hb]
   exact ih D s h hd (fun m hm=>hg m (List.mem_cons_of_mem _ hm))
  rw [if_neg hb]
  rcases h.remove n with ⟨a,b,c⟩ | ⟨a,b,c⟩ | ⟨a,b,c,e⟩
  ·rw [if_neg (by omega)]
   have hg':∀ m∈l,(getF (removeD D n).2.shown m).isSome=true:=by
    intro m hm
    have hmn:m≠n:=fun e=>(List.nodup_cons.1 hnd).1 (e▸hm)
    have h1:=hg m (List.mem_cons_of_mem _ hm)
    have hs:(removeD D n).2.shown=delF D.shown n:=by
     have h0:(worksD D).1=0:=by
      unfold removeD at a;simp only at a
      by_cases he:(worksD D).1≠0
      ·rw [if_pos he] at a;exact absurd a he
      ·omega
     have hq:=(works_ok h0).2.2
     have h2:=hg n List.mem_cons_self
     unfold removeD;simp only
     rw [if_neg (by omega),if_neg (by rw [hn n List.mem_cons_self];decide)]
     have hsh:(worksD D).2.shown=D.shown:=by rw [hq]
     rw [hsh]
     cases hq2:getF D.shown n with
     | none=>rw [hq2] at h2;cases h2
     | some v =>
      rw [if_neg (by simp)]
      show doF (worksD D).2.shown ⟨2,n,⟨#[]⟩,[]⟩=_
      rw [hsh]
      unfold doF
      simp only
      rw [if_neg (by decide),hq2]
      simp only
      rw [if_neg (by decide)]
    rw [hs]
    cases hq3:getF D.shown m with
    | none=>rw [hq3] at h1;cases h1
    | some v =>
     have h4:=(getF_iff h.goodH.nodup).1 hq3
     rw [(getF_iff (delF_keys h.goodH.nodup n)).2 (show (m,v)∈delF D.shown n from List.mem_filter.2 ⟨h4,by simpa [bne] using hmn⟩)];rfl
   have hr:=ih _ true b c hg'
   rcases hr with ⟨r1,r2,r3,r4⟩ | hr
   ·refine .inl ⟨r1,r2,r3,fun hf=>?_⟩
    exfalso
    have:∀ (l:List Nm) (D:Dk),(sweepD l true D).2.1=true:=by
     intro l
     induction l with
     | nil=>intro D;rfl
     | cons n l ih2 =>
      intro D
      unfold sweepD
      split
      ·exact ih2 D
      ·split
       ·rfl
       ·exact ih2 _
    rw [this] at hf;cases hf
   ·exact .inr hr
  ·rw [if_pos (by omega)]
   exact .inr ⟨a,b,c⟩
  ·exfalso
   have hnm:=hn n List.mem_cons_self
   have h2:=hg n List.mem_cons_self
   have:(removeD D n).1≠2∧(removeD D n).1≠4:=by
    unfold removeD
    simp only
    by_cases he:(worksD D).1≠0
    ·rw [if_pos he]
     rcases works_err D with h3 | h3<;>omega
    ·rw [if_neg he,if_neg (by rw [hnm];decide)]
     have hq:=(works_ok (D:=D) (by omega)).2.2
     rw [show (worksD D).2.shown=D.shown by rw [hq]]
     cases hq2:getF D.shown n with
     | none=>rw [hq2] at h2;cases h2
     | some v=>rw [if_neg (by simp)];exact ⟨by show (0:Nat)≠2;decide,by show (0:Nat)≠4;decide⟩
   omega
theorem Sd.open {D:Dk} (h:Sd D) {l:List Nm} (hl:∀ n∈l,n∈D.shown.map (·.1)) (hnd:l.Nodup):Sd (openD l D).2:=by
 unfold openD
 split
 ·exact h
 ·rename_i hd
  have hd2:D.down=false:=by simpa using hd
  have hnm:∀ n∈l,named n=true:=fun n hn=>by
   obtain ⟨f,hf,rfl⟩:=List.mem_map.1 (hl n hn)
   exact (h.goodH.files f hf).1
  have hg:∀ n∈l,(getF D.shown n).isSome=true:=fun n hn=>by
   obtain ⟨f,hf,rfl⟩:=List.mem_map.1 (hl n hn)
   rw [(getF_iff h.goodH.nodup).2 (show (f.1,f.2)∈D.shown from hf)];rfl
  rcases (h.sr hd2).sweep l false hd2 hnm hg hnd with ⟨a,b,c,e⟩ | ⟨a,b,c⟩
  ·rw [if_neg (by omega)]
   split
   ·exact b.toSw.sync.1
   ·rename_i hs
    exact { b.toSw with idle:=fun _=>by rw [e (by simpa using hs)];exact h.idle hd2 }
  ·rw [if_pos (by omega)];exact b
theorem Sd.new {room:Int} (h:0≤room∧room≤1073741824):Sd (newD room) :=
 ⟨⟨Good.nil,Good.nil,(by intro c hc;exact absurd (show c∈[] from hc) (by simp)),h,by show (-1:Int)≤-1∧(-1:Int)<_;decide,rfl,by show ([]:Fl).length≤512;simp,by show ([]:Fl).length≤512;simp,.inl (by show ([]:List Chg).length≤1;simp)⟩,fun _=>rfl⟩
end DK
end Go.Proofs.YtaodldbgikiekaaGreatDoor
