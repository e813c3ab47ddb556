/- Proved here: a part of the proof (22 of 37). -/
import Derived.Test.YtimbeeiihbmofaaGreatDoorW2
import Derived.Test.YtimbeeiihbmofaaGreatDoorW1
import Derived.Test.YtimbeeiihbmofaaGreatDoorW8
import Derived.Test.YtimbeeiihbmofaaGreatDoorW3
import Derived.Lib.SliceRun
import Derived.Shelf.GgClosure.Gives
import Derived.Test.YtimbeeiihbmofaaGreatDoorSlzL
import Derived.Sort.OwnSortedInts
import Derived.Laws.OwnMore
set_option linter.unusedSimpArgs false
set_option linter.unusedVariables false
set_option maxRecDepth 100000
namespace Go.Proofs.YtimbeeiihbmofaaGreatDoor
open Go.RowKit

theorem etInts:ElemT Tryz.prog 42 3 1 8:=ElemT.mk' (z:=.int .i64 0) Tryz.underlying42 (by kernel_rfl) rfl (by decide) (by decide)
theorem etRows:ElemT Tryz.prog 22 42 1 24:=ElemT.mk' (z:=.slice none 0 0) Tryz.underlying22 (by kernel_rfl) rfl (by decide) (by decide)
def zVs (l:List Int):List Value:=l.map (Value.int .i64)
theorem zVs_append (a b:List Int):zVs (a++b)=zVs a++zVs b:=by simp [zVs]
theorem zVs_one (l:List Int):∀ u∈zVs l,u.oneCell'=true:=by intro u hu;obtain ⟨b,_,rfl⟩:=List.mem_map.1 hu;rfl
/-- the numbers of a slice value -/
def Zs (w:World) (v:Value) (l:List Int):Prop:=SlV w v l.length (zVs l)
theorem Zs.len {w:World} {a:Option Addr} {c:Nat} {l:List Int} (h:Zs w (.slice a l.length c) l):l.length≤9223372036854775807:=by
 obtain ⟨_,_,he,h1,h2,_⟩:=h;cases he;unfold maxLen at h2;omega
theorem Zs.at {w:World} {a:Option Addr} {n c:Nat} {l:List Int} (h:Zs w (.slice a n c) l) {k:Nat} (hk:k<l.length) :
  ∃ b off,a=some ⟨b,off,none⟩∧b<w.heap.size∧w.cell? ⟨b,off+k,none⟩=some (.int .i64 l[k]):=by
 have h':SlV w (.slice a n c) n (l.flatMap (fun x=>[Value.int .i64 x])):=by
  obtain ⟨a',c',he,r⟩:=h
  cases he
  refine ⟨a,c,rfl,?_⟩
  have:l.flatMap (fun x=>[Value.int .i64 x])=zVs l:=by
   clear r hk;induction l with
   | nil=>rfl
   | cons x l ih=>rw [List.flatMap_cons,ih];rfl
  rw [this];exact r
 obtain ⟨b,off,e,hb,hc⟩:=SlV.row (f:=fun x=>[Value.int .i64 x]) (s:=1) (fun _=>rfl) (by decide) h' hk
 refine ⟨b,off,e,hb,?_⟩
 have:=hc 0 _ rfl
 simpa using this
/-- a list's slice: the numbers, the address, the capacity -/
abbrev Ch:=List Int×Option Addr×Nat
def chV (x:Ch):Value:=.slice x.2.1 x.1.length x.2.2
/-- a slice of slices -/
structure Chs (w:World) (a:Option Addr) (c:Nat) (X:List Ch):Prop where
 rows:SlV w (.slice a X.length c) X.length (X.map chV)
 each:∀ x∈X,Zs w (chV x) x.1
theorem Chs.len {w:World} {a:Option Addr} {c:Nat} {X:List Ch} (h:Chs w a c X):X.length≤9223372036854775807:=by
 obtain ⟨_,_,he,h1,h2,_⟩:=h.rows;cases he;unfold maxLen at h2;omega
theorem Chs.below {w w':World} {a:Option Addr} {c:Nat} {X:List Ch} (h:Chs w a c X) {B:Nat} (hB:w.heap.size≤B) (hb:Below B w w'):Chs w' a c X :=
 ⟨SlV.below h.rows hB hb,fun x hx=>SlV.below (h.each x hx) hB hb⟩
theorem Chs.at {w:World} {a:Option Addr} {c:Nat} {X:List Ch} (h:Chs w a c X) {k:Nat} (hk:k<X.length) :
  ∃ b off,a=some ⟨b,off,none⟩∧b<w.heap.size∧w.cell? ⟨b,off+k,none⟩=some (.slice X[k].2.1 X[k].1.length X[k].2.2)∧Zs w (.slice X[k].2.1 X[k].1.length X[k].2.2) X[k].1:=by
 have h':SlV w (.slice a X.length c) X.length (X.flatMap (fun x=>[chV x])):=by
  have:X.flatMap (fun x=>[chV x])=X.map chV:=by
   clear h hk;induction X with
   | nil=>rfl
   | cons x l ih=>rw [List.flatMap_cons,ih];rfl
  rw [this];exact h.rows
 obtain ⟨b,off,e,hb,hc⟩:=SlV.row (f:=fun x=>[chV x]) (s:=1) (fun _=>rfl) (by decide) h' hk
 refine ⟨b,off,e,hb,?_,h.each _ (List.getElem_mem hk)⟩
 have:=hc 0 _ rfl
 simpa [chV] using this

set_option maxHeartbeats 400000 in
theorem indexZ_any (x:Int) (l:List Int) (a:Option Addr) (c:Nat) (w:World) (h:Zs w (.slice a l.length c) l) :
  Calls Tryz.prog 121 #[.slice a l.length c,.int .i64 x] w fun e w'=>e=.returned (.int .i64 (idxB (fun y=>x==y) l))∧w=w':=by
 have HS:=Lib.hid' h
 have hlen:=h.len
 clear h
 go_enter Tryz.func121, Tryz.ntmps121
 go_wp2_with fail
 go_loop [8] (fun v8=>∃ k:Nat,v8=.int .i64 k∧k≤l.length∧Hid (∀ y∈l.take k,(x==y)=false)) (fun v8=>l.length - (intOf v8).toNat)
 case atStart=>exact ⟨0,rfl,Nat.zero_le _,Zh (by simp)⟩
 case round =>
  obtain ⟨k,rfl,hk,HNO⟩:=hrel
  by_cases hlt:k<l.length
  ·obtain ⟨b,off,rfl,hb,hc⟩:=HS.out.at hlt
   have HH:=Zh (fun h2=>idxB_hit (f:=fun y=>x==y) hlt HNO.out h2)
   have HT:=Zh (fun h2=>take_no (f:=fun y=>x==y) hlt HNO.out h2)
   generalize l[k]=y at *
   cases hq:(x==y) with
   | true =>
    have HF:=Zh (HH.out hq)
    go_wp2_with fail
    go_ret
    exact ⟨ret_eq (by rw [HF.out];rfl),rfl⟩
   | false =>
    have HF:=Zh (HT.out hq)
    go_wp2_with fail
    go_round
    case rel=>exact ⟨k+1,by go_num,by omega,HF⟩
    case measure=>simp [intOf];omega
  ·have HF:=Zh (idxB_none (f:=fun y=>x==y) (by have:=HNO.out;rwa [List.take_of_length_le (by omega)] at this))
   go_wp2_with fail
   go_ret
   exact ⟨ret_eq (by rw [HF.out];rfl),rfl⟩
theorem containsZ_any (x:Int) (l:List Int) (a:Option Addr) (c:Nat) (w:World) (h:Zs w (.slice a l.length c) l) :
  Calls Tryz.prog 85 #[.slice a l.length c,.int .i64 x] w fun e w'=>e=.returned (.bool (l.any (fun y=>x==y)))∧w=w':=by
 have HC:=Zh (indexZ_any x l a c w h)
 have HA:=Zh (idxB_any (fun y=>x==y) l)
 clear h
 go_enter Tryz.func85, Tryz.ntmps85
 go_wp2_with fail
 refine HC.out.mono ?_
 rintro e w' ⟨rfl,rfl⟩
 generalize idxB (fun y=>x==y) l=i at *
 go_wp2
 go_ret
 exact ⟨ret_eq (by rw [←HA.out];rfl),rfl⟩

/-- a function value that tells of numbers -/
def PredZ (f:Nat) (cap:Array Value) (p:Int→Bool) (w:World):Prop :=
 ∀ w' x,Below w.heap.size w w'→Calls Tryz.prog f (#[.int .i64 x]++cap) w' fun e w''=>e=.returned (.bool (p x))∧Below w'.heap.size w' w''
set_option maxHeartbeats 400000 in
theorem indexFZ_any (f:Nat) (cap:Array Value) (p:Int→Bool) (l:List Int) (a:Option Addr) (c:Nat) (w:World) (h:Zs w (.slice a l.length c) l) (hcf:∀ args w,(callFunc f args).run Tryz.prog w=.ok (.enter f args) w) (hp:Hid (PredZ f cap p w)) :
  Calls Tryz.prog 100 #[.slice a l.length c,.func (.func f) #[] cap] w fun e w'=>e=.returned (.int .i64 (idxB p l))∧Below w.heap.size w w':=by
 have HS:=Lib.hid' h
 have hlen:=h.len
 clear h
 go_enter Tryz.func100, Tryz.ntmps100
 go_wp2_with fail
 go_loopw [8] (fun v8 wr=>∃ k:Nat,v8=.int .i64 k∧k≤l.length∧Hid (∀ y∈l.take k,p y=false)∧Hid (Below w.heap.size w wr)) (fun v8 _=>l.length - (intOf v8).toNat)
 case atStart=>exact ⟨0,rfl,Nat.zero_le _,Zh (by simp),Zh (Below.refl _ _)⟩
 case round =>
  obtain ⟨k,rfl,hk,HNO,HB⟩:=hrel
  by_cases hlt:k<l.length
  ·obtain ⟨b,off,rfl,hb,hc'⟩:=HS.out.at hlt
   have hc:wr.cell? ⟨b,off+k,none⟩=some (.int .i64 l[k]):=(HB.out.cell (p:=⟨b,off+k,none⟩) hb).trans hc'
   have HH:=Zh (fun h2=>idxB_hit (f:=p) hlt HNO.out h2)
   have HT:=Zh (fun h2=>take_no (f:=p) hlt HNO.out h2)
   clear hc'
   generalize l[k]=y at *
   go_wp2_with fail
   refine (hp.out wr y HB.out).mono ?_
   rintro e w2 ⟨rfl,hb2⟩
   have HB2:=Zh (HB.out.trans (hb2.mono HB.out.size))
   clear hb2
   cases hq:p y with
   | true =>
    have HF:=Zh (HH.out hq)
    go_wp2_with fail
    go_ret
    exact ⟨ret_eq (by rw [HF.out];rfl),HB2.out⟩
   | false =>
    have HF:=Zh (HT.out hq)
    go_wp2_with fail
    go_roundw
    case rel=>exact ⟨k+1,by go_num,by omega,HF,HB2⟩
    case measure=>simp [intOf];omega
  ·have HF:=Zh (idxB_none (f:=p) (by have:=HNO.out;rwa [List.take_of_length_le (by omega)] at this))
   go_wp2_with fail
   go_ret
   exact ⟨ret_eq (by rw [HF.out];rfl),HB.out⟩
theorem containsFZ_any (f:Nat) (cap:Array Value) (p:Int→Bool) (l:List Int) (a:Option Addr) (c:Nat) (w:World) (h:Zs w (.slice a l.length c) l) (hcf:∀ args w,(callFunc f args).run Tryz.prog w=.ok (.enter f args) w) (hp:Hid (PredZ f cap p w)) :
  Calls Tryz.prog 55 #[.slice a l.length c,.func (.func f) #[] cap] w fun e w'=>e=.returned (.bool (l.any p))∧Below w.heap.size w w':=by
 have HC:=Zh (indexFZ_any f cap p l a c w h hcf hp)
 have HA:=Zh (idxB_any p l)
 clear h hcf hp
 go_enter Tryz.func55, Tryz.ntmps55
 go_wp2_with fail
 refine HC.out.mono ?_
 rintro e w' ⟨rfl,hb⟩
 have HB:=Lib.hid' hb
 clear hb
 generalize idxB p l=i at *
 go_wp2
 go_ret
 exact ⟨ret_eq (by rw [←HA.out];rfl),HB.out⟩
/-- a function value that tells of lists by their length -/
def PredN (f:Nat) (p:Nat→Bool):Prop:=∀ a n c w',n≤9223372036854775807→Calls Tryz.prog f #[.slice a n c] w' fun e w''=>e=.returned (.bool (p n))∧w'=w''
set_option maxHeartbeats 400000 in
theorem indexFR_any (f:Nat) (p:Nat→Bool) (X:List Ch) (a:Option Addr) (c:Nat) (w:World) (h:Chs w a c X) (hcf:∀ args w,(callFunc f args).run Tryz.prog w=.ok (.enter f args) w) (hp:Hid (PredN f p)) :
  Calls Tryz.prog 99 #[.slice a X.length c,.func (.func f) #[] #[]] w fun e w'=>e=.returned (.int .i64 (idxB (fun x=>p x.1.length) X))∧w=w':=by
 have HS:=Lib.hid' h
 have hlen:=h.len
 clear h
 go_enter Tryz.func99, Tryz.ntmps99
 go_wp2_with fail
 go_loop [8] (fun v8=>∃ k:Nat,v8=.int .i64 k∧k≤X.length∧Hid (∀ y∈X.take k,p y.1.length=false)) (fun v8=>X.length - (intOf v8).toNat)
 case atStart=>exact ⟨0,rfl,Nat.zero_le _,Zh (by simp)⟩
 case round =>
  obtain ⟨k,rfl,hk,HNO⟩:=hrel
  by_cases hlt:k<X.length
  ·obtain ⟨b,off,rfl,hb,hc,hz⟩:=HS.out.at hlt
   have hzl:=hz.len
   have HH:=Zh (fun h2=>idxB_hit (f:=fun x:Ch=>p x.1.length) hlt HNO.out h2)
   have HT:=Zh (fun h2=>take_no (f:=fun x:Ch=>p x.1.length) hlt HNO.out h2)
   clear hz
   generalize X[k]=y at *
   go_wp2_with fail
   refine (hp.out _ _ _ w hzl).mono ?_
   rintro e w2 ⟨rfl,rfl⟩
   cases hq:p y.1.length with
   | true =>
    have HF:=Zh (HH.out hq)
    go_wp2_with fail
    go_ret
    exact ⟨ret_eq (by rw [HF.out];rfl),rfl⟩
   | false =>
    have HF:=Zh (HT.out hq)
    go_wp2_with fail
    go_round
    case rel=>exact ⟨k+1,by go_num,by omega,HF⟩
    case measure=>simp [intOf];omega
  ·have HF:=Zh (idxB_none (f:=fun x:Ch=>p x.1.length) (by have:=HNO.out;rwa [List.take_of_length_le (by omega)] at this))
   go_wp2_with fail
   go_ret
   exact ⟨ret_eq (by rw [HF.out];rfl),rfl⟩
theorem containsFR_any (f:Nat) (p:Nat→Bool) (X:List Ch) (a:Option Addr) (c:Nat) (w:World) (h:Chs w a c X) (hcf:∀ args w,(callFunc f args).run Tryz.prog w=.ok (.enter f args) w) (hp:Hid (PredN f p)) :
  Calls Tryz.prog 54 #[.slice a X.length c,.func (.func f) #[] #[]] w fun e w'=>e=.returned (.bool (X.any (fun x=>p x.1.length)))∧w=w':=by
 have HC:=Zh (indexFR_any f p X a c w h hcf hp)
 have HA:=Zh (idxB_any (fun x:Ch=>p x.1.length) X)
 clear h hcf hp
 go_enter Tryz.func54, Tryz.ntmps54
 go_wp2_with fail
 refine HC.out.mono ?_
 rintro e w' ⟨rfl,rfl⟩
 generalize idxB (fun x:Ch=>p x.1.length) X=i at *
 go_wp2
 go_ret
 exact ⟨ret_eq (by rw [←HA.out];rfl),rfl⟩

set_option maxHeartbeats 400000 in
theorem cloneZ_any (v:Value) (l:List Int) (w:World) (h:Zs w v l) (hl:l.length≤4398046511104) :
  Calls Tryz.prog 58 #[v] w (OwnR w.heap.size 3 1 l.length (zVs l) w):=by
 have hh:=h
 obtain ⟨a,cap,rfl,h1,h2,h0,h3⟩:=h
 have hq:=fun w n c=>Lib.run_eql_slice_nil (P:=Tryz.prog) w 42 3 a n c 0 0 Tryz.underlying42
 cases a with
 | none =>
  obtain rfl:cap=0:=h0 rfl
  have hl0:l=[]:=List.eq_nil_of_length_eq_zero (by omega)
  subst hl0
  clear h3 h1 h2 h0 hh
  go_enter Tryz.func58, Tryz.ntmps58
  go_wp2
  go_ret
  exact ⟨_,_,rfl,World.ownsRow_nil _ _ _ _,Below.refl _ _⟩
 | some p =>
  clear h3 h0
  have HH:Hid (Zs w (.slice (some p) l.length cap) l):=Lib.hid' hh
  clear hh
  go_enter Tryz.func58, Tryz.ntmps58
  go_wp2_with (at_builtin;refine append_sl etInts rfl (.tmp 5) (.tmp 6) rfl w.heap.size 0 [] _ rfl ?own l.length (zVs l) _ rfl ?src ?len (zVs_one l) ?cy ?base ?_)
  case own=>exact own_empty _ _ _
  case src=>exact SlV.below HH.out (Nat.le_refl _) ((Below.refl _ _).alloc (Nat.le_refl _) _)
  case len=>simp [zVs]
  case cy=>omega
  case base=>simp
  intro a' c' w1 ho hf
  go_wp2
  go_ret
  refine ⟨a',c',by simp,by simpa using ho,?_⟩
  exact ((Below.refl w.heap.size w).alloc (Nat.le_refl _) _).trans (hf.below (by simp) (fun k hk=>by simp [Act.eval,Value.ownBlock] at hk;omega))
end Go.Proofs.YtimbeeiihbmofaaGreatDoor

namespace Go.Proofs.YtimbeeiihbmofaaGreatDoor
open Go.RowKit Go.Sort

theorem grown_fr {w w':World} {row:Option Nat} (h:w.grownBy w' row):Fr (fun k=>row=some k) w w':=⟨h.os,h.tape,h.output,h.size,fun k hk hn=>h.block k hk (fun e=>hn e.symm)⟩
/-- a row of the call's own is nil, or lies at a block's head -/
theorem own_cases {w:World} {B e size n:Nat} {a:Option Addr} {c:Nat} {xs:List Value} (h:w.ownsRow B e size (.slice a n c) n xs):(a=none∧n=0∧c=0∧xs=[])∨∃ g cur,a=some ⟨g,0,none⟩∧B≤g∧g<w.heap.size∧w.heap[g]?=some (.cells cur e (0,0))∧n≤c∧c≤maxLen∧cur.size=c*size∧cur.toList.take (n*size)=xs:=by
 obtain ⟨hl,h⟩:=h
 rcases h with ⟨h1,h2⟩ | ⟨g,cap,cur,hv,h1,h2,h3,h4,h5,h6⟩
 ·simp only [Value.slice.injEq] at h1
  obtain ⟨rfl,rfl,rfl⟩:=h1
  exact .inl ⟨rfl,rfl,rfl,by simpa using hl⟩
 ·simp only [Value.slice.injEq] at hv
  obtain ⟨rfl,_,rfl⟩:=hv
  exact .inr ⟨g,cur,rfl,h1,(Array.getElem?_eq_some_iff.1 h2).1,h2,h3,h4,h5,h6⟩
theorem alloc_new (w:World) (o:Obj):(w.alloc o).heap[w.heap.size]?=some o:=by show (w.heap.push _)[w.heap.size]?=_;simp
set_option maxHeartbeats 1000000 in
theorem growZ_any (n:Nat) (hn:n≤1099511627776) (w:World):Calls Tryz.prog 93 #[.slice none 0 0,.int .i64 n] w (OwnR w.heap.size 3 1 0 [] w):=by
 by_cases h0:n=0
 ·subst h0
  have h:=Any8.slices_Grow_room Tryz.growZ none 0 0 0 w (Nat.le_refl _) (by decide) (by decide) (Nat.le_refl _)
  change Calls Tryz.prog 93 _ _ _ at h
  refine h.mono ?_
  rintro e w' ⟨rfl,rfl⟩
  exact ⟨none,0,rfl,own_nil _ _ _ _,Below.refl _ _⟩
 ·obtain ⟨i,z,a1,a2,a3,a4,a5⟩:=etInts.info
  have h:=Any8.slices_Grow_grow Tryz.growZ i z a1 a2 (by rw [a3];decide) none 0 0 n [] w (Nat.le_refl _) (by omega) (by rw [a4];omega) (by omega) (by simp) (fun _=>rfl) (fun a h=>by cases h)
  change Calls Tryz.prog 93 _ _ _ at h
  refine h.mono ?_
  rintro e w' ⟨rfl,rfl⟩
  refine ⟨_,_,rfl,⟨by simp,.inr ⟨w.heap.size,_,_,rfl,Nat.le_refl _,alloc_new w.drew _,Nat.zero_le _,grownCap_le_maxLen _ _ _ _ (by unfold maxLen;omega),?_,by simp⟩⟩,?_⟩
  ·have hg:=grownCap_ge w (0+n) 0 3
   change _=grownCap w (0+n) 0 3*1
   have e3:(Tryz.growZ_ren.t 25)=3:=rfl
   rw [e3]
   simp only [Array.size_append,size_zeroCells,a5]
   simp only [List.size_toArray,List.length_nil]
   omega
  ·exact (Below.drew (Below.refl _ _)).alloc (by simp) _

/-- all numbers, list behind list -/
def flatC (X:List Ch):List Int:=(X.map (·.1)).flatten
theorem flat_take {X:List Ch} {k:Nat} (hk:k<X.length):flatC (X.take (k+1))=flatC (X.take k)++X[k].1:=by
 unfold flatC;rw [List.take_succ_eq_append_getElem hk];simp only [List.map_append,List.flatten_append,List.map_cons,List.map_nil,List.flatten_cons,List.flatten_nil,List.append_nil]
theorem flat_take_le (X:List Ch) (k:Nat):(flatC (X.take k)).length≤(flatC X).length:=by
 have e:X.map (·.1)=(X.take k).map (·.1)++(X.drop k).map (·.1):=by rw [←List.map_append,List.take_append_drop]
 unfold flatC
 rw [e,List.flatten_append,List.length_append];omega
set_option maxHeartbeats 2000000 in
theorem concatZ_any (X:List Ch) (a:Option Addr) (c:Nat) (w:World) (h:Chs w a c X) (ht:(flatC X).length≤1099511627776) :
  Calls Tryz.prog 47 #[.slice a X.length c] w (OwnR w.heap.size 3 1 (flatC X).length (zVs (flatC X)) w):=by
 have HS:=Lib.hid' h
 have hlen:=h.len
 clear h
 go_enter Tryz.func47, Tryz.ntmps47
 go_wp2_with fail
 go_loop [3,11] (fun v3 v11=>∃ k:Nat,v11=.int .i64 k∧k≤X.length∧v3=.int .i64 ((flatC (X.take k)).length)) (fun _ v11=>X.length - (intOf v11).toNat)
 case atStart=>exact ⟨0,rfl,Nat.zero_le _,rfl⟩
 case round =>
  obtain ⟨k,rfl,hk,rfl⟩:=hrel
  by_cases hlt:k<X.length
  ·obtain ⟨b,off,rfl,hb,hc,hz⟩:=HS.out.at hlt
   have hle:=flat_take_le X (k+1)
   have hle2:(flatC (X.take (k+1))).length=(flatC (X.take k)).length+X[k].1.length:=by rw [flat_take hlt,List.length_append]
   have HF:=Lib.hid' hle2
   have hs:(flatC (X.take k)).length+X[k].1.length≤1099511627776:=by omega
   clear hz hle hle2
   generalize X[k]=y at *
   generalize (flatC (X.take k)).length=s at *
   have hneg:¬((s:Int)+(y.1.length:Int)<0):=by omega
   go_wp2_with fail
   go_round
   case rel=>exact ⟨k+1,by go_num,by omega,by rw [HF.out];go_num⟩
   case measure=>simp [intOf];omega
  ·obtain rfl:k=X.length:=by omega
   have HT:=Zh (List.take_length (l:=X))
   rw [HT.out]
   clear hlt
   go_wp2_with fail
   refine (growZ_any _ ht w).mono ?_
   rintro e w1 ⟨a1,c1,rfl,ho,hb⟩
   have HO:=Lib.hid' ho
   have HB:=Lib.hid' hb
   clear ho hb
   go_wp2_with fail
   go_loopw [6,27] (fun v6 v27 wr=>∃ (k:Nat) (a':Option Addr) (c':Nat),v27=.int .i64 k∧k≤X.length∧v6=.slice a' (flatC (X.take k)).length c'∧Hid (wr.ownsRow w.heap.size 3 1 (.slice a' (flatC (X.take k)).length c') (flatC (X.take k)).length (zVs (flatC (X.take k))))∧Hid (Below w.heap.size w wr)) (fun _ v27 _=>X.length - (intOf v27).toNat)
   case atStart=>exact ⟨0,a1,c1,rfl,Nat.zero_le _,rfl,HO,HB⟩
   case round =>
    obtain ⟨k,a',c',rfl,hk,rfl,HOk,HBk⟩:=hrel
    by_cases hlt:k<X.length
    ·obtain ⟨b,off,rfl,hb,hc,hz⟩:=(HS.out.below (Nat.le_refl _) HBk.out).at hlt
     have HF:=Zh (flat_take hlt)
     have HZ:=Lib.hid' hz
     have hle:=flat_take_le X (k+1)
     have hle2:(flatC (X.take (k+1))).length=(flatC (X.take k)).length+X[k].1.length:=by rw [flat_take hlt,List.length_append]
     have hs:(flatC (X.take k)).length+X[k].1.length≤1099511627776:=by omega
     have hbz:=HBk.out.size
     clear hz hle hle2
     generalize X[k]=y at *
     generalize flatC (X.take k)=S at *
     go_wp2_with (at_builtin;refine append_sl etInts rfl (.tmp 31) (.tmp 32) rfl w.heap.size S.length (zVs S) _ rfl HOk.out y.1.length (zVs y.1) _ rfl HZ.out (by simp [zVs]) (zVs_one _) (by omega) hbz ?_)
     intro a2 c2 w2 ho2 hf2
     have HO2:=Lib.hid' ho2
     have HB2:=Zh (hf2.row HOk.out (Nat.le_refl _) hbz HBk.out)
     clear ho2 hf2
     go_wp2_with fail
     go_roundw
     case rel =>
      refine ⟨k+1,a2,c2,by go_num,by omega,by rw [HF.out,List.length_append],?_,HB2⟩
      rw [HF.out,List.length_append,zVs_append]
      exact HO2
     case measure=>simp [intOf];omega
    ·obtain rfl:k=X.length:=by omega
     rw [HT.out] at HOk
     rw [HT.out]
     clear hlt
     go_wp2_with fail
     go_ret
     exact ⟨a',c',rfl,HOk.out,HBk.out⟩

/-- a row's content is changed in place -/
def RowR (B:Nat) (a:Option Addr) (n c:Nat) (l:List Int) (w:World) (w':World):Prop:=w'.ownsRow B 3 1 (.slice a n c) n (zVs l)∧Fr (fun k=>(Value.slice a n c).ownBlock=some k) w w'
theorem sortZ_any {B:Nat} (l:List Int) (a:Option Addr) (c:Nat) (w:World) (h:w.ownsRow B 3 1 (.slice a l.length c) l.length (zVs l)) (hl:l.length≤1099511627776) :
  Calls Tryz.prog 50 #[.slice a l.length c] w fun e w'=>e=.returned (.tuple #[])∧RowR B a l.length c (sortI l) w w':=by
 rcases own_cases h with ⟨rfl,h1,rfl,_⟩ | ⟨g,cur,rfl,hB,hg,hh,h1,h2,h3,h4⟩
 ·obtain rfl:l=[]:=List.eq_nil_of_length_eq_zero h1
  have hk:=AnyM.slices_Sort_int_none Tryz.sortZ none 0 w
  change Calls Tryz.prog 50 _ _ _ at hk
  refine hk.mono ?_
  rintro e w' ⟨rfl,rfl⟩
  exact ⟨rfl,by rw [show sortI []=[] from by simp [sortI]];exact own_nil _ _ _ _,Fr.refl _ _⟩
 ·have hk:=AnyM.slices_Sort_int Tryz.sortZ g 0 c l w (holds_of_blockI hh (by simpa [zVs] using h4)) hg (by omega)
  change Calls Tryz.prog 50 _ _ _ at hk
  refine hk.mono ?_
  rintro e w' ⟨rfl,q,os,rfl⟩
  refine ⟨rfl,?_,grown_fr (grownBy_sortedI _)⟩
  exact ownsRow_sortedI (n:=q) (ts:=sortI l) (List.length_mergeSort _) hB hh h1 h2 h3

theorem dedS_snoc:∀ (l:List Int) (y z:Int),dedS (l++[y,z])=if y=z then dedS (l++[y]) else dedS (l++[y])++[z]
 | [],y,z=>by
  simp only [List.nil_append,dedS]
  split
  ·rename_i h;rw [h]
  ·rfl
 | [x],y,z=>by
  have ih:=dedS_snoc [] y z
  simp only [List.nil_append,List.singleton_append] at *
  simp only [dedS] at *
  by_cases h:x=y<;>by_cases h2:y=z<;>simp [h,h2]
 | x::x2::l,y,z=>by
  have ih:=dedS_snoc (x2::l) y z
  simp only [List.cons_append] at *
  rw [dedS,dedS]
  by_cases h:x=x2
  ·simp only [h,if_true];exact ih
  ·simp only [if_neg h];rw [ih]
   by_cases h2:y=z<;>simp [h2]
theorem compact_take (l:List Int):∀ m,m≤l.length→Lib.compactUpTo l.toArray m=dedS (l.take m)
 | 0,_=>rfl
 | 1,h=>by
  have e:l.take 1=[l[0]]:=by rw [List.take_succ_eq_append_getElem (i:=0) (by omega)];rfl
  rw [Lib.compactUpTo_succ,e]
  simp [Lib.keeps,Lib.compactUpTo,dedS]
  rw [List.getElem?_eq_getElem (by omega)];rfl
 | m+2,h=>by
  have ih:=compact_take l (m+1) (by omega)
  rw [Lib.compactUpTo_succ,ih]
  have e1:l.take (m+1)=l.take m++[l[m]]:=List.take_succ_eq_append_getElem (by omega)
  have e2:l.take (m+2)=l.take m++[l[m],l[m+1]]:=by rw [List.take_succ_eq_append_getElem (i:=m+1) (by omega),e1,List.append_assoc];rfl
  have g1:l.toArray[m+1]! = l[m+1]:=by rw [getElem!_pos _ _ (by simp;omega)];simp
  have g0:l.toArray[m+1 - 1]! = l[m]:=by rw [getElem!_pos _ _ (by simp;omega)];simp
  rw [e2,dedS_snoc,←e1]
  unfold Lib.keeps
  rw [g1,g0]
  by_cases hq:l[m]=l[m+1]
  ·simp [hq]
  ·have:¬l[m+1]=l[m]:=fun h=>hq h.symm
   simp [hq,this]
theorem compact_ded (l:List Int):Lib.compact l=dedS l:=by
 have:=compact_take l l.length (Nat.le_refl _)
 rw [List.take_length] at this
 exact this
/-- a row is cut, its rest zeros -/
def CutR (B:Nat) (a:Option Addr) (c:Nat) (l:List Int) (F:Nat→Prop) (w:World) (en:Ending) (w':World):Prop:=en=.returned (.slice a l.length c)∧w'.ownsRow B 3 1 (.slice a l.length c) l.length (zVs l)∧Fr F w w'
theorem own_cut {w:World} {B g c n q:Nat} {cur:Array Value} {os:Array Obj} {r:List Int} (z:List Int) (hz:r.length+z.length=n) (hB:B≤g) (hh:w.heap[g]?=some (.cells cur 3 (0,0))) (h1:n≤c) (h2:c≤maxLen) (h3:cur.size=c*1) :
  (grow (putRow (Value.int .i64) (Sort.ahead w q) g 0 (r++z).toArray) os).ownsRow B 3 1 (.slice (some ⟨g,0,none⟩) r.length c) r.length (zVs r):=by
 have:=ownsRow_sortedI (n:=q) (os:=os) (ss:=r++z) (ts:=r++z) (w:=w) (base:=B) (e:=3) rfl hB hh (by rw [List.length_append];omega) h2 h3
 rcases own_cases this with ⟨h,_⟩ | ⟨g',cur',he,k1,k2,k3,k4,k5,k6,k7⟩
 ·cases h
 ·simp only [Option.some.injEq,Addr.mk.injEq,and_true] at he
  subst he
  refine ⟨by simp [zVs],.inr ⟨g,c,cur',rfl,hB,k3,by omega,h2,k6,?_⟩⟩
  have e:cur'.toList.take (r.length*1)=(cur'.toList.take ((r++z).length*1)).take r.length:=by
   rw [List.take_take,Nat.mul_one,Nat.mul_one];congr 1;rw [List.length_append];omega
  rw [e,k7,List.map_append,List.take_append_of_le_length (by simp),List.take_of_length_le (by simp)];rfl
theorem grow_none (w:World):grow w #[]=w:=by unfold grow;simp
theorem compactZ_any {B:Nat} (l:List Int) (a:Option Addr) (c:Nat) (w:World) (h:w.ownsRow B 3 1 (.slice a l.length c) l.length (zVs l)) (hl:l.length≤1099511627776) :
  Calls Tryz.prog 57 #[.slice a l.length c] w (CutR B a c (dedS l) (fun k=>(Value.slice a 0 c).ownBlock=some k) w):=by
 rcases own_cases h with ⟨rfl,h1,rfl,_⟩ | ⟨g,cur,rfl,hB,hg,hh,h1,h2,h3,h4⟩
 ·obtain rfl:l=[]:=List.eq_nil_of_length_eq_zero h1
  have hk:=AnyG.slices_Compact_int_empty Tryz.compZ none 0 w
  change Calls Tryz.prog 57 _ _ _ at hk
  refine hk.mono ?_
  rintro e w' ⟨rfl,rfl⟩
  exact ⟨rfl,own_nil _ _ _ _,Fr.refl _ _⟩
 ·have hk:=AnyG.slices_Compact_int Tryz.compZ g 0 c l w (holds_of_blockI hh (by simpa [zVs] using h4)) (by omega) h1
  change Calls Tryz.prog 57 _ _ _ at hk
  refine hk.mono ?_
  rintro e w' ⟨rfl,q,rfl⟩
  rw [compact_ded]
  have hle:=dedS_len l
  refine ⟨rfl,?_,?_⟩
  ·have:=own_cut (B:=B) (os:=#[]) (q:=q) (r:=dedS l) (List.replicate (l.length - (dedS l).length) 0) (n:=l.length) (by simp;omega) hB hh h1 h2 h3
   rwa [grow_none] at this
  ·have:=grown_fr (grownBy_sortedI (w:=w) (g:=g) (n:=q) (os:=#[]) (dedS l++List.replicate (l.length - (dedS l).length) 0).toArray)
   rwa [grow_none] at this

/-- a function value that tells of numbers and makes nothing -/
def PredG (f:Nat) (cap:Array Value) (p:Int→Bool) (F:Nat→Prop) (w:World):Prop :=
 ∀ w' x,Fr F w w'→Calls Tryz.prog f (#[.int .i64 x]++cap) w' fun e w''=>e=.returned (.bool (p x))∧∃ q,w''=w'.drewN q
theorem PredG.z {f:Nat} {cap:Array Value} {p:Int→Bool} {F:Nat→Prop} {w:World} (h:PredG f cap p F w):PredZ f cap p w:=fun w' x hb =>
 (h w' x (Fr.of_below hb)).mono fun e w'' ⟨he,q,hq⟩=>⟨he,hq▸below_drewN' (Below.refl _ _) q⟩
set_option maxHeartbeats 1000000 in
theorem deleteZ_any {B:Nat} (f:Nat) (cap:Array Value) (p:Int→Bool) (l:List Int) (a:Option Addr) (c:Nat) (w:World) (h:w.ownsRow B 3 1 (.slice a l.length c) l.length (zVs l)) (hl:l.length≤1099511627776) (hcf:∀ args w,(callFunc f args).run Tryz.prog w=.ok (.enter f args) w) (hp:PredG f cap p (fun k=>(Value.slice a 0 c).ownBlock=some k) w) :
  Calls Tryz.prog 87 #[.slice a l.length c,.func (.func f) #[] cap] w (CutR B a c (l.filter (fun x=>!p x)) (fun k=>(Value.slice a 0 c).ownBlock=some k) w):=by
 rcases own_cases h with ⟨rfl,h1,rfl,_⟩ | ⟨g,cur,rfl,hB,hg,hh,h1,h2,h3,h4⟩
 ·obtain rfl:l=[]:=List.eq_nil_of_length_eq_zero h1
  have HI:=Zh (indexFZ_any f cap p [] none 0 w (SlV.of_own h) hcf (Lib.hid' hp.z))
  clear h hcf hp h1
  go_enter Tryz.func87, Tryz.ntmps87
  go_wp2_with fail
  refine HI.out.mono ?_
  rintro e w' ⟨rfl,hb⟩
  have HB:=Lib.hid' hb
  clear hb
  rw [show idxB p []=-1 from rfl]
  go_wp2_with fail
  go_ret
  exact ⟨rfl,own_nil _ _ _ _,Fr.of_below HB.out⟩
 ·have hk:=AnyE.slices_DeleteFunc Tryz.delZ (Value.int .i64) (fun _=>rfl) p f cap hcf 0 Tryz.zeroValue3 g 0 c l.toArray w (fun W x hb=>hp W x (Fr.of_below hb)) (fun n os dk x hd=>hp _ x ?_) (holds_of_blockI hh (by simpa [zVs] using h4)) (by simp;omega) (by simpa using h1)
  ·rw [List.size_toArray] at hk
   change Calls Tryz.prog 87 _ _ _ at hk
   refine hk.mono ?_
   rintro e w' ⟨rfl,q,rfl⟩
   have hle:=List.length_filter_le (fun x=>!p x) l
   refine ⟨rfl,?_,?_⟩
   ·have:=own_cut (B:=B) (os:=#[]) (q:=q) (r:=l.filter (fun x=>!p x)) (List.replicate (l.length - (l.filter (fun x=>!p x)).length) 0) (n:=l.length) (by simp;omega) hB hh h1 h2 h3
    rwa [grow_none] at this
   ·have:=grown_fr (grownBy_sortedI (w:=w) (g:=g) (n:=q) (os:=#[]) (l.filter (fun x=>!p x)++List.replicate (l.length - (l.filter (fun x=>!p x)).length) 0).toArray)
    rwa [grow_none] at this
  ·exact grown_fr (grownBy_sortedI dk)
end Go.Proofs.YtimbeeiihbmofaaGreatDoor

namespace Go.Proofs.YtimbeeiihbmofaaGreatDoor
open Go.RowKit

@[go_sem] theorem field_pj0 (w:World) (x y:Value):(Instr.field 30 (.agg #[x,y]) 0).run Tryz.prog w=.ok x w:=by kernel_rfl
@[go_sem] theorem field_pj1 (w:World) (x y:Value):(Instr.field 30 (.agg #[x,y]) 1).run Tryz.prog w=.ok y w:=by kernel_rfl
/-- a projection's value -/
def pjV (e:Int) (a:Option Addr) (c:Nat) (X:List Ch):Value:=.agg #[.int .i64 e,.slice a X.length c]
def docJ (e:Int) (X:List Ch):Pj:=⟨e,X.map (·.1)⟩
theorem docJ_all (e:Int) (X:List Ch):(docJ e X).all=flatC X:=rfl

theorem punit_any (u:Int) (w:World):Calls Tryz.prog 101 #[.int .i64 u] w fun e w'=>e=.returned (.bool (decide (0≤u)&&decide (u<8)))∧w=w':=by
 by_cases h:0≤u
 ·by_cases h2:u<8
  ·have H:=Zh (And.intro h h2)
   go_enter Tryz.func101, Tryz.ntmps101
   go_wp2
   go_ret
   exact ⟨ret_eq (by simp [H.out.1,H.out.2]),rfl⟩
  ·have H:=Zh (And.intro h h2)
   go_enter Tryz.func101, Tryz.ntmps101
   go_wp2
   go_ret
   exact ⟨ret_eq (by simp [H.out.1,H.out.2]),rfl⟩
 ·have H:=Lib.hid' h
  go_enter Tryz.func101, Tryz.ntmps101
  go_wp2
  go_ret
  exact ⟨ret_eq (by simp;omega),rfl⟩
theorem podd_any (u:Int) (w:World):Calls Tryz.prog 56 #[.int .i64 u] w fun e w'=>e=.returned (.bool (oddU u))∧w=w':=by
 have HC:=Zh (punit_any u w)
 have HF:=Zh (show oddU u=!(decide (0≤u)&&decide (u<8)) from rfl)
 go_enter Tryz.func56, Tryz.ntmps56
 go_wp2_with fail
 refine HC.out.mono ?_
 rintro e w' ⟨rfl,rfl⟩
 generalize (decide (0≤u)&&decide (u<8))=b at *
 cases b
 all_goals
  go_wp2
  go_ret
  exact ⟨ret_eq (by rw [HF.out];rfl),rfl⟩
theorem cf_odd (args:Array Value) (w:World):(callFunc 56 args).run Tryz.prog w=.ok (.enter 56 args) w:=by kernel_rfl
theorem pred_odd (w:World):PredZ 56 #[] oddU w:=fun w' x _=>(podd_any x w').mono fun e w'' ⟨he,hw⟩=>⟨he,hw▸Below.refl _ _⟩
def wrongN (n:Nat):Bool:=decide (n<1)||decide (4<n)
theorem cf_wrong (args:Array Value) (w:World):(callFunc 53 args).run Tryz.prog w=.ok (.enter 53 args) w:=by kernel_rfl
theorem pred_wrong:PredN 53 wrongN:=by
 intro a n c w hn
 by_cases h:n<1
 ·have H:=Lib.hid' h
  go_enter Tryz.func53, Tryz.ntmps53
  go_wp2
  go_ret
  exact ⟨ret_eq (by simp [wrongN,H.out]),rfl⟩
 ·by_cases h2:4<n
  ·have H:=Zh (And.intro h h2)
   go_enter Tryz.func53, Tryz.ntmps53
   go_wp2
   go_ret
   exact ⟨ret_eq (by show Value.bool (decide ((n:Int)<1)||decide ((4:Int)<n))=Value.bool (wrongN n);congr 1;rw [Bool.eq_iff_iff];simp [wrongN];omega),rfl⟩
  ·have H:=Zh (And.intro h h2)
   go_enter Tryz.func53, Tryz.ntmps53
   go_wp2
   go_ret
   exact ⟨ret_eq (by show Value.bool (decide ((n:Int)<1)||decide ((4:Int)<n))=Value.bool (wrongN n);congr 1;rw [Bool.eq_iff_iff];simp [wrongN];omega),rfl⟩

theorem Fr.row0 {base e size n B:Nat} {a:Option Addr} {c:Nat} {xs:List Value} {W w w':World} (h:Fr (fun k=>(Value.slice a 0 c).ownBlock=some k) w w') (hown:w.ownsRow base e size (.slice a n c) n xs) (hB:B≤base) (hs:B≤w.heap.size) (hb:Below B W w):Below B W w' :=
 Fr.row (v:=.slice a n c) (h.mono (fun k hk=>by rw [←hk];cases a<;>rfl)) hown hB hs hb
/-- all units, in a row of the call's own -/
def UnitsR (l:List Int) (w:World):Ending→World→Prop:=OwnR w.heap.size 3 1 (unitsOf l).length (zVs (unitsOf l)) w
theorem sortI_len (l:List Int):(sortI l).length=l.length:=List.length_mergeSort _
set_option maxHeartbeats 1000000 in
theorem punits_any (e:Int) (a:Option Addr) (c:Nat) (X:List Ch) (w:World) (h:Chs w a c X) (ht:(flatC X).length≤1099511627776) :
  Calls Tryz.prog 18 #[pjV e a c X] w (UnitsR (flatC X) w):=by
 have HS:=Lib.hid' h
 have hlen:=h.len
 clear h
 unfold pjV
 go_enter Tryz.func18, Tryz.ntmps18
 go_wp2_with fail
 refine (concatZ_any X a c _ (HS.out.below (Nat.le_refl _) (by go_grown)) ht).mono ?_
 rintro en w1 ⟨a1,c1,rfl,ho,hb⟩
 have hz:w.heap.size≤w1.heap.size:=by have:=hb.size;simp at this;omega
 have HO:=Zh (own_base (B':=w.heap.size) ho (by simp))
 have HB:=Zh (show Below w.heap.size w w1 from below_call (by go_grown) (by simp) hb)
 clear ho hb
 generalize flatC X=l at *
 go_wp2_with fail
 refine (sortZ_any l a1 c1 w1 HO.out ht).mono ?_
 rintro en w2 ⟨rfl,ho2,hf2⟩
 have HO2:=Zh (show w2.ownsRow w.heap.size 3 1 (.slice a1 (sortI l).length c1) (sortI l).length (zVs (sortI l)) by rw [sortI_len];exact ho2)
 have HB2:=Zh (hf2.row HO.out (Nat.le_refl _) hz HB.out)
 have hz2:w.heap.size≤w2.heap.size:=Nat.le_trans hz hf2.size
 clear ho2 hf2
 go_wp2_with fail
 rw [show (Value.slice a1 l.length c1)=.slice a1 (sortI l).length c1 from by rw [sortI_len]]
 refine (compactZ_any (sortI l) a1 c1 w2 HO2.out (by rw [sortI_len];exact ht)).mono ?_
 rintro en w3 ⟨rfl,ho3,hf3⟩
 have HO3:=Lib.hid' ho3
 have HB3:=Zh (hf3.row0 HO2.out (Nat.le_refl _) hz2 HB2.out)
 clear ho3 hf3
 go_wp2_with fail
 go_ret
 exact ⟨a1,c1,rfl,HO3.out,HB3.out⟩

theorem any_wrong (e:Int) (X:List Ch):X.any (fun x=>wrongN x.1.length)=(docJ e X).cs.any wrongC:=by
 unfold docJ;rw [List.any_map];rfl
theorem check_1 {p:Pj} (h:p.e<0∨1099511627776<p.e):p.check=1:=by unfold Pj.check;rw [if_pos h]
theorem check_2 {p:Pj} (h:¬(p.e<0∨1099511627776<p.e)) (h2:p.cs.length<1∨4<p.cs.length∨p.cs.any wrongC=true):p.check=2:=by unfold Pj.check;rw [if_neg h,if_pos h2]
theorem check_3 {p:Pj} (h:¬(p.e<0∨1099511627776<p.e)) (h2:¬(p.cs.length<1∨4<p.cs.length∨p.cs.any wrongC=true)) (h3:p.all.any oddU=true):p.check=1:=by unfold Pj.check;rw [if_neg h,if_neg h2,if_pos h3]
theorem check_4 {p:Pj} (h:¬(p.e<0∨1099511627776<p.e)) (h2:¬(p.cs.length<1∨4<p.cs.length∨p.cs.any wrongC=true)) (h3:¬p.all.any oddU=true) (h4:(unitsOf p.all).length<p.all.length):p.check=2:=by unfold Pj.check;rw [if_neg h,if_neg h2,if_neg h3,if_pos h4]
theorem check_5 {p:Pj} (h:¬(p.e<0∨1099511627776<p.e)) (h2:¬(p.cs.length<1∨4<p.cs.length∨p.cs.any wrongC=true)) (h3:¬p.all.any oddU=true) (h4:¬(unitsOf p.all).length<p.all.length):p.check=0:=by unfold Pj.check;rw [if_neg h,if_neg h2,if_neg h3,if_neg h4]
set_option maxHeartbeats 2000000 in
theorem pcheck_any (e:Int) (a:Option Addr) (c:Nat) (X:List Ch) (w:World) (h:Chs w a c X) (ht:(flatC X).length≤1099511627776) :
  Calls Tryz.prog 17 #[pjV e a c X] w fun en w'=>en=.returned (errV (docJ e X).check)∧Below w.heap.size w w':=by
 have HS:=Lib.hid' h
 have hlen:=h.len
 have hcf1:=cf_wrong
 have hcf2:=cf_odd
 clear h
 unfold pjV
 go_enter Tryz.func17, Tryz.ntmps17
 go_wp2_with fail
 refine (concatZ_any X a c _ (HS.out.below (Nat.le_refl _) (by go_grown)) ht).mono ?_
 rintro en w1 ⟨a1,c1,rfl,ho,hb⟩
 have hz:w.heap.size<w1.heap.size:=by have:=hb.size;simp at this;omega
 have HO:=Zh (own_base (B':=w.heap.size) ho (by simp))
 have HB:=Zh (show Below w.heap.size w w1 from below_call (by go_grown) (by simp) hb)
 have d0:w1.cell? ⟨w.heap.size,0,none⟩=some (.int .i64 e):=((bcell hb).1 _ _ (by simp)).trans (by simp [go_sem])
 have d1:w1.cell? ⟨w.heap.size,1,none⟩=some (.slice a X.length c):=((bcell hb).1 _ _ (by simp)).trans (by simp [go_sem])
 clear ho hb
 by_cases h1:e<0∨1099511627776<e
 ·have HC:=Zh (check_1 (p:=docJ e X) h1)
  have h1':e<0∨(¬e<0∧1099511627776<e):=by omega
  clear h1
  rcases h1' with h1 | ⟨h1,h1b⟩
  all_goals
   go_wp2
   go_ret
   exact ⟨ret_eq (by rw [HC.out];rfl),HB.out⟩
 have H1:=Lib.hid' h1
 have e0:0≤e:=by omega
 have e1:e≤1099511627776:=by omega
 clear h1
 by_cases h2:X.length<1∨4<X.length
 ·have HC:=Zh (check_2 (p:=docJ e X) H1.out (by unfold docJ;simp only [List.length_map];omega))
  have h2':X.length<1∨(¬X.length<1∧4<X.length):=by omega
  clear h2
  rcases h2' with h2 | ⟨h2,h2b⟩
  all_goals
   go_wp2
   go_ret
   exact ⟨ret_eq (by rw [HC.out];rfl),HB.out⟩
 have h2a:¬X.length<1:=by omega
 have h2b:¬4<X.length:=by omega
 clear h2
 have HW:=Zh (any_wrong e X)
 go_wp2_with fail
 refine (containsFR_any 53 wrongN X a c w1 (HS.out.below (Nat.le_refl _) HB.out) hcf1 (Lib.hid' pred_wrong)).mono ?_
 rintro en w2 ⟨rfl,rfl⟩
 rw [HW.out]
 cases hw:(docJ e X).cs.any wrongC with
 | true =>
  have HC:=Zh (check_2 (p:=docJ e X) H1.out (.inr (.inr hw)))
  clear hw
  go_wp2
  go_ret
  exact ⟨ret_eq (by rw [HC.out];rfl),HB.out⟩
 | false =>
 have H2:=Zh (show ¬((docJ e X).cs.length<1∨4<(docJ e X).cs.length∨(docJ e X).cs.any wrongC=true) by
  rw [hw];unfold docJ;simp only [List.length_map];rintro (h | h | h)
  ·omega
  ·omega
  ·cases h)
 clear hw HW
 go_wp2_with fail
 refine (containsFZ_any 56 #[] oddU (flatC X) a1 c1 w1 (SlV.of_own HO.out) hcf2 (Zh (pred_odd _))).mono ?_
 rintro en w3 ⟨rfl,hb3⟩
 have HB3:=Zh (HB.out.trans (hb3.mono (by omega)))
 have d30:=(hb3.cell (p:=⟨w.heap.size,0,none⟩) hz).trans d0
 have d31:=(hb3.cell (p:=⟨w.heap.size,1,none⟩) hz).trans d1
 have hz3:w.heap.size<w3.heap.size:=Nat.lt_of_lt_of_le hz hb3.size
 clear hb3 d0 d1
 cases ho:(flatC X).any oddU with
 | true =>
  have HC:=Zh (check_3 (p:=docJ e X) H1.out H2.out ho)
  clear ho
  go_wp2
  go_ret
  exact ⟨ret_eq (by rw [HC.out];rfl),HB3.out⟩
 | false =>
 have H3:=Zh (show ¬(docJ e X).all.any oddU=true by rw [docJ_all,ho];decide)
 clear ho
 go_wp2_with fail
 refine (punits_any e a c X w3 (HS.out.below (Nat.le_refl _) HB3.out) ht).mono ?_
 rintro en w4 ⟨a4,c4,rfl,ho4,hb4⟩
 have HB4:=Zh (HB3.out.trans (hb4.mono (by omega)))
 clear ho4 hb4
 have hul:=unitsOf_len (flatC X)
 by_cases h4:(unitsOf (flatC X)).length<(flatC X).length
 ·have HC:=Zh (check_4 (p:=docJ e X) H1.out H2.out H3.out h4)
  go_wp2
  go_ret
  exact ⟨ret_eq (by rw [HC.out];rfl),HB4.out⟩
 ·have HC:=Zh (check_5 (p:=docJ e X) H1.out H2.out H3.out h4)
  go_wp2
  go_ret
  exact ⟨ret_eq (by rw [HC.out];rfl),HB4.out⟩

end Go.Proofs.YtimbeeiihbmofaaGreatDoor

namespace Go.Proofs.YtimbeeiihbmofaaGreatDoor
open Go.RowKit

def ApartCh (x y:Ch):Prop:=∀ b,(chV x).ownBlock=some b→¬(chV y).ownBlock=some b
/-- a slice of slices of the call's own, each list in a block of its own -/
structure OwnJ (w:World) (B:Nat) (a:Option Addr) (c:Nat) (K:List Ch):Prop where
 row:w.ownsRow B 42 1 (.slice a K.length c) K.length (K.map chV)
 each:∀ x∈K,w.ownsRow B 3 1 (chV x) x.1.length (zVs x.1)
 apart:K.Pairwise ApartCh
theorem OwnJ.chs {w:World} {B:Nat} {a:Option Addr} {c:Nat} {K:List Ch} (h:OwnJ w B a c K):Chs w a c K:=⟨SlV.of_own h.row,fun x hx=>SlV.of_own (h.each x hx)⟩
theorem OwnJ.below {w w':World} {B:Nat} {a:Option Addr} {c:Nat} {K:List Ch} (h:OwnJ w B a c K) {C:Nat} (hC:w.heap.size≤C) (hb:Below C w w'):OwnJ w' B a c K :=
 ⟨own_below h.row hC hb,fun x hx=>own_below (h.each x hx) hC hb,h.apart⟩
theorem OwnJ.fr {F:Nat→Prop} {w w':World} {B:Nat} {a:Option Addr} {c:Nat} {K:List Ch} (h:OwnJ w B a c K) (hf:Fr F w w') (hF:∀ k,F k→k<B):OwnJ w' B a c K:=by
 have hD:∀ {e n:Nat} {v:Value} {xs:List Value},w.ownsRow B e 1 v n xs→SlIn (fun k=>¬F k) v:=fun ho=>own_slin ho (fun b hb hf'=>by have:=(own_blk ho hb).1;have:=hF _ hf';omega)
 exact ⟨own_fr h.row hf (hD h.row),fun x hx=>own_fr (h.each x hx) hf (hD (h.each x hx)),h.apart⟩
theorem OwnJ.base {w:World} {B B':Nat} {a:Option Addr} {c:Nat} {K:List Ch} (h:OwnJ w B a c K) (hB:B'≤B):OwnJ w B' a c K :=
 ⟨own_base h.row hB,fun x hx=>own_base (h.each x hx) hB,h.apart⟩
theorem OwnJ.nil (w:World) (B:Nat):OwnJ w B none 0 []:=⟨own_nil _ _ _ _,by simp,.nil⟩
/-- one list more -/
theorem OwnJ.push {w w1 w2:World} {B:Nat} {a a2:Option Addr} {c c2:Nat} {K:List Ch} (h:OwnJ w B a c K) (hB:B≤w.heap.size) (y:Ch) (hb1:Below w.heap.size w w1) (hy:w1.ownsRow w.heap.size 3 1 (chV y) y.1.length (zVs y.1))
  (hf:Fr (fun k=>(Value.slice a K.length c).ownBlock=some k) w1 w2) (ho:w2.ownsRow B 42 1 (.slice a2 (K.length+1) c2) (K.length+1) (K.map chV++[chV y])):OwnJ w2 B a2 c2 (K++[y]):=by
 have h1:=h.below (Nat.le_refl _) hb1
 have hne:3≠42:=by decide
 have ap:∀ {B':Nat} {z:Ch},w1.ownsRow B' 3 1 (chV z) z.1.length (zVs z.1)→w2.ownsRow B' 3 1 (chV z) z.1.length (zVs z.1):=fun hz=>own_fr hz hf (own_apart hz h1.row hne)
 refine ⟨by rw [List.map_append,List.length_append];exact ho,fun x hx=>?_,?_⟩
 ·rcases List.mem_append.1 hx with hx | hx
  ·exact ap (h1.each x hx)
  ·simp only [List.mem_singleton] at hx;subst hx;exact own_base (ap hy) hB
 ·refine List.pairwise_append.2 ⟨h.apart,List.pairwise_singleton _ _,fun x hx z hz=>?_⟩
  simp only [List.mem_singleton] at hz;subst hz
  intro b e1 e2
  have:=(own_blk (h.each x hx) e1).2
  have:=(own_blk hy e2).1
  omega
/-- one list is another one -/
theorem OwnJ.set {w w1:World} {B:Nat} {a:Option Addr} {c:Nat} {K:List Ch} (h:OwnJ w B a c K) {i:Nat} (hi:i<K.length) (y:Ch) {g:Nat} (hg:a=some ⟨g,0,none⟩) (hf:Fr (fun k=>(chV K[i]).ownBlock=some k) w w1)
  (hy:w1.ownsRow B 3 1 (chV y) y.1.length (zVs y.1)) (hb:∀ b,(chV y).ownBlock=some b→(chV K[i]).ownBlock=some b∨w.heap.size≤b):OwnJ (w1.setCell ⟨g,i,none⟩ (chV y)) B a c (K.set i y):=by
 subst hg
 have hne:42≠3:=by decide
 have hr1:w1.ownsRow B 42 1 (.slice (some ⟨g,0,none⟩) K.length c) K.length (K.map chV):=own_fr h.row hf (own_apart h.row (h.each _ (List.getElem_mem hi)) hne)
 have hs:=hr1.stored i (chV y)
 have hx:∀ {z:Ch},w1.ownsRow B 3 1 (chV z) z.1.length (zVs z.1)→(w1.setCell ⟨g,i,none⟩ (chV y)).ownsRow B 3 1 (chV z) z.1.length (zVs z.1):=fun {z} hz =>
  own_fr hz (fr_set _ _ _ _) ((own_apart hz hr1 (by decide)).mono (fun k hk e=>hk (by rw [e];rfl)))
 have hold:∀ j (hj:j<K.length),j≠i→w1.ownsRow B 3 1 (chV K[j]) K[j].1.length (zVs K[j].1):=by
  intro j hj hji
  refine own_fr (h.each _ (List.getElem_mem hj)) hf (own_slin (h.each _ (List.getElem_mem hj)) (fun b e1 e2=>?_))
  rcases Nat.lt_or_ge i j with hlt | hge
  ·exact List.pairwise_iff_getElem.1 h.apart i j hi hj hlt b e2 e1
  ·exact List.pairwise_iff_getElem.1 h.apart j i hj hi (by omega) b e1 e2
 refine ⟨?_,fun z hz=>?_,?_⟩
 ·rw [List.length_set,List.map_set];exact hs.1
 ·obtain ⟨j,hj,rfl⟩:=List.getElem_of_mem hz
  have hj':j<K.length:=by simpa using hj
  rw [List.getElem_set]
  split
  ·exact hx hy
  ·rename_i hij;exact hx (hold j hj' (fun e=>hij e.symm))
 ·refine List.pairwise_iff_getElem.2 fun j k hj hk hjk=>?_
  have hj':j<K.length:=by simpa using hj
  have hk':k<K.length:=by simpa using hk
  rw [List.getElem_set,List.getElem_set]
  have key:∀ (m:Nat) (hm:m<K.length),m≠i→∀ b,(chV K[m]).ownBlock=some b→¬(chV y).ownBlock=some b:=by
   intro m hm hmi b e1 e2
   rcases hb b e2 with e3 | e3
   ·rcases Nat.lt_or_ge i m with hlt | hge
    ·exact List.pairwise_iff_getElem.1 h.apart i m hi hm hlt b e3 e1
    ·exact List.pairwise_iff_getElem.1 h.apart m i hm hi (by omega) b e1 e3
   ·have:=(own_blk (h.each _ (List.getElem_mem hm)) e1).2;omega
  split
  ·rename_i h1;subst h1
   split
   ·rename_i h2;omega
   ·intro b e1 e2;exact key k hk' (by omega) b e2 e1
  ·rename_i h1
   split
   ·rename_i h2;subst h2;exact key j hj' (by omega)
   ·exact List.pairwise_iff_getElem.1 h.apart j k hj' hk' hjk
theorem OwnJ.at {w:World} {B:Nat} {a:Option Addr} {c:Nat} {K:List Ch} (h:OwnJ w B a c K) {i:Nat} (hi:i<K.length):∃ g,a=some ⟨g,0,none⟩∧B≤g∧g<w.heap.size∧w.cell? ⟨g,i,none⟩=some (.slice K[i].2.1 K[i].1.length K[i].2.2)∧w.frozen? ⟨g,i,none⟩=false:=by
 rcases own_cases h.row with ⟨_,h1,_⟩ | ⟨g,cur,rfl,h1,h2,_⟩
 ·omega
 ·refine ⟨g,rfl,h1,h2,?_,h.row.frozenAt i⟩
  rw [h.row.cellAt i (by omega)]
  rw [List.getElem?_map,List.getElem?_eq_getElem hi];rfl
theorem OwnJ.blk {w:World} {B:Nat} {a:Option Addr} {c:Nat} {K:List Ch} (h:OwnJ w B a c K) {k:Nat} (hk:(Value.slice a K.length c).ownBlock=some k):B≤k∧k<w.heap.size:=own_blk h.row hk

theorem OwnJ.put {wr w7:World} {B M g k t c:Nat} {R:List Value} {Ks:List Ch} (HJ:OwnJ wr B (some ⟨g,0,none⟩) c Ks) (hB:B≤wr.heap.size) (hk:k<Ks.length) {x:Ch} (hx:Ks[k]=x) (y:Ch) (HX:BoxW M R t wr) (h1:t≠3) (h2:t≠42)
  (hf:Fr (fun q=>(chV x).ownBlock=some q) wr w7) (ho:w7.ownsRow B 3 1 (chV y) y.1.length (zVs y.1)) (hb:∀ b,(chV y).ownBlock=some b→(chV x).ownBlock=some b∨wr.heap.size≤b) :
  (w7.cell? ⟨g,k,none⟩=some (chV x)∧w7.frozen? ⟨g,k,none⟩=false∧BoxW M R t w7∧M≠g)∧OwnJ (w7.setCell ⟨g,k,none⟩ (chV y)) B (some ⟨g,0,none⟩) c (Ks.set k y)∧BoxW M R t (w7.setCell ⟨g,k,none⟩ (chV y))∧∀ w3,Below B w3 wr→Below B w3 (w7.setCell ⟨g,k,none⟩ (chV y)):=by
 subst hx
 have hne:42≠3:=by decide
 have hro:=HJ.each _ (List.getElem_mem hk)
 have hr1:w7.ownsRow B 42 1 (.slice (some ⟨g,0,none⟩) Ks.length c) Ks.length (Ks.map chV):=own_fr HJ.row hf (own_apart HJ.row hro hne)
 have hg:B≤g∧g<wr.heap.size:=HJ.blk rfl
 have hMg:M≠g:=fun h=>own_not_box HJ.row HX h2 (by rw [h];rfl)
 have hM:=own_not_box hro HX h1
 refine ⟨⟨?_,hr1.frozenAt k,HX.fr hf hM,hMg⟩,HJ.set hk y rfl hf ho hb,(HX.fr hf hM).fr (fr_set _ _ _ _) hMg,fun w3 h3=>?_⟩
 ·rw [hr1.cellAt k (by omega),List.getElem?_map,List.getElem?_eq_getElem hk];rfl
 ·exact (h3.trans (hf.below hB (fun q hq=>(own_blk hro hq).1))).setCell (by simp;exact hg.1) _

theorem chs_take {X:List Ch} {k:Nat} (hk:k<X.length):(X.take (k+1)).map (·.1)=(X.take k).map (·.1)++[X[k].1]:=by
 rw [List.take_succ_eq_append_getElem hk,List.map_append];rfl
/-- one apart -/
def CopyJR (X:List Ch) (e:Int) (w:World) (en:Ending) (w':World):Prop :=
 ∃ a c K,en=.returned (pjV e a c K)∧OwnJ w' w.heap.size a c K∧K.map (·.1)=X.map (·.1)∧Below w.heap.size w w'
set_option maxHeartbeats 2000000 in
theorem pcopy_any (e:Int) (a:Option Addr) (c:Nat) (X:List Ch) (w:World) (h:Chs w a c X) (hn:X.length≤1048576) (hl:∀ x∈X,x.1.length≤1048576) :
  Calls Tryz.prog 19 #[pjV e a c X] w (CopyJR X e w):=by
 have HS:=Lib.hid' h
 have HL:=Lib.hid' hl
 have hlen:=h.len
 clear h hl
 unfold pjV
 go_enter Tryz.func19, Tryz.ntmps19
 go_wp2_with fail
 obtain ⟨w3,hw3⟩:∃ w3,w3=(((w.alloc (.cells #[.int .i64 e,.slice a X.length c] 30)).alloc (.cells #[.int .i64 0,.slice none 0 0] 30)).alloc (.cells #[.int .i64 e,.slice none 0 0] 30)):=⟨_,rfl⟩
 have hz:w3.heap.size=w.heap.size+3:=by rw [hw3];simp
 have HB3:=Zh (show Below w.heap.size w w3 by rw [hw3];go_grown)
 have HX:=Zh (show BoxW (w.heap.size+2) [.int .i64 e,.slice none 0 0] 30 w3 by rw [hw3];have:=BoxW.start ((w.alloc (.cells #[.int .i64 e,.slice a X.length c] 30)).alloc (.cells #[.int .i64 0,.slice none 0 0] 30)) [.int .i64 e,.slice none 0 0] 30;simpa using this)
 have k10:w3.cell? ⟨w.heap.size+1,0,none⟩=some (.int .i64 0):=by rw [hw3];simp [go_sem]
 have k11:w3.cell? ⟨w.heap.size+1,1,none⟩=some (.slice none 0 0):=by rw [hw3];simp [go_sem]
 have g10:w3.frozen? ⟨w.heap.size+1,0,none⟩=false:=by rw [hw3];simp [go_sem]
 have g11:w3.frozen? ⟨w.heap.size+1,1,none⟩=false:=by rw [hw3];simp [go_sem]
 have K1:=Zh (And.intro k10 (And.intro k11 (And.intro g10 g11)))
 rw [←hw3]
 have HZ:=Lib.hid' hz
 clear k10 k11 g10 g11 hw3 hz
 go_loopw [12] (fun v12 wr=>∃ (k:Nat) (a':Option Addr) (c':Nat) (Ks:List Ch),v12=.int .i64 k∧k≤X.length∧Hid (Ks.map (·.1)=(X.take k).map (·.1))∧Hid (BoxW (w.heap.size+2) [.int .i64 e,.slice a' Ks.length c'] 30 wr)∧Hid (OwnJ wr (w.heap.size+3) a' c' Ks)∧Hid (Fr (fun q=>q=w.heap.size+2) w3 wr)) (fun v12 _=>X.length - (intOf v12).toNat)
 case atStart=>exact ⟨0,none,0,[],rfl,Nat.zero_le _,Lib.hid' rfl,HX,Zh (OwnJ.nil _ _),Zh (Fr.refl _ _)⟩
 case round =>
  obtain ⟨k,a',c',Ks,rfl,hk,HK,HBX,HJ,HF⟩:=hrel
  have hz:=HZ.out
  have hlw:w.heap.size+3≤wr.heap.size:=by rw [←hz];exact HF.out.size
  have HBW:=Zh (HB3.out.trans (HF.out.below (B:=w.heap.size) (by omega) (fun q hq=>by omega)))
  clear hz
  have x1:=HBX.out.box.1 1 _ rfl
  have x0:=HBX.out.box.1 0 _ rfl
  have f1:=HBX.out.box.2.1 1
  by_cases hlt:k<X.length
  ·obtain ⟨b,off,rfl,hb,hc,hz'⟩:=(HS.out.below (Nat.le_refl _) HBW.out).at hlt
   have HZX:=Lib.hid' hz'
   have HN:=Zh (chs_take hlt)
   have hxl:=HL.out _ (List.getElem_mem hlt)
   have hKl:Ks.length≤1048576:=by have:=congrArg List.length HK.out;simp at this;omega
   clear hz'
   generalize X[k]=x at *
   obtain ⟨xs,xa,xc⟩:=x
   simp only at HZX hxl hc
   go_wp2_with fail
   have hne2:¬(Value.slice a' Ks.length c').ownBlock=some (w.heap.size+2):=by intro h;have:=(HJ.out.blk h).1;omega

   refine wp_region_held_drew (S:=(fun _=>True)) (by kernel_rfl) trivial (fun hH0=>?_)
   refine tA 0 (.pointer (some ⟨w.heap.size+2,1,none⟩)) rfl hH0 ?_ ?_
   ·intro w hSw;go_simp
   simp only [Act.put,gA,gZ,gS,sA,sZ,sS]
   refine tA 2 (.slice xa xs.length xc) rfl hH0 ?_ ?_
   ·intro w hSw;go_simp
   simp only [Act.put,gA,gZ,gS,sA,sZ,sS]
   refine wpAnyH_ready (rs:=[1,3]) (by kernel_rfl) (by simp) (AllReadyH.cons (o:=_) rfl (fun K hK=>?_) (AllReadyH.cons (o:=_) rfl (fun K hK=>?_) AllReadyH.nil))
   ·skip
    go_simp
    refine hK.out _ _ ?_ (fun hH1=>?_)
    ·trivial
    clear hK K
    refine rD 3 rfl (fun K hK=>?_)
    go_simp
    refine (cloneZ_any _ xs _ (SlV.below HZX.out (Nat.le_refl _) (Below.drew (Below.refl _ _))) (by omega)).mono ?_
    rintro en w5 ⟨a5,c5,rfl,ho5,hb5'⟩
    have hb5:Below wr.heap.size wr w5:=(Below.drew (Below.refl _ _)).trans hb5'
    have HB5:=Lib.hid' hb5
    have HO5:=Zh (show w5.ownsRow wr.heap.size 3 1 (.slice a5 xs.length c5) xs.length (zVs xs) from ho5)
    have z1:=(hb5.cell (p:=⟨w.heap.size+2,1,none⟩) (by show w.heap.size+2<wr.heap.size;omega)).trans x1
    have g1:=(hb5.frozen (p:=⟨w.heap.size+2,1,none⟩) (by show w.heap.size+2<wr.heap.size;omega)).trans f1
    have hl5:=hb5.size
    have hl52:w.heap.size+2<w5.heap.size:=by omega
    clear ho5 hb5 hb5'
    refine hK.out _ _ ?_ (fun hH2=>?_)
    ·trivial
    clear hK K
    refine rD 4 rfl (fun K hK=>?_)
    go_simp
    refine hK.out _ _ ?_ (fun hH3=>?_)
    ·trivial
    clear hK K
    refine rD 5 rfl (fun K hK=>?_)
    refine step_one etRows rfl (.tmp 17) (.tmp 20) rfl [.slice a5 xs.length c5] rfl (w.heap.size+3) Ks.length (Ks.map chV) _ rfl (HJ.out.below (Nat.le_refl _) HB5.out).row rfl (by simp [Value.oneCell']) (by omega) (by omega) ?_
    intro a9 c9 w9 ho9 hf9
    have HO9:=Lib.hid' ho9
    have HF9:=Lib.hid' hf9
    have y1:=hf9.cell z1 hne2
    have g9:w9.frozen? ⟨w.heap.size+2,1,none⟩=false:=by rw [←g1];simp only [World.frozen?,hf9.block _ (by omega) hne2]
    clear ho9 hf9
    refine hK.out _ _ ?_ (fun hH4=>?_)
    ·trivial
    clear hK K
    refine tA 6 (.pointer (some ⟨w.heap.size+2,1,none⟩)) rfl hH4 ?_ ?_
    ·intro w hSw;go_simp
    simp only [Act.put,gA,gZ,gS,sA,sZ,sS]
    refine rD 7 rfl (fun K hK=>?_)
    go_simp
    refine hK.out _ _ ?_ (fun hH5=>?_)
    ·trivial
    clear hK K
    refine wpAnyH_done (by kernel_rfl) ?_ _
    have HJ9:=Zh (HJ.out.push (y:=(xs,a5,c5)) hlw HB5.out HO5.out HF9.out HO9.out)
    have HB9:=Zh (show BoxW (w.heap.size+2) [.int .i64 e,.slice a' Ks.length c'] 30 w9 from (HBX.out.below (Nat.le_refl _) HB5.out).fr HF9.out hne2)
    have HX9:=Zh (show BoxW (w.heap.size+2) [.int .i64 e,.slice a9 (Ks.length+1) c9] 30 (w9.setCell ⟨w.heap.size+2,1,none⟩ (.slice a9 (Ks.length+1) c9)) from heap_setCell_same _ _ 1 _ _ _ HB9.out)
    have HFX:=Zh (show Fr (fun q=>q=w.heap.size+2) w3 (w9.setCell ⟨w.heap.size+2,1,none⟩ (.slice a9 (Ks.length+1) c9)) from ((HF.out.trans_below HB5.out).trans HF9.out (fun i hi=>by have:=(HJ.out.blk hi).1;have:=HZ.out;exact .inr (by omega))).trans (fr_set _ _ _ _) (fun i hi=>.inl hi))
    have HJX:=Zh (HJ9.out.fr (fr_set w9 (w.heap.size+2) 1 (.slice a9 (Ks.length+1) c9)) (fun q hq=>by omega))
    have HL9:=Zh (show (Ks++[(xs,a5,c5)]).length=Ks.length+1 from by simp)
    generalize w9.setCell ⟨w.heap.size+2,1,none⟩ (.slice a9 (Ks.length+1) c9)=wx at *
    go_wp2_with fail
    go_roundw
    case rel=>exact ⟨k+1,a9,c9,Ks++[(xs,a5,c5)],by go_num,by omega,Zh (by rw [List.map_append,HK.out,HN.out];rfl),Zh (by rw [HL9.out];exact HX9.out),HJX,HFX⟩
    case measure=>simp [intOf];omega
   ·skip
    go_simp
    refine (cloneZ_any _ xs _ (SlV.below HZX.out (Nat.le_refl _) (Below.drew (Below.refl _ _))) (by omega)).mono ?_
    rintro en w5 ⟨a5,c5,rfl,ho5,hb5'⟩
    have hb5:Below wr.heap.size wr w5:=(Below.drew (Below.refl _ _)).trans hb5'
    have HB5:=Lib.hid' hb5
    have HO5:=Zh (show w5.ownsRow wr.heap.size 3 1 (.slice a5 xs.length c5) xs.length (zVs xs) from ho5)
    have z1:=(hb5.cell (p:=⟨w.heap.size+2,1,none⟩) (by show w.heap.size+2<wr.heap.size;omega)).trans x1
    have g1:=(hb5.frozen (p:=⟨w.heap.size+2,1,none⟩) (by show w.heap.size+2<wr.heap.size;omega)).trans f1
    have hl5:=hb5.size
    have hl52:w.heap.size+2<w5.heap.size:=by omega
    clear ho5 hb5 hb5'
    refine hK.out _ _ ?_ (fun hH1=>?_)
    ·trivial
    clear hK K
    refine wpAnyH_ready (rs:=[1,4]) (by kernel_rfl) (by simp) (AllReadyH.cons (o:=_) rfl (fun K hK=>?_) (AllReadyH.cons (o:=_) rfl (fun K hK=>?_) AllReadyH.nil))
    ·skip
     go_simp
     refine hK.out _ _ ?_ (fun hH2=>?_)
     ·trivial
     clear hK K
     refine rD 4 rfl (fun K hK=>?_)
     go_simp
     refine hK.out _ _ ?_ (fun hH3=>?_)
     ·trivial
     clear hK K
     refine rD 5 rfl (fun K hK=>?_)
     refine step_one etRows rfl (.tmp 17) (.tmp 20) rfl [.slice a5 xs.length c5] rfl (w.heap.size+3) Ks.length (Ks.map chV) _ rfl (HJ.out.below (Nat.le_refl _) HB5.out).row rfl (by simp [Value.oneCell']) (by omega) (by omega) ?_
     intro a9 c9 w9 ho9 hf9
     have HO9:=Lib.hid' ho9
     have HF9:=Lib.hid' hf9
     have y1:=hf9.cell z1 hne2
     have g9:w9.frozen? ⟨w.heap.size+2,1,none⟩=false:=by rw [←g1];simp only [World.frozen?,hf9.block _ (by omega) hne2]
     clear ho9 hf9
     refine hK.out _ _ ?_ (fun hH4=>?_)
     ·trivial
     clear hK K
     refine tA 6 (.pointer (some ⟨w.heap.size+2,1,none⟩)) rfl hH4 ?_ ?_
     ·intro w hSw;go_simp
     simp only [Act.put,gA,gZ,gS,sA,sZ,sS]
     refine rD 7 rfl (fun K hK=>?_)
     go_simp
     refine hK.out _ _ ?_ (fun hH5=>?_)
     ·trivial
     clear hK K
     refine wpAnyH_done (by kernel_rfl) ?_ _
     have HJ9:=Zh (HJ.out.push (y:=(xs,a5,c5)) hlw HB5.out HO5.out HF9.out HO9.out)
     have HB9:=Zh (show BoxW (w.heap.size+2) [.int .i64 e,.slice a' Ks.length c'] 30 w9 from (HBX.out.below (Nat.le_refl _) HB5.out).fr HF9.out hne2)
     have HX9:=Zh (show BoxW (w.heap.size+2) [.int .i64 e,.slice a9 (Ks.length+1) c9] 30 (w9.setCell ⟨w.heap.size+2,1,none⟩ (.slice a9 (Ks.length+1) c9)) from heap_setCell_same _ _ 1 _ _ _ HB9.out)
     have HFX:=Zh (show Fr (fun q=>q=w.heap.size+2) w3 (w9.setCell ⟨w.heap.size+2,1,none⟩ (.slice a9 (Ks.length+1) c9)) from ((HF.out.trans_below HB5.out).trans HF9.out (fun i hi=>by have:=(HJ.out.blk hi).1;have:=HZ.out;exact .inr (by omega))).trans (fr_set _ _ _ _) (fun i hi=>.inl hi))
     have HJX:=Zh (HJ9.out.fr (fr_set w9 (w.heap.size+2) 1 (.slice a9 (Ks.length+1) c9)) (fun q hq=>by omega))
     have HL9:=Zh (show (Ks++[(xs,a5,c5)]).length=Ks.length+1 from by simp)
     generalize w9.setCell ⟨w.heap.size+2,1,none⟩ (.slice a9 (Ks.length+1) c9)=wx at *
     go_wp2_with fail
     go_roundw
     case rel=>exact ⟨k+1,a9,c9,Ks++[(xs,a5,c5)],by go_num,by omega,Zh (by rw [List.map_append,HK.out,HN.out];rfl),Zh (by rw [HL9.out];exact HX9.out),HJX,HFX⟩
     case measure=>simp [intOf];omega
    ·skip
     go_simp
     refine hK.out _ _ ?_ (fun hH2=>?_)
     ·trivial
     clear hK K
     refine rD 1 rfl (fun K hK=>?_)
     go_simp
     refine hK.out _ _ ?_ (fun hH3=>?_)
     ·trivial
     clear hK K
     refine rD 5 rfl (fun K hK=>?_)
     refine step_one etRows rfl (.tmp 17) (.tmp 20) rfl [.slice a5 xs.length c5] rfl (w.heap.size+3) Ks.length (Ks.map chV) _ rfl (HJ.out.below (Nat.le_refl _) HB5.out).row rfl (by simp [Value.oneCell']) (by omega) (by omega) ?_
     intro a9 c9 w9 ho9 hf9
     have HO9:=Lib.hid' ho9
     have HF9:=Lib.hid' hf9
     have y1:=hf9.cell z1 hne2
     have g9:w9.frozen? ⟨w.heap.size+2,1,none⟩=false:=by rw [←g1];simp only [World.frozen?,hf9.block _ (by omega) hne2]
     clear ho9 hf9
     refine hK.out _ _ ?_ (fun hH4=>?_)
     ·trivial
     clear hK K
     refine tA 6 (.pointer (some ⟨w.heap.size+2,1,none⟩)) rfl hH4 ?_ ?_
     ·intro w hSw;go_simp
     simp only [Act.put,gA,gZ,gS,sA,sZ,sS]
     refine rD 7 rfl (fun K hK=>?_)
     go_simp
     refine hK.out _ _ ?_ (fun hH5=>?_)
     ·trivial
     clear hK K
     refine wpAnyH_done (by kernel_rfl) ?_ _
     have HJ9:=Zh (HJ.out.push (y:=(xs,a5,c5)) hlw HB5.out HO5.out HF9.out HO9.out)
     have HB9:=Zh (show BoxW (w.heap.size+2) [.int .i64 e,.slice a' Ks.length c'] 30 w9 from (HBX.out.below (Nat.le_refl _) HB5.out).fr HF9.out hne2)
     have HX9:=Zh (show BoxW (w.heap.size+2) [.int .i64 e,.slice a9 (Ks.length+1) c9] 30 (w9.setCell ⟨w.heap.size+2,1,none⟩ (.slice a9 (Ks.length+1) c9)) from heap_setCell_same _ _ 1 _ _ _ HB9.out)
     have HFX:=Zh (show Fr (fun q=>q=w.heap.size+2) w3 (w9.setCell ⟨w.heap.size+2,1,none⟩ (.slice a9 (Ks.length+1) c9)) from ((HF.out.trans_below HB5.out).trans HF9.out (fun i hi=>by have:=(HJ.out.blk hi).1;have:=HZ.out;exact .inr (by omega))).trans (fr_set _ _ _ _) (fun i hi=>.inl hi))
     have HJX:=Zh (HJ9.out.fr (fr_set w9 (w.heap.size+2) 1 (.slice a9 (Ks.length+1) c9)) (fun q hq=>by omega))
     have HL9:=Zh (show (Ks++[(xs,a5,c5)]).length=Ks.length+1 from by simp)
     generalize w9.setCell ⟨w.heap.size+2,1,none⟩ (.slice a9 (Ks.length+1) c9)=wx at *
     go_wp2_with fail
     go_roundw
     case rel=>exact ⟨k+1,a9,c9,Ks++[(xs,a5,c5)],by go_num,by omega,Zh (by rw [List.map_append,HK.out,HN.out];rfl),Zh (by rw [HL9.out];exact HX9.out),HJX,HFX⟩
     case measure=>simp [intOf];omega

  ·obtain rfl:k=X.length:=by omega
   have HK':=Zh (show Ks.map (·.1)=X.map (·.1) by have:=HK.out;rwa [List.take_length] at this)
   have z10:=((bcell (HF.out.below (B:=w.heap.size+2) (by have:=HZ.out;omega) (fun q hq=>by omega))).1 _ _ (by omega)).trans K1.out.1
   have z11:=((bcell (HF.out.below (B:=w.heap.size+2) (by have:=HZ.out;omega) (fun q hq=>by omega))).1 _ _ (by omega)).trans K1.out.2.1
   have h10:=((bcell (HF.out.below (B:=w.heap.size+2) (by have:=HZ.out;omega) (fun q hq=>by omega))).2 _ _ (by omega)).trans K1.out.2.2.1
   have h11:=((bcell (HF.out.below (B:=w.heap.size+2) (by have:=HZ.out;omega) (fun q hq=>by omega))).2 _ _ (by omega)).trans K1.out.2.2.2
   have HFIN:=Zh (show Fr (fun q=>q=w.heap.size+1) wr ((wr.setCell ⟨w.heap.size+1,0,none⟩ (.int .i64 e)).setCell ⟨w.heap.size+1,1,none⟩ (.slice a' Ks.length c')) from (fr_set _ _ _ _).trans (fr_set _ _ _ _) (fun i hi=>.inl hi))
   go_wp2
   refine bodyPost_ret (v:=pjV e a' c' Ks) (by simp [results,Tryz.results19,go_sem,z10,z11,x0,x1,pjV]) rfl ⟨a',c',Ks,rfl,(HJ.out.fr HFIN.out (fun q hq=>by omega)).base (by omega),HK'.out,HBW.out.trans (HFIN.out.below (by omega) (fun q hq=>by omega))⟩
end Go.Proofs.YtimbeeiihbmofaaGreatDoor

namespace Go.Proofs.YtimbeeiihbmofaaGreatDoor
open Go.RowKit

/-- a row of a chain, as a part of memory -/
def chA (y:Ch):Asn:=.row 3 1 (chV y) y.1.length (zVs y.1)
theorem own_at {w w0:World} {e size n:Nat} {v:Value} {xs:List Value} (h1:w.ownsRow 0 e size v n xs) (hb:∀ b,v.ownBlock=some b→w0.heap.size≤b):w.ownsRow w0.heap.size e size v n xs:=by
 refine ⟨h1.1,?_⟩
 rcases h1.2 with h2 | ⟨g,cap,cur,hv,hg,r⟩
 ·exact Or.inl h2
 ·exact Or.inr ⟨g,cap,cur,hv,hb g (by rw [hv];rfl),r⟩
theorem Sep.chs {w0 w:World} {F:Nat→Prop} {L:List Asn} {Ks:List Ch} {ja:Option Addr} {jc:Nat} (h:Sep w0 F L w) (i j:Nat) (hi:L[i]?=some (Asn.all (Ks.map chA))) (hj:L[j]?=some (.row 42 1 (.slice ja Ks.length jc) Ks.length (Ks.map chV))):Chs w ja jc Ks:=by
 obtain ⟨b1,b2⟩:=Asn.all_holds.1 (h.at i hi)
 exact ⟨SlV.of_own (h.row j hj),fun x hx=>SlV.of_own (show w.ownsRow 0 3 1 (chV x) x.1.length (zVs x.1) from b1 (chA x) (List.mem_map_of_mem hx))⟩
theorem Sep.pastJ {w0 w w':World} {F:Nat→Prop} {L:List Asn} {Ks:List Ch} {ja:Option Addr} {jc:Nat} (h:Sep w0 F L w) (hb:Below w.heap.size w w') (hj:OwnJ w' w.heap.size ja jc Ks):Sep w0 F (Asn.all (Ks.map chA)::.row 42 1 (.slice ja Ks.length jc) Ks.length (Ks.map chV)::L) w':=by
 refine h.call0 (K:=[Asn.all (Ks.map chA),.row 42 1 (.slice ja Ks.length jc) Ks.length (Ks.map chV)]) ⟨Fr.of_below hb,?_,?_,?_⟩
 ·simp only [List.mem_cons,List.not_mem_nil,or_false]
  rintro A (rfl | rfl)
  ·refine Asn.all_holds.2 ⟨fun A hA=>?_,?_⟩
   ·obtain ⟨x,hx,rfl⟩:=List.mem_map.1 hA
    exact own_base (hj.each x hx) (Nat.zero_le _)
   ·rw [List.pairwise_map];exact hj.apart
  ·exact own_base hj.row (Nat.zero_le _)
 ·simp only [List.pairwise_cons,List.mem_singleton,forall_eq,List.not_mem_nil,false_implies,implies_true,List.Pairwise.nil,and_true]
  intro b hb1 hb2
  obtain ⟨A,hA,hb1⟩:=Asn.all_foot.1 hb1
  obtain ⟨x,hx,rfl⟩:=List.mem_map.1 hA
  have h1:=own_apart (hj.each x hx) hj.row (by decide:(3:Nat)≠42)
  obtain ⟨xs,xa,xc⟩:=x
  have hb1:(Value.slice xa xs.length xc).ownBlock=some b:=hb1
  have hb2:(Value.slice ja Ks.length jc).ownBlock=some b:=hb2
  cases xa with
  | none=>simp [Value.ownBlock] at hb1
  | some p =>
   have h2:=h1 p xs.length xc rfl
   simp only [Value.ownBlock,Option.some.injEq] at hb1 hb2 h2
   rw [hb1] at h2
   exact h2 hb2
 ·simp only [List.mem_cons,List.not_mem_nil,or_false]
  rintro A (rfl | rfl) b hb1
  ·obtain ⟨A,hA,hb1⟩:=Asn.all_foot.1 hb1
   obtain ⟨x,hx,rfl⟩:=List.mem_map.1 hA
   exact .inl (own_blk (hj.each x hx) hb1).1
  ·exact .inl (own_blk hj.row hb1).1
end Go.Proofs.YtimbeeiihbmofaaGreatDoor

namespace Go.Proofs.YtimbeeiihbmofaaGreatDoor
open Go.RowKit

def stepL (D:List Int) (L:List (List Int)) (k:Nat):List (List Int):=(L.take k).map (liveC D)++L.drop k
theorem stepL_zero (D:List Int) (L:List (List Int)):stepL D L 0=L:=by simp [stepL]
theorem stepL_all (D:List Int) (L:List (List Int)):stepL D L L.length=L.map (liveC D):=by simp [stepL]
theorem stepL_get {D:List Int} {L:List (List Int)} {k:Nat} (hk:k<L.length):(stepL D L k)[k]?=some L[k]:=by
 unfold stepL
 rw [List.getElem?_append_right (by simp;omega)]
 have e:k - (List.map (liveC D) (List.take k L)).length=0:=by simp;omega
 rw [e,List.getElem?_drop,Nat.add_zero,List.getElem?_eq_getElem hk]
theorem stepL_set {D:List Int} {L:List (List Int)} {k:Nat} (hk:k<L.length):(stepL D L k).set k (liveC D L[k])=stepL D L (k+1):=by
 unfold stepL
 rw [List.set_append_right _ _ (by simp;omega),List.take_succ_eq_append_getElem hk,List.drop_eq_getElem_cons hk]
 have e:k - (List.map (liveC D) (List.take k L)).length=0:=by simp;omega
 rw [e,List.set_cons_zero,List.map_append,List.append_assoc];rfl
theorem fill_next {D S:List Int} {L:List (List Int)} {k:Nat} (hk:k<L.length) (cs:List (List Int)):fillC D S (L.drop k) k cs=fillC D S (L.drop (k+1)) (k+1) (S.foldl (spareStep D k L[k].length) cs):=by
 rw [List.drop_eq_getElem_cons hk];rfl
theorem fill_end {D S:List Int} {L:List (List Int)} (cs:List (List Int)):fillC D S (L.drop L.length) L.length cs=cs:=by rw [List.drop_length];rfl
theorem fold_next {D S:List Int} {i m:Nat} {j:Nat} (hj:j<S.length) (cs:List (List Int)):(S.drop j).foldl (spareStep D i m) cs=(S.drop (j+1)).foldl (spareStep D i m) (spareStep D i m cs S[j]):=by
 rw [List.drop_eq_getElem_cons hj];rfl
theorem step_no1 {D:List Int} {i m:Nat} {cs:List (List Int)} {u:Int} (h:¬(cs.getD i []).length<m):spareStep D i m cs u=cs:=by unfold spareStep;rw [if_neg (fun h'=>h h'.1)]
theorem step_no2 {D:List Int} {i m:Nat} {cs:List (List Int)} {u:Int} (h:D.contains u=true):spareStep D i m cs u=cs:=by unfold spareStep;rw [if_neg (fun h'=>by rw [h] at h';exact absurd h'.2.1 (by decide))]
theorem step_no3 {D:List Int} {i m:Nat} {cs:List (List Int)} {u:Int} (h:u∈cs.flatten):spareStep D i m cs u=cs:=by unfold spareStep;rw [if_neg (fun h'=>h'.2.2 h)]
theorem step_yes {D:List Int} {i m:Nat} {cs:List (List Int)} {u:Int} (h:(cs.getD i []).length<m) (h2:D.contains u=false) (h3:u∉cs.flatten):spareStep D i m cs u=cs.set i (cs.getD i []++[u]):=by unfold spareStep;rw [if_pos ⟨h,h2,h3⟩]
theorem contains_any (D:List Int) (u:Int):D.any (fun y=>u==y)=D.contains u:=(List.contains_eq_any_beq).symm
theorem flat_len4 {X:List Ch} (h:∀ x∈X,x.1.length≤4):(flatC X).length≤4*X.length:=by
 unfold flatC
 induction X with
 | nil=>simp
 | cons x X ih =>
  have h1:=h x List.mem_cons_self
  have h2:=ih (fun y hy=>h y (List.mem_cons_of_mem _ hy))
  simp only [List.map_cons,List.flatten_cons,List.length_append,List.length_cons];omega

theorem cf_gone (args:Array Value) (w:World):(callFunc 84 args).run Tryz.prog w=.ok (.enter 84 args) w:=by kernel_rfl
theorem cf_lost (args:Array Value) (w:World):(callFunc 86 args).run Tryz.prog w=.ok (.enter 86 args) w:=by kernel_rfl
theorem pgone_any (D:List Int) (da:Option Addr) (dc b:Nat) (x:Int) (w:World) (hc:w.cell? ⟨b,0,none⟩=some (.slice da D.length dc)) (hD:Zs w (.slice da D.length dc) D) :
  Calls Tryz.prog 84 #[.int .i64 x,.pointer (some ⟨b,0,none⟩)] w fun e w'=>e=.returned (.bool (D.contains x))∧w=w':=by
 have HC:=Zh (containsZ_any x D da dc w hD)
 have HA:=Zh (contains_any D x)
 clear hD
 go_enter Tryz.func84, Tryz.ntmps84
 go_wp2_with fail
 refine HC.out.mono ?_
 rintro e w' ⟨rfl,rfl⟩
 rw [HA.out]
 obtain ⟨r,hr⟩:∃ r,r=D.contains x:=⟨_,rfl⟩
 have HR:=Lib.hid' hr
 rw [←hr]
 clear hr
 go_wp2
 go_ret
 exact ⟨ret_eq (by rw [←HR.out];rfl),rfl⟩
def lostN (n:Nat):Bool:=decide (n=0)
theorem pred_lost:PredN 86 lostN:=by
 intro a n c w hn
 cases h:decide (n=0) with
 | true =>
  have h':((n:Int)==0)=true:=by simpa using h
  have H:=Lib.hid' h
  clear h
  go_enter Tryz.func86, Tryz.ntmps86
  go_wp2
  go_ret
  exact ⟨ret_eq (by unfold lostN;rw [H.out];rfl),rfl⟩
 | false =>
  have h':((n:Int)==0)=false:=by simpa using h
  have H:=Lib.hid' h
  clear h
  go_enter Tryz.func86, Tryz.ntmps86
  go_wp2
  go_ret
  exact ⟨ret_eq (by unfold lostN;rw [H.out];rfl),rfl⟩
theorem any_lost (K:List Ch):K.any (fun x=>lostN x.1.length)=(K.map (·.1)).any (·.isEmpty):=by
 rw [List.any_map];congr 1;funext x;unfold lostN;simp only [Function.comp_apply];cases x.1<;>simp

theorem next_bad {p:Pj} {D S:List Int} (h:p.check≠0):p.next D S=(p.check,Pj.zero):=by unfold Pj.next;rw [if_pos h]
theorem next_1 {p:Pj} {D S:List Int} (h:p.check=0) (h1:D.any oddU=true∨S.any oddU=true):p.next D S=(1,Pj.zero):=by unfold Pj.next;rw [if_neg (by simpa using h),if_pos h1]
theorem next_5 {p:Pj} {D S:List Int} (h:p.check=0) (h1:¬(D.any oddU=true∨S.any oddU=true)) (h2:p.e=1099511627776):p.next D S=(5,Pj.zero):=by unfold Pj.next;rw [if_neg (by simpa using h),if_neg h1,if_pos h2]
theorem next_13 {p:Pj} {D S:List Int} (h:p.check=0) (h1:¬(D.any oddU=true∨S.any oddU=true)) (h2:¬p.e=1099511627776) (h3:(p.cs.map (liveC D)).any (·.isEmpty)=true):p.next D S=(13,Pj.zero):=by unfold Pj.next;rw [if_neg (by simpa using h),if_neg h1,if_neg h2,if_pos h3]
theorem next_0 {p:Pj} {D S:List Int} (h:p.check=0) (h1:¬(D.any oddU=true∨S.any oddU=true)) (h2:¬p.e=1099511627776) (h3:¬(p.cs.map (liveC D)).any (·.isEmpty)=true):p.next D S=(0,⟨p.e+1,fillC D S p.cs 0 (p.cs.map (liveC D))⟩):=by unfold Pj.next;rw [if_neg (by simpa using h),if_neg h1,if_neg h2,if_neg h3]

def NextR (r:Nat×Pj) (w:World) (en:Ending) (w':World):Prop :=
 ∃ e a c K,en=.returned (.tuple #[pjV e a c K,errV r.1])∧docJ e K=r.2∧OwnJ w' w.heap.size a c K∧Below w.heap.size w w'
set_option maxHeartbeats 8000000 in
theorem pnext_any (e:Int) (a:Option Addr) (c:Nat) (X:List Ch) (D S:List Int) (da sa:Option Addr) (dc sc:Nat) (w:World) (h:Chs w a c X) (ht:(flatC X).length≤1099511627776)
  (hD:Zs w (.slice da D.length dc) D) (hS:Zs w (.slice sa S.length sc) S) :
  Calls Tryz.prog 38 #[pjV e a c X,.slice da D.length dc,.slice sa S.length sc] w (NextR ((docJ e X).next D S) w):=by
 have HS:=Lib.hid' h
 have hlen:=h.len
 have HD:=Lib.hid' hD
 have HSP:=Lib.hid' hS
 have hDl:=hD.len
 have hSl:=hS.len
 have hcf1:=cf_gone
 have hcf2:=cf_lost
 have hcf3:=cf_odd
 clear h hD hS
 have HV:=Zh (show pjV e a c X=.agg #[.int .i64 e,.slice a X.length c] from rfl)
 rw [HV.out]
 obtain ⟨NX,hNX⟩:∃ NX,NX=(docJ e X).next D S:=⟨_,rfl⟩
 rw [←hNX]
 have HNX:=Lib.hid' hNX
 clear hNX
 go_enter Tryz.func38, Tryz.ntmps38
 go_wp2_with fail
 obtain ⟨w3,hw3⟩:∃ w3,w3=(((w.alloc (.cells #[.int .i64 e,.slice a X.length c] 30)).alloc (.cells #[.slice da D.length dc] 42)).alloc (.cells #[.int .i64 0,.slice none 0 0] 30)):=⟨_,rfl⟩
 obtain ⟨N,hN⟩:∃ N,N=w.heap.size:=⟨_,rfl⟩
 have HZ:=Zh (show w3.heap.size=N+3 by rw [hw3,hN];simp)
 have HB3:=Zh (show Below N w w3 by rw [hw3,hN];go_grown)
 have HK:=Zh (show (w3.cell? ⟨N,0,none⟩=some (.int .i64 e)∧w3.cell? ⟨N,1,none⟩=some (.slice a X.length c))∧w3.cell? ⟨N+1,0,none⟩=some (.slice da D.length dc)∧(w3.cell? ⟨N+2,0,none⟩=some (.int .i64 0)∧w3.cell? ⟨N+2,1,none⟩=some (.slice none 0 0)∧w3.frozen? ⟨N+2,0,none⟩=false∧w3.frozen? ⟨N+2,1,none⟩=false) by
  rw [hw3,hN];refine ⟨⟨?_,?_⟩,?_,?_,?_,?_,?_⟩<;>simp [go_sem])
 have HOLD:Hid (∀ wq,Below (N+3) w3 wq→((wq.cell? ⟨N,0,none⟩=some (.int .i64 e)∧wq.cell? ⟨N,1,none⟩=some (.slice a X.length c))∧wq.cell? ⟨N+1,0,none⟩=some (.slice da D.length dc)∧(wq.cell? ⟨N+2,0,none⟩=some (.int .i64 0)∧wq.cell? ⟨N+2,1,none⟩=some (.slice none 0 0)∧wq.frozen? ⟨N+2,0,none⟩=false∧wq.frozen? ⟨N+2,1,none⟩=false))∧Below N w wq∧N+3≤wq.heap.size):=Zh (by
  intro wq hb
  obtain ⟨hc,hf⟩:=bcell hb
  obtain ⟨⟨q1,q2⟩,q3,q4,q5,q6,q7⟩:=HK.out
  refine ⟨⟨⟨(hc _ _ (by omega)).trans q1,(hc _ _ (by omega)).trans q2⟩,(hc _ _ (by omega)).trans q3,(hc _ _ (by omega)).trans q4,(hc _ _ (by omega)).trans q5,(hf _ _ (by omega)).trans q6,(hf _ _ (by omega)).trans q7⟩,HB3.out.trans (hb.mono (by omega)),?_⟩
  have:=hb.size;have:=HZ.out;omega)
 have HERR:Hid (∀ wq err,Below (N+3) w3 wq→NX=(err,Pj.zero)→NextR NX w (.returned (.tuple #[pjV 0 none 0 [],errV err])) ((wq.setCell ⟨N+2,0,none⟩ (.int .i64 0)).setCell ⟨N+2,1,none⟩ (.slice none 0 0))):=Zh (by
  intro wq err hb hx
  subst hx
  exact ⟨0,none,0,[],rfl,rfl,OwnJ.nil _ _,by rw [←hN];exact ((HOLD.out wq hb).2.1.setCell (by simp) _).setCell (by simp) _⟩)
 rw [←hw3]
 have HN:=Lib.hid' hN
 simp only [←hN]
 clear hw3 hN
 refine (pcheck_any e a c X w3 (HS.out.below (by rw [←HN.out];exact Nat.le_refl _) HB3.out) ht).mono ?_
 rintro en w4 ⟨rfl,hb4⟩
 have HB4:=Zh (show Below (N+3) w3 w4 from hb4.mono (by rw [HZ.out];exact Nat.le_refl _))
 clear hb4
 obtain ⟨⟨⟨k30,k31⟩,k40,k60,k61,f60,f61⟩,hbw4,hz4⟩:=HOLD.out w4 HB4.out
 have HBW4:=Lib.hid' hbw4
 clear hbw4
 by_cases hc:(docJ e X).check=0
 rotate_left
 ·have HE:=Zh (HERR.out w4 _ HB4.out (HNX.out.trans (next_bad hc)))
  rw [errV_pos hc] at HE ⊢
  clear hc
  go_wp2
  refine bodyPost_ret (v:=.tuple #[pjV 0 none 0 [],.iface 56 (.int .i64 ((docJ e X).check))]) (by simp [results,Tryz.results38,go_sem,pjV,k60,k61]) rfl HE.out
 have HCK:=Lib.hid' hc
 rw [hc,errV_0]
 have HOK:=Zh (Pj.ok_of hc)
 have hX4:X.length≤4:=by have:=HOK.out.n1;unfold docJ at this;simpa using this
 have HX4:=Zh (show ∀ x∈X,x.1.length≤4 from fun x hx=>(HOK.out.c x.1 (List.mem_map_of_mem hx)).2)
 have he0:0≤e:=HOK.out.e0
 have he1:e≤1099511627776:=HOK.out.e1
 clear hc
 go_wp2_with fail
 refine (pcopy_any e a c X w4 (HS.out.below (by rw [←HN.out];exact Nat.le_refl _) HBW4.out) (by omega) (fun x hx=>by have:=HX4.out x hx;omega)).mono ?_
 rintro en w5 ⟨a2,c2,K0,rfl,ho5,hk5,hb5⟩
 have HJ5:=Zh (ho5.base (B':=N+3) hz4)
 have HB5:=Zh (HB4.out.trans (hb5.mono hz4))
 have HK5:=Lib.hid' hk5
 have hz5:N+3≤w5.heap.size:=Nat.le_trans hz4 hb5.size
 have hK0:K0.length≤4:=by have:=congrArg List.length hk5;simp at this;omega
 clear k30 k31 k40 k60 k61 f60 f61 ho5 hk5 hb5
 unfold pjV
 go_wp2_with fail
 have hM5:N+3≤w5.heap.size:=hz5
 have HBX6:=Zh (show BoxW w5.heap.size [.int .i64 e,.slice a2 K0.length c2] 30 (w5.alloc (.cells #[.int .i64 e,.slice a2 K0.length c2] 30)) from BoxW.start _ _ _)
 have HJ6:=Zh (HJ5.out.below (w':=w5.alloc (.cells #[.int .i64 e,.slice a2 K0.length c2] 30)) (Nat.le_refl _) (by go_grown))
 have HB6:=Zh (show Below (N+3) w3 (w5.alloc (.cells #[.int .i64 e,.slice a2 K0.length c2] 30)) from HB5.out.alloc hM5 _)
 generalize w5.alloc (.cells #[.int .i64 e,.slice a2 K0.length c2] 30)=w6 at *
 obtain ⟨M,hM⟩:∃ M,M=w5.heap.size:=⟨_,rfl⟩
 have HMM:=Lib.hid' hM
 simp only [←hM] at HBX6 hM5 ⊢
 clear hM HJ5 hz5 hz4
 have HLX:=Zh (show (X.map (·.1)).length=K0.length by have:=congrArg List.length HK5.out;simpa using this.symm)
 go_loopw [30] (fun v30 wr=>∃ (k:Nat) (Ks:List Ch),v30=.int .i64 k∧k≤K0.length∧Hid (Ks.length=K0.length)∧Hid (Ks.map (·.1)=stepL D (X.map (·.1)) k)∧Hid (BoxW M [.int .i64 e,.slice a2 K0.length c2] 30 wr)∧Hid (OwnJ wr (N+3) a2 c2 Ks)∧Hid (Below (N+3) w3 wr)) (fun v30 _=>K0.length - (intOf v30).toNat)
 case atStart=>exact ⟨0,K0,rfl,Nat.zero_le _,Lib.hid' rfl,Zh (by rw [stepL_zero];exact HK5.out),HBX6,HJ6,HB6⟩
 case round =>
  obtain ⟨k,Ks,rfl,hk,HL,HKs,HBX,HJ,HB⟩:=hrel
  obtain ⟨⟨⟨k30,k31⟩,k40,k60,k61,f60,f61⟩,hbw,hzr⟩:=HOLD.out wr HB.out
  have HBW:=Lib.hid' hbw
  have x1:=HBX.out.box.1 1 _ rfl
  have x0:=HBX.out.box.1 0 _ rfl
  have f0:=HBX.out.box.2.1 0
  clear hbw
  by_cases hlt:k<K0.length
  ·have hltk:k<Ks.length:=by have:=HL.out;omega
   have hltx:k<(X.map (·.1)).length:=by have:=HLX.out;omega
   obtain ⟨g,rfl,hg0,hg1,cg,fg⟩:=HJ.out.at hltk
   have HST:=Zh (stepL_set (D:=D) hltx)
   have HGE:=Zh (show some Ks[k].1=some ((X.map (fun x:Ch=>x.1))[k]) by rw [←stepL_get (D:=D) hltx,←HKs.out,List.getElem?_map,List.getElem?_eq_getElem hltk];rfl)
   have hxl:((X.map (fun x:Ch=>x.1))[k]).length≤4:=by rw [List.getElem_map];exact HX4.out _ (List.getElem_mem _)
   have HXL:=Lib.hid' hxl
   have HRO:=Zh (HJ.out.each _ (List.getElem_mem hltk))
   obtain ⟨x,hx⟩:∃ x,Ks[k]=x:=⟨_,rfl⟩
   have HX:=Lib.hid' hx
   rw [hx] at cg HRO HGE
   clear hx hxl
   obtain ⟨xs,xa,xc⟩:=x
   simp only at cg HGE
   have hxs:xs.length≤4:=by have:=HGE.out;simp only [Option.some.injEq] at this;rw [this];exact HXL.out
   clear k30 k31 k60 k61 f60 f61 x0 f0
   go_wp2_with fail

   refine wp_region_held_drew (S:=(fun w'=>w'.cell? ⟨M,1,none⟩=some (.slice (some ⟨g,0,none⟩) K0.length c2))) (by kernel_rfl) (by simpa using x1) (fun hH0=>?_)
   refine tA 0 (.pointer (some ⟨M,1,none⟩)) rfl hH0 ?_ ?_
   ·intro w hSw;go_simp
   simp only [Act.put,gA,gZ,gS,sA,sZ,sS]
   refine tA 1 (.slice (some ⟨g,0,none⟩) K0.length c2) rfl hH0 ?_ ?_
   ·intro w hSw;go_simp
   simp only [Act.put,gA,gZ,gS,sA,sZ,sS]
   refine tA 2 (.int .i64 (k:Int)) rfl hH0 ?_ ?_
   ·intro w hSw;go_simp
   simp only [Act.put,gA,gZ,gS,sA,sZ,sS]
   refine tA 3 (.slice xa xs.length xc) rfl hH0 ?_ ?_
   ·intro w hSw;go_simp
   simp only [Act.put,gA,gZ,gS,sA,sZ,sS]
   refine tA 4 (.func (.func 84) #[] #[.pointer (some ⟨N+1,0,none⟩)]) rfl hH0 ?_ ?_
   ·intro w hSw;go_simp
   simp only [Act.put,gA,gZ,gS,sA,sZ,sS]
   refine rD 5 rfl (fun K hK=>?_)
   go_simp
   refine (show Calls Tryz.prog 87 #[.slice xa xs.length xc,.func (.func 84) #[] #[.pointer (some ⟨N+1,0,none⟩)]] wr.drew (CutR (N+3) xa xc (liveC D xs) (fun q=>(Value.slice xa 0 xc).ownBlock=some q) wr.drew) from deleteZ_any (B:=N+3) 84 #[.pointer (some ⟨N+1,0,none⟩)] (fun u=>D.contains u) xs xa xc wr.drew HRO.out (by omega) hcf1 ?_).mono ?_
   ·intro w9 u hf9
    have hb9:Below (N+3) w3 w9:=(HB.out.trans (Below.drew (Below.refl _ wr))).trans (hf9.below (by show N+3≤wr.heap.size;exact hzr) (fun q hq=>(own_blk HRO.out (v:=.slice xa xs.length xc) (by rw [←hq];cases xa<;>rfl)).1))
    have hq:=HOLD.out w9 hb9
    exact (pgone_any D da dc (N+1) u w9 hq.1.2.1 (SlV.below HD.out (by rw [←HN.out];exact Nat.le_refl _) hq.2.1)).mono (fun e w' ⟨h1,h2⟩=>⟨h1,0,by rw [←h2];rfl⟩)
   rintro en w7 ⟨rfl,ho7,hf7⟩
   have hf7':Fr (fun q=>(chV (xs,xa,xc)).ownBlock=some q) wr w7:=(Fr.of_below (F:=fun q=>(chV (xs,xa,xc)).ownBlock=some q) (Below.drew (Below.refl _ wr))).trans hf7 (fun i hi=>.inl (by rw [←hi];cases xa<;>rfl))
   obtain ⟨⟨zg,gg,hx7,hMg⟩,hp2,hp3,hp4⟩:=HJ.out.put hzr hltk HX.out (liveC D xs,xa,xc) HBX.out (by decide) (by decide) hf7' ho7 (fun b hb=>.inl (by rw [←hb];cases xa<;>rfl))
   have z1:=hx7.box.1 1 _ rfl
   have HX7:=Lib.hid' hx7
   have HP2:=Zh (show OwnJ (w7.setCell ⟨g,k,none⟩ (.slice xa (liveC D xs).length xc)) _ _ _ _ from hp2)
   have HP3:=Zh (show BoxW M _ _ (w7.setCell ⟨g,k,none⟩ (.slice xa (liveC D xs).length xc)) from hp3)
   have HP4:=Zh (show Below (N+3) w3 (w7.setCell ⟨g,k,none⟩ (.slice xa (liveC D xs).length xc)) from hp4 _ HB.out)
   simp only [chV] at zg
   have HMG:=Lib.hid' hMg
   clear ho7 hf7 hf7' hp2 hp3 hp4 hx7 hMg
   refine hK.out _ _ ?_ (fun hH1=>?_)
   ·exact z1
   clear hK K
   refine rD 6 rfl (fun K hK=>?_)
   go_simp
   refine hK.out _ _ ?_ (fun hH2=>?_)
   ·exact z1
   clear hK K
   refine rD 7 rfl (fun K hK=>?_)
   go_simp
   refine hK.out _ _ ?_ (fun hH3=>?_)
   ·exact (fr_set _ _ _ _).cell z1 HMG.out
   clear hK K
   refine wpAnyH_done (by kernel_rfl) ?_ _
   generalize w7.setCell ⟨g,k,none⟩ (.slice xa (liveC D xs).length xc)=w8 at *
   go_wp2_with fail
   go_roundw
   case rel=>exact ⟨k+1,Ks.set k (liveC D xs,xa,xc),by go_num,by omega,Zh (by rw [List.length_set];exact HL.out),Zh (by rw [List.map_set,HKs.out,←HST.out];have:=HGE.out;simp only [Option.some.injEq] at this;rw [←this]),HP3,HP2,HP4⟩
   case measure=>simp [intOf];omega

  ·obtain rfl:k=K0.length:=by omega
   have HCS:=Zh (show Ks.map (·.1)=(X.map (·.1)).map (liveC D) by rw [HKs.out,←stepL_all,HLX.out])
   clear hlt hk HKs HBX6 HJ6 HB6
   have HPD:=Zh (containsFZ_any 56 #[] oddU D da dc wr (SlV.below HD.out (by rw [←HN.out];exact Nat.le_refl _) HBW.out) hcf3 (Zh (pred_odd _)))
   go_wp2_with fail
   refine HPD.out.mono ?_
   rintro en wa ⟨rfl,hba⟩
   have HBA:=Zh (HB.out.trans (hba.mono hzr))
   have HJA:=Zh (HJ.out.below (Nat.le_refl _) hba)
   have HXA:=Zh (HBX.out.below (Nat.le_refl _) hba)
   clear hba HPD k30 k31 k40 k60 k61 f60 f61 x1 x0 f0 HBW hzr HB HJ HBX
   obtain ⟨⟨⟨k30,k31⟩,k40,k60,k61,f60,f61⟩,hbw,hzr⟩:=HOLD.out wa HBA.out
   have HBW:=Lib.hid' hbw
   clear hbw
   cases hod:D.any oddU with
   | true =>
    have HE:=Zh (HERR.out wa 1 HBA.out (HNX.out.trans (next_1 HCK.out (.inl hod))))
    clear hod
    go_wp2
    refine bodyPost_ret (v:=.tuple #[pjV 0 none 0 [],.iface 56 (.int .i64 1)]) (by simp [results,Tryz.results38,go_sem,pjV,k60,k61]) rfl HE.out
   | false =>
   have HOD:=Lib.hid' hod
   clear hod
   have HPS:=Zh (containsFZ_any 56 #[] oddU S sa sc wa (SlV.below HSP.out (by rw [←HN.out];exact Nat.le_refl _) HBW.out) hcf3 (Zh (pred_odd _)))
   go_wp2_with fail
   refine HPS.out.mono ?_
   rintro en wb ⟨rfl,hbb⟩
   have HBB:=Zh (HBA.out.trans (hbb.mono hzr))
   have HJB:=Zh (HJA.out.below (Nat.le_refl _) hbb)
   have HXB:=Zh (HXA.out.below (Nat.le_refl _) hbb)
   clear hbb HPS k30 k31 k40 k60 k61 f60 f61 HBW hzr HBA HJA HXA
   obtain ⟨⟨⟨k30,k31⟩,k40,k60,k61,f60,f61⟩,hbw,hzr⟩:=HOLD.out wb HBB.out
   have HBW:=Lib.hid' hbw
   clear hbw
   cases hos:S.any oddU with
   | true =>
    have HE:=Zh (HERR.out wb 1 HBB.out (HNX.out.trans (next_1 HCK.out (.inr hos))))
    clear hos
    go_wp2
    refine bodyPost_ret (v:=.tuple #[pjV 0 none 0 [],.iface 56 (.int .i64 1)]) (by simp [results,Tryz.results38,go_sem,pjV,k60,k61]) rfl HE.out
   | false =>
   have HNO:=Zh (show ¬(D.any oddU=true∨S.any oddU=true) by rw [HOD.out,hos];rintro (h | h)<;>cases h)
   clear hos
   cases hE:(e==1099511627776) with
   | true =>
    have HE:=Zh (HERR.out wb 5 HBB.out (HNX.out.trans (next_5 HCK.out HNO.out (show e=_ by simpa using hE))))
    go_wp2
    refine bodyPost_ret (v:=.tuple #[pjV 0 none 0 [],.iface 56 (.int .i64 5)]) (by simp [results,Tryz.results38,go_sem,pjV,k60,k61]) rfl HE.out
   | false =>
   have HEF:=Zh (show ¬e=1099511627776 by simpa using hE)
   have he2:e<1099511627776:=by have:=HEF.out;omega
   have x1:=HXB.out.box.1 1 _ rfl
   have x0:=HXB.out.box.1 0 _ rfl
   have f0:=HXB.out.box.2.1 0
   have hlost:=containsFR_any 86 lostN Ks a2 c2 wb HJB.out.chs hcf2 (Lib.hid' pred_lost)
   rw [HL.out,any_lost,HCS.out] at hlost
   have HLOST:=Lib.hid' hlost
   clear hlost
   go_wp2_with fail
   refine HLOST.out.mono ?_
   rintro en wc ⟨rfl,rfl⟩
   clear HLOST
   cases hlo:((X.map (·.1)).map (liveC D)).any (·.isEmpty) with
   | true =>
    have HE:=Zh (HERR.out wb 13 HBB.out (HNX.out.trans (next_13 HCK.out HNO.out HEF.out hlo)))
    clear hlo
    go_wp2
    refine bodyPost_ret (v:=.tuple #[pjV 0 none 0 [],.iface 56 (.int .i64 13)]) (by simp [results,Tryz.results38,go_sem,pjV,k60,k61]) rfl HE.out
   | false =>
   have HFIN:=Zh (HNX.out.trans (next_0 HCK.out HNO.out HEF.out (show ¬((docJ e X).cs.map (liveC D)).any (·.isEmpty)=true by rw [show (docJ e X).cs=X.map (·.1) from rfl,hlo];decide)))
   clear hlo hE HERR HOD
   have hMz:=HXB.out.lt
   go_wp2_with fail
   have HXD:=Zh (show BoxW M [.int .i64 (e+1),.slice a2 K0.length c2] 30 (wb.setCell ⟨M,0,none⟩ (.int .i64 (e+1))) from heap_setCell_same _ _ 0 _ _ _ HXB.out)
   have HJD:=Zh (show OwnJ (wb.setCell ⟨M,0,none⟩ (.int .i64 (e+1))) (N+3) a2 c2 Ks from
    have hF:∀ {e' n:Nat} {v:Value} {xs:List Value},wb.ownsRow (N+3) e' 1 v n xs→30≠e'→SlIn (fun q=>¬q=M) v:=fun ho hne=>own_slin ho (fun b hb h=>own_not_box ho HXB.out hne (h▸hb))
    ⟨own_fr HJB.out.row (fr_set _ _ _ _) (hF HJB.out.row (by decide)),fun x hx=>own_fr (HJB.out.each x hx) (fr_set _ _ _ _) (hF (HJB.out.each x hx) (by decide)),HJB.out.apart⟩)
   have HBD:=Zh (show Below (N+3) w3 (wb.setCell ⟨M,0,none⟩ (.int .i64 (e+1))) from HBB.out.setCell (by simp;exact hM5) _)
   generalize wb.setCell ⟨M,0,none⟩ (.int .i64 (e+1))=wd at *
   have HK4:=Zh (show ∀ x∈Ks,x.1.length≤4 by
    intro x hx
    have h1:x.1∈(X.map (·.1)).map (liveC D):=by rw [←HCS.out];exact List.mem_map_of_mem hx
    obtain ⟨y,hy,he⟩:=List.mem_map.1 h1
    obtain ⟨z,hz,hzy⟩:=List.mem_map.1 hy
    rw [←he]
    have h2:=List.length_filter_le (fun u=>!D.contains u) y
    have h3:=HX4.out z hz
    rw [hzy] at h3
    exact Nat.le_trans h2 h3)
   obtain ⟨FIN,hFI⟩:∃ FIN,FIN=fillC D S (X.map (·.1)) 0 ((X.map (·.1)).map (liveC D)):=⟨_,rfl⟩
   have HFI:=Zh (show NX=(0,⟨e+1,FIN⟩) by rw [hFI];exact HFIN.out)
   have HFS:=Zh (show fillC D S ((X.map (·.1)).drop 0) 0 (Ks.map (·.1))=FIN by rw [HCS.out,hFI];rfl)
   clear hFI x0 x1 f0 k30 k31 k40 k60 k61 f60 f61 HBW hzr HXB HJB HBB HCS hcf2 hcf3 HFIN hMz
   go_loopw [72] (fun v72 wr=>∃ (k:Nat) (Ks:List Ch),v72=.int .i64 k∧k≤X.length∧Hid (Ks.length=K0.length)∧Hid (∀ x∈Ks,x.1.length≤4)∧Hid (fillC D S ((X.map (·.1)).drop k) k (Ks.map (·.1))=FIN)∧Hid (BoxW M [.int .i64 (e+1),.slice a2 K0.length c2] 30 wr)∧Hid (OwnJ wr (N+3) a2 c2 Ks)∧Hid (Below (N+3) w3 wr)) (fun v72 _=>X.length - (intOf v72).toNat)
   case atStart=>exact ⟨0,Ks,rfl,Nat.zero_le _,HL,HK4,HFS,HXD,HJD,HBD⟩
   case round =>
    clear HK4 HFS HXD HJD HBD HL
    obtain ⟨k,Ks,rfl,hk,HL,HK4,HFS,HBX,HJ,HB⟩:=hrel
    obtain ⟨⟨⟨k30,k31⟩,k40,k60,k61,f60,f61⟩,hbw,hzr⟩:=HOLD.out wr HB.out
    have HBW:=Lib.hid' hbw
    clear hbw
    by_cases hlt:k<X.length
    ·have hltL:k<(X.map (·.1)).length:=by simpa using hlt
     obtain ⟨b,off,rfl,hb,hc,_⟩:=(HS.out.below (by rw [←HN.out];exact Nat.le_refl _) HBW.out).at hlt
     have HFS2:=Zh ((fill_next hltL _).symm.trans HFS.out)
     have HY:=Zh (show (X.map (·.1))[k]=X[k].1 from List.getElem_map _)
     rw [HY.out] at HFS2
     have hy4:=HX4.out _ (List.getElem_mem hlt)
     clear HFS HY
     generalize X[k]=y at *
     obtain ⟨ys,ya,yc⟩:=y
     simp only at hc hy4 HFS2
     go_wp2_with fail
     obtain ⟨wo,rfl⟩:∃ wo:World,wo=wr:=⟨_,rfl⟩
     obtain ⟨Ko,rfl⟩:∃ Ko:List Ch,Ko=Ks:=⟨_,rfl⟩
     go_loopw [79] (fun v79 wr=>∃ (j:Nat) (Ks:List Ch),v79=.int .i64 j∧j≤S.length∧Hid (Ks.length=K0.length)∧Hid (∀ x∈Ks,x.1.length≤4)∧Hid (fillC D S ((X.map (·.1)).drop (k+1)) (k+1) ((S.drop j).foldl (spareStep D k ys.length) (Ks.map (·.1)))=FIN)∧Hid (BoxW M [.int .i64 (e+1),.slice a2 K0.length c2] 30 wr)∧Hid (OwnJ wr (N+3) a2 c2 Ks)∧Hid (Below (N+3) w3 wr)) (fun v79 _=>S.length - (intOf v79).toNat)
     case atStart=>exact ⟨0,Ko,rfl,Nat.zero_le _,HL,HK4,Zh (by rw [List.drop_zero];exact HFS2.out),HBX,HJ,HB⟩
     case round =>
      clear HL HK4 HFS2 HBX HJ HB HBW hzr k30 k31 k40 k60 k61 f60 f61 hb hc
      obtain ⟨j,Ks,rfl,hj,HL,HK4,HFS,HBX,HJ,HB⟩:=hrel
      obtain ⟨⟨⟨k30,k31⟩,k40,k60,k61,f60,f61⟩,hbw,hzr⟩:=HOLD.out wr HB.out
      have HBW:=Lib.hid' hbw
      clear hbw k30 k31 k60 k61 f60 f61
      by_cases hltj:j<S.length
      ·obtain ⟨b3,off3,rfl,hb3,hc3⟩:=(show Zs wr (.slice sa S.length sc) S from SlV.below HSP.out (by rw [←HN.out];exact Nat.le_refl _) HBW.out).at hltj
       have hltk:k<Ks.length:=by have:=HL.out;have:=HLX.out;simp at this;omega
       obtain ⟨g,rfl,hg0,hg1,cg,fg⟩:=HJ.out.at hltk
       have HF2:=Zh ((congrArg (fillC D S ((X.map (·.1)).drop (k+1)) (k+1)) (fold_next hltj _)).symm.trans HFS.out)
       have HRO:=Zh (HJ.out.each _ (List.getElem_mem hltk))
       have hx4:=HK4.out _ (List.getElem_mem hltk)
       have HGD:=Zh (show (Ks.map (·.1)).getD k []=Ks[k].1 by simp [List.getD,hltk])
       obtain ⟨x,hx⟩:∃ x,Ks[k]=x:=⟨_,rfl⟩
       have HX:=Lib.hid' hx
       rw [hx] at cg HRO HGD hx4
       clear hx HFS
       obtain ⟨xs,xa,xc⟩:=x
       simp only at cg HGD hx4
       have x1:=HBX.out.box.1 1 _ rfl
       have x0:=HBX.out.box.1 0 _ rfl
       have hMz:=HBX.out.lt
       have hltK0:k<K0.length:=by have:=HL.out;omega
       generalize S[j]=u at *
       by_cases hroom:xs.length<ys.length
       rotate_left
       ·have HSTEP:=Zh (step_no1 (D:=D) (u:=u) (show ¬((Ks.map (·.1)).getD k []).length<ys.length by rw [HGD.out];exact hroom))
        go_wp2_with fail
        go_roundw
        case rel=>exact ⟨j+1,Ks,by go_num,by omega,HL,HK4,Zh (by have:=HF2.out;rw [HSTEP.out] at this;exact this),HBX,HJ,HB⟩
        case measure=>simp [intOf];omega
       have HPG:=Zh (pgone_any D da dc (N+1) u wr k40 (SlV.below HD.out (by rw [←HN.out];exact Nat.le_refl _) HBW.out))
       go_wp2_with fail
       refine HPG.out.mono ?_
       rintro en wq ⟨rfl,rfl⟩
       clear HPG
       cases hgone:D.contains u with
       | true =>
        have HSTEP:=Zh (step_no2 (i:=k) (m:=ys.length) (cs:=Ks.map (·.1)) hgone)
        clear hgone
        go_wp2_with fail
        go_roundw
        case rel=>exact ⟨j+1,Ks,by go_num,by omega,HL,HK4,Zh (by have:=HF2.out;rw [HSTEP.out] at this;exact this),HBX,HJ,HB⟩
        case measure=>simp [intOf];omega
       | false =>
       have HGONE:=Lib.hid' hgone
       clear hgone
       have hfl:(flatC Ks).length≤1099511627776:=by have:=flat_len4 HK4.out;have:=HL.out;omega
       have hun:=punits_any (e+1) (some ⟨g,0,none⟩) c2 Ks wr HJ.out.chs hfl
       unfold pjV at hun
       rw [HL.out] at hun
       have HUN:=Lib.hid' hun
       clear hun
       go_wp2_with fail
       refine HUN.out.mono ?_
       rintro en wu ⟨a8,c8,rfl,ho8,hb8⟩
       have HO8:=Lib.hid' ho8
       have HBU:=Zh (HB.out.trans (hb8.mono hzr))
       have HJU:=Zh (HJ.out.below (Nat.le_refl _) hb8)
       have HXU:=Zh (HBX.out.below (Nat.le_refl _) hb8)
       have hzu:N+3≤wu.heap.size:=Nat.le_trans hzr hb8.size
       have HCN:=Zh (containsZ_any u (unitsOf (flatC Ks)) a8 c8 wu (SlV.of_own ho8))
       clear ho8 hb8 HUN
       go_wp2_with fail
       refine HCN.out.mono ?_
       rintro en wq ⟨rfl,rfl⟩
       clear HCN
       have HANY:=Zh (show (unitsOf (flatC Ks)).any (fun y=>u==y)=true↔u∈(Ks.map (·.1)).flatten by
        rw [contains_any,List.contains_iff_mem,unitsOf_mem];rfl)
       generalize (unitsOf (flatC Ks)).any (fun y=>u==y)=isin at *
       cases isin with
       | true =>
        have HSTEP:=Zh (step_no3 (D:=D) (i:=k) (m:=ys.length) (HANY.out.1 rfl))
        go_wp2_with fail
        go_roundw
        case rel=>exact ⟨j+1,Ks,by go_num,by omega,HL,HK4,Zh (by have:=HF2.out;rw [HSTEP.out] at this;exact this),HXU,HJU,HBU⟩
        case measure=>simp [intOf];omega
       | false =>
       have HSTEP:=Zh (step_yes (i:=k) (m:=ys.length) (cs:=Ks.map (·.1)) (u:=u) (show ((Ks.map (·.1)).getD k []).length<ys.length by rw [HGD.out];exact hroom) HGONE.out (fun h=>by have:=HANY.out.2 h;cases this))
       rw [HGD.out] at HSTEP
       clear x0 x1 cg fg hg0 hg1 k40
       obtain ⟨g',hgg,hg0,hg1,cg,fg⟩:=HJU.out.at hltk
       simp only [Option.some.injEq,Addr.mk.injEq,and_true] at hgg
       subst hgg
       rw [HX.out] at cg
       simp only at cg
       have x1:=HXU.out.box.1 1 _ rfl
       have hMu:=HXU.out.lt
       have HROU:=Zh (show wu.ownsRow (N+3) 3 1 (.slice xa xs.length xc) xs.length (zVs xs) by have:=HJU.out.each _ (List.getElem_mem hltk);rw [HX.out] at this;exact this)
       clear HO8 HB HJ HBX HBW hzr HRO
       go_wp2_with fail

       refine wp_region_held_drew (S:=(fun w'=>w'.cell? ⟨M,1,none⟩=some (.slice (some ⟨g,0,none⟩) K0.length c2))) (by kernel_rfl) (by simpa using x1) (fun hH0=>?_)
       refine tA 0 (.pointer (some ⟨M,1,none⟩)) rfl hH0 ?_ ?_
       ·intro w hSw;go_simp
       simp only [Act.put,gA,gZ,gS,sA,sZ,sS]
       refine tA 1 (.slice (some ⟨g,0,none⟩) K0.length c2) rfl hH0 ?_ ?_
       ·intro w hSw;go_simp
       simp only [Act.put,gA,gZ,gS,sA,sZ,sS]
       refine tA 2 (.int .i64 (k:Int)) rfl hH0 ?_ ?_
       ·intro w hSw;go_simp
       simp only [Act.put,gA,gZ,gS,sA,sZ,sS]
       refine tA 3 (.pointer (some ⟨M,1,none⟩)) rfl hH0 ?_ ?_
       ·intro w hSw;go_simp
       simp only [Act.put,gA,gZ,gS,sA,sZ,sS]
       refine tA 4 (.slice (some ⟨g,0,none⟩) K0.length c2) rfl hH0 ?_ ?_
       ·intro w hSw;go_simp
       simp only [Act.put,gA,gZ,gS,sA,sZ,sS]
       refine tA 5 (.int .i64 (k:Int)) rfl hH0 ?_ ?_
       ·intro w hSw;go_simp
       simp only [Act.put,gA,gZ,gS,sA,sZ,sS]
       refine tA 8 (.int .i64 u) rfl hH0 ?_ ?_
       ·intro w hSw;go_simp
       simp only [Act.put,gA,gZ,gS,sA,sZ,sS]
       refine wpAnyH_ready (rs:=[6,9]) (by kernel_rfl) (by simp) (AllReadyH.cons (o:=_) rfl (fun K hK=>?_) (AllReadyH.cons (o:=_) rfl (fun K hK=>?_) AllReadyH.nil))
       ·skip
        go_simp
        refine hK.out _ _ ?_ (fun hH1=>?_)
        ·exact hH0
        clear hK K
        refine wpAnyH_ready (rs:=[7,9]) (by kernel_rfl) (by simp) (AllReadyH.cons (o:=_) rfl (fun K hK=>?_) (AllReadyH.cons (o:=_) rfl (fun K hK=>?_) AllReadyH.nil))
        ·skip
         go_simp
         refine hK.out _ _ ?_ (fun hH2=>?_)
         ·exact hH1
         clear hK K
         refine rD 9 rfl (fun K hK=>?_)
         go_simp
         refine hK.out _ _ ?_ (fun hH3=>?_)
         ·simp [go_sem,x1,hMu]
         clear hK K
         refine rD 10 rfl (fun K hK=>?_)
         refine step_one2 (w:=wu.drew) etInts rfl (.tmp 112) (.tmp 114) rfl [.int .i64 u] rfl (N+3) xs.length (zVs xs) (.slice xa xs.length xc) rfl HROU.out rfl (by simp [Value.oneCell']) (by omega) (by show N+3≤wu.heap.size;exact hzu) ?_
         intro a9 c9 w9 ho9 hf9 hq9
         have hf9':Fr (fun q=>(chV (xs,xa,xc)).ownBlock=some q) wu w9:=(Fr.of_below (F:=fun q=>(chV (xs,xa,xc)).ownBlock=some q) (Below.drew (Below.refl _ wu))).trans hf9 (fun i hi=>.inl hi)
         have HL9:=Zh (show (xs++[u]).length=xs.length+1 from by simp)
         obtain ⟨⟨zg,gg,hx7,hMg⟩,hp2,hp3,hp4⟩:=HJU.out.put hzu hltk HX.out (xs++[u],a9,c9) HXU.out (by decide) (by decide) hf9' (by unfold chV;simp only [HL9.out,zVs_append];exact ho9) (fun b hb=>by unfold chV at hb;simp only [HL9.out] at hb;exact hq9 b hb)
         simp only [chV,HL9.out] at zg hp2 hp3 hp4
         have z1:=hx7.box.1 1 _ rfl
         have HP2:=Lib.hid' hp2
         have HP3:=Lib.hid' hp3
         have HP4:=Zh (hp4 _ HBU.out)
         have HMG:=Lib.hid' hMg
         clear ho9 hf9 hf9' hp2 hp3 hp4 hx7 hMg hq9
         refine hK.out _ _ ?_ (fun hH4=>?_)
         ·exact z1
         clear hK K
         refine rD 11 rfl (fun K hK=>?_)
         go_simp
         refine hK.out _ _ ?_ (fun hH5=>?_)
         ·exact z1
         clear hK K
         refine rD 12 rfl (fun K hK=>?_)
         go_simp
         refine hK.out _ _ ?_ (fun hH6=>?_)
         ·exact (fr_set _ _ _ _).cell z1 HMG.out
         clear hK K
         refine wpAnyH_done (by kernel_rfl) ?_ _
         generalize w9.setCell ⟨g,k,none⟩ (.slice a9 (xs.length+1) c9)=w8 at *
         go_wp2_with fail
         go_roundw
         case rel=>exact ⟨j+1,Ks.set k (xs++[u],a9,c9),by go_num,by omega,Zh (by rw [List.length_set];exact HL.out),Zh (fun z hz=>by rcases List.mem_or_eq_of_mem_set hz with hz | rfl;exact HK4.out z hz;simp only [HL9.out];omega),Zh (by have:=HF2.out;rw [HSTEP.out] at this;rw [List.map_set];exact this),HP3,HP2,HP4⟩
         case measure=>simp [intOf];omega
        ·skip
         go_simp
         refine hK.out _ _ ?_ (fun hH2=>?_)
         ·simp [go_sem,x1,hMu]
         clear hK K
         refine rD 7 rfl (fun K hK=>?_)
         go_simp
         refine hK.out _ _ ?_ (fun hH3=>?_)
         ·exact hH2
         clear hK K
         refine rD 10 rfl (fun K hK=>?_)
         refine step_one2 (w:=wu.drew) etInts rfl (.tmp 112) (.tmp 114) rfl [.int .i64 u] rfl (N+3) xs.length (zVs xs) (.slice xa xs.length xc) rfl HROU.out rfl (by simp [Value.oneCell']) (by omega) (by show N+3≤wu.heap.size;exact hzu) ?_
         intro a9 c9 w9 ho9 hf9 hq9
         have hf9':Fr (fun q=>(chV (xs,xa,xc)).ownBlock=some q) wu w9:=(Fr.of_below (F:=fun q=>(chV (xs,xa,xc)).ownBlock=some q) (Below.drew (Below.refl _ wu))).trans hf9 (fun i hi=>.inl hi)
         have HL9:=Zh (show (xs++[u]).length=xs.length+1 from by simp)
         obtain ⟨⟨zg,gg,hx7,hMg⟩,hp2,hp3,hp4⟩:=HJU.out.put hzu hltk HX.out (xs++[u],a9,c9) HXU.out (by decide) (by decide) hf9' (by unfold chV;simp only [HL9.out,zVs_append];exact ho9) (fun b hb=>by unfold chV at hb;simp only [HL9.out] at hb;exact hq9 b hb)
         simp only [chV,HL9.out] at zg hp2 hp3 hp4
         have z1:=hx7.box.1 1 _ rfl
         have HP2:=Lib.hid' hp2
         have HP3:=Lib.hid' hp3
         have HP4:=Zh (hp4 _ HBU.out)
         have HMG:=Lib.hid' hMg
         clear ho9 hf9 hf9' hp2 hp3 hp4 hx7 hMg hq9
         refine hK.out _ _ ?_ (fun hH4=>?_)
         ·exact z1
         clear hK K
         refine rD 11 rfl (fun K hK=>?_)
         go_simp
         refine hK.out _ _ ?_ (fun hH5=>?_)
         ·exact z1
         clear hK K
         refine rD 12 rfl (fun K hK=>?_)
         go_simp
         refine hK.out _ _ ?_ (fun hH6=>?_)
         ·exact (fr_set _ _ _ _).cell z1 HMG.out
         clear hK K
         refine wpAnyH_done (by kernel_rfl) ?_ _
         generalize w9.setCell ⟨g,k,none⟩ (.slice a9 (xs.length+1) c9)=w8 at *
         go_wp2_with fail
         go_roundw
         case rel=>exact ⟨j+1,Ks.set k (xs++[u],a9,c9),by go_num,by omega,Zh (by rw [List.length_set];exact HL.out),Zh (fun z hz=>by rcases List.mem_or_eq_of_mem_set hz with hz | rfl;exact HK4.out z hz;simp only [HL9.out];omega),Zh (by have:=HF2.out;rw [HSTEP.out] at this;rw [List.map_set];exact this),HP3,HP2,HP4⟩
         case measure=>simp [intOf];omega
       ·skip
        go_simp
        refine hK.out _ _ ?_ (fun hH1=>?_)
        ·simp [go_sem,x1,hMu]
        clear hK K
        refine rD 6 rfl (fun K hK=>?_)
        go_simp
        refine hK.out _ _ ?_ (fun hH2=>?_)
        ·exact hH1
        clear hK K
        refine rD 7 rfl (fun K hK=>?_)
        go_simp
        refine hK.out _ _ ?_ (fun hH3=>?_)
        ·exact hH2
        clear hK K
        refine rD 10 rfl (fun K hK=>?_)
        refine step_one2 (w:=wu.drew) etInts rfl (.tmp 112) (.tmp 114) rfl [.int .i64 u] rfl (N+3) xs.length (zVs xs) (.slice xa xs.length xc) rfl HROU.out rfl (by simp [Value.oneCell']) (by omega) (by show N+3≤wu.heap.size;exact hzu) ?_
        intro a9 c9 w9 ho9 hf9 hq9
        have hf9':Fr (fun q=>(chV (xs,xa,xc)).ownBlock=some q) wu w9:=(Fr.of_below (F:=fun q=>(chV (xs,xa,xc)).ownBlock=some q) (Below.drew (Below.refl _ wu))).trans hf9 (fun i hi=>.inl hi)
        have HL9:=Zh (show (xs++[u]).length=xs.length+1 from by simp)
        obtain ⟨⟨zg,gg,hx7,hMg⟩,hp2,hp3,hp4⟩:=HJU.out.put hzu hltk HX.out (xs++[u],a9,c9) HXU.out (by decide) (by decide) hf9' (by unfold chV;simp only [HL9.out,zVs_append];exact ho9) (fun b hb=>by unfold chV at hb;simp only [HL9.out] at hb;exact hq9 b hb)
        simp only [chV,HL9.out] at zg hp2 hp3 hp4
        have z1:=hx7.box.1 1 _ rfl
        have HP2:=Lib.hid' hp2
        have HP3:=Lib.hid' hp3
        have HP4:=Zh (hp4 _ HBU.out)
        have HMG:=Lib.hid' hMg
        clear ho9 hf9 hf9' hp2 hp3 hp4 hx7 hMg hq9
        refine hK.out _ _ ?_ (fun hH4=>?_)
        ·exact z1
        clear hK K
        refine rD 11 rfl (fun K hK=>?_)
        go_simp
        refine hK.out _ _ ?_ (fun hH5=>?_)
        ·exact z1
        clear hK K
        refine rD 12 rfl (fun K hK=>?_)
        go_simp
        refine hK.out _ _ ?_ (fun hH6=>?_)
        ·exact (fr_set _ _ _ _).cell z1 HMG.out
        clear hK K
        refine wpAnyH_done (by kernel_rfl) ?_ _
        generalize w9.setCell ⟨g,k,none⟩ (.slice a9 (xs.length+1) c9)=w8 at *
        go_wp2_with fail
        go_roundw
        case rel=>exact ⟨j+1,Ks.set k (xs++[u],a9,c9),by go_num,by omega,Zh (by rw [List.length_set];exact HL.out),Zh (fun z hz=>by rcases List.mem_or_eq_of_mem_set hz with hz | rfl;exact HK4.out z hz;simp only [HL9.out];omega),Zh (by have:=HF2.out;rw [HSTEP.out] at this;rw [List.map_set];exact this),HP3,HP2,HP4⟩
        case measure=>simp [intOf];omega

      ·obtain rfl:j=S.length:=by omega
       have HFN:=Zh (show fillC D S ((X.map (·.1)).drop (k+1)) (k+1) (Ks.map (·.1))=FIN by have:=HFS.out;rw [List.drop_length] at this;exact this)
       go_wp2_with fail
       go_roundw
       case rel=>exact ⟨k+1,Ks,by go_num,by omega,HL,HK4,HFN,HBX,HJ,HB⟩
       case measure=>simp [intOf];omega
    ·obtain rfl:k=X.length:=by omega
     have x1:=HBX.out.box.1 1 _ rfl
     have x0:=HBX.out.box.1 0 _ rfl
     have HCSN:=Zh (show Ks.map (·.1)=FIN by have:=HFS.out;rwa [show X.length=(X.map (·.1)).length from by simp,fill_end] at this)
     have HRET:=Zh (show NextR NX w (.returned (.tuple #[.agg #[.int .i64 (e+1),.slice a2 K0.length c2],.nilIface])) ((wr.setCell ⟨N+2,0,none⟩ (.int .i64 (e+1))).setCell ⟨N+2,1,none⟩ (.slice a2 K0.length c2)) from by
      rw [HFI.out]
      refine ⟨e+1,a2,c2,Ks,by unfold pjV;rw [HL.out];rfl,by unfold docJ;rw [HCSN.out],?_,?_⟩
      ·exact (HJ.out.fr (F:=fun q=>q=N+2) ((fr_set _ _ _ _).trans (fr_set _ _ _ _) (fun i hi=>.inl hi)) (fun q hq=>by omega)).base (by rw [←HN.out];omega)
      ·rw [←HN.out];exact (HBW.out.setCell (by simp) _).setCell (by simp) _)
     go_wp2
     refine bodyPost_ret (v:=.tuple #[.agg #[.int .i64 (e+1),.slice a2 K0.length c2],.nilIface]) (by simp [results,Tryz.results38,go_sem,x0,x1,k60,k61]) rfl HRET.out
end Go.Proofs.YtimbeeiihbmofaaGreatDoor

namespace Go.Proofs.YtimbeeiihbmofaaGreatDoor
open Go.RowKit

def long11 (X:List Ch):Bool:=X.any (fun x=>decide (12<x.1.length))||decide (12<X.length)
set_option maxHeartbeats 1000000 in
theorem long11_any (e:Int) (a:Option Addr) (c:Nat) (X:List Ch) (w:World) (h:Chs w a c X) :
  Calls Tryz.prog 6 #[pjV e a c X] w fun en w'=>en=.returned (.bool (long11 X))∧Below w.heap.size w w':=by
 have HS:=Lib.hid' h
 have hlen:=h.len
 clear h
 unfold pjV
 go_enter Tryz.func6, Tryz.ntmps6
 go_wp2_with fail
 have HB0:=Zh (show Below w.heap.size w (w.alloc (.cells #[.int .i64 e,.slice a X.length c] 30)) by go_grown)
 have x1:(w.alloc (.cells #[.int .i64 e,.slice a X.length c] 30)).cell? ⟨w.heap.size,1,none⟩=some (.slice a X.length c):=by simp [go_sem]
 generalize (w.alloc (.cells #[.int .i64 e,.slice a X.length c] 30))=w1 at *
 go_loop [8] (fun v8=>∃ k:Nat,v8=.int .i64 k∧k≤X.length∧Hid (∀ y∈X.take k,decide (12<y.1.length)=false)) (fun v8=>X.length - (intOf v8).toNat)
 case atStart=>exact ⟨0,rfl,Nat.zero_le _,Zh (by simp)⟩
 case round =>
  obtain ⟨k,rfl,hk,HNO⟩:=hrel
  by_cases hlt:k<X.length
  ·obtain ⟨b,off,rfl,hb,hc,hz⟩:=(HS.out.below (Nat.le_refl _) HB0.out).at hlt
   have hzl:=hz.len
   have HM:=Zh (List.getElem_mem hlt)
   have HT:=Zh (fun h2=>take_no (f:=fun x:Ch=>decide (12<x.1.length)) hlt HNO.out h2)
   clear hz
   generalize X[k]=y at *
   by_cases hq:12<y.1.length
   ·have HF:=Zh (show long11 X=true by
     unfold long11;rw [Bool.or_eq_true];exact .inl (List.any_eq_true.2 ⟨y,HM.out,by simpa using hq⟩))
    go_wp2_with fail
    go_ret
    exact ⟨ret_eq (by rw [HF.out];rfl),HB0.out⟩
   ·have HF:=Zh (HT.out (by simpa using hq))
    go_wp2_with fail
    go_round
    case rel=>exact ⟨k+1,by go_num,by omega,HF⟩
    case measure=>simp [intOf];omega
  ·have HNA:=Zh (show X.any (fun x=>decide (12<x.1.length))=false by
    have:=HNO.out;rw [List.take_of_length_le (by omega)] at this
    rw [List.any_eq_false];intro y hy;rw [this y hy];decide)
   go_wp2_with fail
   go_ret
   exact ⟨ret_eq (by unfold long11;rw [HNA.out];show Value.bool (decide ((12:Int)<(X.length:Int)))=_;congr 1;rw [Bool.eq_iff_iff];simp;omega),HB0.out⟩
theorem long11_flat {X:List Ch} (h:long11 X=false):(flatC X).length≤144∧X.length≤12∧∀ x∈X,x.1.length≤12:=by
 unfold long11 at h
 rw [Bool.or_eq_false_iff] at h
 obtain ⟨h1,h2⟩:=h
 have h3:X.length≤12:=by simpa using h2
 have h4:∀ x∈X,x.1.length≤12:=by intro x hx;have:=List.any_eq_false.1 h1 x hx;simpa using this
 refine ⟨?_,h3,h4⟩
 have:∀ Y:List Ch,(∀ x∈Y,x.1.length≤12)→(flatC Y).length≤12*Y.length:=by
  intro Y hY
  unfold flatC
  induction Y with
  | nil=>simp
  | cons x Y ih =>
   have a1:=hY x List.mem_cons_self
   have a2:=ih (fun y hy=>hY y (List.mem_cons_of_mem _ hy))
   simp only [List.map_cons,List.flatten_cons,List.length_append,List.length_cons];omega
 have:=this X h4
 omega
end Go.Proofs.YtimbeeiihbmofaaGreatDoor
