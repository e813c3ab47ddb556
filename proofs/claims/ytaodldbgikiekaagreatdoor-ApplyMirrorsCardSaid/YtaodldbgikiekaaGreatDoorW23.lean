/- Proved here: a part of the proof (23 of 35). -/
import Derived.Test.YtaodldbgikiekaaGreatDoorW2
import Derived.Test.YtaodldbgikiekaaGreatDoorW1
import Derived.Test.YtaodldbgikiekaaGreatDoorW8
import Derived.Test.YtaodldbgikiekaaGreatDoorW3
import Derived.Lib.SliceRun
import Derived.Shelf.GgClosure.Gives
import Derived.Test.YtaodldbgikiekaaGreatDoorSlzL
import Derived.Sort.OwnSortedInts
import Derived.Laws.OwnMore
set_option linter.unusedSimpArgs false
set_option linter.unusedVariables false
set_option maxRecDepth 20000
namespace Go.Proofs.YtaodldbgikiekaaGreatDoor
open Go.RowKit

theorem etInts:ElemT Tryz.prog 30 3 1 8:=ElemT.mk' (z:=.int .i64 0) Tryz.underlying30 (by kernel_rfl) rfl (by decide) (by decide)
theorem etRows:ElemT Tryz.prog 55 30 1 24:=ElemT.mk' (z:=.slice none 0 0) Tryz.underlying55 (by kernel_rfl) rfl (by decide) (by decide)
def zVs (l:List Int):List Value:=l.map (Value.int .i64)
theorem zVs_append (a b:List Int):zVs (a++b)=zVs a++zVs b:=by simp [zVs]
theorem zVs_one (l:List Int):∀ u∈zVs l,u.oneCell'=true:=by intro u hu;obtain ⟨b,_,rfl⟩:=List.mem_map.1 hu;rfl
/-- the numbers of a slice value -/
def Zs (w:World) (v:Value) (l:List Int):Prop:=SlV w v l.length (zVs l)
theorem Zs.len {w:World} {a:Option Addr} {c:Nat} {l:List Int} (h:Zs w (.slice a l.length c) l):l.length≤9223372036854775807:=by
 obtain ⟨_,_,he,h1,h2,_⟩:=h;cases he;unfold maxLen at h2;omega
theorem Zs.at {w:World} {a:Option Addr} {n c:Nat} {l:List Int} (h:Zs w (.slice a n c) l) {k:Nat} (hk:k<l.length) :
  ∃ b off,a=some ⟨b,off,none⟩∧b<w.heap.size∧w.cell? ⟨b,off+k,none⟩=some (.int .i64 l[k]):=by
 have h':SlV w (.slice a n c) n (l.flatMap (fun x=>[Value.int .i64 x])):=by
  obtain ⟨a',c',he,r⟩:=h
  cases he
  refine ⟨a,c,rfl,?_⟩
  have:l.flatMap (fun x=>[Value.int .i64 x])=zVs l:=by
   clear r hk;induction l with
   | nil=>rfl
   | cons x l ih=>rw [List.flatMap_cons,ih];rfl
  rw [this];exact r
 obtain ⟨b,off,e,hb,hc⟩:=SlV.row (f:=fun x=>[Value.int .i64 x]) (s:=1) (fun _=>rfl) (by decide) h' hk
 refine ⟨b,off,e,hb,?_⟩
 have:=hc 0 _ rfl
 simpa using this
/-- a list's slice: the numbers, the address, the capacity -/
abbrev Ch:=List Int×Option Addr×Nat
def chV (x:Ch):Value:=.slice x.2.1 x.1.length x.2.2
/-- a slice of slices -/
structure Chs (w:World) (a:Option Addr) (c:Nat) (X:List Ch):Prop where
 rows:SlV w (.slice a X.length c) X.length (X.map chV)
 each:∀ x∈X,Zs w (chV x) x.1
theorem Chs.len {w:World} {a:Option Addr} {c:Nat} {X:List Ch} (h:Chs w a c X):X.length≤9223372036854775807:=by
 obtain ⟨_,_,he,h1,h2,_⟩:=h.rows;cases he;unfold maxLen at h2;omega
theorem Chs.below {w w':World} {a:Option Addr} {c:Nat} {X:List Ch} (h:Chs w a c X) {B:Nat} (hB:w.heap.size≤B) (hb:Below B w w'):Chs w' a c X :=
 ⟨SlV.below h.rows hB hb,fun x hx=>SlV.below (h.each x hx) hB hb⟩
theorem Chs.at {w:World} {a:Option Addr} {c:Nat} {X:List Ch} (h:Chs w a c X) {k:Nat} (hk:k<X.length) :
  ∃ b off,a=some ⟨b,off,none⟩∧b<w.heap.size∧w.cell? ⟨b,off+k,none⟩=some (.slice X[k].2.1 X[k].1.length X[k].2.2)∧Zs w (.slice X[k].2.1 X[k].1.length X[k].2.2) X[k].1:=by
 have h':SlV w (.slice a X.length c) X.length (X.flatMap (fun x=>[chV x])):=by
  have:X.flatMap (fun x=>[chV x])=X.map chV:=by
   clear h hk;induction X with
   | nil=>rfl
   | cons x l ih=>rw [List.flatMap_cons,ih];rfl
  rw [this];exact h.rows
 obtain ⟨b,off,e,hb,hc⟩:=SlV.row (f:=fun x=>[chV x]) (s:=1) (fun _=>rfl) (by decide) h' hk
 refine ⟨b,off,e,hb,?_,h.each _ (List.getElem_mem hk)⟩
 have:=hc 0 _ rfl
 simpa [chV] using this

/-- a function value that tells of numbers -/
def PredZ (f:Nat) (cap:Array Value) (p:Int→Bool) (w:World):Prop :=
 ∀ w' x,Below w.heap.size w w'→Calls Tryz.prog f (#[.int .i64 x]++cap) w' fun e w''=>e=.returned (.bool (p x))∧Below w'.heap.size w' w''
set_option maxHeartbeats 400000 in
theorem indexFZ_any (f:Nat) (cap:Array Value) (p:Int→Bool) (l:List Int) (a:Option Addr) (c:Nat) (w:World) (h:Zs w (.slice a l.length c) l) (hcf:∀ args w,(callFunc f args).run Tryz.prog w=.ok (.enter f args) w) (hp:Hid (PredZ f cap p w)) :
  Calls Tryz.prog 110 #[.slice a l.length c,.func (.func f) #[] cap] w fun e w'=>e=.returned (.int .i64 (idxB p l))∧Below w.heap.size w w':=by
 have HS:=Lib.hid' h
 have hlen:=h.len
 clear h
 go_enter Tryz.func110, Tryz.ntmps110
 go_wp2_with fail
 go_loopw [8] (fun v8 wr=>∃ k:Nat,v8=.int .i64 k∧k≤l.length∧Hid (∀ y∈l.take k,p y=false)∧Hid (Below w.heap.size w wr)) (fun v8 _=>l.length - (intOf v8).toNat)
 case atStart=>exact ⟨0,rfl,Nat.zero_le _,Zh (by simp),Zh (Below.refl _ _)⟩
 case round =>
  obtain ⟨k,rfl,hk,HNO,HB⟩:=hrel
  by_cases hlt:k<l.length
  ·obtain ⟨b,off,rfl,hb,hc'⟩:=HS.out.at hlt
   have hc:wr.cell? ⟨b,off+k,none⟩=some (.int .i64 l[k]):=(HB.out.cell (p:=⟨b,off+k,none⟩) hb).trans hc'
   have HH:=Zh (fun h2=>idxB_hit (f:=p) hlt HNO.out h2)
   have HT:=Zh (fun h2=>take_no (f:=p) hlt HNO.out h2)
   clear hc'
   generalize l[k]=y at *
   go_wp2_with fail
   refine (hp.out wr y HB.out).mono ?_
   rintro e w2 ⟨rfl,hb2⟩
   have HB2:=Zh (HB.out.trans (hb2.mono HB.out.size))
   clear hb2
   cases hq:p y with
   | true =>
    have HF:=Zh (HH.out hq)
    go_wp2_with fail
    go_ret
    exact ⟨ret_eq (by rw [HF.out];rfl),HB2.out⟩
   | false =>
    have HF:=Zh (HT.out hq)
    go_wp2_with fail
    go_roundw
    case rel=>exact ⟨k+1,by go_num,by omega,HF,HB2⟩
    case measure=>simp [intOf];omega
  ·have HF:=Zh (idxB_none (f:=p) (by have:=HNO.out;rwa [List.take_of_length_le (by omega)] at this))
   go_wp2_with fail
   go_ret
   exact ⟨ret_eq (by rw [HF.out];rfl),HB.out⟩
theorem containsFZ_any (f:Nat) (cap:Array Value) (p:Int→Bool) (l:List Int) (a:Option Addr) (c:Nat) (w:World) (h:Zs w (.slice a l.length c) l) (hcf:∀ args w,(callFunc f args).run Tryz.prog w=.ok (.enter f args) w) (hp:Hid (PredZ f cap p w)) :
  Calls Tryz.prog 66 #[.slice a l.length c,.func (.func f) #[] cap] w fun e w'=>e=.returned (.bool (l.any p))∧Below w.heap.size w w':=by
 have HC:=Zh (indexFZ_any f cap p l a c w h hcf hp)
 have HA:=Zh (idxB_any p l)
 clear h hcf hp
 go_enter Tryz.func66, Tryz.ntmps66
 go_wp2_with fail
 refine HC.out.mono ?_
 rintro e w' ⟨rfl,hb⟩
 have HB:=Lib.hid' hb
 clear hb
 generalize idxB p l=i at *
 go_wp2
 go_ret
 exact ⟨ret_eq (by rw [←HA.out];rfl),HB.out⟩
/-- a function value that tells of lists by their length -/
def PredN (f:Nat) (p:Nat→Bool):Prop:=∀ a n c w',n≤9223372036854775807→Calls Tryz.prog f #[.slice a n c] w' fun e w''=>e=.returned (.bool (p n))∧w'=w''
set_option maxHeartbeats 400000 in
theorem indexFR_any (f:Nat) (p:Nat→Bool) (X:List Ch) (a:Option Addr) (c:Nat) (w:World) (h:Chs w a c X) (hcf:∀ args w,(callFunc f args).run Tryz.prog w=.ok (.enter f args) w) (hp:Hid (PredN f p)) :
  Calls Tryz.prog 109 #[.slice a X.length c,.func (.func f) #[] #[]] w fun e w'=>e=.returned (.int .i64 (idxB (fun x=>p x.1.length) X))∧w=w':=by
 have HS:=Lib.hid' h
 have hlen:=h.len
 clear h
 go_enter Tryz.func109, Tryz.ntmps109
 go_wp2_with fail
 go_loop [8] (fun v8=>∃ k:Nat,v8=.int .i64 k∧k≤X.length∧Hid (∀ y∈X.take k,p y.1.length=false)) (fun v8=>X.length - (intOf v8).toNat)
 case atStart=>exact ⟨0,rfl,Nat.zero_le _,Zh (by simp)⟩
 case round =>
  obtain ⟨k,rfl,hk,HNO⟩:=hrel
  by_cases hlt:k<X.length
  ·obtain ⟨b,off,rfl,hb,hc,hz⟩:=HS.out.at hlt
   have hzl:=hz.len
   have HH:=Zh (fun h2=>idxB_hit (f:=fun x:Ch=>p x.1.length) hlt HNO.out h2)
   have HT:=Zh (fun h2=>take_no (f:=fun x:Ch=>p x.1.length) hlt HNO.out h2)
   clear hz
   generalize X[k]=y at *
   go_wp2_with fail
   refine (hp.out _ _ _ w hzl).mono ?_
   rintro e w2 ⟨rfl,rfl⟩
   cases hq:p y.1.length with
   | true =>
    have HF:=Zh (HH.out hq)
    go_wp2_with fail
    go_ret
    exact ⟨ret_eq (by rw [HF.out];rfl),rfl⟩
   | false =>
    have HF:=Zh (HT.out hq)
    go_wp2_with fail
    go_round
    case rel=>exact ⟨k+1,by go_num,by omega,HF⟩
    case measure=>simp [intOf];omega
  ·have HF:=Zh (idxB_none (f:=fun x:Ch=>p x.1.length) (by have:=HNO.out;rwa [List.take_of_length_le (by omega)] at this))
   go_wp2_with fail
   go_ret
   exact ⟨ret_eq (by rw [HF.out];rfl),rfl⟩
theorem containsFR_any (f:Nat) (p:Nat→Bool) (X:List Ch) (a:Option Addr) (c:Nat) (w:World) (h:Chs w a c X) (hcf:∀ args w,(callFunc f args).run Tryz.prog w=.ok (.enter f args) w) (hp:Hid (PredN f p)) :
  Calls Tryz.prog 65 #[.slice a X.length c,.func (.func f) #[] #[]] w fun e w'=>e=.returned (.bool (X.any (fun x=>p x.1.length)))∧w=w':=by
 have HC:=Zh (indexFR_any f p X a c w h hcf hp)
 have HA:=Zh (idxB_any (fun x:Ch=>p x.1.length) X)
 clear h hcf hp
 go_enter Tryz.func65, Tryz.ntmps65
 go_wp2_with fail
 refine HC.out.mono ?_
 rintro e w' ⟨rfl,rfl⟩
 generalize idxB (fun x:Ch=>p x.1.length) X=i at *
 go_wp2
 go_ret
 exact ⟨ret_eq (by rw [←HA.out];rfl),rfl⟩

set_option maxHeartbeats 400000 in
theorem cloneZ_any (v:Value) (l:List Int) (w:World) (h:Zs w v l) (hl:l.length≤4398046511104) :
  Calls Tryz.prog 70 #[v] w (OwnR w.heap.size 3 1 l.length (zVs l) w):=by
 have hh:=h
 obtain ⟨a,cap,rfl,h1,h2,h0,h3⟩:=h
 have hq:=fun w n c=>Lib.run_eql_slice_nil (P:=Tryz.prog) w 30 3 a n c 0 0 Tryz.underlying30
 cases a with
 | none =>
  obtain rfl:cap=0:=h0 rfl
  have hl0:l=[]:=List.eq_nil_of_length_eq_zero (by omega)
  subst hl0
  clear h3 h1 h2 h0 hh
  go_enter Tryz.func70, Tryz.ntmps70
  go_wp2
  go_ret
  exact ⟨_,_,rfl,World.ownsRow_nil _ _ _ _,Below.refl _ _⟩
 | some p =>
  clear h3 h0
  have HH:Hid (Zs w (.slice (some p) l.length cap) l):=Lib.hid' hh
  clear hh
  go_enter Tryz.func70, Tryz.ntmps70
  go_wp2_with (at_builtin;refine append_sl etInts rfl (.tmp 5) (.tmp 6) rfl w.heap.size 0 [] _ rfl ?own l.length (zVs l) _ rfl ?src ?len (zVs_one l) ?cy ?base ?_)
  case own=>exact own_empty _ _ _
  case src=>exact SlV.below HH.out (Nat.le_refl _) ((Below.refl _ _).alloc (Nat.le_refl _) _)
  case len=>simp [zVs]
  case cy=>omega
  case base=>simp
  intro a' c' w1 ho hf
  go_wp2
  go_ret
  refine ⟨a',c',by simp,by simpa using ho,?_⟩
  exact ((Below.refl w.heap.size w).alloc (Nat.le_refl _) _).trans (hf.below (by simp) (fun k hk=>by simp [Act.eval,Value.ownBlock] at hk;omega))
end Go.Proofs.YtaodldbgikiekaaGreatDoor

namespace Go.Proofs.YtaodldbgikiekaaGreatDoor
open Go.RowKit Go.Sort

theorem grown_fr {w w':World} {row:Option Nat} (h:w.grownBy w' row):Fr (fun k=>row=some k) w w':=⟨h.os,h.tape,h.output,h.size,fun k hk hn=>h.block k hk (fun e=>hn e.symm)⟩
/-- a row of the call's own is nil, or lies at a block's head -/
theorem own_cases {w:World} {B e size n:Nat} {a:Option Addr} {c:Nat} {xs:List Value} (h:w.ownsRow B e size (.slice a n c) n xs):(a=none∧n=0∧c=0∧xs=[])∨∃ g cur,a=some ⟨g,0,none⟩∧B≤g∧g<w.heap.size∧w.heap[g]?=some (.cells cur e (0,0))∧n≤c∧c≤maxLen∧cur.size=c*size∧cur.toList.take (n*size)=xs:=by
 obtain ⟨hl,h⟩:=h
 rcases h with ⟨h1,h2⟩ | ⟨g,cap,cur,hv,h1,h2,h3,h4,h5,h6⟩
 ·simp only [Value.slice.injEq] at h1
  obtain ⟨rfl,rfl,rfl⟩:=h1
  exact .inl ⟨rfl,rfl,rfl,by simpa using hl⟩
 ·simp only [Value.slice.injEq] at hv
  obtain ⟨rfl,_,rfl⟩:=hv
  exact .inr ⟨g,cur,rfl,h1,(Array.getElem?_eq_some_iff.1 h2).1,h2,h3,h4,h5,h6⟩
theorem alloc_new (w:World) (o:Obj):(w.alloc o).heap[w.heap.size]?=some o:=by show (w.heap.push _)[w.heap.size]?=_;simp
set_option maxHeartbeats 1000000 in
theorem growZ_any (n:Nat) (hn:n≤1099511627776) (w:World):Calls Tryz.prog 108 #[.slice none 0 0,.int .i64 n] w (OwnR w.heap.size 3 1 0 [] w):=by
 by_cases h0:n=0
 ·subst h0
  have h:=Any8.slices_Grow_room Tryz.growZ none 0 0 0 w (Nat.le_refl _) (by decide) (by decide) (Nat.le_refl _)
  change Calls Tryz.prog 108 _ _ _ at h
  refine h.mono ?_
  rintro e w' ⟨rfl,rfl⟩
  exact ⟨none,0,rfl,own_nil _ _ _ _,Below.refl _ _⟩
 ·obtain ⟨i,z,a1,a2,a3,a4,a5⟩:=etInts.info
  have h:=Any8.slices_Grow_grow Tryz.growZ i z a1 a2 (by rw [a3];decide) none 0 0 n [] w (Nat.le_refl _) (by omega) (by rw [a4];omega) (by omega) (by simp) (fun _=>rfl) (fun a h=>by cases h)
  change Calls Tryz.prog 108 _ _ _ at h
  refine h.mono ?_
  rintro e w' ⟨rfl,rfl⟩
  refine ⟨_,_,rfl,⟨by simp,.inr ⟨w.heap.size,_,_,rfl,Nat.le_refl _,alloc_new w.drew _,Nat.zero_le _,grownCap_le_maxLen _ _ _ _ (by unfold maxLen;omega),?_,by simp⟩⟩,?_⟩
  ·have hg:=grownCap_ge w (0+n) 0 3
   change _=grownCap w (0+n) 0 3*1
   have e3:(Tryz.growZ_ren.t 25)=3:=rfl
   rw [e3]
   simp only [Array.size_append,size_zeroCells,a5]
   simp only [List.size_toArray,List.length_nil]
   omega
  ·exact (Below.drew (Below.refl _ _)).alloc (by simp) _

/-- all numbers, list behind list -/
def flatC (X:List Ch):List Int:=(X.map (·.1)).flatten
theorem flat_take {X:List Ch} {k:Nat} (hk:k<X.length):flatC (X.take (k+1))=flatC (X.take k)++X[k].1:=by
 unfold flatC;rw [List.take_succ_eq_append_getElem hk];simp only [List.map_append,List.flatten_append,List.map_cons,List.map_nil,List.flatten_cons,List.flatten_nil,List.append_nil]
theorem flat_take_le (X:List Ch) (k:Nat):(flatC (X.take k)).length≤(flatC X).length:=by
 have e:X.map (·.1)=(X.take k).map (·.1)++(X.drop k).map (·.1):=by rw [←List.map_append,List.take_append_drop]
 unfold flatC
 rw [e,List.flatten_append,List.length_append];omega
set_option maxHeartbeats 2000000 in
theorem concatZ_any (X:List Ch) (a:Option Addr) (c:Nat) (w:World) (h:Chs w a c X) (ht:(flatC X).length≤1099511627776) :
  Calls Tryz.prog 64 #[.slice a X.length c] w (OwnR w.heap.size 3 1 (flatC X).length (zVs (flatC X)) w):=by
 have HS:=Lib.hid' h
 have hlen:=h.len
 clear h
 go_enter Tryz.func64, Tryz.ntmps64
 go_wp2_with fail
 go_loop [3,11] (fun v3 v11=>∃ k:Nat,v11=.int .i64 k∧k≤X.length∧v3=.int .i64 ((flatC (X.take k)).length)) (fun _ v11=>X.length - (intOf v11).toNat)
 case atStart=>exact ⟨0,rfl,Nat.zero_le _,rfl⟩
 case round =>
  obtain ⟨k,rfl,hk,rfl⟩:=hrel
  by_cases hlt:k<X.length
  ·obtain ⟨b,off,rfl,hb,hc,hz⟩:=HS.out.at hlt
   have hle:=flat_take_le X (k+1)
   have hle2:(flatC (X.take (k+1))).length=(flatC (X.take k)).length+X[k].1.length:=by rw [flat_take hlt,List.length_append]
   have HF:=Lib.hid' hle2
   have hs:(flatC (X.take k)).length+X[k].1.length≤1099511627776:=by omega
   clear hz hle hle2
   generalize X[k]=y at *
   generalize (flatC (X.take k)).length=s at *
   have hneg:¬((s:Int)+(y.1.length:Int)<0):=by omega
   go_wp2_with fail
   go_round
   case rel=>exact ⟨k+1,by go_num,by omega,by rw [HF.out];go_num⟩
   case measure=>simp [intOf];omega
  ·obtain rfl:k=X.length:=by omega
   have HT:=Zh (List.take_length (l:=X))
   rw [HT.out]
   clear hlt
   go_wp2_with fail
   refine (growZ_any _ ht w).mono ?_
   rintro e w1 ⟨a1,c1,rfl,ho,hb⟩
   have HO:=Lib.hid' ho
   have HB:=Lib.hid' hb
   clear ho hb
   go_wp2_with fail
   go_loopw [6,27] (fun v6 v27 wr=>∃ (k:Nat) (a':Option Addr) (c':Nat),v27=.int .i64 k∧k≤X.length∧v6=.slice a' (flatC (X.take k)).length c'∧Hid (wr.ownsRow w.heap.size 3 1 (.slice a' (flatC (X.take k)).length c') (flatC (X.take k)).length (zVs (flatC (X.take k))))∧Hid (Below w.heap.size w wr)) (fun _ v27 _=>X.length - (intOf v27).toNat)
   case atStart=>exact ⟨0,a1,c1,rfl,Nat.zero_le _,rfl,HO,HB⟩
   case round =>
    obtain ⟨k,a',c',rfl,hk,rfl,HOk,HBk⟩:=hrel
    by_cases hlt:k<X.length
    ·obtain ⟨b,off,rfl,hb,hc,hz⟩:=(HS.out.below (Nat.le_refl _) HBk.out).at hlt
     have HF:=Zh (flat_take hlt)
     have HZ:=Lib.hid' hz
     have hle:=flat_take_le X (k+1)
     have hle2:(flatC (X.take (k+1))).length=(flatC (X.take k)).length+X[k].1.length:=by rw [flat_take hlt,List.length_append]
     have hs:(flatC (X.take k)).length+X[k].1.length≤1099511627776:=by omega
     have hbz:=HBk.out.size
     clear hz hle hle2
     generalize X[k]=y at *
     generalize flatC (X.take k)=S at *
     go_wp2_with (at_builtin;refine append_sl etInts rfl (.tmp 31) (.tmp 32) rfl w.heap.size S.length (zVs S) _ rfl HOk.out y.1.length (zVs y.1) _ rfl HZ.out (by simp [zVs]) (zVs_one _) (by omega) hbz ?_)
     intro a2 c2 w2 ho2 hf2
     have HO2:=Lib.hid' ho2
     have HB2:=Zh (hf2.row HOk.out (Nat.le_refl _) hbz HBk.out)
     clear ho2 hf2
     go_wp2_with fail
     go_roundw
     case rel =>
      refine ⟨k+1,a2,c2,by go_num,by omega,by rw [HF.out,List.length_append],?_,HB2⟩
      rw [HF.out,List.length_append,zVs_append]
      exact HO2
     case measure=>simp [intOf];omega
    ·obtain rfl:k=X.length:=by omega
     rw [HT.out] at HOk
     rw [HT.out]
     clear hlt
     go_wp2_with fail
     go_ret
     exact ⟨a',c',rfl,HOk.out,HBk.out⟩

/-- a row's content is changed in place -/
def RowR (B:Nat) (a:Option Addr) (n c:Nat) (l:List Int) (w:World) (w':World):Prop:=w'.ownsRow B 3 1 (.slice a n c) n (zVs l)∧Fr (fun k=>(Value.slice a n c).ownBlock=some k) w w'
theorem sortZ_any {B:Nat} (l:List Int) (a:Option Addr) (c:Nat) (w:World) (h:w.ownsRow B 3 1 (.slice a l.length c) l.length (zVs l)) (hl:l.length≤1099511627776) :
  Calls Tryz.prog 68 #[.slice a l.length c] w fun e w'=>e=.returned (.tuple #[])∧RowR B a l.length c (sortI l) w w':=by
 rcases own_cases h with ⟨rfl,h1,rfl,_⟩ | ⟨g,cur,rfl,hB,hg,hh,h1,h2,h3,h4⟩
 ·obtain rfl:l=[]:=List.eq_nil_of_length_eq_zero h1
  have hk:=AnyM.slices_Sort_int_none Tryz.sortZ none 0 w
  change Calls Tryz.prog 68 _ _ _ at hk
  refine hk.mono ?_
  rintro e w' ⟨rfl,rfl⟩
  exact ⟨rfl,by rw [show sortI []=[] from by simp [sortI]];exact own_nil _ _ _ _,Fr.refl _ _⟩
 ·have hk:=AnyM.slices_Sort_int Tryz.sortZ g 0 c l w (holds_of_blockI hh (by simpa [zVs] using h4)) hg (by omega)
  change Calls Tryz.prog 68 _ _ _ at hk
  refine hk.mono ?_
  rintro e w' ⟨rfl,q,os,rfl⟩
  refine ⟨rfl,?_,grown_fr (grownBy_sortedI _)⟩
  exact ownsRow_sortedI (n:=q) (ts:=sortI l) (List.length_mergeSort _) hB hh h1 h2 h3

theorem dedS_snoc:∀ (l:List Int) (y z:Int),dedS (l++[y,z])=if y=z then dedS (l++[y]) else dedS (l++[y])++[z]
 | [],y,z=>by
  simp only [List.nil_append,dedS]
  split
  ·rename_i h;rw [h]
  ·rfl
 | [x],y,z=>by
  have ih:=dedS_snoc [] y z
  simp only [List.nil_append,List.singleton_append] at *
  simp only [dedS] at *
  by_cases h:x=y<;>by_cases h2:y=z<;>simp [h,h2]
 | x::x2::l,y,z=>by
  have ih:=dedS_snoc (x2::l) y z
  simp only [List.cons_append] at *
  rw [dedS,dedS]
  by_cases h:x=x2
  ·simp only [h,if_true];exact ih
  ·simp only [if_neg h];rw [ih]
   by_cases h2:y=z<;>simp [h2]
theorem compact_take (l:List Int):∀ m,m≤l.length→Lib.compactUpTo l.toArray m=dedS (l.take m)
 | 0,_=>rfl
 | 1,h=>by
  have e:l.take 1=[l[0]]:=by rw [List.take_succ_eq_append_getElem (i:=0) (by omega)];rfl
  rw [Lib.compactUpTo_succ,e]
  simp [Lib.keeps,Lib.compactUpTo,dedS]
  rw [List.getElem?_eq_getElem (by omega)];rfl
 | m+2,h=>by
  have ih:=compact_take l (m+1) (by omega)
  rw [Lib.compactUpTo_succ,ih]
  have e1:l.take (m+1)=l.take m++[l[m]]:=List.take_succ_eq_append_getElem (by omega)
  have e2:l.take (m+2)=l.take m++[l[m],l[m+1]]:=by rw [List.take_succ_eq_append_getElem (i:=m+1) (by omega),e1,List.append_assoc];rfl
  have g1:l.toArray[m+1]! = l[m+1]:=by rw [getElem!_pos _ _ (by simp;omega)];simp
  have g0:l.toArray[m+1 - 1]! = l[m]:=by rw [getElem!_pos _ _ (by simp;omega)];simp
  rw [e2,dedS_snoc,←e1]
  unfold Lib.keeps
  rw [g1,g0]
  by_cases hq:l[m]=l[m+1]
  ·simp [hq]
  ·have:¬l[m+1]=l[m]:=fun h=>hq h.symm
   simp [hq,this]
theorem compact_ded (l:List Int):Lib.compact l=dedS l:=by
 have:=compact_take l l.length (Nat.le_refl _)
 rw [List.take_length] at this
 exact this
/-- a row is cut, its rest zeros -/
def CutR (B:Nat) (a:Option Addr) (c:Nat) (l:List Int) (F:Nat→Prop) (w:World) (en:Ending) (w':World):Prop:=en=.returned (.slice a l.length c)∧w'.ownsRow B 3 1 (.slice a l.length c) l.length (zVs l)∧Fr F w w'
theorem own_cut {w:World} {B g c n q:Nat} {cur:Array Value} {os:Array Obj} {r:List Int} (z:List Int) (hz:r.length+z.length=n) (hB:B≤g) (hh:w.heap[g]?=some (.cells cur 3 (0,0))) (h1:n≤c) (h2:c≤maxLen) (h3:cur.size=c*1) :
  (grow (putRow (Value.int .i64) (Sort.ahead w q) g 0 (r++z).toArray) os).ownsRow B 3 1 (.slice (some ⟨g,0,none⟩) r.length c) r.length (zVs r):=by
 have:=ownsRow_sortedI (n:=q) (os:=os) (ss:=r++z) (ts:=r++z) (w:=w) (base:=B) (e:=3) rfl hB hh (by rw [List.length_append];omega) h2 h3
 rcases own_cases this with ⟨h,_⟩ | ⟨g',cur',he,k1,k2,k3,k4,k5,k6,k7⟩
 ·cases h
 ·simp only [Option.some.injEq,Addr.mk.injEq,and_true] at he
  subst he
  refine ⟨by simp [zVs],.inr ⟨g,c,cur',rfl,hB,k3,by omega,h2,k6,?_⟩⟩
  have e:cur'.toList.take (r.length*1)=(cur'.toList.take ((r++z).length*1)).take r.length:=by
   rw [List.take_take,Nat.mul_one,Nat.mul_one];congr 1;rw [List.length_append];omega
  rw [e,k7,List.map_append,List.take_append_of_le_length (by simp),List.take_of_length_le (by simp)];rfl
theorem grow_none (w:World):grow w #[]=w:=by unfold grow;simp
theorem compactZ_any {B:Nat} (l:List Int) (a:Option Addr) (c:Nat) (w:World) (h:w.ownsRow B 3 1 (.slice a l.length c) l.length (zVs l)) (hl:l.length≤1099511627776) :
  Calls Tryz.prog 69 #[.slice a l.length c] w (CutR B a c (dedS l) (fun k=>(Value.slice a 0 c).ownBlock=some k) w):=by
 rcases own_cases h with ⟨rfl,h1,rfl,_⟩ | ⟨g,cur,rfl,hB,hg,hh,h1,h2,h3,h4⟩
 ·obtain rfl:l=[]:=List.eq_nil_of_length_eq_zero h1
  have hk:=AnyG.slices_Compact_int_empty Tryz.compZ none 0 w
  change Calls Tryz.prog 69 _ _ _ at hk
  refine hk.mono ?_
  rintro e w' ⟨rfl,rfl⟩
  exact ⟨rfl,own_nil _ _ _ _,Fr.refl _ _⟩
 ·have hk:=AnyG.slices_Compact_int Tryz.compZ g 0 c l w (holds_of_blockI hh (by simpa [zVs] using h4)) (by omega) h1
  change Calls Tryz.prog 69 _ _ _ at hk
  refine hk.mono ?_
  rintro e w' ⟨rfl,q,rfl⟩
  rw [compact_ded]
  have hle:=dedS_len l
  refine ⟨rfl,?_,?_⟩
  ·have:=own_cut (B:=B) (os:=#[]) (q:=q) (r:=dedS l) (List.replicate (l.length - (dedS l).length) 0) (n:=l.length) (by simp;omega) hB hh h1 h2 h3
   rwa [grow_none] at this
  ·have:=grown_fr (grownBy_sortedI (w:=w) (g:=g) (n:=q) (os:=#[]) (dedS l++List.replicate (l.length - (dedS l).length) 0).toArray)
   rwa [grow_none] at this

/-- a function value that tells of numbers and makes nothing -/
def PredG (f:Nat) (cap:Array Value) (p:Int→Bool) (F:Nat→Prop) (w:World):Prop :=
 ∀ w' x,Fr F w w'→Calls Tryz.prog f (#[.int .i64 x]++cap) w' fun e w''=>e=.returned (.bool (p x))∧∃ q,w''=w'.drewN q
theorem PredG.z {f:Nat} {cap:Array Value} {p:Int→Bool} {F:Nat→Prop} {w:World} (h:PredG f cap p F w):PredZ f cap p w:=fun w' x hb =>
 (h w' x (Fr.of_below hb)).mono fun e w'' ⟨he,q,hq⟩=>⟨he,hq▸below_drewN' (Below.refl _ _) q⟩
end Go.Proofs.YtaodldbgikiekaaGreatDoor

namespace Go.Proofs.YtaodldbgikiekaaGreatDoor
open Go.RowKit

@[go_sem] theorem field_pj0 (w:World) (x y:Value):(Instr.field 74 (.agg #[x,y]) 0).run Tryz.prog w=.ok x w:=by kernel_rfl
@[go_sem] theorem field_pj1 (w:World) (x y:Value):(Instr.field 74 (.agg #[x,y]) 1).run Tryz.prog w=.ok y w:=by kernel_rfl
/-- a projection's value -/
def pjV (e:Int) (a:Option Addr) (c:Nat) (X:List Ch):Value:=.agg #[.int .i64 e,.slice a X.length c]
def docJ (e:Int) (X:List Ch):Pj:=⟨e,X.map (·.1)⟩
theorem docJ_all (e:Int) (X:List Ch):(docJ e X).all=flatC X:=rfl

theorem punit_any (u:Int) (w:World):Calls Tryz.prog 111 #[.int .i64 u] w fun e w'=>e=.returned (.bool (decide (0≤u)&&decide (u<8)))∧w=w':=by
 by_cases h:0≤u
 ·by_cases h2:u<8
  ·have H:=Zh (And.intro h h2)
   go_enter Tryz.func111, Tryz.ntmps111
   go_wp2
   go_ret
   exact ⟨ret_eq (by simp [H.out.1,H.out.2]),rfl⟩
  ·have H:=Zh (And.intro h h2)
   go_enter Tryz.func111, Tryz.ntmps111
   go_wp2
   go_ret
   exact ⟨ret_eq (by simp [H.out.1,H.out.2]),rfl⟩
 ·have H:=Lib.hid' h
  go_enter Tryz.func111, Tryz.ntmps111
  go_wp2
  go_ret
  exact ⟨ret_eq (by simp;omega),rfl⟩
theorem podd_any (u:Int) (w:World):Calls Tryz.prog 67 #[.int .i64 u] w fun e w'=>e=.returned (.bool (oddU u))∧w=w':=by
 have HC:=Zh (punit_any u w)
 have HF:=Zh (show oddU u=!(decide (0≤u)&&decide (u<8)) from rfl)
 go_enter Tryz.func67, Tryz.ntmps67
 go_wp2_with fail
 refine HC.out.mono ?_
 rintro e w' ⟨rfl,rfl⟩
 generalize (decide (0≤u)&&decide (u<8))=b at *
 cases b
 all_goals
  go_wp2
  go_ret
  exact ⟨ret_eq (by rw [HF.out];rfl),rfl⟩
theorem cf_odd (args:Array Value) (w:World):(callFunc 67 args).run Tryz.prog w=.ok (.enter 67 args) w:=by kernel_rfl
theorem pred_odd (w:World):PredZ 67 #[] oddU w:=fun w' x _=>(podd_any x w').mono fun e w'' ⟨he,hw⟩=>⟨he,hw▸Below.refl _ _⟩
def wrongN (n:Nat):Bool:=decide (n<1)||decide (4<n)
theorem cf_wrong (args:Array Value) (w:World):(callFunc 63 args).run Tryz.prog w=.ok (.enter 63 args) w:=by kernel_rfl
theorem pred_wrong:PredN 63 wrongN:=by
 intro a n c w hn
 by_cases h:n<1
 ·have H:=Lib.hid' h
  go_enter Tryz.func63, Tryz.ntmps63
  go_wp2
  go_ret
  exact ⟨ret_eq (by simp [wrongN,H.out]),rfl⟩
 ·by_cases h2:4<n
  ·have H:=Zh (And.intro h h2)
   go_enter Tryz.func63, Tryz.ntmps63
   go_wp2
   go_ret
   exact ⟨ret_eq (by show Value.bool (decide ((n:Int)<1)||decide ((4:Int)<n))=Value.bool (wrongN n);congr 1;rw [Bool.eq_iff_iff];simp [wrongN];omega),rfl⟩
  ·have H:=Zh (And.intro h h2)
   go_enter Tryz.func63, Tryz.ntmps63
   go_wp2
   go_ret
   exact ⟨ret_eq (by show Value.bool (decide ((n:Int)<1)||decide ((4:Int)<n))=Value.bool (wrongN n);congr 1;rw [Bool.eq_iff_iff];simp [wrongN];omega),rfl⟩

theorem Fr.row0 {base e size n B:Nat} {a:Option Addr} {c:Nat} {xs:List Value} {W w w':World} (h:Fr (fun k=>(Value.slice a 0 c).ownBlock=some k) w w') (hown:w.ownsRow base e size (.slice a n c) n xs) (hB:B≤base) (hs:B≤w.heap.size) (hb:Below B W w):Below B W w' :=
 Fr.row (v:=.slice a n c) (h.mono (fun k hk=>by rw [←hk];cases a<;>rfl)) hown hB hs hb
/-- all units, in a row of the call's own -/
def UnitsR (l:List Int) (w:World):Ending→World→Prop:=OwnR w.heap.size 3 1 (unitsOf l).length (zVs (unitsOf l)) w
theorem sortI_len (l:List Int):(sortI l).length=l.length:=List.length_mergeSort _
set_option maxHeartbeats 1000000 in
theorem punits_any (e:Int) (a:Option Addr) (c:Nat) (X:List Ch) (w:World) (h:Chs w a c X) (ht:(flatC X).length≤1099511627776) :
  Calls Tryz.prog 28 #[pjV e a c X] w (UnitsR (flatC X) w):=by
 have HS:=Lib.hid' h
 have hlen:=h.len
 clear h
 unfold pjV
 go_enter Tryz.func28, Tryz.ntmps28
 go_wp2_with fail
 refine (concatZ_any X a c _ (HS.out.below (Nat.le_refl _) (by go_grown)) ht).mono ?_
 rintro en w1 ⟨a1,c1,rfl,ho,hb⟩
 have hz:w.heap.size≤w1.heap.size:=by have:=hb.size;simp at this;omega
 have HO:=Zh (own_base (B':=w.heap.size) ho (by simp))
 have HB:=Zh (show Below w.heap.size w w1 from below_call (by go_grown) (by simp) hb)
 clear ho hb
 generalize flatC X=l at *
 go_wp2_with fail
 refine (sortZ_any l a1 c1 w1 HO.out ht).mono ?_
 rintro en w2 ⟨rfl,ho2,hf2⟩
 have HO2:=Zh (show w2.ownsRow w.heap.size 3 1 (.slice a1 (sortI l).length c1) (sortI l).length (zVs (sortI l)) by rw [sortI_len];exact ho2)
 have HB2:=Zh (hf2.row HO.out (Nat.le_refl _) hz HB.out)
 have hz2:w.heap.size≤w2.heap.size:=Nat.le_trans hz hf2.size
 clear ho2 hf2
 go_wp2_with fail
 rw [show (Value.slice a1 l.length c1)=.slice a1 (sortI l).length c1 from by rw [sortI_len]]
 refine (compactZ_any (sortI l) a1 c1 w2 HO2.out (by rw [sortI_len];exact ht)).mono ?_
 rintro en w3 ⟨rfl,ho3,hf3⟩
 have HO3:=Lib.hid' ho3
 have HB3:=Zh (hf3.row0 HO2.out (Nat.le_refl _) hz2 HB2.out)
 clear ho3 hf3
 go_wp2_with fail
 go_ret
 exact ⟨a1,c1,rfl,HO3.out,HB3.out⟩

theorem any_wrong (e:Int) (X:List Ch):X.any (fun x=>wrongN x.1.length)=(docJ e X).cs.any wrongC:=by
 unfold docJ;rw [List.any_map];rfl
theorem check_1 {p:Pj} (h:p.e<0∨1099511627776<p.e):p.check=1:=by unfold Pj.check;rw [if_pos h]
theorem check_2 {p:Pj} (h:¬(p.e<0∨1099511627776<p.e)) (h2:p.cs.length<1∨4<p.cs.length∨p.cs.any wrongC=true):p.check=2:=by unfold Pj.check;rw [if_neg h,if_pos h2]
theorem check_3 {p:Pj} (h:¬(p.e<0∨1099511627776<p.e)) (h2:¬(p.cs.length<1∨4<p.cs.length∨p.cs.any wrongC=true)) (h3:p.all.any oddU=true):p.check=1:=by unfold Pj.check;rw [if_neg h,if_neg h2,if_pos h3]
theorem check_4 {p:Pj} (h:¬(p.e<0∨1099511627776<p.e)) (h2:¬(p.cs.length<1∨4<p.cs.length∨p.cs.any wrongC=true)) (h3:¬p.all.any oddU=true) (h4:(unitsOf p.all).length<p.all.length):p.check=2:=by unfold Pj.check;rw [if_neg h,if_neg h2,if_neg h3,if_pos h4]
theorem check_5 {p:Pj} (h:¬(p.e<0∨1099511627776<p.e)) (h2:¬(p.cs.length<1∨4<p.cs.length∨p.cs.any wrongC=true)) (h3:¬p.all.any oddU=true) (h4:¬(unitsOf p.all).length<p.all.length):p.check=0:=by unfold Pj.check;rw [if_neg h,if_neg h2,if_neg h3,if_neg h4]
set_option maxHeartbeats 2000000 in
theorem pcheck_any (e:Int) (a:Option Addr) (c:Nat) (X:List Ch) (w:World) (h:Chs w a c X) (ht:(flatC X).length≤1099511627776) :
  Calls Tryz.prog 27 #[pjV e a c X] w fun en w'=>en=.returned (errV (docJ e X).check)∧Below w.heap.size w w':=by
 have HS:=Lib.hid' h
 have hlen:=h.len
 have hcf1:=cf_wrong
 have hcf2:=cf_odd
 clear h
 unfold pjV
 go_enter Tryz.func27, Tryz.ntmps27
 go_wp2_with fail
 refine (concatZ_any X a c _ (HS.out.below (Nat.le_refl _) (by go_grown)) ht).mono ?_
 rintro en w1 ⟨a1,c1,rfl,ho,hb⟩
 have hz:w.heap.size<w1.heap.size:=by have:=hb.size;simp at this;omega
 have HO:=Zh (own_base (B':=w.heap.size) ho (by simp))
 have HB:=Zh (show Below w.heap.size w w1 from below_call (by go_grown) (by simp) hb)
 have d0:w1.cell? ⟨w.heap.size,0,none⟩=some (.int .i64 e):=((bcell hb).1 _ _ (by simp)).trans (by simp [go_sem])
 have d1:w1.cell? ⟨w.heap.size,1,none⟩=some (.slice a X.length c):=((bcell hb).1 _ _ (by simp)).trans (by simp [go_sem])
 clear ho hb
 by_cases h1:e<0∨1099511627776<e
 ·have HC:=Zh (check_1 (p:=docJ e X) h1)
  have h1':e<0∨(¬e<0∧1099511627776<e):=by omega
  clear h1
  rcases h1' with h1 | ⟨h1,h1b⟩
  all_goals
   go_wp2
   go_ret
   exact ⟨ret_eq (by rw [HC.out];rfl),HB.out⟩
 have H1:=Lib.hid' h1
 have e0:0≤e:=by omega
 have e1:e≤1099511627776:=by omega
 clear h1
 by_cases h2:X.length<1∨4<X.length
 ·have HC:=Zh (check_2 (p:=docJ e X) H1.out (by unfold docJ;simp only [List.length_map];omega))
  have h2':X.length<1∨(¬X.length<1∧4<X.length):=by omega
  clear h2
  rcases h2' with h2 | ⟨h2,h2b⟩
  all_goals
   go_wp2
   go_ret
   exact ⟨ret_eq (by rw [HC.out];rfl),HB.out⟩
 have h2a:¬X.length<1:=by omega
 have h2b:¬4<X.length:=by omega
 clear h2
 have HW:=Zh (any_wrong e X)
 go_wp2_with fail
 refine (containsFR_any 63 wrongN X a c w1 (HS.out.below (Nat.le_refl _) HB.out) hcf1 (Lib.hid' pred_wrong)).mono ?_
 rintro en w2 ⟨rfl,rfl⟩
 rw [HW.out]
 cases hw:(docJ e X).cs.any wrongC with
 | true =>
  have HC:=Zh (check_2 (p:=docJ e X) H1.out (.inr (.inr hw)))
  clear hw
  go_wp2
  go_ret
  exact ⟨ret_eq (by rw [HC.out];rfl),HB.out⟩
 | false =>
 have H2:=Zh (show ¬((docJ e X).cs.length<1∨4<(docJ e X).cs.length∨(docJ e X).cs.any wrongC=true) by
  rw [hw];unfold docJ;simp only [List.length_map];rintro (h | h | h)
  ·omega
  ·omega
  ·cases h)
 clear hw HW
 go_wp2_with fail
 refine (containsFZ_any 67 #[] oddU (flatC X) a1 c1 w1 (SlV.of_own HO.out) hcf2 (Zh (pred_odd _))).mono ?_
 rintro en w3 ⟨rfl,hb3⟩
 have HB3:=Zh (HB.out.trans (hb3.mono (by omega)))
 have d30:=(hb3.cell (p:=⟨w.heap.size,0,none⟩) hz).trans d0
 have d31:=(hb3.cell (p:=⟨w.heap.size,1,none⟩) hz).trans d1
 have hz3:w.heap.size<w3.heap.size:=Nat.lt_of_lt_of_le hz hb3.size
 clear hb3 d0 d1
 cases ho:(flatC X).any oddU with
 | true =>
  have HC:=Zh (check_3 (p:=docJ e X) H1.out H2.out ho)
  clear ho
  go_wp2
  go_ret
  exact ⟨ret_eq (by rw [HC.out];rfl),HB3.out⟩
 | false =>
 have H3:=Zh (show ¬(docJ e X).all.any oddU=true by rw [docJ_all,ho];decide)
 clear ho
 go_wp2_with fail
 refine (punits_any e a c X w3 (HS.out.below (Nat.le_refl _) HB3.out) ht).mono ?_
 rintro en w4 ⟨a4,c4,rfl,ho4,hb4⟩
 have HB4:=Zh (HB3.out.trans (hb4.mono (by omega)))
 clear ho4 hb4
 have hul:=unitsOf_len (flatC X)
 by_cases h4:(unitsOf (flatC X)).length<(flatC X).length
 ·have HC:=Zh (check_4 (p:=docJ e X) H1.out H2.out H3.out h4)
  go_wp2
  go_ret
  exact ⟨ret_eq (by rw [HC.out];rfl),HB4.out⟩
 ·have HC:=Zh (check_5 (p:=docJ e X) H1.out H2.out H3.out h4)
  go_wp2
  go_ret
  exact ⟨ret_eq (by rw [HC.out];rfl),HB4.out⟩


def ApartCh (x y:Ch):Prop:=∀ b,(chV x).ownBlock=some b→¬(chV y).ownBlock=some b
/-- a slice of slices of the call's own, each list in a block of its own -/
structure OwnJ (w:World) (B:Nat) (a:Option Addr) (c:Nat) (K:List Ch):Prop where
 row:w.ownsRow B 30 1 (.slice a K.length c) K.length (K.map chV)
 each:∀ x∈K,w.ownsRow B 3 1 (chV x) x.1.length (zVs x.1)
 apart:K.Pairwise ApartCh
theorem OwnJ.chs {w:World} {B:Nat} {a:Option Addr} {c:Nat} {K:List Ch} (h:OwnJ w B a c K):Chs w a c K:=⟨SlV.of_own h.row,fun x hx=>SlV.of_own (h.each x hx)⟩
theorem OwnJ.below {w w':World} {B:Nat} {a:Option Addr} {c:Nat} {K:List Ch} (h:OwnJ w B a c K) {C:Nat} (hC:w.heap.size≤C) (hb:Below C w w'):OwnJ w' B a c K :=
 ⟨own_below h.row hC hb,fun x hx=>own_below (h.each x hx) hC hb,h.apart⟩
theorem OwnJ.fr {F:Nat→Prop} {w w':World} {B:Nat} {a:Option Addr} {c:Nat} {K:List Ch} (h:OwnJ w B a c K) (hf:Fr F w w') (hF:∀ k,F k→k<B):OwnJ w' B a c K:=by
 have hD:∀ {e n:Nat} {v:Value} {xs:List Value},w.ownsRow B e 1 v n xs→SlIn (fun k=>¬F k) v:=fun ho=>own_slin ho (fun b hb hf'=>by have:=(own_blk ho hb).1;have:=hF _ hf';omega)
 exact ⟨own_fr h.row hf (hD h.row),fun x hx=>own_fr (h.each x hx) hf (hD (h.each x hx)),h.apart⟩
theorem OwnJ.base {w:World} {B B':Nat} {a:Option Addr} {c:Nat} {K:List Ch} (h:OwnJ w B a c K) (hB:B'≤B):OwnJ w B' a c K :=
 ⟨own_base h.row hB,fun x hx=>own_base (h.each x hx) hB,h.apart⟩
theorem OwnJ.nil (w:World) (B:Nat):OwnJ w B none 0 []:=⟨own_nil _ _ _ _,by simp,.nil⟩
/-- one list more -/
theorem OwnJ.push {w w1 w2:World} {B:Nat} {a a2:Option Addr} {c c2:Nat} {K:List Ch} (h:OwnJ w B a c K) (hB:B≤w.heap.size) (y:Ch) (hb1:Below w.heap.size w w1) (hy:w1.ownsRow w.heap.size 3 1 (chV y) y.1.length (zVs y.1))
  (hf:Fr (fun k=>(Value.slice a K.length c).ownBlock=some k) w1 w2) (ho:w2.ownsRow B 30 1 (.slice a2 (K.length+1) c2) (K.length+1) (K.map chV++[chV y])):OwnJ w2 B a2 c2 (K++[y]):=by
 have h1:=h.below (Nat.le_refl _) hb1
 have hne:3≠30:=by decide
 have ap:∀ {B':Nat} {z:Ch},w1.ownsRow B' 3 1 (chV z) z.1.length (zVs z.1)→w2.ownsRow B' 3 1 (chV z) z.1.length (zVs z.1):=fun hz=>own_fr hz hf (own_apart hz h1.row hne)
 refine ⟨by rw [List.map_append,List.length_append];exact ho,fun x hx=>?_,?_⟩
 ·rcases List.mem_append.1 hx with hx | hx
  ·exact ap (h1.each x hx)
  ·simp only [List.mem_singleton] at hx;subst hx;exact own_base (ap hy) hB
 ·refine List.pairwise_append.2 ⟨h.apart,List.pairwise_singleton _ _,fun x hx z hz=>?_⟩
  simp only [List.mem_singleton] at hz;subst hz
  intro b e1 e2
  have:=(own_blk (h.each x hx) e1).2
  have:=(own_blk hy e2).1
  omega
theorem OwnJ.at {w:World} {B:Nat} {a:Option Addr} {c:Nat} {K:List Ch} (h:OwnJ w B a c K) {i:Nat} (hi:i<K.length):∃ g,a=some ⟨g,0,none⟩∧B≤g∧g<w.heap.size∧w.cell? ⟨g,i,none⟩=some (.slice K[i].2.1 K[i].1.length K[i].2.2)∧w.frozen? ⟨g,i,none⟩=false:=by
 rcases own_cases h.row with ⟨_,h1,_⟩ | ⟨g,cur,rfl,h1,h2,_⟩
 ·omega
 ·refine ⟨g,rfl,h1,h2,?_,h.row.frozenAt i⟩
  rw [h.row.cellAt i (by omega)]
  rw [List.getElem?_map,List.getElem?_eq_getElem hi];rfl
theorem OwnJ.blk {w:World} {B:Nat} {a:Option Addr} {c:Nat} {K:List Ch} (h:OwnJ w B a c K) {k:Nat} (hk:(Value.slice a K.length c).ownBlock=some k):B≤k∧k<w.heap.size:=own_blk h.row hk

theorem chs_take {X:List Ch} {k:Nat} (hk:k<X.length):(X.take (k+1)).map (·.1)=(X.take k).map (·.1)++[X[k].1]:=by
 rw [List.take_succ_eq_append_getElem hk,List.map_append];rfl
/-- one apart -/
def CopyJR (X:List Ch) (e:Int) (w:World) (en:Ending) (w':World):Prop :=
 ∃ a c K,en=.returned (pjV e a c K)∧OwnJ w' w.heap.size a c K∧K.map (·.1)=X.map (·.1)∧Below w.heap.size w w'
set_option maxHeartbeats 2000000 in
theorem pcopy_any (e:Int) (a:Option Addr) (c:Nat) (X:List Ch) (w:World) (h:Chs w a c X) (hn:X.length≤1048576) (hl:∀ x∈X,x.1.length≤1048576) :
  Calls Tryz.prog 29 #[pjV e a c X] w (CopyJR X e w):=by
 have HS:=Lib.hid' h
 have HL:=Lib.hid' hl
 have hlen:=h.len
 clear h hl
 unfold pjV
 go_enter Tryz.func29, Tryz.ntmps29
 go_wp2_with fail
 obtain ⟨w3,hw3⟩:∃ w3,w3=(((w.alloc (.cells #[.int .i64 e,.slice a X.length c] 74)).alloc (.cells #[.int .i64 0,.slice none 0 0] 74)).alloc (.cells #[.int .i64 e,.slice none 0 0] 74)):=⟨_,rfl⟩
 have hz:w3.heap.size=w.heap.size+3:=by rw [hw3];simp
 have HB3:=Zh (show Below w.heap.size w w3 by rw [hw3];go_grown)
 have HX:=Zh (show BoxW (w.heap.size+2) [.int .i64 e,.slice none 0 0] 74 w3 by rw [hw3];have:=BoxW.start ((w.alloc (.cells #[.int .i64 e,.slice a X.length c] 74)).alloc (.cells #[.int .i64 0,.slice none 0 0] 74)) [.int .i64 e,.slice none 0 0] 74;simpa using this)
 have k10:w3.cell? ⟨w.heap.size+1,0,none⟩=some (.int .i64 0):=by rw [hw3];simp [go_sem]
 have k11:w3.cell? ⟨w.heap.size+1,1,none⟩=some (.slice none 0 0):=by rw [hw3];simp [go_sem]
 have g10:w3.frozen? ⟨w.heap.size+1,0,none⟩=false:=by rw [hw3];simp [go_sem]
 have g11:w3.frozen? ⟨w.heap.size+1,1,none⟩=false:=by rw [hw3];simp [go_sem]
 have K1:=Zh (And.intro k10 (And.intro k11 (And.intro g10 g11)))
 rw [←hw3]
 have HZ:=Lib.hid' hz
 clear k10 k11 g10 g11 hw3 hz
 go_loopw [12] (fun v12 wr=>∃ (k:Nat) (a':Option Addr) (c':Nat) (Ks:List Ch),v12=.int .i64 k∧k≤X.length∧Hid (Ks.map (·.1)=(X.take k).map (·.1))∧Hid (BoxW (w.heap.size+2) [.int .i64 e,.slice a' Ks.length c'] 74 wr)∧Hid (OwnJ wr (w.heap.size+3) a' c' Ks)∧Hid (Fr (fun q=>q=w.heap.size+2) w3 wr)) (fun v12 _=>X.length - (intOf v12).toNat)
 case atStart=>exact ⟨0,none,0,[],rfl,Nat.zero_le _,Lib.hid' rfl,HX,Zh (OwnJ.nil _ _),Zh (Fr.refl _ _)⟩
 case round =>
  obtain ⟨k,a',c',Ks,rfl,hk,HK,HBX,HJ,HF⟩:=hrel
  have hz:=HZ.out
  have hlw:w.heap.size+3≤wr.heap.size:=by rw [←hz];exact HF.out.size
  have HBW:=Zh (HB3.out.trans (HF.out.below (B:=w.heap.size) (by omega) (fun q hq=>by omega)))
  clear hz
  have x1:=HBX.out.box.1 1 _ rfl
  have x0:=HBX.out.box.1 0 _ rfl
  have f1:=HBX.out.box.2.1 1
  by_cases hlt:k<X.length
  ·obtain ⟨b,off,rfl,hb,hc,hz'⟩:=(HS.out.below (Nat.le_refl _) HBW.out).at hlt
   have HZX:=Lib.hid' hz'
   have HN:=Zh (chs_take hlt)
   have hxl:=HL.out _ (List.getElem_mem hlt)
   have hKl:Ks.length≤1048576:=by have:=congrArg List.length HK.out;simp at this;omega
   clear hz'
   generalize X[k]=x at *
   obtain ⟨xs,xa,xc⟩:=x
   simp only at HZX hxl hc
   go_wp2_with fail
   have hne2:¬(Value.slice a' Ks.length c').ownBlock=some (w.heap.size+2):=by intro h;have:=(HJ.out.blk h).1;omega

   refine wp_region_held_drew (S:=(fun _=>True)) (by kernel_rfl) trivial (fun hH0=>?_)
   refine tA 0 (.pointer (some ⟨w.heap.size+2,1,none⟩)) rfl hH0 ?_ ?_
   ·intro w hSw;go_simp
   simp only [Act.put,gA,gZ,gS,sA,sZ,sS]
   refine tA 2 (.slice xa xs.length xc) rfl hH0 ?_ ?_
   ·intro w hSw;go_simp
   simp only [Act.put,gA,gZ,gS,sA,sZ,sS]
   refine wpAnyH_ready (rs:=[1,3]) (by kernel_rfl) (by simp) (AllReadyH.cons (o:=_) rfl (fun K hK=>?_) (AllReadyH.cons (o:=_) rfl (fun K hK=>?_) AllReadyH.nil))
   ·skip
    go_simp
    refine hK.out _ _ ?_ (fun hH1=>?_)
    ·trivial
    clear hK K
    refine rD 3 rfl (fun K hK=>?_)
    go_simp
    refine (cloneZ_any _ xs _ (SlV.below HZX.out (Nat.le_refl _) (Below.drew (Below.refl _ _))) (by omega)).mono ?_
    rintro en w5 ⟨a5,c5,rfl,ho5,hb5'⟩
    have hb5:Below wr.heap.size wr w5:=(Below.drew (Below.refl _ _)).trans hb5'
    have HB5:=Lib.hid' hb5
    have HO5:=Zh (show w5.ownsRow wr.heap.size 3 1 (.slice a5 xs.length c5) xs.length (zVs xs) from ho5)
    have z1:=(hb5.cell (p:=⟨w.heap.size+2,1,none⟩) (by show w.heap.size+2<wr.heap.size;omega)).trans x1
    have g1:=(hb5.frozen (p:=⟨w.heap.size+2,1,none⟩) (by show w.heap.size+2<wr.heap.size;omega)).trans f1
    have hl5:=hb5.size
    have hl52:w.heap.size+2<w5.heap.size:=by omega
    clear ho5 hb5 hb5'
    refine hK.out _ _ ?_ (fun hH2=>?_)
    ·trivial
    clear hK K
    refine rD 4 rfl (fun K hK=>?_)
    go_simp
    refine hK.out _ _ ?_ (fun hH3=>?_)
    ·trivial
    clear hK K
    refine rD 5 rfl (fun K hK=>?_)
    refine step_one etRows rfl (.tmp 17) (.tmp 20) rfl [.slice a5 xs.length c5] rfl (w.heap.size+3) Ks.length (Ks.map chV) _ rfl (HJ.out.below (Nat.le_refl _) HB5.out).row rfl (by simp [Value.oneCell']) (by omega) (by omega) ?_
    intro a9 c9 w9 ho9 hf9
    have HO9:=Lib.hid' ho9
    have HF9:=Lib.hid' hf9
    have y1:=hf9.cell z1 hne2
    have g9:w9.frozen? ⟨w.heap.size+2,1,none⟩=false:=by rw [←g1];simp only [World.frozen?,hf9.block _ (by omega) hne2]
    clear ho9 hf9
    refine hK.out _ _ ?_ (fun hH4=>?_)
    ·trivial
    clear hK K
    refine tA 6 (.pointer (some ⟨w.heap.size+2,1,none⟩)) rfl hH4 ?_ ?_
    ·intro w hSw;go_simp
    simp only [Act.put,gA,gZ,gS,sA,sZ,sS]
    refine rD 7 rfl (fun K hK=>?_)
    go_simp
    refine hK.out _ _ ?_ (fun hH5=>?_)
    ·trivial
    clear hK K
    refine wpAnyH_done (by kernel_rfl) ?_ _
    have HJ9:=Zh (HJ.out.push (y:=(xs,a5,c5)) hlw HB5.out HO5.out HF9.out HO9.out)
    have HB9:=Zh (show BoxW (w.heap.size+2) [.int .i64 e,.slice a' Ks.length c'] 74 w9 from (HBX.out.below (Nat.le_refl _) HB5.out).fr HF9.out hne2)
    have HX9:=Zh (show BoxW (w.heap.size+2) [.int .i64 e,.slice a9 (Ks.length+1) c9] 74 (w9.setCell ⟨w.heap.size+2,1,none⟩ (.slice a9 (Ks.length+1) c9)) from heap_setCell_same _ _ 1 _ _ _ HB9.out)
    have HFX:=Zh (show Fr (fun q=>q=w.heap.size+2) w3 (w9.setCell ⟨w.heap.size+2,1,none⟩ (.slice a9 (Ks.length+1) c9)) from ((HF.out.trans_below HB5.out).trans HF9.out (fun i hi=>by have:=(HJ.out.blk hi).1;have:=HZ.out;exact .inr (by omega))).trans (fr_set _ _ _ _) (fun i hi=>.inl hi))
    have HJX:=Zh (HJ9.out.fr (fr_set w9 (w.heap.size+2) 1 (.slice a9 (Ks.length+1) c9)) (fun q hq=>by omega))
    have HL9:=Zh (show (Ks++[(xs,a5,c5)]).length=Ks.length+1 from by simp)
    generalize w9.setCell ⟨w.heap.size+2,1,none⟩ (.slice a9 (Ks.length+1) c9)=wx at *
    go_wp2_with fail
    go_roundw
    case rel=>exact ⟨k+1,a9,c9,Ks++[(xs,a5,c5)],by go_num,by omega,Zh (by rw [List.map_append,HK.out,HN.out];rfl),Zh (by rw [HL9.out];exact HX9.out),HJX,HFX⟩
    case measure=>simp [intOf];omega
   ·skip
    go_simp
    refine (cloneZ_any _ xs _ (SlV.below HZX.out (Nat.le_refl _) (Below.drew (Below.refl _ _))) (by omega)).mono ?_
    rintro en w5 ⟨a5,c5,rfl,ho5,hb5'⟩
    have hb5:Below wr.heap.size wr w5:=(Below.drew (Below.refl _ _)).trans hb5'
    have HB5:=Lib.hid' hb5
    have HO5:=Zh (show w5.ownsRow wr.heap.size 3 1 (.slice a5 xs.length c5) xs.length (zVs xs) from ho5)
    have z1:=(hb5.cell (p:=⟨w.heap.size+2,1,none⟩) (by show w.heap.size+2<wr.heap.size;omega)).trans x1
    have g1:=(hb5.frozen (p:=⟨w.heap.size+2,1,none⟩) (by show w.heap.size+2<wr.heap.size;omega)).trans f1
    have hl5:=hb5.size
    have hl52:w.heap.size+2<w5.heap.size:=by omega
    clear ho5 hb5 hb5'
    refine hK.out _ _ ?_ (fun hH1=>?_)
    ·trivial
    clear hK K
    refine wpAnyH_ready (rs:=[1,4]) (by kernel_rfl) (by simp) (AllReadyH.cons (o:=_) rfl (fun K hK=>?_) (AllReadyH.cons (o:=_) rfl (fun K hK=>?_) AllReadyH.nil))
    ·skip
     go_simp
     refine hK.out _ _ ?_ (fun hH2=>?_)
     ·trivial
     clear hK K
     refine rD 4 rfl (fun K hK=>?_)
     go_simp
     refine hK.out _ _ ?_ (fun hH3=>?_)
     ·trivial
     clear hK K
     refine rD 5 rfl (fun K hK=>?_)
     refine step_one etRows rfl (.tmp 17) (.tmp 20) rfl [.slice a5 xs.length c5] rfl (w.heap.size+3) Ks.length (Ks.map chV) _ rfl (HJ.out.below (Nat.le_refl _) HB5.out).row rfl (by simp [Value.oneCell']) (by omega) (by omega) ?_
     intro a9 c9 w9 ho9 hf9
     have HO9:=Lib.hid' ho9
     have HF9:=Lib.hid' hf9
     have y1:=hf9.cell z1 hne2
     have g9:w9.frozen? ⟨w.heap.size+2,1,none⟩=false:=by rw [←g1];simp only [World.frozen?,hf9.block _ (by omega) hne2]
     clear ho9 hf9
     refine hK.out _ _ ?_ (fun hH4=>?_)
     ·trivial
     clear hK K
     refine tA 6 (.pointer (some ⟨w.heap.size+2,1,none⟩)) rfl hH4 ?_ ?_
     ·intro w hSw;go_simp
     simp only [Act.put,gA,gZ,gS,sA,sZ,sS]
     refine rD 7 rfl (fun K hK=>?_)
     go_simp
     refine hK.out _ _ ?_ (fun hH5=>?_)
     ·trivial
     clear hK K
     refine wpAnyH_done (by kernel_rfl) ?_ _
     have HJ9:=Zh (HJ.out.push (y:=(xs,a5,c5)) hlw HB5.out HO5.out HF9.out HO9.out)
     have HB9:=Zh (show BoxW (w.heap.size+2) [.int .i64 e,.slice a' Ks.length c'] 74 w9 from (HBX.out.below (Nat.le_refl _) HB5.out).fr HF9.out hne2)
     have HX9:=Zh (show BoxW (w.heap.size+2) [.int .i64 e,.slice a9 (Ks.length+1) c9] 74 (w9.setCell ⟨w.heap.size+2,1,none⟩ (.slice a9 (Ks.length+1) c9)) from heap_setCell_same _ _ 1 _ _ _ HB9.out)
     have HFX:=Zh (show Fr (fun q=>q=w.heap.size+2) w3 (w9.setCell ⟨w.heap.size+2,1,none⟩ (.slice a9 (Ks.length+1) c9)) from ((HF.out.trans_below HB5.out).trans HF9.out (fun i hi=>by have:=(HJ.out.blk hi).1;have:=HZ.out;exact .inr (by omega))).trans (fr_set _ _ _ _) (fun i hi=>.inl hi))
     have HJX:=Zh (HJ9.out.fr (fr_set w9 (w.heap.size+2) 1 (.slice a9 (Ks.length+1) c9)) (fun q hq=>by omega))
     have HL9:=Zh (show (Ks++[(xs,a5,c5)]).length=Ks.length+1 from by simp)
     generalize w9.setCell ⟨w.heap.size+2,1,none⟩ (.slice a9 (Ks.length+1) c9)=wx at *
     go_wp2_with fail
     go_roundw
     case rel=>exact ⟨k+1,a9,c9,Ks++[(xs,a5,c5)],by go_num,by omega,Zh (by rw [List.map_append,HK.out,HN.out];rfl),Zh (by rw [HL9.out];exact HX9.out),HJX,HFX⟩
     case measure=>simp [intOf];omega
    ·skip
     go_simp
     refine hK.out _ _ ?_ (fun hH2=>?_)
     ·trivial
     clear hK K
     refine rD 1 rfl (fun K hK=>?_)
     go_simp
     refine hK.out _ _ ?_ (fun hH3=>?_)
     ·trivial
     clear hK K
     refine rD 5 rfl (fun K hK=>?_)
     refine step_one etRows rfl (.tmp 17) (.tmp 20) rfl [.slice a5 xs.length c5] rfl (w.heap.size+3) Ks.length (Ks.map chV) _ rfl (HJ.out.below (Nat.le_refl _) HB5.out).row rfl (by simp [Value.oneCell']) (by omega) (by omega) ?_
     intro a9 c9 w9 ho9 hf9
     have HO9:=Lib.hid' ho9
     have HF9:=Lib.hid' hf9
     have y1:=hf9.cell z1 hne2
     have g9:w9.frozen? ⟨w.heap.size+2,1,none⟩=false:=by rw [←g1];simp only [World.frozen?,hf9.block _ (by omega) hne2]
     clear ho9 hf9
     refine hK.out _ _ ?_ (fun hH4=>?_)
     ·trivial
     clear hK K
     refine tA 6 (.pointer (some ⟨w.heap.size+2,1,none⟩)) rfl hH4 ?_ ?_
     ·intro w hSw;go_simp
     simp only [Act.put,gA,gZ,gS,sA,sZ,sS]
     refine rD 7 rfl (fun K hK=>?_)
     go_simp
     refine hK.out _ _ ?_ (fun hH5=>?_)
     ·trivial
     clear hK K
     refine wpAnyH_done (by kernel_rfl) ?_ _
     have HJ9:=Zh (HJ.out.push (y:=(xs,a5,c5)) hlw HB5.out HO5.out HF9.out HO9.out)
     have HB9:=Zh (show BoxW (w.heap.size+2) [.int .i64 e,.slice a' Ks.length c'] 74 w9 from (HBX.out.below (Nat.le_refl _) HB5.out).fr HF9.out hne2)
     have HX9:=Zh (show BoxW (w.heap.size+2) [.int .i64 e,.slice a9 (Ks.length+1) c9] 74 (w9.setCell ⟨w.heap.size+2,1,none⟩ (.slice a9 (Ks.length+1) c9)) from heap_setCell_same _ _ 1 _ _ _ HB9.out)
     have HFX:=Zh (show Fr (fun q=>q=w.heap.size+2) w3 (w9.setCell ⟨w.heap.size+2,1,none⟩ (.slice a9 (Ks.length+1) c9)) from ((HF.out.trans_below HB5.out).trans HF9.out (fun i hi=>by have:=(HJ.out.blk hi).1;have:=HZ.out;exact .inr (by omega))).trans (fr_set _ _ _ _) (fun i hi=>.inl hi))
     have HJX:=Zh (HJ9.out.fr (fr_set w9 (w.heap.size+2) 1 (.slice a9 (Ks.length+1) c9)) (fun q hq=>by omega))
     have HL9:=Zh (show (Ks++[(xs,a5,c5)]).length=Ks.length+1 from by simp)
     generalize w9.setCell ⟨w.heap.size+2,1,none⟩ (.slice a9 (Ks.length+1) c9)=wx at *
     go_wp2_with fail
     go_roundw
     case rel=>exact ⟨k+1,a9,c9,Ks++[(xs,a5,c5)],by go_num,by omega,Zh (by rw [List.map_append,HK.out,HN.out];rfl),Zh (by rw [HL9.out];exact HX9.out),HJX,HFX⟩
     case measure=>simp [intOf];omega

  ·obtain rfl:k=X.length:=by omega
   have HK':=Zh (show Ks.map (·.1)=X.map (·.1) by have:=HK.out;rwa [List.take_length] at this)
   have z10:=((bcell (HF.out.below (B:=w.heap.size+2) (by have:=HZ.out;omega) (fun q hq=>by omega))).1 _ _ (by omega)).trans K1.out.1
   have z11:=((bcell (HF.out.below (B:=w.heap.size+2) (by have:=HZ.out;omega) (fun q hq=>by omega))).1 _ _ (by omega)).trans K1.out.2.1
   have h10:=((bcell (HF.out.below (B:=w.heap.size+2) (by have:=HZ.out;omega) (fun q hq=>by omega))).2 _ _ (by omega)).trans K1.out.2.2.1
   have h11:=((bcell (HF.out.below (B:=w.heap.size+2) (by have:=HZ.out;omega) (fun q hq=>by omega))).2 _ _ (by omega)).trans K1.out.2.2.2
   have HFIN:=Zh (show Fr (fun q=>q=w.heap.size+1) wr ((wr.setCell ⟨w.heap.size+1,0,none⟩ (.int .i64 e)).setCell ⟨w.heap.size+1,1,none⟩ (.slice a' Ks.length c')) from (fr_set _ _ _ _).trans (fr_set _ _ _ _) (fun i hi=>.inl hi))
   go_wp2
   refine bodyPost_ret (v:=pjV e a' c' Ks) (by simp [results,Tryz.results29,go_sem,z10,z11,x0,x1,pjV]) rfl ⟨a',c',Ks,rfl,(HJ.out.fr HFIN.out (fun q hq=>by omega)).base (by omega),HK'.out,HBW.out.trans (HFIN.out.below (by omega) (fun q hq=>by omega))⟩

/-- a row of a chain, as a part of memory -/
def chA (y:Ch):Asn:=.row 3 1 (chV y) y.1.length (zVs y.1)
theorem own_at {w w0:World} {e size n:Nat} {v:Value} {xs:List Value} (h1:w.ownsRow 0 e size v n xs) (hb:∀ b,v.ownBlock=some b→w0.heap.size≤b):w.ownsRow w0.heap.size e size v n xs:=by
 refine ⟨h1.1,?_⟩
 rcases h1.2 with h2 | ⟨g,cap,cur,hv,hg,r⟩
 ·exact Or.inl h2
 ·exact Or.inr ⟨g,cap,cur,hv,hb g (by rw [hv];rfl),r⟩
theorem slv_at {w:World} {n:Nat} {cs:List Value} {a:Option Addr} {c m:Nat} (h:SlV w (.slice a m c) n cs) {j:Nat} {u:Value} (hu:cs[j]?=some u):∃ p,a=some p∧w.cell? (p.add j)=some u:=by
 obtain ⟨_,_,he,_,_,_,k⟩:=h
 cases he
 exact k j u hu
theorem Sep.pastJ {w0 w w':World} {F:Nat→Prop} {L:List Asn} {Ks:List Ch} {ja:Option Addr} {jc:Nat} (h:Sep w0 F L w) (hb:Below w.heap.size w w') (hj:OwnJ w' w.heap.size ja jc Ks):Sep w0 F (Asn.all (Ks.map chA)::.row 30 1 (.slice ja Ks.length jc) Ks.length (Ks.map chV)::L) w':=by
 refine h.call0 (K:=[Asn.all (Ks.map chA),.row 30 1 (.slice ja Ks.length jc) Ks.length (Ks.map chV)]) ⟨Fr.of_below hb,?_,?_,?_⟩
 ·simp only [List.mem_cons,List.not_mem_nil,or_false]
  rintro A (rfl | rfl)
  ·refine Asn.all_holds.2 ⟨fun A hA=>?_,?_⟩
   ·obtain ⟨x,hx,rfl⟩:=List.mem_map.1 hA
    exact own_base (hj.each x hx) (Nat.zero_le _)
   ·rw [List.pairwise_map];exact hj.apart
  ·exact own_base hj.row (Nat.zero_le _)
 ·simp only [List.pairwise_cons,List.mem_singleton,forall_eq,List.not_mem_nil,false_implies,implies_true,List.Pairwise.nil,and_true]
  intro b hb1 hb2
  obtain ⟨A,hA,hb1⟩:=Asn.all_foot.1 hb1
  obtain ⟨x,hx,rfl⟩:=List.mem_map.1 hA
  have h1:=own_apart (hj.each x hx) hj.row (by decide:(3:Nat)≠30)
  obtain ⟨xs,xa,xc⟩:=x
  have hb1:(Value.slice xa xs.length xc).ownBlock=some b:=hb1
  have hb2:(Value.slice ja Ks.length jc).ownBlock=some b:=hb2
  cases xa with
  | none=>simp [Value.ownBlock] at hb1
  | some p =>
   have h2:=h1 p xs.length xc rfl
   simp only [Value.ownBlock,Option.some.injEq] at hb1 hb2 h2
   rw [hb1] at h2
   exact h2 hb2
 ·simp only [List.mem_cons,List.not_mem_nil,or_false]
  rintro A (rfl | rfl) b hb1
  ·obtain ⟨A,hA,hb1⟩:=Asn.all_foot.1 hb1
   obtain ⟨x,hx,rfl⟩:=List.mem_map.1 hA
   exact .inl (own_blk (hj.each x hx) hb1).1
  ·exact .inl (own_blk hj.row hb1).1
end Go.Proofs.YtaodldbgikiekaaGreatDoor
