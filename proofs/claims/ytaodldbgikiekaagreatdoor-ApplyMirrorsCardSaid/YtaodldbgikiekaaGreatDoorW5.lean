/- Proved here: a part of the proof (5 of 35). -/
import Derived.Test.YtaodldbgikiekaaGreatDoorW2
import Derived.Test.YtaodldbgikiekaaGreatDoorW1
import Derived.Test.YtaodldbgikiekaaGreatDoorSlzL
import Derived.Lib.SliceRun
import Derived.Shelf.GgClosure.Gives
set_option linter.unusedSimpArgs false
set_option linter.unusedVariables false
set_option maxRecDepth 20000
namespace Go.Proofs.YtaodldbgikiekaaGreatDoor
open Go.RowKit

theorem bytes_len {w:World} {a:Option Addr} {c:Nat} {l:List UInt8} (h:Bytes w (.slice a l.length c) l):l.length≤9223372036854775807:=by
 obtain ⟨_,_,he,h1,h2,_⟩:=h;cases he;unfold maxLen at h2;omega
theorem bytes_at {w:World} {a:Option Addr} {n c:Nat} {l:List UInt8} (h:Bytes w (.slice a n c) l) {k:Nat} (hk:k<l.length) :
  ∃ b off,a=some ⟨b,off,none⟩∧b<w.heap.size∧w.cell? ⟨b,off+k,none⟩=some (.int .u8 l[k].toNat):=by
 have h':SlV w (.slice a n c) n (l.flatMap (fun x=>[byteV x])):=by
  obtain ⟨a',c',he,r⟩:=h
  cases he
  refine ⟨a,c,rfl,?_⟩
  rw [←map_one];exact r
 obtain ⟨b,off,e,hb,hc⟩:=SlV.row (f:=fun x=>[byteV x]) (s:=1) (fun _=>rfl) (by decide) h' hk
 refine ⟨b,off,e,hb,?_⟩
 have:=hc 0 _ rfl
 simpa [byteV] using this
/-- a list's slice: the numbers, the address, the capacity -/
abbrev Cb:=List UInt8×Option Addr×Nat
def cbV (x:Cb):Value:=.slice x.2.1 x.1.length x.2.2
/-- a slice of slices -/
structure Cbs (w:World) (a:Option Addr) (c:Nat) (X:List Cb):Prop where
 rows:SlV w (.slice a X.length c) X.length (X.map cbV)
 each:∀ x∈X,Bytes w (cbV x) x.1
theorem Cbs.len {w:World} {a:Option Addr} {c:Nat} {X:List Cb} (h:Cbs w a c X):X.length≤9223372036854775807:=by
 obtain ⟨_,_,he,h1,h2,_⟩:=h.rows;cases he;unfold maxLen at h2;omega
theorem Cbs.below {w w':World} {a:Option Addr} {c:Nat} {X:List Cb} (h:Cbs w a c X) {B:Nat} (hB:w.heap.size≤B) (hb:Below B w w'):Cbs w' a c X :=
 ⟨SlV.below h.rows hB hb,fun x hx=>SlV.below (h.each x hx) hB hb⟩
theorem Cbs.at {w:World} {a:Option Addr} {c:Nat} {X:List Cb} (h:Cbs w a c X) {k:Nat} (hk:k<X.length) :
  ∃ b off,a=some ⟨b,off,none⟩∧b<w.heap.size∧w.cell? ⟨b,off+k,none⟩=some (.slice X[k].2.1 X[k].1.length X[k].2.2)∧Bytes w (.slice X[k].2.1 X[k].1.length X[k].2.2) X[k].1:=by
 have h':SlV w (.slice a X.length c) X.length (X.flatMap (fun x=>[cbV x])):=by
  have:X.flatMap (fun x=>[cbV x])=X.map cbV:=by
   clear h hk;induction X with
   | nil=>rfl
   | cons x l ih=>rw [List.flatMap_cons,ih];rfl
  rw [this];exact h.rows
 obtain ⟨b,off,e,hb,hc⟩:=SlV.row (f:=fun x=>[cbV x]) (s:=1) (fun _=>rfl) (by decide) h' hk
 refine ⟨b,off,e,hb,?_,h.each _ (List.getElem_mem hk)⟩
 have:=hc 0 _ rfl
 simpa [cbV] using this

theorem alloc_newB (w:World) (o:Obj):(w.alloc o).heap[w.heap.size]?=some o:=by show (w.heap.push _)[w.heap.size]?=_;simp
set_option maxHeartbeats 1000000 in
theorem growB_any (n:Nat) (hn:n≤1099511627776) (w:World):Calls Tryz.prog 183 #[.slice none 0 0,.int .i64 n] w (OwnR w.heap.size 5 1 0 [] w):=by
 by_cases h0:n=0
 ·subst h0
  have h:=Any8.slices_Grow_room Tryz.growB none 0 0 0 w (Nat.le_refl _) (by decide) (by decide) (Nat.le_refl _)
  change Calls Tryz.prog 183 _ _ _ at h
  refine h.mono ?_
  rintro e w' ⟨rfl,rfl⟩
  exact ⟨none,0,rfl,own_nil _ _ _ _,Below.refl _ _⟩
 ·obtain ⟨i,z,a1,a2,a3,a4,a5⟩:=etBytes.info
  have h:=Any8.slices_Grow_grow Tryz.growB i z a1 a2 (by rw [a3];decide) none 0 0 n [] w (Nat.le_refl _) (by omega) (by rw [a4];omega) (by omega) (by simp) (fun _=>rfl) (fun a h=>by cases h)
  change Calls Tryz.prog 183 _ _ _ at h
  refine h.mono ?_
  rintro e w' ⟨rfl,rfl⟩
  refine ⟨_,_,rfl,⟨by simp,.inr ⟨w.heap.size,_,_,rfl,Nat.le_refl _,alloc_newB w.drew _,Nat.zero_le _,grownCap_le_maxLen _ _ _ _ (by unfold maxLen;omega),?_,by simp⟩⟩,?_⟩
  ·have hg:=grownCap_ge w (0+n) 0 5
   change _=grownCap w (0+n) 0 5*1
   have e3:(Tryz.growB_ren.t 25)=5:=rfl
   rw [e3]
   simp only [Array.size_append,size_zeroCells,a5]
   simp only [List.size_toArray,List.length_nil]
   omega
  ·exact (Below.drew (Below.refl _ _)).alloc (by simp) _

/-- all numbers, list behind list -/
def flatB (X:List Cb):List UInt8:=(X.map (·.1)).flatten
theorem flatB_take {X:List Cb} {k:Nat} (hk:k<X.length):flatB (X.take (k+1))=flatB (X.take k)++X[k].1:=by
 unfold flatB;rw [List.take_succ_eq_append_getElem hk];simp only [List.map_append,List.flatten_append,List.map_cons,List.map_nil,List.flatten_cons,List.flatten_nil,List.append_nil]
theorem flatB_take_le (X:List Cb) (k:Nat):(flatB (X.take k)).length≤(flatB X).length:=by
 have e:X.map (·.1)=(X.take k).map (·.1)++(X.drop k).map (·.1):=by rw [←List.map_append,List.take_append_drop]
 unfold flatB
 rw [e,List.flatten_append,List.length_append];omega
set_option maxHeartbeats 2000000 in
theorem concatB_any (X:List Cb) (a:Option Addr) (c:Nat) (w:World) (h:Cbs w a c X) (ht:(flatB X).length≤1099511627776) :
  Calls Tryz.prog 133 #[.slice a X.length c] w (OwnR w.heap.size 5 1 (flatB X).length (byteVs (flatB X)) w):=by
 have HS:=Lib.hid' h
 have hlen:=h.len
 clear h
 go_enter Tryz.func133, Tryz.ntmps133
 go_wp2_with fail
 go_loop [3,11] (fun v3 v11=>∃ k:Nat,v11=.int .i64 k∧k≤X.length∧v3=.int .i64 ((flatB (X.take k)).length)) (fun _ v11=>X.length - (intOf v11).toNat)
 case atStart=>exact ⟨0,rfl,Nat.zero_le _,rfl⟩
 case round =>
  obtain ⟨k,rfl,hk,rfl⟩:=hrel
  by_cases hlt:k<X.length
  ·obtain ⟨b,off,rfl,hb,hc,hz⟩:=HS.out.at hlt
   have hle:=flatB_take_le X (k+1)
   have hle2:(flatB (X.take (k+1))).length=(flatB (X.take k)).length+X[k].1.length:=by rw [flatB_take hlt,List.length_append]
   have HF:=Lib.hid' hle2
   have hs:(flatB (X.take k)).length+X[k].1.length≤1099511627776:=by omega
   clear hz hle hle2
   generalize X[k]=y at *
   generalize (flatB (X.take k)).length=s at *
   have hneg:¬((s:Int)+(y.1.length:Int)<0):=by omega
   go_wp2_with fail
   go_round
   case rel=>exact ⟨k+1,by go_num,by omega,by rw [HF.out];go_num⟩
   case measure=>simp [intOf];omega
  ·obtain rfl:k=X.length:=by omega
   have HT:=Zh (List.take_length (l:=X))
   rw [HT.out]
   clear hlt
   go_wp2_with fail
   refine (growB_any _ ht w).mono ?_
   rintro e w1 ⟨a1,c1,rfl,ho,hb⟩
   have HO:=Lib.hid' ho
   have HB:=Lib.hid' hb
   clear ho hb
   go_wp2_with fail
   go_loopw [6,27] (fun v6 v27 wr=>∃ (k:Nat) (a':Option Addr) (c':Nat),v27=.int .i64 k∧k≤X.length∧v6=.slice a' (flatB (X.take k)).length c'∧Hid (wr.ownsRow w.heap.size 5 1 (.slice a' (flatB (X.take k)).length c') (flatB (X.take k)).length (byteVs (flatB (X.take k))))∧Hid (Below w.heap.size w wr)) (fun _ v27 _=>X.length - (intOf v27).toNat)
   case atStart=>exact ⟨0,a1,c1,rfl,Nat.zero_le _,rfl,HO,HB⟩
   case round =>
    obtain ⟨k,a',c',rfl,hk,rfl,HOk,HBk⟩:=hrel
    by_cases hlt:k<X.length
    ·obtain ⟨b,off,rfl,hb,hc,hz⟩:=(HS.out.below (Nat.le_refl _) HBk.out).at hlt
     have HF:=Zh (flatB_take hlt)
     have HZ:=Lib.hid' hz
     have hle:=flatB_take_le X (k+1)
     have hle2:(flatB (X.take (k+1))).length=(flatB (X.take k)).length+X[k].1.length:=by rw [flatB_take hlt,List.length_append]
     have hs:(flatB (X.take k)).length+X[k].1.length≤1099511627776:=by omega
     have hbz:=HBk.out.size
     clear hz hle hle2
     generalize X[k]=y at *
     generalize flatB (X.take k)=S at *
     go_wp2_with (at_builtin;refine append_sl etBytes rfl (.tmp 31) (.tmp 32) rfl w.heap.size S.length (byteVs S) _ rfl HOk.out y.1.length (byteVs y.1) _ rfl HZ.out (by simp [byteVs]) (byteVs_one _) (by omega) hbz ?_)
     intro a2 c2 w2 ho2 hf2
     have HO2:=Lib.hid' ho2
     have HB2:=Zh (hf2.row HOk.out (Nat.le_refl _) hbz HBk.out)
     clear ho2 hf2
     go_wp2_with fail
     go_roundw
     case rel =>
      refine ⟨k+1,a2,c2,by go_num,by omega,by rw [HF.out,List.length_append],?_,HB2⟩
      rw [HF.out,List.length_append,byteVs_append]
      exact HO2
     case measure=>simp [intOf];omega
    ·obtain rfl:k=X.length:=by omega
     rw [HT.out] at HOk
     rw [HT.out]
     clear hlt
     go_wp2_with fail
     go_ret
     exact ⟨a',c',rfl,HOk.out,HBk.out⟩

theorem eq_takeB {α:Type} [DecidableEq α] {l m:List α} (hl:l.length=m.length) {k:Nat} (h:l.take k=m.take k) (hk:¬k<l.length):l=m:=by
 rwa [List.take_of_length_le (by omega),List.take_of_length_le (by omega)] at h
theorem take_nextB {α:Type} {l m:List α} {k:Nat} (h:l.take k=m.take k) (h1:k<l.length) (h2:k<m.length) (he:l[k]=m[k]):l.take (k+1)=m.take (k+1):=by
 rw [List.take_succ_eq_append_getElem h1,List.take_succ_eq_append_getElem h2,h,he]
set_option maxHeartbeats 400000 in
theorem equalB_any (l m:List UInt8) (a b:Option Addr) (c d:Nat) (w:World) (h:Bytes w (.slice a l.length c) l) (h':Bytes w (.slice b m.length d) m) :
  Calls Tryz.prog 266 #[.slice a l.length c,.slice b m.length d] w fun e w'=>e=.returned (.bool (l==m))∧Below w.heap.size w w':=by
 have HS:=Lib.hid' h
 have HM:=Lib.hid' h'
 have hlen:=bytes_len h
 have hlen':=bytes_len h'
 clear h h'
 by_cases hl:l.length=m.length
 rotate_left
 ·have HF:=Zh (show (l==m)=false by rw [beq_eq_false_iff_ne];intro e;exact hl (by rw [e]))
  have hd:((l.length:Int) != (m.length:Int))=true:=by rw [bne_iff_ne];omega
  clear hl
  go_enter Tryz.func266, Tryz.ntmps266
  go_wp2_with fail
  go_ret
  exact ⟨ret_eq (by rw [HF.out];rfl),Below.refl _ _⟩
 have HL:=Lib.hid' hl
 have hd:((l.length:Int) != (m.length:Int))=false:=by rw [bne_eq_false_iff_eq];omega
 clear hl
 go_enter Tryz.func266, Tryz.ntmps266
 go_wp2_with fail
 clear hd
 go_loopw [13] (fun v8 wr=>∃ k:Nat,v8=.int .i64 k∧k≤l.length∧Hid (l.take k=m.take k)∧Hid (Below w.heap.size w wr)) (fun v8 _=>l.length - (intOf v8).toNat)
 case atStart=>exact ⟨0,rfl,Nat.zero_le _,Zh (by simp),Zh (Below.refl _ _)⟩
 case round =>
  obtain ⟨k,rfl,hk,HNO,HB⟩:=hrel
  by_cases hlt:k<l.length
  ·have hlt':k<m.length:=by have:=HL.out;omega
   obtain ⟨b1,off1,rfl,hb1,hc1'⟩:=bytes_at HS.out hlt
   obtain ⟨b2,off2,rfl,hb2,hc2'⟩:=bytes_at HM.out hlt'
   have hc1:=(HB.out.cell (p:=⟨b1,off1+k,none⟩) hb1).trans hc1'
   have hc2:=(HB.out.cell (p:=⟨b2,off2+k,none⟩) hb2).trans hc2'
   have HT:=Zh (fun he=>take_nextB HNO.out hlt hlt' he)
   have HN:=Zh (show l[k]≠m[k]→(l==m)=false by
    intro h;rw [beq_eq_false_iff_ne];intro e;subst e;exact h rfl)
   clear hc1' hc2'
   generalize l[k]=x at *
   generalize m[k]=y at *
   go_wp2_with fail
   have hxy:((x.toNat:Int) != (y.toNat:Int))=(x != y):=by rw [Bool.eq_iff_iff,bne_iff_ne,bne_iff_ne];constructor;{ intro h e;subst e;exact h rfl };{ intro h e;exact h (UInt8.toNat_inj.1 (by omega))}
   cases hq:(x != y) with
   | true =>
    rw [hq] at hxy
    have HF:=Zh (HN.out (by rwa [bne_iff_ne] at hq))
    go_quiet (fail)
    go_wp2_with fail
    go_ret
    exact ⟨ret_eq (by rw [HF.out];rfl),below_drewN' HB.out _⟩
   | false =>
    rw [hq] at hxy
    have HF:=Zh (HT.out (by rwa [bne_eq_false_iff_eq] at hq))
    go_quiet (fail)
    go_wp2_with fail
    go_roundw
    case rel=>exact ⟨k+1,by go_num,by omega,HF,Zh (below_drewN' HB.out _)⟩
    case measure=>simp [intOf];omega
  ·have HF:=Zh (show (l==m)=true by rw [beq_iff_eq];exact eq_takeB HL.out HNO.out hlt)
   go_wp2_with fail
   go_ret
   exact ⟨ret_eq (by rw [HF.out];rfl),HB.out⟩
theorem bytes_take {w:World} {a:Option Addr} {n c:Nat} {l:List UInt8} (h:Bytes w (.slice a n c) l) {k:Nat} (hk:k≤l.length):Bytes w (.slice a k c) (l.take k):=by
 obtain ⟨a',c',he,h1,h2,h0,h3⟩:=h
 simp only [Value.slice.injEq] at he
 obtain ⟨rfl,rfl,rfl⟩:=he
 have hl:(l.take k).length=k:=by rw [List.length_take];omega
 refine ⟨a,c,by rw [hl],by rw [hl];omega,h2,h0,fun j u hu=>h3 j u ?_⟩
 have:byteVs (l.take k)=(byteVs l).take k:=by simp [byteVs,List.map_take]
 rw [this] at hu
 rw [List.getElem?_take] at hu
 split at hu
 ·exact hu
 ·cases hu
theorem bytes_drop {w:World} {b off n c:Nat} {l:List UInt8} (h:Bytes w (.slice (some ⟨b,off,none⟩) n c) l) {k:Nat} (hk:k≤l.length):Bytes w (.slice (some ⟨b,off+k,none⟩) (l.length - k) (c - k)) (l.drop k):=by
 obtain ⟨a',c',he,h1,h2,h0,h3⟩:=h
 simp only [Value.slice.injEq] at he
 obtain ⟨rfl,rfl,rfl⟩:=he
 have hadd:∀ b o j:Nat,(⟨b,o,none⟩:Addr).add j=⟨b,o+j,none⟩:=fun b o j=>by unfold Addr.add;split<;>simp_all
 refine ⟨some ⟨b,off+k,none⟩,c - k,by rw [List.length_drop],by rw [List.length_drop];omega,by omega,by simp,fun j u hu=>⟨_,rfl,?_⟩⟩
 have:byteVs (l.drop k)=(byteVs l).drop k:=by simp [byteVs,List.map_drop]
 rw [this,List.getElem?_drop] at hu
 obtain ⟨p,hp,hc⟩:=h3 (k+j) u hu
 cases hp
 rw [hadd] at hc
 rw [hadd,Nat.add_assoc];exact hc
theorem slv_alloc (w:World) (cs:List Value) (n e:Nat) (hn:n≤maxLen) (hl:cs.length=n):(w.alloc (.cells cs.toArray e)).ownsRow w.heap.size e 1 (.slice (some ⟨w.heap.size,0,none⟩) n n) n cs :=
 ⟨by omega,.inr ⟨w.heap.size,n,cs.toArray,rfl,Nat.le_refl _,by show (w.heap.push _)[w.heap.size]?=_;simp,Nat.le_refl _,hn,by simp;omega,by rw [Nat.mul_one];exact List.take_of_length_le (by simp;omega)⟩⟩
theorem bytes_sub {w:World} {a:Option Addr} {c k:Nat} {l:List UInt8} (h:Bytes w (.slice a l.length c) l) (hk:k≤l.length) (a2:Option Addr) (h2:(∃ b off,a=some ⟨b,off,none⟩∧a2=some ⟨b,off+k,none⟩)∨l.length=k) (h0:a2=none→c=k):Bytes w (.slice a2 (l.drop k).length (c - k)) (l.drop k):=by
 have hcap:l.length≤c∧c≤maxLen:=by obtain ⟨_,_,he,h1,h2,_⟩:=h;cases he;exact ⟨h1,h2⟩
 rcases h2 with ⟨b,off,rfl,rfl⟩ | h2
 ·rw [List.length_drop];exact bytes_drop h hk
 ·have e:l.drop k=[]:=by rw [←h2];simp
  rw [e]
  exact SlV.empty _ _ _ (by omega) (fun h=>by have:=h0 h;omega)
end Go.Proofs.YtaodldbgikiekaaGreatDoor
