/- Proved here: a part of the proof (3 of 35). -/
import Derived.KernelRfl
set_option linter.unusedSimpArgs false
set_option linter.unusedVariables false
namespace Go.Proofs.YtaodldbgikiekaaGreatDoor

/-- one bit goes -/
def crcBit (x:Nat):Nat:=if x % 2=1 then (x / 2) ^^^ 2197175160 else x / 2
def crcBits:Nat→Nat→Nat
 | 0,x=>x
 | k+1,x=>crcBits k (crcBit x)
def crcByte (x:Nat):Nat:=crcBits 8 x
theorem crcBits_succ (k x:Nat):crcBits (k+1) x=crcBit (crcBits k x):=by
 induction k generalizing x with
 | zero=>rfl
 | succ k ih=>rw [crcBits,ih];rfl
theorem crcBit_xor (a b:Nat):crcBit (a ^^^ b)=crcBit a ^^^ crcBit b:=by
 unfold crcBit
 have hd:(a ^^^ b) / 2=a / 2 ^^^ b / 2:=Nat.xor_div_two
 have hm:=@Nat.xor_mod_two_eq_one a b
 rw [hd]
 have ha:=Nat.mod_two_eq_zero_or_one a
 have hb:=Nat.mod_two_eq_zero_or_one b
 rcases ha with ha | ha<;>rcases hb with hb | hb
 ·rw [if_neg (by rw [hm];omega),if_neg (by omega),if_neg (by omega)]
 ·rw [if_pos (by rw [hm];omega),if_neg (by omega),if_pos hb,Nat.xor_assoc]
 ·rw [if_pos (by rw [hm];omega),if_pos ha,if_neg (by omega),Nat.xor_assoc,Nat.xor_assoc,Nat.xor_comm 2197175160]
 ·rw [if_neg (by rw [hm];omega),if_pos ha,if_pos hb,Nat.xor_assoc,←Nat.xor_assoc 2197175160,Nat.xor_comm 2197175160 (b / 2),Nat.xor_assoc,Nat.xor_self,Nat.xor_zero]
theorem crcBits_xor (k a b:Nat):crcBits k (a ^^^ b)=crcBits k a ^^^ crcBits k b:=by
 induction k generalizing a b with
 | zero=>rfl
 | succ k ih=>simp only [crcBits,crcBit_xor,ih]
theorem crcBits_shift (k h:Nat):crcBits k (h*2 ^ k)=h:=by
 induction k generalizing h with
 | zero=>simp [crcBits]
 | succ k ih =>
  have e:crcBit (h*2 ^ (k+1))=h*2 ^ k:=by
   have h1:h*2 ^ (k+1)=2*(h*2 ^ k):=by rw [Nat.pow_succ,←Nat.mul_assoc,Nat.mul_comm]
   rw [h1]
   unfold crcBit
   rw [if_neg (by omega)];omega
  rw [crcBits,e,ih]
theorem split_byte (x:Nat):x=(x / 256*2 ^ 8) ^^^ (x % 256):=by
 apply Nat.eq_of_testBit_eq
 intro i
 rw [Nat.testBit_xor,Nat.testBit_mul_two_pow,show (256:Nat)=2 ^ 8 from rfl,Nat.testBit_mod_two_pow,←Nat.shiftRight_eq_div_pow,Nat.testBit_shiftRight]
 by_cases h:8≤i
 ·have h1:8+(i - 8)=i:=by omega
  have h2:¬i<8:=by omega
  simp [h,h1,h2]
 ·have h2:i<8:=by omega
  simp [h,h2]
theorem crcByte_split (x:Nat):crcByte x=crcByte (x % 256) ^^^ (x / 256):=by
 conv=>lhs;rw [split_byte x]
 unfold crcByte
 rw [crcBits_xor,crcBits_shift,Nat.xor_comm]
theorem xor_byte (x c:Nat) (hc:c<256):(x ^^^ c) % 256=(x % 256) ^^^ c∧(x ^^^ c) / 256=x / 256:=by
 have h1:c % 2 ^ 8=c:=Nat.mod_eq_of_lt hc
 have h2:c / 2 ^ 8=0:=Nat.div_eq_of_lt hc
 constructor
 ·rw [show (256:Nat)=2 ^ 8 from rfl,Nat.xor_mod_two_pow,h1]
 ·rw [show (256:Nat)=2 ^ 8 from rfl,Nat.xor_div_two_pow,h2,Nat.xor_zero]
/-- a byte more, bit by bit -/
def crcRef (x:Nat) (c:UInt8):Nat:=crcByte (x ^^^ c.toNat)
/-- .. and by the table -/
def crcTab (x:Nat) (c:UInt8):Nat:=crcByte ((x % 256) ^^^ c.toNat) ^^^ (x / 256)
theorem crc_same (x:Nat) (c:UInt8):crcTab x c=crcRef x c:=by
 unfold crcTab crcRef
 obtain ⟨h1,h2⟩:=xor_byte x c.toNat c.toNat_lt
 rw [crcByte_split (x ^^^ c.toNat),h1,h2]
def crcNot (x:Nat):Nat:=x ^^^ 4294967295
def crcOf (s:Nat) (b:List UInt8):Nat:=crcNot (b.foldl crcRef (crcNot s))
theorem crcBit_lt {x:Nat} (h:x<4294967296):crcBit x<4294967296:=by
 unfold crcBit
 split
 ·have:=@Nat.xor_lt_two_pow (x / 2) 2197175160 32 (by omega) (by decide);simpa using this
 ·omega
theorem crcBits_lt (k:Nat) {x:Nat} (h:x<4294967296):crcBits k x<4294967296:=by
 induction k generalizing x with
 | zero=>exact h
 | succ k ih=>exact ih (crcBit_lt h)
theorem crcRef_lt {x:Nat} (h:x<4294967296) (c:UInt8):crcRef x c<4294967296:=by
 unfold crcRef crcByte
 refine crcBits_lt 8 ?_
 have:=@Nat.xor_lt_two_pow x c.toNat 32 (by simpa using h) (by have:=c.toNat_lt;simp;omega);simpa using this
theorem crcNot_lt {x:Nat} (h:x<4294967296):crcNot x<4294967296:=by
 have:=@Nat.xor_lt_two_pow x 4294967295 32 (by simpa using h) (by decide);simpa [crcNot] using this
theorem crcFold_lt (b:List UInt8) {x:Nat} (h:x<4294967296):b.foldl crcRef x<4294967296:=by
 induction b generalizing x with
 | nil=>exact h
 | cons c b ih=>exact ih (crcRef_lt h c)
theorem crcOf_lt {s:Nat} (h:s<4294967296) (b:List UInt8):crcOf s b<4294967296:=crcNot_lt (crcFold_lt b (crcNot_lt h))
/-- a sum's four bytes -/
def four (x:Nat):List UInt8:=[UInt8.ofNat (x / 16777216),UInt8.ofNat (x / 65536),UInt8.ofNat (x / 256),UInt8.ofNat x]
theorem four_length (x:Nat):(four x).length=4:=rfl

/-- a number's bytes -/
def vb (n:Nat):List UInt8:=if h:n<128 then [UInt8.ofNat n] else UInt8.ofNat (n % 128+128)::vb (n / 128)
termination_by n
theorem vb_small {n:Nat} (h:n<128):vb n=[UInt8.ofNat n]:=by rw [vb,dif_pos h]
theorem vb_big {n:Nat} (h:¬n<128):vb n=UInt8.ofNat (n % 128+128)::vb (n / 128):=by rw [vb,dif_neg h]
theorem vb_len (k n:Nat) (hk:0<k) (h:n<128 ^ k):(vb n).length≤k:=by
 induction k generalizing n with
 | zero=>omega
 | succ k ih =>
  by_cases hn:n<128
  ·rw [vb_small hn];simp
  ·rw [vb_big hn]
   rw [Nat.pow_succ] at h
   have hk0:0<k:=by
    rcases Nat.eq_zero_or_pos k with h0 | h0
    ·subst h0;simp at h;omega
    ·exact h0
   have:=ih (n / 128) hk0 (by rw [Nat.div_lt_iff_lt_mul (by decide)];exact h)
   simp only [List.length_cons];omega
theorem vb_len10 {n:Nat} (h:n<18446744073709551616):(vb n).length≤10:=vb_len 10 n (by decide) (by omega)

/-- what the groups say, the least ahead -/
def vv:List UInt8→Nat
 | []=>0
 | b::l=>b.toNat % 128+128*vv l
/-- .. as the reader makes it: with a weight -/
theorem vv_append (a b:List UInt8):vv (a++b)=vv a+128 ^ a.length*vv b:=by
 induction a with
 | nil=>simp [vv]
 | cons x a ih=>simp only [List.cons_append,vv,ih,List.length_cons,Nat.pow_succ];rw [Nat.mul_add,←Nat.mul_assoc,Nat.mul_comm (128 ^ a.length) 128];omega
theorem vv_vb (n:Nat):vv (vb n)=n:=by
 induction n using Nat.strongRecOn with
 | ind n ih =>
  by_cases h:n<128
  ·rw [vb_small h];simp [vv];omega
  ·rw [vb_big h]
   simp only [vv,ih (n / 128) (by omega)]
   have:(UInt8.ofNat (n % 128+128)).toNat=n % 128+128:=by simp;omega
   rw [this];omega
/-- the groups of a number: all but the last say 'more', the last is none of 0 unless it is the only one -/
inductive Canon:List UInt8→Prop
 | one (b:UInt8) (h:b.toNat<128):Canon [b]
 | more (b:UInt8) (l:List UInt8) (h:128≤b.toNat) (hl:Canon l) (h0:vv l≠0):Canon (b::l)
theorem canon_vb (n:Nat):Canon (vb n):=by
 induction n using Nat.strongRecOn with
 | ind n ih =>
  by_cases h:n<128
  ·rw [vb_small h];exact .one _ (by simp;omega)
  ·rw [vb_big h]
   refine .more _ _ (by simp;omega) (ih (n / 128) (by omega)) ?_
   rw [vv_vb];omega
theorem vb_vv {l:List UInt8} (h:Canon l):vb (vv l)=l:=by
 induction h with
 | one b h =>
  simp only [vv,Nat.mul_zero,Nat.add_zero,Nat.mod_eq_of_lt h]
  rw [vb_small h];simp
 | more b l h hl h0 ih =>
  simp only [vv]
  rw [vb_big (by omega)]
  have e1:(b.toNat % 128+128*vv l) % 128+128=b.toNat:=by have:=b.toNat_lt;omega
  have e2:(b.toNat % 128+128*vv l) / 128=vv l:=by omega
  rw [e1,e2,ih];simp
/-- a prefix that is a number: it ends at the first byte that says no more -/
theorem canon_end {l:List UInt8} (h:Canon l):∃ a x,l=a++[x]∧x.toNat<128∧(∀ y∈a,128≤y.toNat)∧(a≠[]→x.toNat≠0):=by
 induction h with
 | one b h=>exact ⟨[],b,rfl,h,by simp,by simp⟩
 | more b l h hl h0 ih =>
  obtain ⟨a,x,rfl,h1,h2,h3⟩:=ih
  refine ⟨b::a,x,rfl,h1,?_,fun _ hx=>?_⟩
  ·intro y hy
   rcases List.mem_cons.1 hy with rfl | hy
   ·exact h
   ·exact h2 y hy
  ·by_cases ha:a=[]
   ·subst ha;apply h0;simp [vv,hx]
   ·exact h3 ha hx
theorem canon_mk (a:List UInt8) (x:UInt8) (h1:x.toNat<128) (h2:∀ y∈a,128≤y.toNat) (h3:a≠[]→x.toNat≠0):Canon (a++[x])∧(a≠[]→vv (a++[x])≠0):=by
 have key:∀ a:List UInt8,(∀ y∈a,128≤y.toNat)→x.toNat≠0→Canon (a++[x])∧vv (a++[x])≠0:=by
  intro a h2 h0
  induction a with
  | nil=>exact ⟨.one x h1,by simp [vv];omega⟩
  | cons b a ih =>
   obtain ⟨i1,i2⟩:=ih (fun y hy=>h2 y (List.mem_cons_of_mem _ hy))
   exact ⟨.more b _ (h2 b List.mem_cons_self) i1 i2,by simp only [List.cons_append,vv];omega⟩
 cases a with
 | nil=>exact ⟨.one x h1,fun h=>absurd rfl h⟩
 | cons b a =>
  have:=key (b::a) h2 (h3 (by simp))
  exact ⟨this.1,fun _=>this.2⟩

/-- where the first byte lies that says no more -/
def vend:List UInt8→Nat→Option Nat
 | [],_=>none
 | b::l,k=>if b.toNat<128 then some k else vend l (k+1)
/-- the number that bytes begin with, and how many bytes it has -/
def vtake (b:List UInt8):Option (Nat×Nat) :=
 match vend (b.take 10) 0 with
 | none=>none
 | some k=>if (k≠0∧(b.getD k 0).toNat=0)∨(k=9∧1<(b.getD k 0).toNat) then none else some (vv (b.take (k+1)),k+1)
theorem vend_some {l:List UInt8} {i k:Nat} (h:vend l i=some k):i≤k∧k - i<l.length∧(l.getD (k - i) 0).toNat<128∧∀ j,j<k - i→128≤(l.getD j 0).toNat:=by
 induction l generalizing i with
 | nil=>cases h
 | cons b l ih =>
  unfold vend at h
  split at h
  ·rename_i hb
   cases h
   refine ⟨Nat.le_refl _,by simp,by simpa using hb,fun j hj=>by omega⟩
  ·rename_i hb
   obtain ⟨h1,h2,h3,h4⟩:=ih h
   have e:k - i=(k - (i+1))+1:=by omega
   refine ⟨by omega,by rw [List.length_cons];omega,by rw [e,List.getD_cons_succ];exact h3,fun j hj=>?_⟩
   cases j with
   | zero=>simp;omega
   | succ j=>rw [List.getD_cons_succ];exact h4 j (by omega)
theorem vend_mk (a:List UInt8) (x:UInt8) (l:List UInt8) (i:Nat) (h1:x.toNat<128) (h2:∀ y∈a,128≤y.toNat):vend (a++x::l) i=some (i+a.length):=by
 induction a generalizing i with
 | nil=>simp [vend,h1]
 | cons b a ih =>
  have hb:¬b.toNat<128:=by have:=h2 b List.mem_cons_self;omega
  simp only [List.cons_append,vend,if_neg hb]
  rw [ih (i+1) (fun y hy=>h2 y (List.mem_cons_of_mem _ hy))]
  simp;omega
theorem vv_lt (l:List UInt8):vv l<128 ^ l.length:=by
 induction l with
 | nil=>simp [vv]
 | cons b l ih=>simp only [vv,List.length_cons,Nat.pow_succ];omega
theorem take_getD (b:List UInt8) (k:Nat) (h:k<b.length):b.take (k+1)=b.take k++[b.getD k 0]:=by
 rw [List.take_succ_eq_append_getElem h];simp [List.getD,h]
/-- what is taken has just those bytes -/
theorem vtake_some {b:List UInt8} {n k:Nat} (h:vtake b=some (n,k)):vb n=b.take k∧n<18446744073709551616∧k≤10∧k≤b.length∧0<k:=by
 unfold vtake at h
 split at h
 ·cases h
 ·rename_i k' hv
  split at h
  ·cases h
  ·rename_i hn
   cases h
   obtain ⟨_,h2,h3,h4⟩:=vend_some hv
   simp only [Nat.sub_zero,List.length_take] at h2 h3 h4
   have hk10:k'<10:=by omega
   have hkl:k'<b.length:=by omega
   have g:∀ j,j<10→(b.take 10).getD j 0=b.getD j 0:=fun j hj=>by
    simp only [List.getD,List.getElem?_take,hj,if_true]
   rw [g _ hk10] at h3
   have e:=take_getD b k' hkl
   have hall:∀ y∈b.take k',128≤y.toNat:=by
    intro y hy
    obtain ⟨j,hj,rfl⟩:=List.getElem_of_mem hy
    have hj':j<k':=by simpa using (Nat.lt_of_lt_of_le hj (by rw [List.length_take];omega))
    have:=h4 j hj'
    rw [g _ (by omega)] at this
    simpa [List.getD,List.getElem_take,show j<b.length by omega] using this
   have hc:=canon_mk (b.take k') (b.getD k' 0) h3 hall (fun hne h0=>hn (.inl ⟨fun hk0=>hne (by rw [hk0];simp),h0⟩))
   rw [←e] at hc
   refine ⟨vb_vv hc.1,?_,by omega,by omega,by omega⟩
   by_cases h9:k'=9
   ·subst h9
    have h1:(b.getD 9 0).toNat≤1:=by
     apply Nat.le_of_not_lt;intro hx;exact hn (.inr ⟨rfl,hx⟩)
    rw [e,vv_append]
    have hl:(b.take 9).length=9:=by rw [List.length_take];omega
    have:=vv_lt (b.take 9)
    rw [hl] at this ⊢
    simp only [vv]
    omega
   ·have:=vv_lt (b.take (k'+1))
    rw [List.length_take] at this
    refine Nat.lt_of_lt_of_le this ?_
    refine Nat.le_trans (Nat.pow_le_pow_right (by decide) (show min (k'+1) b.length≤9 by omega)) (by decide)
/-- what is put is taken -/
theorem vtake_vb (n:Nat) (hn:n<18446744073709551616) (l:List UInt8):vtake (vb n++l)=some (n,(vb n).length):=by
 obtain ⟨a,x,e,h1,h2,h3⟩:=canon_end (canon_vb n)
 have hl:=vb_len10 hn
 have hvv:=vv_vb n
 rw [e] at hl hvv ⊢
 simp only [List.length_append,List.length_singleton] at hl
 have hv:vend (((a++[x])++l).take 10) 0=some a.length:=by
  have e2:((a++[x])++l).take 10=a++x::l.take (10 - (a.length+1)):=by
   rw [List.append_assoc,List.take_append,List.take_of_length_le (by omega),List.singleton_append]
   congr 1
   have:10 - a.length=(10 - (a.length+1))+1:=by omega
   rw [this,List.take_succ_cons]
  rw [e2,vend_mk a x _ 0 h1 h2];simp
 have hg:(((a++[x])++l).getD a.length 0)=x:=by simp [List.getD]
 unfold vtake
 rw [hv]
 simp only [hg]
 have ht:((a++[x])++l).take (a.length+1)=a++[x]:=by
  rw [List.take_append_of_le_length (by simp),List.take_of_length_le (by simp)]
 rw [ht,hvv,List.length_append,List.length_singleton]
 rw [if_neg]
 rintro (⟨h5,h6⟩ | ⟨h5,h6⟩)
 ·exact h3 (fun h=>h5 (by rw [h];rfl)) h6
 ·rw [vv_append,h5] at hvv
  simp only [vv] at hvv
  omega

def headB (t:List UInt8):List UInt8:=vb t.length++t
def frameB (t:List UInt8):List UInt8:=headB t++four (crcOf 0 (headB t))
/-- an error's number, the text, how many bytes -/
def ftake (b:List UInt8):Nat×List UInt8×Nat :=
 match vtake b with
 | none=>(2,[],0)
 | some (n,k)=>if 65536<n then (3,[],0) else if b.length<k+n+4 then (2,[],0) else
   if four (crcOf 0 (b.take (k+n)))=(b.drop (k+n)).take 4 then (0,(b.take (k+n)).drop k,k+n+4) else (11,[],0)
def fone (b:List UInt8):Nat×List UInt8:=if (ftake b).1≠0 then ((ftake b).1,[]) else if (ftake b).2.2<b.length then (2,[]) else (0,(ftake b).2.1)
theorem frameB_len (t:List UInt8):(frameB t).length=(vb t.length).length+t.length+4:=by
 simp [frameB,headB,four_length];omega
theorem ftake_frame (t:List UInt8) (h:t.length≤65536) (rest:List UInt8):ftake (frameB t++rest)=(0,t,(frameB t).length):=by
 unfold ftake
 have e:frameB t++rest=vb t.length++(t++four (crcOf 0 (headB t))++rest):=by simp [frameB,headB]
 have hv:vtake (frameB t++rest)=some (t.length,(vb t.length).length):=by rw [e];exact vtake_vb _ (by omega) _
 rw [hv]
 have h1:¬65536<t.length:=by omega
 have h2:¬(frameB t++rest).length<(vb t.length).length+t.length+4:=by rw [List.length_append,frameB_len];omega
 have h3:(frameB t++rest).take ((vb t.length).length+t.length)=headB t:=by
  rw [show frameB t++rest=headB t++(four (crcOf 0 (headB t))++rest) from by simp [frameB]]
  rw [List.take_append_of_le_length (by simp [headB]),List.take_of_length_le (by simp [headB])]
 have h4:((frameB t++rest).drop ((vb t.length).length+t.length)).take 4=four (crcOf 0 (headB t)):=by
  rw [show frameB t++rest=headB t++(four (crcOf 0 (headB t))++rest) from by simp [frameB]]
  rw [List.drop_append_of_le_length (by simp [headB]),List.drop_of_length_le (by simp [headB]),List.nil_append]
  rfl
 simp only [h1,h2,h3,h4,if_true,if_false]
 rw [frameB_len]
 simp [headB]
theorem fone_frame (t:List UInt8) (h:t.length≤65536):fone (frameB t)=(0,t):=by
 have:=ftake_frame t h []
 rw [List.append_nil] at this
 simp [fone,this]
/-- a reader: what is left, an error's number -/
structure RD where
 rest:List UInt8
 bad:Nat
def RD.fail (r:RD) (n:Nat):RD:=if r.bad=0 then { r with bad:=n } else r
def RD.num (r:RD):Nat×RD :=
 if r.bad≠0 then (0,r) else match vtake r.rest with
 | none=>(0,{ r with bad:=2 })
 | some (n,k)=>(n,{ r with rest:=r.rest.drop k })
def RD.within (r:RD) (most:Nat):Nat×RD:=if most<r.num.1∨4611686018427387904<r.num.1 then (0,r.num.2.fail 1) else r.num
def RD.count (r:RD) (most:Nat):Nat×RD:=if r.num.2.bad≠0 then (0,r.num.2) else if most<r.num.1 then (0,r.num.2.fail 3) else r.num
def RD.fixed (r:RD) (many:Nat):List UInt8×RD:=if r.bad≠0 then ([],r) else if r.rest.length<many then ([],r.fail 2) else (r.rest.take many,{ r with rest:=r.rest.drop many })
def RD.text (r:RD) (most:Nat):List UInt8×RD:=(r.count most).2.fixed (r.count most).1
def RD.fin (r:RD):Nat:=if r.bad=0∧0<r.rest.length then 2 else r.bad
theorem RD.num_lt (r:RD):r.num.1<18446744073709551616:=by
 unfold RD.num
 split
 ·simp
 ·split
  ·simp
  ·rename_i n k h;exact (vtake_some h).2.1
theorem RD.num_bad {r:RD} (h:r.bad≠0):r.num=(0,r):=by simp [RD.num,h]
theorem RD.num_put (n:Nat) (h:n<18446744073709551616) (l:List UInt8):RD.num ⟨vb n++l,0⟩=(n,⟨l,0⟩):=by
 unfold RD.num
 simp only [ne_eq,not_true_eq_false,if_false]
 rw [vtake_vb n h l]
 simp
theorem RD.within_put (n most:Nat) (h:n≤most) (h':n≤4611686018427387904) (l:List UInt8):RD.within ⟨vb n++l,0⟩ most=(n,⟨l,0⟩):=by
 unfold RD.within
 rw [RD.num_put n (by omega)]
 rw [if_neg (by simp only;omega)]
theorem RD.count_put (n most:Nat) (h:n≤most) (h':n≤4611686018427387904) (l:List UInt8):RD.count ⟨vb n++l,0⟩ most=(n,⟨l,0⟩):=by
 unfold RD.count
 rw [RD.num_put n (by omega)]
 rw [if_neg (by simp),if_neg (by simp only;omega)]
theorem RD.text_put (t:List UInt8) (most:Nat) (h:t.length≤most) (h':t.length≤4611686018427387904) (l:List UInt8):RD.text ⟨headB t++l,0⟩ most=(t,⟨l,0⟩):=by
 unfold RD.text headB
 rw [List.append_assoc,RD.count_put t.length most h h']
 simp only [RD.fixed,ne_eq,not_true_eq_false,if_false,List.length_append]
 rw [if_neg (by omega)]
 simp
theorem RD.fixed_bad {r:RD} (h:r.bad≠0) (n:Nat):r.fixed n=([],r):=by simp [RD.fixed,h]
theorem RD.fin_bad {r:RD} (h:r.bad≠0):r.fin=r.bad:=by simp [RD.fin,h]

/-- an act -/
structure Ac where
 k:Int
 e:Int
 a:Int
 d:List UInt8
deriving DecidableEq
def Ac.zero:Ac:=⟨0,0,0,[]⟩
def Ac.check (x:Ac):Nat :=
 if x.k<1∨5<x.k∨x.e<0∨1099511627776<x.e∨x.a<0∨1048576<x.a then 1
 else if (x.k=2∨x.k=3)∧x.a=1048576 then 1
 else if 64<x.d.length then 3
 else if x.k=1∧x.a≠0∨x.k≠2∧0<x.d.length then 2 else 0
def Ac.text (x:Ac):List UInt8:=vb x.k.toNat++vb x.e.toNat++(if 1<x.k then vb x.a.toNat else [])++(if x.k=2 then headB x.d else [])
def Ac.put (x:Ac):List UInt8:=frameB x.text
/-- the reader behind an act, and the act -/
def Ac.read (r:RD):Ac×RD :=
 let (k,r):=r.within 5
 let r:=if k<1 then r.fail 1 else r
 let (e,r):=r.within 1099511627776
 let (a,r):=if k≠1 then r.within 1048576 else (0,r)
 let (d,r):=if k=2 then r.text 64 else ([],r)
 (⟨k,e,a,d⟩,r)
/-- an error's number, the act -/
def Ac.take (b:List UInt8):Nat×Ac :=
 if (fone b).1≠0 then ((fone b).1,Ac.zero) else
  let (x,r):=Ac.read ⟨(fone b).2,0⟩
  if r.fin≠0 then (r.fin,Ac.zero) else if x.check≠0 then (x.check,Ac.zero) else (0,x)
theorem Ac.check_ok {x:Ac} (h:x.check=0):1≤x.k∧x.k≤5∧0≤x.e∧x.e≤1099511627776∧0≤x.a∧x.a≤1048576∧x.d.length≤64∧(x.k=1→x.a=0)∧(x.k≠2→x.d=[]):=by
 unfold Ac.check at h
 split at h;· cases h
 split at h;· cases h
 split at h;· cases h
 split at h;· cases h
 rename_i h1 h2 h3 h4
 refine ⟨by omega,by omega,by omega,by omega,by omega,by omega,by omega,fun hk=>?_,fun hk=>?_⟩
 ·apply Decidable.byContradiction;intro ha;exact h4 (.inl ⟨hk,ha⟩)
 ·cases hd:x.d with
  | nil=>rfl
  | cons b l=>exact absurd (.inr ⟨hk,by rw [hd];simp⟩) h4
theorem vb_len_le {n k:Nat} (hk:0<k) (h:n<128 ^ k):(vb n).length≤k:=vb_len k n hk h
theorem Ac.text_len {x:Ac} (h:x.check=0):x.text.length≤65536:=by
 obtain ⟨h1,h2,h3,h4,h5,h6,h7,h8,h9⟩:=Ac.check_ok h
 unfold Ac.text headB
 have g1:=vb_len_le (n:=x.k.toNat) (k:=10) (by decide) (by omega)
 have g2:=vb_len_le (n:=x.e.toNat) (k:=10) (by decide) (by omega)
 have g3:=vb_len_le (n:=x.a.toNat) (k:=10) (by decide) (by omega)
 have g4:=vb_len_le (n:=x.d.length) (k:=10) (by decide) (by omega)
 simp only [List.length_append]
 split<;>split<;>simp only [List.length_append,List.length_nil]<;>omega
/-- what is put is taken as it was -/
theorem Ac.take_put {x:Ac} (h:x.check=0):Ac.take x.put=(0,x):=by
 obtain ⟨h1,h2,h3,h4,h5,h6,h7,h8,h9⟩:=Ac.check_ok h
 unfold Ac.take Ac.put
 rw [fone_frame _ (Ac.text_len h)]
 simp only [ne_eq,not_true_eq_false,if_false]
 have hr:Ac.read ⟨x.text,0⟩=(x,⟨[],0⟩):=by
  unfold Ac.read Ac.text
  simp only [List.append_assoc]
  rw [RD.within_put x.k.toNat 5 (by omega) (by omega)]
  simp only
  rw [if_neg (show ¬x.k.toNat<1 by omega),RD.within_put x.e.toNat _ (by omega) (by omega)]
  simp only
  obtain ⟨k,e,a,d⟩:=x
  simp only at *
  have e1:((k.toNat:Nat):Int)=k:=by omega
  have e2:((e.toNat:Nat):Int)=e:=by omega
  have e3:((a.toNat:Nat):Int)=a:=by omega
  by_cases hk1:k=1
  ·have ha:=h8 hk1
   have hd:=h9 (by omega)
   subst hk1;subst ha;subst hd
   simp [e2,RD.within]
  ·rw [if_pos (show 1<k by omega)]
   have hk1':k.toNat≠1:=by omega
   rw [if_pos hk1',RD.within_put a.toNat _ (by omega) (by omega)]
   simp only
   by_cases hk2:k=2
   ·rw [if_pos hk2,if_pos (show k.toNat=2 by omega)]
    have:=RD.text_put d 64 h7 (by omega) []
    rw [List.append_nil] at this
    rw [this]
    simp only [e1,e2,e3]
   ·rw [if_neg hk2,if_neg (show ¬k.toNat=2 by omega)]
    have hd:=h9 hk2
    simp only [e1,e2,e3,hd]
 rw [hr]
 simp [RD.fin,h]

def sortI (l:List Int):List Int:=l.mergeSort (fun x y=>decide (x≤y))
theorem sortI_perm (l:List Int):(sortI l).Perm l:=List.mergeSort_perm l _
theorem sortI_sorted (l:List Int):(sortI l).Pairwise (·≤·):=by
 have:=List.pairwise_mergeSort (le:=fun x y:Int=>decide (x≤y)) (fun a b c h1 h2=>by simp at *;omega) (fun a b=>by simp;omega) l
 exact this.imp (fun h=>by simpa using h)
/-- each once, of what is in order -/
def dedS:List Int→List Int
 | []=>[]
 | [x]=>[x]
 | x::y::l=>if x=y then dedS (y::l) else x::dedS (y::l)
theorem dedS_mem (x:Int):∀ l:List Int,x∈dedS l↔x∈l
 | []=>Iff.rfl
 | [y]=>Iff.rfl
 | y::z::l=>by
  have ih:=dedS_mem x (z::l)
  unfold dedS
  split
  ·rename_i h;rw [ih];subst h;simp
  ·rw [List.mem_cons,ih,List.mem_cons (a:=x) (b:=y)]
theorem dedS_len:∀ l:List Int,(dedS l).length≤l.length
 | []=>Nat.le_refl _
 | [y]=>Nat.le_refl _
 | y::z::l=>by
  have ih:=dedS_len (z::l)
  unfold dedS
  split
  ·simp only [List.length_cons] at *;omega
  ·simp only [List.length_cons] at *;omega
theorem dedS_nodup:∀ l:List Int,l.Pairwise (·≤·)→((dedS l).length=l.length↔l.Nodup)
 | [],_=>by simp [dedS]
 | [y],_=>by simp [dedS]
 | y::z::l,h=>by
  have h2:=(List.pairwise_cons.1 h).2
  have ih:=dedS_nodup (z::l) h2
  have hl:=dedS_len (z::l)
  unfold dedS
  split
  ·rename_i he
   constructor
   ·intro h3;simp only [List.length_cons] at *;omega
   ·intro h3;subst he;simp at h3
  ·rename_i he
   rw [List.nodup_cons,←ih]
   simp only [List.length_cons]
   constructor
   ·intro h3
    refine ⟨fun hm=>?_,by omega⟩
    have h4:=(List.pairwise_cons.1 h).1
    have h5:=h4 z List.mem_cons_self
    rcases List.mem_cons.1 hm with hm | hm
    ·exact he hm
    ·have h6:=(List.pairwise_cons.1 h2).1 y hm
     omega
   ·intro h3;omega
theorem dedS_rise:∀ l:List Int,l.Pairwise (·≤·)→(dedS l).Pairwise (·<·)
 | [],_=>by simp [dedS]
 | [y],_=>by simp [dedS]
 | y::z::l,h=>by
  have h2:=(List.pairwise_cons.1 h).2
  have ih:=dedS_rise (z::l) h2
  unfold dedS
  split
  ·exact ih
  ·rename_i he
   refine List.pairwise_cons.2 ⟨fun x hx=>?_,ih⟩
   rw [dedS_mem] at hx
   have h4:=(List.pairwise_cons.1 h).1
   have h5:=h4 z List.mem_cons_self
   rcases List.mem_cons.1 hx with rfl | hx
   ·omega
   ·have h6:=(List.pairwise_cons.1 h2).1 x hx
    omega
structure Pj where
 e:Int
 cs:List (List Int)
def Pj.all (p:Pj):List Int:=p.cs.flatten
def oddU (u:Int):Bool:=!(decide (0≤u)&&decide (u<8))
def wrongC (c:List Int):Bool:=decide (c.length<1)||decide (4<c.length)
def unitsOf (l:List Int):List Int:=dedS (sortI l)
theorem unitsOf_len (l:List Int):(unitsOf l).length≤l.length:=by
 have:=dedS_len (sortI l)
 rw [(sortI_perm l).length_eq] at this
 exact this
theorem unitsOf_mem (x:Int) (l:List Int):x∈unitsOf l↔x∈l:=by rw [unitsOf,dedS_mem,(sortI_perm l).mem_iff]
theorem unitsOf_nodup (l:List Int):(unitsOf l).length<l.length↔¬l.Nodup:=by
 have h1:=dedS_nodup (sortI l) (sortI_sorted l)
 have h2:=unitsOf_len l
 rw [(sortI_perm l).length_eq,(sortI_perm l).nodup_iff] at h1
 unfold unitsOf at *
 rw [←h1];omega
def Pj.check (p:Pj):Nat :=
 if p.e<0∨1099511627776<p.e then 1
 else if p.cs.length<1∨4<p.cs.length∨p.cs.any wrongC=true then 2
 else if p.all.any oddU=true then 1
 else if (unitsOf p.all).length<p.all.length then 2 else 0
/-- what follows: dead ones gone -/
def liveC (dead:List Int) (c:List Int):List Int:=c.filter (fun u=>!dead.contains u)

structure Pj.Ok (p:Pj):Prop where
 e0:0≤p.e
 e1:p.e≤1099511627776
 n0:0<p.cs.length
 n1:p.cs.length≤4
 c:∀ c∈p.cs,0<c.length∧c.length≤4
 u:∀ x∈p.all,0≤x∧x<8
 nodup:p.all.Nodup
theorem wrongC_false {c:List Int}:wrongC c=false↔0<c.length∧c.length≤4:=by
 unfold wrongC
 rw [Bool.or_eq_false_iff,decide_eq_false_iff_not,decide_eq_false_iff_not];omega
theorem oddU_false {u:Int}:oddU u=false↔0≤u∧u<8:=by
 unfold oddU
 simp
theorem Pj.ok_of {p:Pj} (h:p.check=0):p.Ok:=by
 unfold Pj.check at h
 split at h;· cases h
 rename_i h1
 split at h;· cases h
 rename_i h2
 split at h;· cases h
 rename_i h3
 split at h;· cases h
 rename_i h4
 have h2c:p.cs.any wrongC=false:=by
  cases hq:p.cs.any wrongC with
  | false=>rfl
  | true=>exact absurd (.inr (.inr hq)) h2
 rw [List.any_eq_false] at h2c
 have h3c:p.all.any oddU=false:=by simpa using h3
 rw [List.any_eq_false] at h3c
 refine ⟨by omega,by omega,by omega,by omega,fun c hc=>?_,fun x hx=>?_,?_⟩
 ·exact wrongC_false.1 (by simpa using h2c c hc)
 ·exact oddU_false.1 (by simpa using h3c x hx)
 ·apply Decidable.byContradiction
  intro hn
  exact h4 ((unitsOf_nodup _).2 hn)
structure FInv (p:Pj) (dead:List Int) (cs:List (List Int)):Prop where
 len:cs.length=p.cs.length
 most:∀ j,(cs.getD j []).length≤(p.cs.getD j []).length
 pre:∀ j,liveC dead (p.cs.getD j []) <+: cs.getD j []
 u:∀ x∈cs.flatten,0≤x∧x<8
 nodup:cs.flatten.Nodup
/-- what follows a right one -/
structure NextOk (p:Pj) (dead:List Int) (n:Pj):Prop where
 ok:n.Ok
 e:n.e=p.e+1
 len:n.cs.length=p.cs.length
 most:∀ j,(n.cs.getD j []).length≤(p.cs.getD j []).length
 pre:∀ j,liveC dead (p.cs.getD j []) <+: n.cs.getD j []
end Go.Proofs.YtaodldbgikiekaaGreatDoor
