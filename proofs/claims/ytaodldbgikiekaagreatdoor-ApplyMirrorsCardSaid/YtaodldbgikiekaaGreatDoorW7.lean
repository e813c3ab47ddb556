/- Proved here: a part of the proof (7 of 35). -/
import Derived.Test.YtaodldbgikiekaaGreatDoorW5
import Derived.Test.YtaodldbgikiekaaGreatDoorW3
import Derived.Test.YtaodldbgikiekaaGreatDoorW4
import Derived.Test.YtaodldbgikiekaaGreatDoorW1
import Derived.Laws.EntriesVeiled
import Derived.Test.YtaodldbgikiekaaGreatDoorW6
set_option linter.unusedSimpArgs false
set_option linter.unusedVariables false
set_option maxRecDepth 100000
namespace Go.Proofs.YtaodldbgikiekaaGreatDoor
open Go.RowKit

/-- a row is handed back, longer; what else was written lies in blocks from B on -/
def PutR (B:Nat) (r:List UInt8) (w:World) (en:Ending) (w':World):Prop :=
 ∃ a' c',en=.returned (.slice a' r.length c')∧w'.ownsRow B 5 1 (.slice a' r.length c') r.length (byteVs r)∧Fr (fun k=>B≤k) w w'
theorem or128_i (m:Nat):bits .or .u8 ((m:Int) % 256) 128=((m % 128+128:Nat):Int):=by
 have:=or128_u8 m
 rwa [Int.natCast_emod] at this
theorem ofNat_lo (m:Nat) (h:m<128):byteV (UInt8.ofNat m)=.int .u8 (m:Int):=by
 simp [byteV];omega
theorem ofNat_hi (m:Nat):byteV (UInt8.ofNat (m % 128+128))=.int .u8 ((m % 128+128:Nat):Int):=by
 simp [byteV];omega
theorem own_mono {B e size n:Nat} {v:Value} {xs:List Value} {w0 w w':World} (h:Fr (fun k=>v.ownBlock=some k) w w') (ho:w.ownsRow B e size v n xs) (h0:Fr (fun k=>B≤k) w0 w):Fr (fun k=>B≤k) w0 w' :=
 h0.trans h (fun i hi=>.inl (own_blk ho hi).1)
set_option maxHeartbeats 1000000 in
theorem vput_any {B:Nat} (l:List UInt8) (a:Option Addr) (c n:Nat) (hn:n<18446744073709551616) (w:World) (h:w.ownsRow B 5 1 (.slice a l.length c) l.length (byteVs l)) (hB:B≤w.heap.size) (hl:l.length≤1099511627776) :
  Calls Tryz.prog 130 #[.slice a l.length c,.int .u64 n] w (PutR B (l++vb n) w):=by
 have HO0:=Lib.hid' h
 have hvl:=vb_len10 hn
 clear h
 go_enter Tryz.func130, Tryz.ntmps130
 go_wp2_with fail
 go_loopw [0,1] (fun v0 v1 wr=>∃ (m:Nat) (p:List UInt8) (a':Option Addr) (c':Nat),v0=.slice a' (l++p).length c'∧v1=.int .u64 m∧m<18446744073709551616∧Hid (vb n=p++vb m)∧Hid (wr.ownsRow B 5 1 (.slice a' (l++p).length c') (l++p).length (byteVs (l++p)))∧Hid (Fr (fun k=>B≤k) w wr)) (fun _ v1 _=>(intOf v1).toNat)
 case atStart=>exact ⟨n,[],a,c,by rw [List.append_nil],rfl,hn,Lib.hid' rfl,Zh (by rw [List.append_nil];exact HO0.out),Zh (Fr.refl _ _)⟩
 case round =>
  obtain ⟨m,p,a',c',rfl,rfl,hm,HV,HO,HF⟩:=hrel
  have hpl:(l++p).length≤1099511627786:=by have:=congrArg List.length HV.out;simp at this;simp;omega
  have hzr:B≤wr.heap.size:=Nat.le_trans hB HF.out.size
  obtain ⟨r,hr⟩:∃ r,r=l++p:=⟨_,rfl⟩
  rw [←hr] at HO hpl ⊢
  have HR:=Lib.hid' hr
  clear hr
  by_cases hlt:128≤m
  ·have e1:=or128_i m
   have HV2:=Zh (vb_big (n:=m) (by omega))
   go_wp2_with (at_builtin;refine append_one etBytes rfl (.tmp 9) (.tmp 13) rfl [.int .u8 ((m % 128+128:Nat):Int)] rfl B r.length (byteVs r) _ rfl HO.out rfl (by simp [Value.oneCell']) (by omega) hzr ?_)
   intro a2 c2 w2 ho2 hf2
   have HO2:=Zh (show w2.ownsRow B 5 1 (.slice a2 (l++(p++[UInt8.ofNat (m % 128+128)])).length c2) (l++(p++[UInt8.ofNat (m % 128+128)])).length (byteVs (l++(p++[UInt8.ofNat (m % 128+128)]))) by
    rw [←List.append_assoc,←HR.out,byteVs_append,List.length_append];simp only [byteVs,List.map_cons,List.map_nil,ofNat_hi];exact ho2)
   have HF2:=Zh (own_mono hf2 HO.out HF.out)
   have HL2:=Zh (show r.length+1=(l++(p++[UInt8.ofNat (m % 128+128)])).length by rw [HR.out];simp;omega)
   clear ho2 hf2 e1
   go_wp2_with fail
   go_roundw
   case rel=>exact ⟨m / 128,p++[UInt8.ofNat (m % 128+128)],a2,c2,by rw [HL2.out],by go_num,by omega,Zh (by rw [HV.out,HV2.out];simp),HO2,HF2⟩
   case measure=>simp [intOf];omega
  ·have hlt':m<128:=by omega
   have HV2:=Zh (vb_small hlt')
   go_wp2_with (at_builtin;refine append_one etBytes rfl (.tmp 15) (.tmp 18) rfl [.int .u8 (m:Int)] rfl B r.length (byteVs r) _ rfl HO.out rfl (by simp [Value.oneCell']) (by omega) hzr ?_)
   intro a2 c2 w2 ho2 hf2
   have HLE:=Zh (show l++vb n=r++[UInt8.ofNat m] by rw [HV.out,HV2.out,HR.out];simp)
   have HL2:=Zh (show (l++vb n).length=r.length+1 by rw [HLE.out];simp)
   have HO2:=Zh (show w2.ownsRow B 5 1 (.slice a2 (l++vb n).length c2) (l++vb n).length (byteVs (l++vb n)) by
    rw [HL2.out,HLE.out,byteVs_append];simp only [byteVs,List.map_cons,List.map_nil,ofNat_lo m hlt'];exact ho2)
   have HF2:=Zh (own_mono hf2 HO.out HF.out)
   clear ho2 hf2
   go_wp2_with fail
   go_ret
   exact ⟨a2,c2,ret_eq (by rw [HL2.out];rfl),HO2.out,HF2.out⟩

/-- numbers in a slice -/
def uVs (l:List Nat):List Value:=l.map (fun n:Nat=>Value.int .u64 (n:Int))
def Us (w:World) (v:Value) (l:List Nat):Prop:=SlV w v l.length (uVs l)
theorem us_at {w:World} {a:Option Addr} {n c:Nat} {l:List Nat} (h:Us w (.slice a n c) l) {k:Nat} (hk:k<l.length) :
  ∃ b off,a=some ⟨b,off,none⟩∧b<w.heap.size∧w.cell? ⟨b,off+k,none⟩=some (.int .u64 (l[k]:Nat)):=by
 have h':SlV w (.slice a n c) n (l.flatMap (fun x=>[Value.int .u64 (x:Nat)])):=by
  obtain ⟨a',c',he,r⟩:=h
  cases he
  refine ⟨a,c,rfl,?_⟩
  have:l.flatMap (fun x=>[Value.int .u64 (x:Nat)])=uVs l:=by
   clear r hk;induction l with
   | nil=>rfl
   | cons x l ih=>rw [List.flatMap_cons,ih];rfl
  rw [this];exact r
 obtain ⟨b,off,e,hb,hc⟩:=SlV.row (f:=fun x:Nat=>[Value.int .u64 (x:Nat)]) (s:=1) (fun _=>rfl) (by decide) h' hk
 refine ⟨b,off,e,hb,?_⟩
 have:=hc 0 _ rfl
 simpa using this
/-- numbers' bytes, one behind the other -/
def vbs (l:List Nat):List UInt8:=l.flatMap vb
theorem vbs_len {l:List Nat} (h:∀ n∈l,n<18446744073709551616):(vbs l).length≤10*l.length:=by
 unfold vbs
 induction l with
 | nil=>simp
 | cons n l ih =>
  have h1:=vb_len10 (h n List.mem_cons_self)
  have h2:=ih (fun m hm=>h m (List.mem_cons_of_mem _ hm))
  simp only [List.flatMap_cons,List.length_append,List.length_cons];omega
set_option maxHeartbeats 1000000 in
theorem vPut_any (b:List UInt8) (a:Option Addr) (c:Nat) (l:List Nat) (la:Option Addr) (lc:Nat) (w:World) (h:Bytes w (.slice a b.length c) b) (hU:Us w (.slice la l.length lc) l) (hl:∀ n∈l,n<18446744073709551616) (hb:b.length≤1073741824) (hln:l.length≤1048576) :
  Calls Tryz.prog 96 #[.slice a b.length c,.slice la l.length lc] w (OwnR w.heap.size 5 1 (b++vbs l).length (byteVs (b++vbs l)) w):=by
 have HU:=Lib.hid' hU
 have HL:=Lib.hid' hl
 have HC:=Zh (clone_any (.slice a b.length c) b w h (by omega))
 clear h hU hl
 go_enter Tryz.func96, Tryz.ntmps96
 go_wp2_with fail
 refine HC.out.mono ?_
 rintro e w1 ⟨a1,c1,rfl,ho,hb1⟩
 have HO:=Lib.hid' ho
 have HB:=Lib.hid' hb1
 clear ho hb1 HC
 go_wp2_with fail
 go_loopw [5,12] (fun v5 v12 wr=>∃ (k:Nat) (a':Option Addr) (c':Nat),v12=.int .i64 k∧k≤l.length∧v5=.slice a' (b++vbs (l.take k)).length c'∧Hid (wr.ownsRow w.heap.size 5 1 (.slice a' (b++vbs (l.take k)).length c') (b++vbs (l.take k)).length (byteVs (b++vbs (l.take k))))∧Hid (Below w.heap.size w wr)) (fun _ v12 _=>l.length - (intOf v12).toNat)
 case atStart=>exact ⟨0,a1,c1,rfl,Nat.zero_le _,by simp [vbs],Zh (by simpa [vbs] using HO.out),HB⟩
 case round =>
  obtain ⟨k,a',c',rfl,hk,rfl,HOk,HBk⟩:=hrel
  by_cases hlt:k<l.length
  ·obtain ⟨bb,off,rfl,hbb,hc⟩:=(show Us wr (.slice la l.length lc) l from SlV.below HU.out (Nat.le_refl _) HBk.out) |> fun h=>us_at h hlt
   have HN:=Zh (show b++vbs (l.take (k+1))=(b++vbs (l.take k))++vb l[k] by
    rw [List.take_succ_eq_append_getElem hlt];unfold vbs;rw [List.flatMap_append,←List.append_assoc];simp only [List.flatMap_cons,List.flatMap_nil,List.append_nil])
   have hx:=HL.out l[k] (List.getElem_mem hlt)
   have hvl:(b++vbs (l.take k)).length≤1099511627776:=by
    have:=vbs_len (l:=l.take k) (fun n hn=>HL.out n (List.mem_of_mem_take hn))
    simp only [List.length_append,List.length_take] at *;omega
   generalize l[k]=x at *
   obtain ⟨r,hr⟩:∃ r,r=b++vbs (l.take k):=⟨_,rfl⟩
   rw [←hr] at HOk HN hvl ⊢
   clear hr
   have hbz:=HBk.out.size
   go_wp2_with fail
   refine (vput_any r a' c' x hx wr HOk.out hbz hvl).mono ?_
   rintro e w2 ⟨a2,c2,rfl,ho2,hf2⟩
   obtain ⟨r2,hr2⟩:∃ r2,r2=r++vb x:=⟨_,rfl⟩
   have HN2:=Zh (HN.out.trans hr2.symm)
   rw [←hr2] at ho2 ⊢
   clear hr2
   have HO2:=Lib.hid' ho2
   have HB2:=Zh (HBk.out.trans (hf2.below hbz (fun q hq=>hq)))
   clear ho2 hf2
   go_wp2_with fail
   go_roundw
   case rel=>exact ⟨k+1,a2,c2,by go_num,by omega,by rw [HN2.out],Zh (by rw [HN2.out];exact HO2.out),HB2⟩
   case measure=>simp [intOf];omega
  ·obtain rfl:k=l.length:=by omega
   have HT:=Zh (List.take_length (l:=l))
   rw [HT.out] at HOk ⊢
   go_wp2_with fail
   go_ret
   exact ⟨a',c',rfl,HOk.out,HBk.out⟩

theorem us_one (w:World) (x:Nat) (t:Nat):Us (w.alloc (.cells #[.int .u64 (x:Int)] t)) (.slice (some ⟨w.heap.size,0,none⟩) 1 1) [x] :=
 SlV.new w [.int .u64 (x:Int)] 1 t (by decide)
set_option maxHeartbeats 1000000 in
theorem vPutText_any (b t:List UInt8) (a ta:Option Addr) (c tc:Nat) (w:World) (h:Bytes w (.slice a b.length c) b) (hT:Bytes w (.slice ta t.length tc) t) (hb:b.length≤1073741824) (hlt:t.length≤1073741824) :
  Calls Tryz.prog 136 #[.slice a b.length c,.slice ta t.length tc] w (OwnR w.heap.size 5 1 (b++headB t).length (byteVs (b++headB t)) w):=by
 have HB:=Lib.hid' h
 have HT:=Lib.hid' hT
 clear h hT
 go_enter Tryz.func136, Tryz.ntmps136
 go_wp2_with fail
 have hg:Below w.heap.size w (w.alloc (.cells #[.int .u64 (t.length:Int)] 172)):=by go_grown
 have HC:=Zh (vPut_any b a c [t.length] (some ⟨w.heap.size,0,none⟩) 1 _ (show Bytes (w.alloc (.cells #[.int .u64 (t.length:Int)] 172)) (.slice a b.length c) b from SlV.below HB.out (Nat.le_refl _) hg) (us_one w t.length _) (by intro n hn;simp at hn;omega) hb (by simp))
 have HT1:=Zh (show Bytes (w.alloc (.cells #[.int .u64 (t.length:Int)] 172)) (.slice ta t.length tc) t from SlV.below HT.out (Nat.le_refl _) hg)
 have HG:=Lib.hid' hg
 have hz:(w.alloc (.cells #[.int .u64 (t.length:Int)] 172)).heap.size=w.heap.size+1:=by simp
 clear hg
 generalize (w.alloc (.cells #[.int .u64 (t.length:Int)] 172))=w1 at *
 obtain ⟨r,hr⟩:∃ r,r=b++vbs [t.length]:=⟨_,rfl⟩
 have hrl:r.length≤1073741844:=by
  have:=vbs_len (l:=[t.length]) (by intro n hn;simp at hn;omega)
  rw [hr];simp only [List.length_append];simp at this;omega
 have HR:=Zh (show b++headB t=r++t by rw [hr];simp [vbs,headB])
 rw [←hr] at HC
 clear hr
 refine HC.out.mono ?_
 rintro e w2 ⟨a2,c2,rfl,ho2,hb2⟩
 have HO2:=Zh (own_base (B':=w.heap.size) ho2 (by omega))
 have HB2:=Zh (HG.out.trans (hb2.mono (by omega)))
 have HT2:=Zh (show Bytes w2 (.slice ta t.length tc) t from SlV.below HT1.out (Nat.le_refl _) hb2)
 have hz2:w.heap.size≤w2.heap.size:=by have:=hb2.size;omega
 clear ho2 hb2 hz HC HT1
 go_wp2_with (at_builtin;refine append_sl etBytes rfl (.tmp 10) (.tmp 11) rfl w.heap.size r.length (byteVs r) _ rfl HO2.out t.length (byteVs t) _ rfl HT2.out (by simp [byteVs]) (byteVs_one _) (by omega) hz2 ?_)
 intro a3 c3 w3 ho3 hf3
 have HL:=Zh (show (b++headB t).length=r.length+t.length by rw [HR.out];simp)
 have HO3:=Zh (show w3.ownsRow w.heap.size 5 1 (.slice a3 (b++headB t).length c3) (b++headB t).length (byteVs (b++headB t)) by rw [HL.out,HR.out,byteVs_append];exact ho3)
 have HB3:=Zh (hf3.row HO2.out (Nat.le_refl _) hz2 HB2.out)
 clear ho3 hf3
 go_wp2_with fail
 go_ret
 exact ⟨a3,c3,ret_eq (by rw [HL.out];rfl),HO3.out,HB3.out⟩

theorem vt_all {b:List UInt8} (h:∀ y∈b.take 10,128≤y.toNat):vtake b=none:=by
 unfold vtake
 have:vend (b.take 10) 0=none:=by
  cases hq:vend (b.take 10) 0 with
  | none=>rfl
  | some k =>
   obtain ⟨_,h2,h3,_⟩:=vend_some hq
   simp only [Nat.sub_zero] at h2 h3
   have:=h ((b.take 10).getD k 0) (by rw [List.getD,List.getElem?_eq_getElem h2];exact List.getElem_mem h2)
   omega
 rw [this]
theorem vend_at {b:List UInt8} {k:Nat} (hk:k<10) (hl:k<b.length) (h:∀ y∈b.take k,128≤y.toNat) (hx:b[k].toNat<128):vend (b.take 10) 0=some k:=by
 have e:b.take 10=b.take k++b[k]::(b.drop (k+1)).take (10 - (k+1)):=by
  rw [show 10=k+(10 - k) by omega,List.take_add,List.drop_eq_getElem_cons hl]
  congr 1
  rw [show 10 - k=(10 - (k+1))+1 by omega,List.take_succ_cons]
  congr 2;omega
 rw [e,vend_mk _ _ _ _ hx h,List.length_take]
 congr 1;omega
theorem getD_at {b:List UInt8} {k:Nat} (hl:k<b.length):b.getD k 0=b[k]:=by simp [List.getD,hl]
theorem vt_hit {b:List UInt8} {k:Nat} (hk:k<10) (hl:k<b.length) (h:∀ y∈b.take k,128≤y.toNat) (hx:b[k].toNat<128) (h0:¬(k≠0∧b[k].toNat=0)) (h9:¬(k=9∧1<b[k].toNat)):vtake b=some (vv (b.take (k+1)),k+1):=by
 unfold vtake
 rw [vend_at hk hl h hx]
 simp only [getD_at hl]
 rw [if_neg (by rintro (h | h);exact h0 h;exact h9 h)]
theorem vt_bad {b:List UInt8} {k:Nat} (hk:k<10) (hl:k<b.length) (h:∀ y∈b.take k,128≤y.toNat) (hx:b[k].toNat<128) (h0:(k≠0∧b[k].toNat=0)∨(k=9∧1<b[k].toNat)):vtake b=none:=by
 unfold vtake
 rw [vend_at hk hl h hx]
 simp only [getD_at hl]
 rw [if_pos h0]
theorem vt_nine {b:List UInt8} (hl:9<b.length) (h:∀ y∈b.take 9,128≤y.toNat) (hx:1<b[9].toNat):vtake b=none:=by
 by_cases h2:b[9].toNat<128
 ·exact vt_bad (by decide) hl h h2 (.inr ⟨rfl,hx⟩)
 ·refine vt_all fun y hy=>?_
  rw [List.take_succ_eq_append_getElem hl] at hy
  rcases List.mem_append.1 hy with hy | hy
  ·exact h y hy
  ·simp at hy;subst hy;omega
theorem vv_next {b:List UInt8} {k:Nat} (hl:k<b.length):vv (b.take (k+1))=vv (b.take k)+128 ^ k*(b[k].toNat % 128):=by
 rw [List.take_succ_eq_append_getElem hl,vv_append,List.length_take,Nat.min_eq_left (by omega)]
 simp [vv]
theorem vv_bound {b:List UInt8} {k:Nat} (hl:k≤b.length):vv (b.take k)<128 ^ k:=by
 have:=vv_lt (b.take k)
 rwa [List.length_take,Nat.min_eq_left hl] at this
theorem pow128 (k:Nat):(128:Nat) ^ k=2 ^ (7*k):=by rw [show (128:Nat)=2 ^ 7 from rfl,←Nat.pow_mul]
theorem shl_or {n x k:Nat} (hk:k≤9) (hn:n<128 ^ k) (hx:k=9→x % 128≤1):bits .or .u64 (n:Int) (IntKind.u64.wrap ((x:Int) % 128*2 ^ (7*k)))=((n+128 ^ k*(x % 128):Nat):Int):=by
 have h1:128 ^ k*(x % 128)<18446744073709551616:=by
  rcases Nat.lt_or_ge k 9 with h | h
  ·have:128 ^ k≤128 ^ 8:=Nat.pow_le_pow_right (by decide) (by omega)
   have h2:x % 128≤127:=by omega
   have:=Nat.mul_le_mul this h2
   omega
  ·obtain rfl:k=9:=by omega
   have:=hx rfl
   have:=Nat.mul_le_mul (Nat.le_refl (128 ^ 9)) this
   omega
 have hn2:n<18446744073709551616:=by
  have:128 ^ k≤128 ^ 9:=Nat.pow_le_pow_right (by decide) hk
  have h9:(128:Nat) ^ 9=9223372036854775808:=by decide
  omega
 have e:(x:Int) % 128*2 ^ (7*k)=((128 ^ k*(x % 128):Nat):Int):=by
  rw [pow128];push_cast;exact Int.mul_comm _ _
 rw [e,wraps_u64 _ (by omega) (by omega),or_u64 hn2 h1]
 rw [pow128] at hn ⊢
 rw [or_add hn]
def TakeR (r:Option (Nat×Nat)):Value:=match r with | none=>.tuple #[.int .u64 0,.int .i64 0,errV 2] | some (n,k)=>.tuple #[.int .u64 (n:Nat),.int .i64 (k:Nat),.nilIface]
set_option maxHeartbeats 1000000 in
theorem vTake_any (b:List UInt8) (a:Option Addr) (c:Nat) (w:World) (h:Bytes w (.slice a b.length c) b) :
  Calls Tryz.prog 188 #[.slice a b.length c] w fun e w'=>e=.returned (TakeR (vtake b))∧w=w':=by
 have HB:=Lib.hid' h
 have hlen:=bytes_len h
 have hcap:b.length≤c:=by obtain ⟨_,_,he,h1,_⟩:=h;cases he;exact h1
 obtain ⟨m,hm⟩:∃ m:Nat,m=min b.length 10:=⟨_,rfl⟩
 have hm1:m≤10:=by omega
 have hm2:m≤b.length:=by omega
 have hmc:m≤c:=by omega
 have hmi:min (b.length:Int) 10=(m:Int):=by omega
 have HM:=Lib.hid' hm
 clear h hm
 go_enter Tryz.func188, Tryz.ntmps188
 go_wp2_with fail
 go_loop [5,15] (fun v5 v15=>∃ k:Nat,v15=.int .i64 k∧k≤m∧v5=.int .u64 (vv (b.take k):Nat)∧Hid (∀ y∈b.take k,128≤y.toNat)) (fun _ v15=>m - (intOf v15).toNat)
 case atStart=>exact ⟨0,rfl,Nat.zero_le _,rfl,Zh (by simp)⟩
 case round =>
  obtain ⟨k,rfl,hk,rfl,HA⟩:=hrel
  clear hmi
  by_cases hlt:k<m
  ·have hl:k<b.length:=by omega
   obtain ⟨bb,off,rfl,hbb,hc⟩:=bytes_at HB.out hl
   have HVN:=Zh (vv_next hl)
   have hvb:=vv_bound (b:=b) (k:=k) (by omega)
   have HVB:=Lib.hid' hvb
   have hx256:=b[k].toNat_lt
   have e1:=andNot128_u8 b[k]
   have HHIT:=Zh (fun hx h0 h9=>vt_hit (k:=k) (by omega) hl HA.out hx h0 h9)
   have HBAD:=Zh (fun hx h0=>vt_bad (k:=k) (by omega) hl HA.out hx h0)
   clear hvb
   obtain ⟨x,hx⟩:∃ x,x=b[k].toNat:=⟨_,rfl⟩
   rw [←hx] at hc HVN hx256 e1 HHIT HBAD
   have HX:=Lib.hid' hx
   clear hx
   obtain ⟨n,hn⟩:∃ n,n=vv (b.take k):=⟨_,rfl⟩
   rw [←hn] at HVN HVB ⊢
   clear hn
   have hlen2:=HB.out
   by_cases hk9:k=9
   ·subst hk9
    by_cases h9:1<x
    ·have HF:=Zh (vt_nine hl HA.out (by rw [←HX.out];exact h9))
     go_wp2_with fail
     refine bodyPost_ret (v:=.tuple #[.int .u64 0,.int .i64 0,.iface 70 (.int .i64 2)]) (by simp [results,Tryz.results188,go_sem]) rfl ⟨by rw [HF.out];rfl,rfl⟩
    ·by_cases hx0:x=0
     ·have HF:=Zh (HBAD.out (by omega) (.inl ⟨by decide,hx0⟩))
      have hx0b:((x:Int)==0)=true:=by rw [beq_iff_eq];omega
      have h9':x≤1:=by omega
      clear hx0
      go_wp2_with fail
      refine bodyPost_ret (v:=.tuple #[.int .u64 0,.int .i64 0,.iface 70 (.int .i64 2)]) (by simp [results,Tryz.results188,go_sem]) rfl ⟨by rw [HF.out];rfl,rfl⟩
     ·have HF:=Zh (HHIT.out (by omega) (by omega) (by omega))
      have e2:=shl_or (n:=n) (x:=x) (k:=9) (by decide) HVB.out (by omega)
      rw [show n+128 ^ 9*(x % 128)=vv (b.take (9+1)) from HVN.out.symm,show (x:Int) % 128*2 ^ (7*9)=(x:Int) % 128*9223372036854775808 from by rw [show (2:Int) ^ (7*9)=9223372036854775808 from by decide],wraps_u64 _ (by omega) (by omega)] at e2
      have hx0b:((x:Int)==0)=false:=by rw [beq_eq_false_iff_ne];omega
      have h9':x≤1:=by omega
      generalize vv (b.take (9+1))=r at *
      go_wp2_with fail
      refine bodyPost_ret (v:=.tuple #[.int .u64 (r:Nat),.int .i64 10,.nilIface]) (by simp [results,Tryz.results188,go_sem]) rfl ⟨by rw [HF.out];rfl,rfl⟩
   ·have hk9b:((k:Int)==9)=false:=by rw [beq_eq_false_iff_ne];omega
    have e2:=shl_or (n:=n) (x:=x) (k:=k) (by omega) HVB.out (fun h=>absurd h hk9)
    rw [show n+128 ^ k*(x % 128)=vv (b.take (k+1)) from HVN.out.symm] at e2
    by_cases h128:x<128
    ·by_cases hx0:x=0
     ·by_cases hk0:k=0
      ·have HF:=Zh (HHIT.out h128 (by rw [hk0];simp) (by omega))
       have hx0b:((x:Int)==0)=true:=by rw [beq_iff_eq];omega
       have hk0':¬((0:Int)<k):=by omega
       have HK0:=Lib.hid' hk0
       clear hk0 hx0
       generalize vv (b.take (k+1))=r at *
       go_wp2_with fail
       refine bodyPost_ret (v:=.tuple #[.int .u64 (r:Nat),.int .i64 ((k:Int)+1),.nilIface]) (by simp [results,Tryz.results188,go_sem]) rfl ⟨by rw [HF.out];rfl,rfl⟩
      ·have HF:=Zh (HBAD.out h128 (.inl ⟨hk0,hx0⟩))
       have hx0b:((x:Int)==0)=true:=by rw [beq_iff_eq];omega
       have hk0':(0:Int)<k:=by omega
       clear hx0
       go_wp2_with fail
       refine bodyPost_ret (v:=.tuple #[.int .u64 0,.int .i64 0,.iface 70 (.int .i64 2)]) (by simp [results,Tryz.results188,go_sem]) rfl ⟨by rw [HF.out];rfl,rfl⟩
     ·have HF:=Zh (HHIT.out h128 (by omega) (by omega))
      have hx0b:((x:Int)==0)=false:=by rw [beq_eq_false_iff_ne];omega
      generalize vv (b.take (k+1))=r at *
      go_wp2_with fail
      refine bodyPost_ret (v:=.tuple #[.int .u64 (r:Nat),.int .i64 ((k:Int)+1),.nilIface]) (by simp [results,Tryz.results188,go_sem]) rfl ⟨by rw [HF.out];rfl,rfl⟩
    ·have HA2:=Zh (show ∀ y∈b.take (k+1),128≤y.toNat by
      intro y hy
      rw [List.take_succ_eq_append_getElem hl] at hy
      rcases List.mem_append.1 hy with hy | hy
      ·exact HA.out y hy
      ·simp only [List.mem_singleton] at hy;subst hy;rw [←HX.out];omega)
     obtain ⟨r,hr⟩:∃ r,vv (b.take (k+1))=r:=⟨_,rfl⟩
     have HRR:=Lib.hid' hr
     rw [hr] at e2
     clear hr
     go_wp2_with fail
     go_round
     case rel=>exact ⟨k+1,by go_num,by omega,by rw [HRR.out],HA2⟩
     case measure=>simp [intOf];omega
  ·have HF:=Zh (vt_all (b:=b) (by
    obtain rfl:k=m:=by omega
    have h:=HA.out
    rw [HM.out] at h
    intro y hy
    refine h y ?_
    by_cases hb10:b.length≤10
    ·rw [Nat.min_eq_left hb10,List.take_of_length_le (Nat.le_refl _)];rwa [List.take_of_length_le hb10] at hy
    ·rw [Nat.min_eq_right (by omega)];exact hy))
   go_wp2_with fail
   refine bodyPost_ret (v:=.tuple #[.int .u64 0,.int .i64 0,.iface 70 (.int .i64 2)]) (by simp [results,Tryz.results188,go_sem]) rfl ⟨by rw [HF.out];rfl,rfl⟩

/-- block b is a reader in the state r -/
def DLow (a:Option Addr) (n b:Nat):Prop:=n≠0→∀ x,a=some x→x.block<b -- what is left lies below the reader
theorem DLow.sub {a a2:Option Addr} {n m b:Nat} (h:DLow a n b) (h1:m≠0→n≠0∧∃ bb o o2,a=some ⟨bb,o,none⟩∧a2=some ⟨bb,o2,none⟩):DLow a2 m b:=by
 intro hm x hx
 obtain ⟨hn,bb,o,o2,rfl,rfl⟩:=h1 hm
 cases hx
 exact h hn ⟨bb,o,none⟩ rfl
def RAt (w:World) (b:Nat) (r:RD):Prop:=∃ a c,BoxW b [.slice a r.rest.length c,errV r.bad] 279 w∧Bytes w (.slice a r.rest.length c) r.rest∧DLow a r.rest.length b
def RR (v:Value) (b:Nat) (r:RD) (w:World) (e:Ending) (w':World):Prop:=e=.returned v∧RAt w' b r∧Fr (fun k=>k=b) w w'
theorem errV_no (n:Nat) (x:UInt8):byteV x≠errV n:=by unfold byteV errV;split<;>simp
theorem rat_no {a:Option Addr} {n c m:Nat}:∀ x:UInt8,byteV x∉[Value.slice a n c,errV m]:=by
 intro x h
 simp only [List.mem_cons,List.not_mem_nil,or_false] at h
 rcases h with h | h
 ·simp [byteV] at h
 ·exact errV_no m x h
/-- a write beyond the reader leaves it -/
theorem RAt.high {F:Nat→Prop} {w w':World} {b:Nat} {r:RD} (h:RAt w b r) (hf:Fr F w w') (hb:∀ k,F k→b<k):RAt w' b r:=by
 obtain ⟨a,c,h1,h2,h3⟩:=h
 refine ⟨a,c,h1.fr hf (fun h=>by have:=hb b h;omega),?_,h3⟩
 by_cases hn:r.rest.length=0
 ·obtain ⟨rest,bad⟩:=r
  obtain rfl:rest=[]:=List.eq_nil_of_length_eq_zero hn
  obtain ⟨a',c',he,k1,k2,k0,k3⟩:=h2
  exact ⟨a',c',he,k1,k2,k0,fun j u hu=>by simp [byteVs] at hu⟩
 ·obtain ⟨a',c',he,k1,k2,k0,k3⟩:=h2
  cases he
  refine ⟨_,_,rfl,k1,k2,k0,fun j u hu=>?_⟩
  obtain ⟨p,hp,hc⟩:=k3 j u hu
  refine ⟨p,hp,hf.cell hc (fun h=>?_)⟩
  have h5:=hb _ h
  have h4:=h3 hn p hp
  have h6:(p.add j).block=p.block:=by unfold Addr.add;split<;>rfl
  rw [h6] at h5
  omega
theorem RAt.below {w w':World} {b:Nat} {r:RD} (h:RAt w b r) {B:Nat} (hB:w.heap.size≤B) (hb:Below B w w'):RAt w' b r:=by
 obtain ⟨a,c,h1,h2,h3⟩:=h
 exact ⟨a,c,h1.below hB hb,SlV.below h2 hB hb,h3⟩
theorem RAt.lt {w:World} {b:Nat} {r:RD} (h:RAt w b r):b<w.heap.size:=by obtain ⟨a,c,h1,_⟩:=h;exact h1.lt
theorem vNew_any (l:List UInt8) (a:Option Addr) (c:Nat) (w:World) (h:Bytes w (.slice a l.length c) l) :
  Calls Tryz.prog 140 #[.slice a l.length c] w fun e w'=>e=.returned (.pointer (some ⟨w.heap.size,0,none⟩))∧RAt w' w.heap.size ⟨l,0⟩∧Below w.heap.size w w'∧w'.heap.size=w.heap.size+1:=by
 have HB:=Lib.hid' h
 clear h
 go_enter Tryz.func140, Tryz.ntmps140
 go_wp2
 go_ret
 exact ⟨rfl,⟨a,c,BoxW.start w [.slice a l.length c,errV 0] _,SlV.below HB.out (Nat.le_refl _) (by go_grown),fun hn x hx=>by
  obtain ⟨bb,off,e,hbb,_⟩:=bytes_at (l:=l) HB.out (show 0<l.length by have:l.length≠0:=hn;omega)
  rw [e] at hx;cases hx;exact hbb⟩,by go_grown,by simp⟩
theorem going_any (b:Nat) (r:RD) (w:World) (h:RAt w b r):Calls Tryz.prog 187 #[.pointer (some ⟨b,0,none⟩)] w fun e w'=>e=.returned (.bool (decide (r.bad=0)))∧w=w':=by
 obtain ⟨a,c,hx,_⟩:=h
 have c1:=hx.box.1 1 _ rfl
 have c0:=hx.box.1 0 _ rfl
 clear hx
 by_cases hb:r.bad=0
 ·have H:=Lib.hid' hb
  rw [hb,errV_0] at c1
  clear hb
  go_enter Tryz.func187, Tryz.ntmps187
  go_wp2
  go_ret
  exact ⟨ret_eq (by rw [H.out];rfl),rfl⟩
 ·have H:=Zh (show decide (r.bad=0)=false from decide_eq_false hb)
  rw [errV_pos hb] at c1
  clear hb
  go_enter Tryz.func187, Tryz.ntmps187
  go_wp2
  go_ret
  exact ⟨ret_eq (by rw [H.out];rfl),rfl⟩
set_option maxHeartbeats 1000000 in
theorem fail_any (b:Nat) (r:RD) (n:Nat) (hn:n≠0) (w:World) (h:RAt w b r):Calls Tryz.prog 142 #[.pointer (some ⟨b,0,none⟩),.iface 70 (.int .i64 n)] w (RR (.tuple #[]) b (r.fail n) w):=by
 have H:=Lib.hid' h
 have HG:=Zh (going_any b r w h)
 obtain ⟨a,c,hx,hd,hlo⟩:=h
 have HLO:=Lib.hid' hlo
 clear hlo
 have c1:=hx.box.1 1 _ rfl
 have f1:=hx.box.2.1 1
 have HX:=Lib.hid' hx
 have HD:=Lib.hid' hd
 have HN:=Lib.hid' hn
 clear hx hd hn
 by_cases hb:r.bad=0
 ·have HR:=Zh (show r.fail n=⟨r.rest,n⟩ by unfold RD.fail;rw [if_pos hb])
  have hbd:decide (r.bad=0)=true:=decide_eq_true hb
  rw [hbd] at HG
  clear hb hbd
  go_enter Tryz.func142, Tryz.ntmps142
  go_wp2_with fail
  refine HG.out.mono ?_
  rintro e w1 ⟨rfl,rfl⟩
  clear HG
  go_wp2
  first | go_end0 | skip
  have hs:=HX.out.set 1 (.iface 70 (.int .i64 n))
  refine ⟨rfl,?_,fr_set _ _ _ _⟩
  rw [HR.out]
  exact ⟨a,c,by rw [errV_pos HN.out];exact hs,HX.out.bytes rat_no HD.out (fr_set _ _ _ _),HLO.out⟩
 ·have HR:=Zh (show r.fail n=r by unfold RD.fail;rw [if_neg hb])
  have hbd:decide (r.bad=0)=false:=decide_eq_false hb
  rw [hbd] at HG
  clear hb hbd
  go_enter Tryz.func142, Tryz.ntmps142
  go_wp2_with fail
  refine HG.out.mono ?_
  rintro e w1 ⟨rfl,rfl⟩
  clear HG
  go_wp2
  first | go_end0 | skip
  exact ⟨rfl,by rw [HR.out];exact H.out,Fr.refl _ _⟩
set_option maxHeartbeats 1000000 in
theorem number_any (b:Nat) (r:RD) (w:World) (h:RAt w b r):Calls Tryz.prog 141 #[.pointer (some ⟨b,0,none⟩)] w (RR (.int .u64 (r.num.1:Nat)) b r.num.2 w):=by
 have H:=Lib.hid' h
 have HG:=Zh (going_any b r w h)
 obtain ⟨a,c,hx,hd,hlo⟩:=h
 have HLO:=Lib.hid' hlo
 clear hlo
 have c0:=hx.box.1 0 _ rfl
 have c1:=hx.box.1 1 _ rfl
 have f0:=hx.box.2.1 0
 have f1:=hx.box.2.1 1
 have HX:=Lib.hid' hx
 have HD:=Lib.hid' hd
 have hlen:=bytes_len hd
 have hcap:r.rest.length≤c∧c≤maxLen:=by obtain ⟨_,_,he,h1,h2,_⟩:=hd;cases he;exact ⟨h1,h2⟩
 have hcm:c≤9223372036854775807:=by have:=hcap.2;unfold maxLen at this;omega
 have hT:=vTake_any r.rest a c w hd
 clear hx hd
 by_cases hb:r.bad=0
 rotate_left
 ·have HR:=Zh (show r.num=(0,r) from RD.num_bad hb)
  have hbd:decide (r.bad=0)=false:=decide_eq_false hb
  rw [hbd] at HG
  clear hb hbd hT
  go_enter Tryz.func141, Tryz.ntmps141
  go_wp2_with fail
  refine HG.out.mono ?_
  rintro e w1 ⟨rfl,rfl⟩
  clear HG
  go_wp2
  go_ret
  exact ⟨ret_eq (by rw [HR.out];rfl),by rw [HR.out];exact H.out,Fr.refl _ _⟩
 have hbd:decide (r.bad=0)=true:=decide_eq_true hb
 rw [hbd] at HG
 have HBD:=Lib.hid' hb
 rw [hb] at HX c1
 clear hbd
 cases hv:vtake r.rest with
 | none =>
  rw [hv] at hT
  simp only [TakeR,errV_pos (n:=2) (by decide)] at hT
  have HT:=Lib.hid' hT
  have HR:=Zh (show r.num=(0,⟨r.rest,2⟩) by unfold RD.num;rw [if_neg (by simpa using hb),hv])
  clear hb hT hv
  go_enter Tryz.func141, Tryz.ntmps141
  go_wp2_with fail
  refine HG.out.mono ?_
  rintro e w1 ⟨rfl,rfl⟩
  clear HG
  go_wp2_with fail
  refine HT.out.mono ?_
  rintro e w1 ⟨rfl,rfl⟩
  clear HT
  go_wp2
  go_ret
  have hs:=HX.out.set 1 (.iface 70 (.int .i64 2))
  refine ⟨ret_eq (by rw [HR.out];rfl),?_,fr_set _ _ _ _⟩
  rw [HR.out]
  exact ⟨a,c,by rw [errV_pos (n:=2) (by decide)];exact hs,HX.out.bytes rat_no HD.out (fr_set _ _ _ _),HLO.out⟩
 | some p =>
  obtain ⟨n,k⟩:=p
  rw [hv] at hT
  simp only [TakeR] at hT
  have HT:=Lib.hid' hT
  have HR:=Zh (show r.num=(n,⟨r.rest.drop k,0⟩) by unfold RD.num;rw [if_neg (by simpa using hb),hv];simp only [hb])
  obtain ⟨_,hn,hk10,hkl,hk0⟩:=vtake_some hv
  obtain ⟨bb,off,rfl,_,_⟩:=bytes_at HD.out (show 0<r.rest.length by omega)
  have HLD:=Zh (List.length_drop (i:=k) (l:=r.rest))
  have hkc':k≤c:=by omega
  clear hb hT hv
  by_cases hkc:c=k
  ·have HS:=Zh (show Bytes w (.slice (some ⟨bb,off,none⟩) (r.rest.drop k).length (c - k)) (r.rest.drop k) from bytes_sub HD.out hkl _ (.inr (by omega)) (by simp))
   subst hkc
   obtain rfl:c=r.rest.length:=by omega
   go_enter Tryz.func141, Tryz.ntmps141
   go_wp2_with fail
   refine HG.out.mono ?_
   rintro e w1 ⟨rfl,rfl⟩
   clear HG
   go_wp2_with fail
   refine HT.out.mono ?_
   rintro e w1 ⟨rfl,rfl⟩
   clear HT
   go_wp2
   go_ret
   have hs:=HX.out.set 0 (.slice (some ⟨bb,off,none⟩) (r.rest.drop r.rest.length).length (r.rest.length - r.rest.length))
   refine ⟨ret_eq (by rw [HR.out];rfl),?_,fr_set _ _ _ _⟩
   rw [HR.out]
   refine ⟨some ⟨bb,off,none⟩,r.rest.length - r.rest.length,?_,?_,HLO.out.sub (fun hm=>⟨fun h0=>hm (by simp [List.length_drop]),bb,off,off,rfl,rfl⟩)⟩
   ·simp only [HLD.out,Nat.sub_self] at hs ⊢;exact hs
   ·have:=HX.out.bytes rat_no HS.out (fr_set w b 0 (.slice (some ⟨bb,off,none⟩) 0 0))
    simp only [HLD.out,Nat.sub_self] at this ⊢;exact this
  ·have hlt:k<c:=by omega
   have HS:=Zh (show Bytes w (.slice (some ⟨bb,off+k,none⟩) (r.rest.drop k).length (c - k)) (r.rest.drop k) from bytes_sub HD.out hkl _ (.inl ⟨bb,off,rfl,rfl⟩) (by simp))
   go_enter Tryz.func141, Tryz.ntmps141
   go_wp2_with fail
   refine HG.out.mono ?_
   rintro e w1 ⟨rfl,rfl⟩
   clear HG
   go_wp2_with fail
   refine HT.out.mono ?_
   rintro e w1 ⟨rfl,rfl⟩
   clear HT
   go_wp2
   go_ret
   have hs:=HX.out.set 0 (.slice (some ⟨bb,off+k,none⟩) (r.rest.drop k).length (c - k))
   refine ⟨ret_eq (by rw [HR.out];rfl),?_,fr_set _ _ _ _⟩
   rw [HR.out]
   refine ⟨some ⟨bb,off+k,none⟩,c - k,?_,?_,HLO.out.sub (fun hm=>⟨fun h0=>hm (by simp only [List.length_drop];omega),bb,off,off+k,rfl,rfl⟩)⟩
   ·simp only [HLD.out] at hs ⊢;exact hs
   ·have:=HX.out.bytes rat_no HS.out (fr_set w b 0 (.slice (some ⟨bb,off+k,none⟩) (r.rest.length - k) (c - k)))
    simp only [HLD.out] at this ⊢;exact this

theorem frb {b:Nat} {x y z:World} (h:Fr (fun k=>k=b) x y) (k:Fr (fun k=>k=b) y z):Fr (fun k=>k=b) x z:=h.trans k (fun i hi=>.inl hi)
set_option maxHeartbeats 1000000 in
theorem within_r_any (b:Nat) (r:RD) (most:Nat) (hm:most≤9223372036854775807) (w:World) (h:RAt w b r):Calls Tryz.prog 103 #[.pointer (some ⟨b,0,none⟩),.int .u64 most] w (RR (.int .i64 ((r.within most).1:Nat)) b (r.within most).2 w):=by
 have HC:=Zh (number_any b r w h)
 have hn:=RD.num_lt r
 clear h
 by_cases hq:most<r.num.1∨4611686018427387904<r.num.1
 ·have HR:=Zh (show r.within most=(0,r.num.2.fail 1) by unfold RD.within;rw [if_pos hq])
  generalize r.num.1=n at *
  have hq2:most<n∨(¬most<n∧4611686018427387904<n):=by omega
  clear hq
  go_enter Tryz.func103, Tryz.ntmps103
  go_wp2_with fail
  refine HC.out.mono ?_
  rintro e w1 ⟨rfl,h1,hf1⟩
  have H1:=Lib.hid' h1
  have HF:=Lib.hid' hf1
  clear h1 hf1 HC
  rcases hq2 with hq | ⟨hq1,hq⟩
  all_goals
   go_wp2_with fail
   refine (fail_any b r.num.2 1 (by decide) w1 H1.out).mono ?_
   rintro e w2 ⟨rfl,h2,hf2⟩
   have H2:=Lib.hid' h2
   have HF2:=Zh (frb HF.out hf2)
   clear h2 hf2
   go_wp2
   go_ret
   exact ⟨ret_eq (by rw [HR.out];rfl),by rw [HR.out];exact H2.out,HF2.out⟩
 ·have HR:=Zh (show r.within most=r.num by unfold RD.within;rw [if_neg hq])
  obtain ⟨n,hn'⟩:∃ n,n=r.num.1:=⟨_,rfl⟩
  rw [←hn'] at HC hq hn
  have HN:=Lib.hid' hn'
  have hq1:¬most<n:=by omega
  have hq2:¬4611686018427387904<n:=by omega
  clear hq hn'
  go_enter Tryz.func103, Tryz.ntmps103
  go_wp2_with fail
  refine HC.out.mono ?_
  rintro e w1 ⟨rfl,h1,hf1⟩
  have H1:=Lib.hid' h1
  have HF:=Lib.hid' hf1
  clear h1 hf1 HC
  go_wp2
  go_ret
  exact ⟨ret_eq (by rw [HR.out,←HN.out];rfl),by rw [HR.out];exact H1.out,HF.out⟩
/-- bytes are handed back in a row of the call's own -/
def FixR (l:List UInt8) (b:Nat) (r:RD) (w:World) (e:Ending) (w':World):Prop :=
 ∃ a c,e=.returned (.slice a l.length c)∧w'.ownsRow w.heap.size 5 1 (.slice a l.length c) l.length (byteVs l)∧RAt w' b r∧Fr (fun k=>k=b) w w'
set_option maxHeartbeats 1000000 in
theorem fixed_any (b:Nat) (r:RD) (many:Nat) (hm:many≤1099511627776) (w:World) (h:RAt w b r):Calls Tryz.prog 190 #[.pointer (some ⟨b,0,none⟩),.int .i64 many] w (FixR (r.fixed many).1 b (r.fixed many).2 w):=by
 have H:=Lib.hid' h
 have HG:=Zh (going_any b r w h)
 obtain ⟨a,c,hx,hd,hlo⟩:=h
 have HLO:=Lib.hid' hlo
 clear hlo
 have c0:=hx.box.1 0 _ rfl
 have c1:=hx.box.1 1 _ rfl
 have f0:=hx.box.2.1 0
 have HX:=Lib.hid' hx
 have HD:=Lib.hid' hd
 have hlen:=bytes_len hd
 have hcap:r.rest.length≤c∧c≤maxLen:=by obtain ⟨_,_,he,h1,h2,_⟩:=hd;cases he;exact ⟨h1,h2⟩
 have hcm:c≤9223372036854775807:=by have:=hcap.2;unfold maxLen at this;omega
 clear hx hd
 by_cases hb:r.bad=0
 rotate_left
 ·have HR:=Zh (RD.fixed_bad hb many)
  have hbd:decide (r.bad=0)=false:=decide_eq_false hb
  rw [hbd] at HG
  clear hb hbd
  go_enter Tryz.func190, Tryz.ntmps190
  go_wp2_with fail
  refine HG.out.mono ?_
  rintro e w1 ⟨rfl,rfl⟩
  clear HG
  go_wp2
  go_ret
  rw [HR.out]
  exact ⟨none,0,rfl,own_nil _ _ _ _,H.out,Fr.refl _ _⟩
 have hbd:decide (r.bad=0)=true:=decide_eq_true hb
 rw [hbd] at HG
 have HBD:=Lib.hid' hb
 clear hb hbd
 by_cases hq:r.rest.length<many
 ·have HR:=Zh (show r.fixed many=([],r.fail 2) by unfold RD.fixed;rw [if_neg (by simpa using HBD.out),if_pos hq])
  have hq2:¬many≤r.rest.length:=by omega
  go_enter Tryz.func190, Tryz.ntmps190
  go_wp2_with fail
  refine HG.out.mono ?_
  rintro e w1 ⟨rfl,rfl⟩
  clear HG
  go_wp2_with fail
  refine (fail_any b r 2 (by decide) w H.out).mono ?_
  rintro e w2 ⟨rfl,h2,hf2⟩
  have H2:=Lib.hid' h2
  have HF2:=Lib.hid' hf2
  clear h2 hf2
  go_wp2
  go_ret
  rw [HR.out]
  exact ⟨none,0,rfl,own_nil _ _ _ _,H2.out,HF2.out⟩
 have HR:=Zh (show r.fixed many=(r.rest.take many,⟨r.rest.drop many,0⟩) by unfold RD.fixed;rw [if_neg (by simpa using HBD.out),if_neg hq];simp only [HBD.out])
 have hq2:many≤r.rest.length:=by omega
 have hmc:many≤c:=by omega
 have HTK:=Zh (bytes_take HD.out hq2)
 have HTL:=Zh (show (r.rest.take many).length=many by rw [List.length_take];omega)
 have HLD:=Zh (List.length_drop (i:=many) (l:=r.rest))
 have hcl:=clone_any (.slice a many c) (r.rest.take many) w HTK.out (by rw [HTL.out];omega)
 rw [HTL.out] at hcl
 have HCL:=Lib.hid' hcl
 rw [HBD.out] at HX
 clear hq hcl
 have hadr:(∃ bb off,a=some ⟨bb,off,none⟩)∨r.rest.length=0:=by
  rcases Nat.eq_zero_or_pos r.rest.length with h0 | h0
  ·exact .inr h0
  ·obtain ⟨bb,off,e,_⟩:=bytes_at HD.out h0;exact .inl ⟨bb,off,e⟩
 have HNN:=Zh (show a=none→c=0 by obtain ⟨_,_,he,_,_,h0,_⟩:=HD.out;cases he;exact h0)
 go_enter Tryz.func190, Tryz.ntmps190
 go_wp2_with fail
 refine HG.out.mono ?_
 rintro e w1 ⟨rfl,rfl⟩
 clear HG
 go_wp2_with fail
 refine HCL.out.mono ?_
 rintro e w2 ⟨a2,c2,rfl,ho2,hb2⟩
 have HX2:=Zh (HX.out.below (Nat.le_refl _) hb2)
 have HD2:=Zh (show Bytes w2 (.slice a r.rest.length c) r.rest from SlV.below HD.out (Nat.le_refl _) hb2)
 have HO2:=Lib.hid' ho2
 have HB2:=Lib.hid' hb2
 have d0:=HX2.out.box.1 0 _ rfl
 have g0:=HX2.out.box.2.1 0
 have hbl:=HX.out.lt
 clear ho2 hb2 HCL c0 f0 c1
 have fin:∀ (a3:Option Addr),((∃ bb off,a=some ⟨bb,off,none⟩∧a3=some ⟨bb,off+many,none⟩)∨r.rest.length=many)→(a3=none→c=many)→FixR (r.rest.take many) b ⟨r.rest.drop many,0⟩ w (.returned (.slice a2 many c2)) (w2.setCell ⟨b,0,none⟩ (.slice a3 (r.rest.length - many) (c - many))):=by
  intro a3 h3 h4
  have hs:=HX2.out.set 0 (.slice a3 (r.rest.length - many) (c - many))
  have hfr:=fr_set w2 b 0 (.slice a3 (r.rest.length - many) (c - many))
  refine ⟨a2,c2,by rw [HTL.out],?_,⟨a3,c - many,by rw [HLD.out];exact hs,HX2.out.bytes rat_no (bytes_sub HD2.out hq2 a3 h3 h4) hfr,HLO.out.sub (fun hm=>by
   have hm':r.rest.length - many≠0:=by simpa [List.length_drop] using hm
   rcases h3 with ⟨bb,off,e1,e2⟩ | h3
   ·exact ⟨by omega,bb,off,off+many,e1,e2⟩
   ·omega)⟩,(Fr.of_below HB2.out).trans hfr (fun i hi=>.inl hi)⟩
  rw [HTL.out]
  exact ownsRow_setCell_below HO2.out hbl _
 have FIN:=Lib.hid' fin
 clear fin
 rcases hadr with ⟨bb,off,rfl⟩ | h0
 ·by_cases hkc:c=many
  ·have HFF:=Zh (FIN.out (some ⟨bb,off,none⟩) (.inr (by omega)) (by simp))
   subst hkc
   obtain rfl:c=r.rest.length:=by omega
   go_wp2
   go_ret
   rw [HR.out]
   have:=HFF.out
   rw [Nat.sub_self] at this
   exact this
  ·have hlt:many<c:=by omega
   have HFF:=Zh (FIN.out (some ⟨bb,off+many,none⟩) (.inl ⟨bb,off,rfl,rfl⟩) (by simp))
   go_wp2
   go_ret
   rw [HR.out]
   exact HFF.out
 ·obtain rfl:many=0:=by omega
  cases a with
  | none =>
   obtain rfl:=HNN.out rfl
   have HFF:=Zh (FIN.out none (.inr (by omega)) (fun _=>rfl))
   go_wp2
   go_ret
   rw [HR.out]
   have:=HFF.out
   simp only [h0,Nat.sub_zero] at this
   exact this
  | some p =>
   have HFF:=Zh (FIN.out (some p) (.inr (by omega)) (by simp))
   go_wp2
   go_ret
   rw [HR.out]
   have:=HFF.out
   simp only [h0,Nat.sub_zero] at this
   exact this
theorem err_any (b:Nat) (r:RD) (w:World) (h:RAt w b r):Calls Tryz.prog 143 #[.pointer (some ⟨b,0,none⟩)] w fun e w'=>e=.returned (errV r.bad)∧w=w':=by
 obtain ⟨a,c,hx,_⟩:=h
 have c1:=hx.box.1 1 _ rfl
 have c0:=hx.box.1 0 _ rfl
 clear hx
 obtain ⟨v,hv⟩:∃ v,v=errV r.bad:=⟨_,rfl⟩
 have HV:=Lib.hid' hv
 rw [←hv] at c1
 clear hv
 go_enter Tryz.func143, Tryz.ntmps143
 go_wp2
 go_ret
 exact ⟨ret_eq (by rw [←HV.out];rfl),rfl⟩
def RD.left (r:RD):Nat:=if r.bad=0 then r.rest.length else 0
theorem left_any (b:Nat) (r:RD) (w:World) (h:RAt w b r):Calls Tryz.prog 146 #[.pointer (some ⟨b,0,none⟩)] w fun e w'=>e=.returned (.int .i64 r.left)∧w=w':=by
 have HG:=Zh (going_any b r w h)
 obtain ⟨a,c,hx,hd⟩:=h
 have c0:=hx.box.1 0 _ rfl
 have c1:=hx.box.1 1 _ rfl
 clear hx hd
 by_cases hb:r.bad=0
 ·have HR:=Zh (show r.left=r.rest.length from if_pos hb)
  rw [decide_eq_true hb] at HG
  clear hb c1
  go_enter Tryz.func146, Tryz.ntmps146
  go_wp2_with fail
  refine HG.out.mono ?_
  rintro e w1 ⟨rfl,rfl⟩
  go_wp2
  go_ret
  exact ⟨ret_eq (by rw [HR.out];rfl),rfl⟩
 ·have HR:=Zh (show r.left=0 from if_neg hb)
  rw [decide_eq_false hb] at HG
  clear hb c1
  go_enter Tryz.func146, Tryz.ntmps146
  go_wp2_with fail
  refine HG.out.mono ?_
  rintro e w1 ⟨rfl,rfl⟩
  go_wp2
  go_ret
  exact ⟨ret_eq (by rw [HR.out];rfl),rfl⟩
set_option maxHeartbeats 1000000 in
theorem end_any (b:Nat) (r:RD) (w:World) (h:RAt w b r):Calls Tryz.prog 105 #[.pointer (some ⟨b,0,none⟩)] w fun e w'=>e=.returned (errV r.fin)∧w=w':=by
 have HE:=Zh (err_any b r w h)
 have HL:=Zh (left_any b r w h)
 clear h
 by_cases hb:r.bad=0
 rotate_left
 ·have HR:=Zh (RD.fin_bad hb)
  rw [errV_pos hb] at HE
  have HP:=Zh (errV_pos hb)
  clear hb HL
  go_enter Tryz.func105, Tryz.ntmps105
  go_wp2_with fail
  refine HE.out.mono ?_
  rintro e w1 ⟨rfl,rfl⟩
  clear HE
  go_wp2
  go_ret
  exact ⟨ret_eq (by rw [HR.out,HP.out];rfl),rfl⟩
 rw [show r.left=r.rest.length from if_pos hb] at HL
 have HBD:=Lib.hid' hb
 rw [hb,errV_0] at HE
 clear hb
 by_cases hl:0<r.rest.length
 ·have HR:=Zh (show r.fin=2 by unfold RD.fin;rw [if_pos ⟨HBD.out,hl⟩])
  go_enter Tryz.func105, Tryz.ntmps105
  go_wp2_with fail
  refine HE.out.mono ?_
  rintro e w1 ⟨rfl,rfl⟩
  clear HE
  go_wp2_with fail
  refine HL.out.mono ?_
  rintro e w1 ⟨rfl,rfl⟩
  clear HL
  go_wp2
  go_ret
  exact ⟨ret_eq (by rw [HR.out];rfl),rfl⟩
 ·have HR:=Zh (show r.fin=0 by unfold RD.fin;rw [if_neg (fun h=>hl h.2)];exact HBD.out)
  have hl':r.rest.length≤0:=by omega
  clear hl
  go_enter Tryz.func105, Tryz.ntmps105
  go_wp2_with fail
  refine HE.out.mono ?_
  rintro e w1 ⟨rfl,rfl⟩
  clear HE
  go_wp2_with fail
  refine HL.out.mono ?_
  rintro e w1 ⟨rfl,rfl⟩
  clear HL
  go_wp2
  go_ret
  exact ⟨ret_eq (by rw [HR.out];rfl),rfl⟩

/-- bytes without their sum -/
def openB (b:List UInt8):Nat×List UInt8:=if b.length<4 then (2,[]) else if four (crcOf 0 (b.take (b.length - 4)))=b.drop (b.length - 4) then (0,b.take (b.length - 4)) else (11,[])
def OpenR (r:Nat×List UInt8) (F:Nat→Prop) (w:World) (en:Ending) (w':World):Prop :=
 ∃ a c,en=.returned (.tuple #[.slice a r.2.length c,errV r.1])∧w'.ownsRow w.heap.size 5 1 (.slice a r.2.length c) r.2.length (byteVs r.2)∧Fr F w w'
set_option maxHeartbeats 2000000 in
theorem opened_any (M:Nat) (a:Option Addr) (c:Nat) (b:List UInt8) (w:World) (h:BoxW M freshR 273 w) (hb:Bytes w (.slice a b.length c) b) (hl:b.length≤1048576) :
  Calls Tryz.prog 237 #[.pointer (some ⟨M,0,none⟩),.slice a b.length c] w (OpenR (openB b) (fun k=>k=M) w):=by
 have HX:=Lib.hid' h
 have HB:=Lib.hid' hb
 have hcap:b.length≤c∧c≤maxLen:=by obtain ⟨_,_,he,h1,h2,_⟩:=hb;cases he;exact ⟨h1,h2⟩
 have hcm:c≤9223372036854775807:=by have:=hcap.2;unfold maxLen at this;omega
 clear h hb
 by_cases hlen:b.length<4
 ·have HR:=Zh (show openB b=(2,[]) by unfold openB;rw [if_pos hlen])
  go_enter Tryz.func237, Tryz.ntmps237
  go_wp2_with fail
  refine (ask_any M _ _ _ 0 w HX.out).mono ?_
  rintro e w1 ⟨rfl,hx1,hf1⟩
  have HF1:=Lib.hid' hf1
  clear hx1 hf1
  go_wp2
  refine bodyPost_ret (v:=.tuple #[.slice none 0 0,.iface 70 (.int .i64 2)]) (by simp [results,Tryz.results237,go_sem]) rfl ?_
  rw [HR.out]
  exact ⟨none,0,rfl,own_nil _ _ _ _,HF1.out⟩
 obtain ⟨m,hm⟩:∃ m,b.length=m+4:=⟨b.length - 4,by omega⟩
 obtain ⟨bb,off,rfl,hbb,hcc⟩:=bytes_at HB.out (show 0<b.length by omega)
 clear hcc
 have HT:=Zh (bytes_take HB.out (k:=m) (by omega))
 have HTL:=Zh (show (b.take m).length=m by rw [List.length_take];omega)
 have HD:=Zh (bytes_drop HB.out (k:=m) (by omega))
 rw [show b.length - m=4 by omega] at HD
 have HDL:=Zh (show (b.drop m).length=4 by rw [List.length_drop];omega)
 have HO:=Zh (show openB b=if four (crcOf 0 (b.take m))=b.drop m then (0,b.take m) else (11,[]) by
  unfold openB;rw [if_neg hlen,show b.length - 4=m by omega])
 have hml:m≤1048576:=by omega
 have hmc:m<c:=by omega
 have hmc4:m+4≤c:=by omega
 have hsum:=sum_any M (some ⟨bb,off,none⟩) c (b.take m) w.drew HX.out (by rw [HTL.out];exact HT.out)
 rw [HTL.out] at hsum
 have HSUM:=Lib.hid' hsum
 have hcr:=crcOf_lt (s:=0) (by decide) (b.take m)
 have hcl:∀ w1:World,Bytes w1 (.slice (some ⟨bb,off,none⟩) m c) (b.take m)→_:=fun w1 h1=>clone_any (.slice (some ⟨bb,off,none⟩) m c) (b.take m) w1 h1 (by rw [HTL.out];omega)
 rw [HTL.out] at hcl
 have HCL:=Lib.hid' hcl
 rw [hm]
 obtain ⟨x,hx⟩:∃ x,x=crcOf 0 (b.take m):=⟨_,rfl⟩
 rw [←hx] at HSUM HO hcr
 clear hlen hm hcap hsum hcl hx
 obtain ⟨eq,heq⟩:∃ eq,eq=(four x==b.drop m):=⟨_,rfl⟩
 have HEQ:=Lib.hid' heq
 clear heq
 go_enter Tryz.func237, Tryz.ntmps237
 cases eq

 ·go_wp2_with fail
  refine wp_region_held_drew (S:=(fun _=>True)) (by kernel_rfl) trivial (fun hH0=>?_)
  refine tA 0 (.pointer (some ⟨M,0,none⟩)) rfl hH0 ?_ ?_
  ·intro w hSw;go_simp
  simp only [Act.put,gA,gZ,gS,sA,sZ,sS]
  refine tA 1 (.slice (some ⟨bb,off,none⟩) (m+4) c) rfl hH0 ?_ ?_
  ·intro w hSw;go_simp
  simp only [Act.put,gA,gZ,gS,sA,sZ,sS]
  refine tA 2 (.int .i64 (m:Int)) rfl hH0 ?_ ?_
  ·intro w hSw;go_simp
  simp only [Act.put,gA,gZ,gS,sA,sZ,sS]
  refine tA 3 (.slice (some ⟨bb,off,none⟩) m c) rfl hH0 ?_ ?_
  ·intro w hSw;go_simp;(intro h;exfalso;omega)
  simp only [Act.put,gA,gZ,gS,sA,sZ,sS]
  refine tA 6 (.slice (some ⟨bb,off,none⟩) (m+4) c) rfl hH0 ?_ ?_
  ·intro w hSw;go_simp
  simp only [Act.put,gA,gZ,gS,sA,sZ,sS]
  refine tA 7 (.int .i64 (m:Int)) rfl hH0 ?_ ?_
  ·intro w hSw;go_simp
  simp only [Act.put,gA,gZ,gS,sA,sZ,sS]
  refine tA 8 (.slice (some ⟨bb,off+m,none⟩) 4 (c - m)) rfl hH0 ?_ ?_
  ·intro w hSw;go_simp;rw [if_pos (by omega),if_neg (by omega)]
  simp only [Act.put,gA,gZ,gS,sA,sZ,sS]
  refine rD 4 rfl (fun K hK=>?_)
  go_simp
  refine HSUM.out.mono ?_
  rintro e w1 ⟨rfl,hf1⟩
  have HF1:=Lib.hid' hf1
  have HT1:=Zh (show Bytes w1 (.slice (some ⟨bb,off,none⟩) m c) (b.take m) from HX.out.bytes (fun x=>mkR_no _ _ _ _ _ x) HT.out ((Fr.of_below (F:=fun k=>k=M) (Below.drew (Below.refl _ w))).trans hf1 (fun i hi=>.inl hi)))
  have HD1:=Zh (show Bytes w1 (.slice (some ⟨bb,off+m,none⟩) 4 (c - m)) (b.drop m) from HX.out.bytes (fun x=>mkR_no _ _ _ _ _ x) HD.out ((Fr.of_below (F:=fun k=>k=M) (Below.drew (Below.refl _ w))).trans hf1 (fun i hi=>.inl hi)))
  have HFW:=Zh ((Fr.of_below (F:=fun k=>k=M) (Below.drew (Below.refl _ w))).trans hf1 (fun i hi=>.inl hi))
  clear hf1
  refine hK.out _ _ ?_ (fun hH1=>?_)
  ·trivial
  clear hK K
  refine rD 5 rfl (fun K hK=>?_)
  go_simp
  refine (four_any x hcr w1).mono ?_
  rintro e w2 ⟨a2,c2,rfl,ho2,hb2⟩
  have HO2:=Lib.hid' ho2
  have HB2:=Lib.hid' hb2
  clear ho2 hb2
  refine hK.out _ _ ?_ (fun hH2=>?_)
  ·trivial
  clear hK K
  refine rD 9 rfl (fun K hK=>?_)
  go_simp
  refine (show Calls Tryz.prog 266 #[.slice a2 4 c2,.slice (some ⟨bb,off+m,none⟩) 4 (c - m)] w2 _ from by have:=equalB_any (four x) (b.drop m) a2 (some ⟨bb,off+m,none⟩) c2 (c - m) w2 (SlV.of_own HO2.out) (by rw [HDL.out];exact SlV.below HD1.out (Nat.le_refl _) HB2.out);rw [HDL.out,←HEQ.out] at this;exact this).mono ?_
  rintro e w3 ⟨rfl,hb3⟩
  have HB3:=Lib.hid' hb3
  clear hb3
  refine hK.out _ _ ?_ (fun hH3=>?_)
  ·trivial
  clear hK K
  refine tA 10 (.bool true) rfl hH3 ?_ ?_
  ·intro w hSw;go_simp
  simp only [Act.put,gA,gZ,gS,sA,sZ,sS]
  refine wpAnyH_done (by kernel_rfl) ?_ _
  have HF3:=Zh ((HFW.out.trans_below HB2.out).trans_below HB3.out)
  have HT3:=Zh (show Bytes w3 (.slice (some ⟨bb,off,none⟩) m c) (b.take m) from SlV.below (SlV.below HT1.out (Nat.le_refl _) HB2.out) (Nat.le_refl _) HB3.out)
  go_wp2_with fail
  have HR:=Zh (show openB b=(11,[]) by rw [HO.out,if_neg (by have:=HEQ.out;rw [eq_comm,beq_eq_false_iff_ne] at this;exact this)])
  refine bodyPost_ret (v:=.tuple #[.slice none 0 0,.iface 70 (.int .i64 11)]) (by simp [results,Tryz.results237,go_sem]) rfl ?_
  rw [HR.out]
  exact ⟨none,0,rfl,own_nil _ _ _ _,HF3.out⟩

 ·go_wp2_with fail
  refine wp_region_held_drew (S:=(fun _=>True)) (by kernel_rfl) trivial (fun hH0=>?_)
  refine tA 0 (.pointer (some ⟨M,0,none⟩)) rfl hH0 ?_ ?_
  ·intro w hSw;go_simp
  simp only [Act.put,gA,gZ,gS,sA,sZ,sS]
  refine tA 1 (.slice (some ⟨bb,off,none⟩) (m+4) c) rfl hH0 ?_ ?_
  ·intro w hSw;go_simp
  simp only [Act.put,gA,gZ,gS,sA,sZ,sS]
  refine tA 2 (.int .i64 (m:Int)) rfl hH0 ?_ ?_
  ·intro w hSw;go_simp
  simp only [Act.put,gA,gZ,gS,sA,sZ,sS]
  refine tA 3 (.slice (some ⟨bb,off,none⟩) m c) rfl hH0 ?_ ?_
  ·intro w hSw;go_simp;(intro h;exfalso;omega)
  simp only [Act.put,gA,gZ,gS,sA,sZ,sS]
  refine tA 6 (.slice (some ⟨bb,off,none⟩) (m+4) c) rfl hH0 ?_ ?_
  ·intro w hSw;go_simp
  simp only [Act.put,gA,gZ,gS,sA,sZ,sS]
  refine tA 7 (.int .i64 (m:Int)) rfl hH0 ?_ ?_
  ·intro w hSw;go_simp
  simp only [Act.put,gA,gZ,gS,sA,sZ,sS]
  refine tA 8 (.slice (some ⟨bb,off+m,none⟩) 4 (c - m)) rfl hH0 ?_ ?_
  ·intro w hSw;go_simp;rw [if_pos (by omega),if_neg (by omega)]
  simp only [Act.put,gA,gZ,gS,sA,sZ,sS]
  refine rD 4 rfl (fun K hK=>?_)
  go_simp
  refine HSUM.out.mono ?_
  rintro e w1 ⟨rfl,hf1⟩
  have HF1:=Lib.hid' hf1
  have HT1:=Zh (show Bytes w1 (.slice (some ⟨bb,off,none⟩) m c) (b.take m) from HX.out.bytes (fun x=>mkR_no _ _ _ _ _ x) HT.out ((Fr.of_below (F:=fun k=>k=M) (Below.drew (Below.refl _ w))).trans hf1 (fun i hi=>.inl hi)))
  have HD1:=Zh (show Bytes w1 (.slice (some ⟨bb,off+m,none⟩) 4 (c - m)) (b.drop m) from HX.out.bytes (fun x=>mkR_no _ _ _ _ _ x) HD.out ((Fr.of_below (F:=fun k=>k=M) (Below.drew (Below.refl _ w))).trans hf1 (fun i hi=>.inl hi)))
  have HFW:=Zh ((Fr.of_below (F:=fun k=>k=M) (Below.drew (Below.refl _ w))).trans hf1 (fun i hi=>.inl hi))
  clear hf1
  refine hK.out _ _ ?_ (fun hH1=>?_)
  ·trivial
  clear hK K
  refine rD 5 rfl (fun K hK=>?_)
  go_simp
  refine (four_any x hcr w1).mono ?_
  rintro e w2 ⟨a2,c2,rfl,ho2,hb2⟩
  have HO2:=Lib.hid' ho2
  have HB2:=Lib.hid' hb2
  clear ho2 hb2
  refine hK.out _ _ ?_ (fun hH2=>?_)
  ·trivial
  clear hK K
  refine rD 9 rfl (fun K hK=>?_)
  go_simp
  refine (show Calls Tryz.prog 266 #[.slice a2 4 c2,.slice (some ⟨bb,off+m,none⟩) 4 (c - m)] w2 _ from by have:=equalB_any (four x) (b.drop m) a2 (some ⟨bb,off+m,none⟩) c2 (c - m) w2 (SlV.of_own HO2.out) (by rw [HDL.out];exact SlV.below HD1.out (Nat.le_refl _) HB2.out);rw [HDL.out,←HEQ.out] at this;exact this).mono ?_
  rintro e w3 ⟨rfl,hb3⟩
  have HB3:=Lib.hid' hb3
  clear hb3
  refine hK.out _ _ ?_ (fun hH3=>?_)
  ·trivial
  clear hK K
  refine tA 10 (.bool false) rfl hH3 ?_ ?_
  ·intro w hSw;go_simp
  simp only [Act.put,gA,gZ,gS,sA,sZ,sS]
  refine wpAnyH_done (by kernel_rfl) ?_ _
  have HF3:=Zh ((HFW.out.trans_below HB2.out).trans_below HB3.out)
  have HT3:=Zh (show Bytes w3 (.slice (some ⟨bb,off,none⟩) m c) (b.take m) from SlV.below (SlV.below HT1.out (Nat.le_refl _) HB2.out) (Nat.le_refl _) HB3.out)
  go_wp2_with fail
  refine (HCL.out w3 HT3.out).mono ?_
  rintro e w4 ⟨a4,c4,rfl,ho4,hb4⟩
  have HR:=Zh (show openB b=(0,b.take m) by rw [HO.out,if_pos (by have:=HEQ.out;rw [eq_comm,beq_iff_eq] at this;exact this)])
  have HO4:=Zh (own_base (B':=w.heap.size) ho4 HF3.out.size)
  have HF4:=Zh (HF3.out.trans_below hb4)
  clear ho4 hb4
  go_wp2
  refine bodyPost_ret (v:=.tuple #[.slice a4 m c4,.nilIface]) (by simp [results,Tryz.results237,go_sem]) rfl ?_
  rw [HR.out]
  exact ⟨a4,c4,by simp only [HTL.out];rfl,by simp only [HTL.out];exact HO4.out,HF4.out⟩


/-- a text's frame behind bytes; an error's number -/
def fputN (t:List UInt8):Nat:=if 65536<t.length then 3 else 0
def fputB (b t:List UInt8):List UInt8:=if 65536<t.length then [] else b++frameB t
def FPutR (b t:List UInt8) (w:World) (en:Ending) (w':World):Prop :=
 ∃ a c,en=.returned (.tuple #[.slice a (fputB b t).length c,errV (fputN t)])∧w'.ownsRow w.heap.size 5 1 (.slice a (fputB b t).length c) (fputB b t).length (byteVs (fputB b t))∧Below w.heap.size w w'
set_option maxHeartbeats 2000000 in
theorem fput_any (b t:List UInt8) (a ta:Option Addr) (c tc:Nat) (w:World) (h:Bytes w (.slice a b.length c) b) (hT:Bytes w (.slice ta t.length tc) t) (hb:b.length≤1073741824) :
  Calls Tryz.prog 98 #[.slice a b.length c,.slice ta t.length tc] w (FPutR b t w):=by
 have HB:=Lib.hid' h
 have HT:=Lib.hid' hT
 have htl:=bytes_len hT
 clear h hT
 by_cases hl:65536<t.length
 ·have H1:=Zh (show fputN t=3 from if_pos hl)
  have H2:=Zh (show fputB b t=[] from if_pos hl)
  go_enter Tryz.func98, Tryz.ntmps98
  go_wp2
  refine bodyPost_ret (v:=.tuple #[.slice none 0 0,.iface 70 (.int .i64 3)]) (by simp [results,Tryz.results98,go_sem]) rfl ?_
  exact ⟨none,0,by rw [H1.out,H2.out];rfl,by rw [H2.out];exact own_nil _ _ _ _,Below.refl _ _⟩
 have H1:=Zh (show fputN t=0 from if_neg hl)
 have H2:=Zh (show fputB b t=b++frameB t from if_neg hl)
 go_enter Tryz.func98, Tryz.ntmps98
 go_wp2_with fail
 refine (crcnew_any w).mono ?_
 rintro e w1 ⟨rfl,hx1,hb1,hz1⟩
 have HX1:=Zh (show BoxW w.heap.size freshR 273 w1 from hx1)
 have HB1:=Lib.hid' hb1
 have HT1:=Zh (show Bytes w1 (.slice ta t.length tc) t from SlV.below HT.out (Nat.le_refl _) hb1)
 clear hx1 hb1
 go_wp2_with fail
 refine (vPutText_any [] t none ta 0 tc w1 (SlV.empty _ _ _ (Nat.zero_le _) (fun _=>rfl)) HT1.out (by simp) (by omega)).mono ?_
 rintro e w2 ⟨a2,c2,rfl,ho2,hb2⟩
 rw [List.nil_append] at ho2 ⊢
 have HX2:=Zh (HX1.out.below (Nat.le_refl _) hb2)
 have HB2:=Zh (HB1.out.trans (hb2.mono (by omega)))
 have HO2:=Zh (show Bytes w2 (.slice a2 (headB t).length c2) (headB t) from SlV.of_own ho2)
 have hz2:w.heap.size<w2.heap.size:=by have:=hb2.size;omega
 have hhl:(headB t).length≤65556:=by
  have:=vb_len10 (n:=t.length) (by omega)
  unfold headB;rw [List.length_append];omega
 clear ho2 hb2 HT1
 obtain ⟨hd,hhd⟩:∃ hd,hd=headB t:=⟨_,rfl⟩
 have HHD:=Lib.hid' hhd
 rw [←hhd] at HO2 hhl ⊢
 clear hhd
 go_wp2_with fail
 refine (sealed_any w.heap.size a2 c2 hd w2 HX2.out HO2.out (by omega)).mono ?_
 rintro e w3 ⟨a3,c3,rfl,ho3,hf3⟩
 have HFR:=Zh (show hd++four (crcOf 0 hd)=frameB t by unfold frameB;rw [HHD.out])
 rw [HFR.out] at ho3 ⊢
 have HB3:=Zh (HB2.out.trans (hf3.below (by omega) (fun k hk=>by omega)))
 have HO3:=Zh (show Bytes w3 (.slice a3 (frameB t).length c3) (frameB t) from SlV.of_own ho3)
 have hz3:w.heap.size<w3.heap.size:=by have:=hf3.size;omega
 have hfl:(frameB t).length≤70000:=by rw [frameB_len];have:=vb_len10 (n:=t.length) (by omega);omega
 clear ho3 hf3 HX1 HX2 HB1
 obtain ⟨fr,hfr⟩:∃ fr,fr=frameB t:=⟨_,rfl⟩
 have HFF:=Lib.hid' hfr
 rw [←hfr] at HO3 hfl ⊢
 clear hfr HFR
 go_wp2_with fail
 have HBx:=Zh (show Bytes w3 (.slice a b.length c) b from SlV.below HB.out (Nat.le_refl _) HB3.out)
 have hg:Below w3.heap.size w3 (w3.alloc (.cells #[.slice a b.length c,.slice a3 fr.length c3] 26)):=by go_grown
 have HCH:=Zh (show Cbs (w3.alloc (.cells #[.slice a b.length c,.slice a3 fr.length c3] 26)) (some ⟨w3.heap.size,0,none⟩) 2 [(b,a,c),(fr,a3,c3)] from
  ⟨SlV.of_own (slv_alloc w3 [.slice a b.length c,.slice a3 fr.length c3] 2 26 (by decide) rfl),fun y hy=>by
   simp only [List.mem_cons,List.not_mem_nil,or_false] at hy
   rcases hy with rfl | rfl
   ·exact SlV.below HBx.out (Nat.le_refl _) hg
   ·exact SlV.below HO3.out (Nat.le_refl _) hg⟩)
 have hfb:flatB [(b,a,c),(fr,a3,c3)]=b++fr:=by simp [flatB]
 have hcc:=concatB_any [(b,a,c),(fr,a3,c3)] (some ⟨w3.heap.size,0,none⟩) 2 _ HCH.out (by rw [hfb,List.length_append];omega)
 rw [hfb] at hcc
 have HG:=Zh (HB3.out.trans (hg.mono (by omega)))
 clear hg hfb
 refine hcc.mono ?_
 rintro e w4 ⟨a4,c4,rfl,ho4,hb4⟩
 have HO4:=Zh (own_base (B':=w.heap.size) ho4 (by simp;omega))
 have HB4:=Zh (HG.out.trans (hb4.mono (by simp;omega)))
 clear ho4 hb4 hcc
 obtain ⟨r,hr⟩:∃ r,r=b++fr:=⟨_,rfl⟩
 have HR:=Zh (show fputB b t=r by rw [H2.out,←HFF.out,hr])
 rw [←hr] at HO4 ⊢
 clear hr
 go_wp2
 refine bodyPost_ret (v:=.tuple #[.slice a4 r.length c4,.nilIface]) (by simp [results,Tryz.results98,go_sem]) rfl ?_
 exact ⟨a4,c4,by rw [H1.out,HR.out];rfl,by rw [HR.out];exact HO4.out,HB4.out⟩
def FTakeR (r:Nat×List UInt8×Nat) (w:World) (en:Ending) (w':World):Prop :=
 ∃ a c,en=.returned (.tuple #[.slice a r.2.1.length c,.int .i64 r.2.2,errV r.1])∧Bytes w' (.slice a r.2.1.length c) r.2.1∧Below w.heap.size w w'
theorem FTakeR.bad {w w':World} {n:Nat} (h:Below w.heap.size w w'):FTakeR (n,[],0) w (.returned (.tuple #[.slice none 0 0,.int .i64 0,errV n])) w' :=
 ⟨none,0,rfl,SlV.empty _ _ _ (Nat.zero_le _) (fun _=>rfl),h⟩
set_option maxHeartbeats 2000000 in
theorem ftake_any (b:List UInt8) (a:Option Addr) (c:Nat) (w:World) (h:Bytes w (.slice a b.length c) b) :
  Calls Tryz.prog 186 #[.slice a b.length c] w (FTakeR (ftake b) w):=by
 have HB:=Lib.hid' h
 have hbl:=bytes_len h
 have hcap:b.length≤c∧c≤maxLen:=by obtain ⟨_,_,he,h1,h2,_⟩:=h;cases he;exact ⟨h1,h2⟩
 have hcm:c≤9223372036854775807:=by have:=hcap.2;unfold maxLen at this;omega
 have hT:=vTake_any b a c w h
 clear h
 cases hv:vtake b with
 | none =>
  rw [hv] at hT
  simp only [TakeR,errV_pos (n:=2) (by decide)] at hT
  have HT:=Lib.hid' hT
  have HR:=Zh (show ftake b=(2,[],0) by unfold ftake;rw [hv])
  clear hv hT
  go_enter Tryz.func186, Tryz.ntmps186
  go_wp2_with fail
  refine HT.out.mono ?_
  rintro e w1 ⟨rfl,rfl⟩
  go_wp2
  refine bodyPost_ret (v:=.tuple #[.slice none 0 0,.int .i64 0,.iface 70 (.int .i64 2)]) (by simp [results,Tryz.results186,go_sem]) rfl ?_
  rw [HR.out];exact FTakeR.bad (Below.refl _ _)
 | some q =>
 obtain ⟨n,k⟩:=q
 rw [hv] at hT
 simp only [TakeR] at hT
 have HT:=Lib.hid' hT
 obtain ⟨_,hn,hk10,hkl,hk0⟩:=vtake_some hv
 by_cases h1:65536<n
 ·have HR:=Zh (show ftake b=(3,[],0) by unfold ftake;rw [hv];simp only [h1,if_true])
  clear hv hT
  go_enter Tryz.func186, Tryz.ntmps186
  go_wp2_with fail
  refine HT.out.mono ?_
  rintro e w1 ⟨rfl,rfl⟩
  go_wp2
  refine bodyPost_ret (v:=.tuple #[.slice none 0 0,.int .i64 0,.iface 70 (.int .i64 3)]) (by simp [results,Tryz.results186,go_sem]) rfl ?_
  rw [HR.out];exact FTakeR.bad (Below.refl _ _)
 by_cases h2:b.length<k+n+4
 ·have HR:=Zh (show ftake b=(2,[],0) by unfold ftake;rw [hv];simp only [h1,h2,if_true,if_false])
  have h2':(b.length:Int) - k<n+4:=by omega
  clear hv hT
  go_enter Tryz.func186, Tryz.ntmps186
  go_wp2_with fail
  refine HT.out.mono ?_
  rintro e w1 ⟨rfl,rfl⟩
  go_wp2
  refine bodyPost_ret (v:=.tuple #[.slice none 0 0,.int .i64 0,.iface 70 (.int .i64 2)]) (by simp [results,Tryz.results186,go_sem]) rfl ?_
  rw [HR.out];exact FTakeR.bad (Below.refl _ _)
 have h2':¬(b.length:Int) - k<n+4:=by omega
 have HFT:=Zh (show ftake b=if four (crcOf 0 (b.take (k+n)))=(b.drop (k+n)).take 4 then (0,(b.take (k+n)).drop k,k+n+4) else (11,[],0) by
  unfold ftake;rw [hv];simp only [h1,h2,if_false])
 have HTK:=Zh (bytes_take HB.out (k:=k+n+4) (by omega))
 have HTL:=Zh (show (b.take (k+n+4)).length=k+n+4 by rw [List.length_take];omega)
 have HOB:=Zh (show openB (b.take (k+n+4))=if four (crcOf 0 (b.take (k+n)))=(b.drop (k+n)).take 4 then (0,b.take (k+n)) else (11,[]) by
  unfold openB
  rw [HTL.out,if_neg (by omega),show k+n+4 - 4=k+n by omega,List.take_take,Nat.min_eq_left (by omega)]
  rw [show (b.take (k+n+4)).drop (k+n)=(b.drop (k+n)).take 4 from by rw [List.drop_take];congr 1;omega])
 have hb1:k+n+4≤b.length:=by omega
 have hcs:k+n+4≤c:=by omega
 obtain ⟨ob,hob⟩:∃ ob,ob=openB (b.take (k+n+4)):=⟨_,rfl⟩
 have HOBE:=Lib.hid' hob
 have hop:∀ (M:Nat) (w1:World),BoxW M freshR 273 w1→Bytes w1 (.slice a (k+n+4) c) (b.take (k+n+4))→Calls Tryz.prog 237 #[.pointer (some ⟨M,0,none⟩),.slice a (k+n+4) c] w1 (OpenR ob (fun q=>q=M) w1):=by
  intro M w1 hx hy
  have:=opened_any M a c (b.take (k+n+4)) w1 hx (by rw [HTL.out];exact hy) (by rw [HTL.out];omega)
  rw [HTL.out,←hob] at this
  exact this
 have HOP:=Lib.hid' hop
 clear hv hT hob hop hcap h2
 go_enter Tryz.func186, Tryz.ntmps186
 go_wp2_with fail
 refine HT.out.mono ?_
 rintro e w1 ⟨rfl,rfl⟩
 clear HT
 go_wp2_with fail

 refine wp_region_held_drew (S:=(fun _=>True)) (by kernel_rfl) trivial (fun hH0=>?_)
 refine tA 1 (.slice a b.length c) rfl hH0 ?_ ?_
 ·intro w hSw;go_simp
 simp only [Act.put,gA,gZ,gS,sA,sZ,sS]
 refine tA 2 (.int .i64 ((k:Int)+(n:Int)+4)) rfl hH0 ?_ ?_
 ·intro w hSw;go_simp
 simp only [Act.put,gA,gZ,gS,sA,sZ,sS]
 refine tA 3 (.slice a (k+n+4) c) rfl hH0 ?_ ?_
 ·intro w hSw;go_simp;rw [if_pos ⟨by omega,by omega⟩,show ((k:Int)+(n:Int)+4).toNat=k+n+4 from by omega]
 simp only [Act.put,gA,gZ,gS,sA,sZ,sS]
 refine rD 0 rfl (fun K hK=>?_)
 go_simp
 refine (crcnew_any w.drew).mono ?_
 rintro e w1 ⟨rfl,hx1,hb1',hz1⟩
 have HX1:=Zh (show BoxW w.heap.size freshR 273 w1 from hx1)
 have HB1:=Zh (show Below w.heap.size w w1 from (Below.drew (Below.refl _ _)).trans hb1')
 have hz1':w1.heap.size=w.heap.size+1:=hz1
 clear hx1 hb1' hz1
 refine hK.out _ _ ?_ (fun hH1=>?_)
 ·trivial
 clear hK K
 refine rD 4 rfl (fun K hK=>?_)
 go_simp
 refine (HOP.out w.heap.size w1 HX1.out (SlV.below HTK.out (Nat.le_refl _) HB1.out)).mono ?_
 rintro e w2 ⟨a2,c2,rfl,ho2,hf2⟩
 have HO2:=Lib.hid' ho2
 have HF2:=Lib.hid' hf2
 have HB2:=Zh (HB1.out.trans (hf2.below (B:=w.heap.size) (by omega) (fun q hq=>by omega)))
 clear ho2 hf2
 refine hK.out _ _ ?_ (fun hH2=>?_)
 ·trivial
 clear hK K
 refine tA 5 (.tuple #[.slice a2 ob.2.length c2,errV ob.1]) rfl hH2 ?_ ?_
 ·intro w hSw;go_simp
 simp only [Act.put,gA,gZ,gS,sA,sZ,sS]
 refine tA 6 (.slice a2 ob.2.length c2) rfl hH2 ?_ ?_
 ·intro w hSw;go_simp
 simp only [Act.put,gA,gZ,gS,sA,sZ,sS]
 refine tA 7 (errV ob.1) rfl hH2 ?_ ?_
 ·intro w hSw;go_simp
 simp only [Act.put,gA,gZ,gS,sA,sZ,sS]
 refine tA 8 (.slice a2 ob.2.length c2) rfl hH2 ?_ ?_
 ·intro w hSw;go_simp
 simp only [Act.put,gA,gZ,gS,sA,sZ,sS]
 refine tA 9 (errV ob.1) rfl hH2 ?_ ?_
 ·intro w hSw;go_simp
 simp only [Act.put,gA,gZ,gS,sA,sZ,sS]
 refine wpAnyH_done (by kernel_rfl) ?_ _
 by_cases hq:four (crcOf 0 (b.take (k+n)))=(b.drop (k+n)).take 4
 rotate_left
 ·have hE:=HOB.out
  rw [if_neg hq] at hE
  have HE:=Zh (HOBE.out.trans hE)
  have HR:=Zh (show ftake b=(11,[],0) by rw [HFT.out,if_neg hq])
  clear hE hq
  obtain rfl:=HE.out
  simp only [errV_pos (n:=11) (by decide)]
  go_wp2
  refine bodyPost_ret (v:=.tuple #[.slice none 0 0,.int .i64 0,.iface 70 (.int .i64 11)]) (by simp [results,Tryz.results186,go_sem]) rfl ?_
  rw [HR.out];exact FTakeR.bad HB2.out
 have hE:=HOB.out
 rw [if_pos hq] at hE
 have HE:=Zh (HOBE.out.trans hE)
 have HR:=Zh (show ftake b=(0,(b.take (k+n)).drop k,k+n+4) by rw [HFT.out,if_pos hq])
 clear hE hq
 obtain rfl:=HE.out
 simp only [errV_0]
 have HTKL:=Zh (show (b.take (k+n)).length=k+n by rw [List.length_take];omega)
 have HY:=Zh (show Bytes w2 (.slice a2 (b.take (k+n)).length c2) (b.take (k+n)) from SlV.of_own HO2.out)
 have hc2:k+n≤c2∧c2≤maxLen:=by obtain ⟨_,_,he,h1,h2,_⟩:=HY.out;cases he;rw [HTKL.out] at h1;exact ⟨h1,h2⟩
 have hc2m:c2≤9223372036854775807:=by have:=hc2.2;unfold maxLen at this;omega
 obtain ⟨bb,off,rfl,hbb,hcc⟩:=bytes_at HY.out (show 0<(b.take (k+n)).length by rw [HTKL.out];omega)
 clear hcc
 have HDL:=Zh (show ((b.take (k+n)).drop k).length=n by rw [List.length_drop,HTKL.out];omega)
 simp only [HTKL.out]
 have hkc':k≤c2:=by omega
 by_cases hkc:c2=k
 ·have HS:=Zh (bytes_sub (k:=k) HY.out (by rw [HTKL.out];omega) (some ⟨bb,off,none⟩) (.inr (by rw [HTKL.out];omega)) (by simp))
  obtain rfl:n=0:=by omega
  subst hkc
  go_wp2
  refine bodyPost_ret (v:=.tuple #[.slice (some ⟨bb,off,none⟩) 0 0,.int .i64 ((c2+0+4:Nat):Int),.nilIface]) (by simp [results,Tryz.results186,go_sem]) rfl ?_
  rw [HR.out]
  exact ⟨some ⟨bb,off,none⟩,0,by simp only [HDL.out];rfl,by have:=HS.out;simp only [HDL.out,Nat.sub_self] at this ⊢;exact this,HB2.out⟩
 ·have hlt:k<c2:=by omega
  have HS:=Zh (bytes_sub (k:=k) HY.out (by rw [HTKL.out];omega) (some ⟨bb,off+k,none⟩) (.inl ⟨bb,off,rfl,rfl⟩) (by simp))
  have hnk:k+n - k=n:=by omega
  go_wp2
  refine bodyPost_ret (v:=.tuple #[.slice (some ⟨bb,off+k,none⟩) n (c2 - k),.int .i64 ((k+n+4:Nat):Int),.nilIface]) (by simp [results,Tryz.results186,go_sem]) rfl ?_
  rw [HR.out]
  exact ⟨some ⟨bb,off+k,none⟩,c2 - k,by simp only [HDL.out];rfl,by have:=HS.out;simp only [HDL.out] at this ⊢;exact this,HB2.out⟩


def FOneR (r:Nat×List UInt8) (w:World) (en:Ending) (w':World):Prop :=
 ∃ a c,en=.returned (.tuple #[.slice a r.2.length c,errV r.1])∧Bytes w' (.slice a r.2.length c) r.2∧Below w.heap.size w w'
theorem FOneR.bad {w w':World} {n:Nat} (h:Below w.heap.size w w'):FOneR (n,[]) w (.returned (.tuple #[.slice none 0 0,errV n])) w' :=
 ⟨none,0,rfl,SlV.empty _ _ _ (Nat.zero_le _) (fun _=>rfl),h⟩
set_option maxHeartbeats 1000000 in
theorem fone_any (b:List UInt8) (a:Option Addr) (c:Nat) (w:World) (h:Bytes w (.slice a b.length c) b) :
  Calls Tryz.prog 139 #[.slice a b.length c] w (FOneR (fone b) w):=by
 have HT:=Zh (ftake_any b a c w h)
 have hbl:=bytes_len h
 have hsz:(ftake b).2.2≤9223372036854775807:=by
  obtain ⟨_,_,h1⟩:∃ x y,ftake b=(x,y,(ftake b).2.2):=⟨_,_,rfl⟩
  unfold ftake
  split
  ·simp
  ·rename_i n k hv
   split
   ·simp
   ·split
    ·simp
    ·split
     ·simp only;omega
     ·simp
 clear h
 go_enter Tryz.func139, Tryz.ntmps139
 go_wp2_with fail
 refine HT.out.mono ?_
 rintro e w1 ⟨a1,c1,rfl,hy,hb⟩
 have HY:=Lib.hid' hy
 have HB:=Lib.hid' hb
 clear hy hb HT
 obtain ⟨⟨bad,t,s⟩,hr⟩:∃ r,r=ftake b:=⟨_,rfl⟩
 rw [←hr] at HY hsz ⊢
 have HR:=Lib.hid' hr
 clear hr
 simp only at HY hsz ⊢
 by_cases h0:bad=0
 rotate_left
 ·have HF:=Zh (show fone b=(bad,[]) by unfold fone;rw [←HR.out,if_pos h0])
  have HE:=Zh (errV_pos h0)
  rw [errV_pos h0]
  clear h0
  go_wp2
  refine bodyPost_ret (v:=.tuple #[.slice none 0 0,.iface 70 (.int .i64 bad)]) (by simp [results,Tryz.results139,go_sem]) rfl ?_
  rw [HF.out,←HE.out];exact FOneR.bad HB.out
 subst h0
 rw [errV_0]
 by_cases h1:s<b.length
 ·have HF:=Zh (show fone b=(2,[]) by unfold fone;rw [←HR.out];simp only [ne_eq,not_true_eq_false,if_false,h1,if_true])
  go_wp2
  refine bodyPost_ret (v:=.tuple #[.slice none 0 0,.iface 70 (.int .i64 2)]) (by simp [results,Tryz.results139,go_sem]) rfl ?_
  rw [HF.out];exact FOneR.bad HB.out
 ·have HF:=Zh (show fone b=(0,t) by unfold fone;rw [←HR.out];simp only [ne_eq,not_true_eq_false,if_false,h1])
  go_wp2
  refine bodyPost_ret (v:=.tuple #[.slice a1 t.length c1,.nilIface]) (by simp [results,Tryz.results139,go_sem]) rfl ?_
  rw [HF.out];exact ⟨a1,c1,rfl,HY.out,HB.out⟩


def ac9V (x:Ac) (a:Option Addr) (c:Nat):Value:=.agg #[.int .i64 x.k,.int .i64 x.e,.int .i64 x.a,.slice a x.d.length c]
theorem rin_t (x m:Int) (h0:0≤x) (h1:x≤m) (w:World):Calls Tryz.prog 222 #[.int .i64 x,.int .i64 m] w fun e w'=>e=.returned (.bool true)∧w'=w:=by
 go_enter Tryz.func222, Tryz.ntmps222
 go_wp2
 go_ret
 exact ⟨ret_eq (by simp [h0,h1]),rfl⟩
theorem rin_f (x m:Int) (h:¬(0≤x∧x≤m)) (w:World):Calls Tryz.prog 222 #[.int .i64 x,.int .i64 m] w fun e w'=>e=.returned (.bool false)∧w'=w:=by
 by_cases h0:0≤x
 ·have h1:¬x≤m:=fun hh=>h ⟨h0,hh⟩
  have H:=Lib.hid' h1
  clear h
  go_enter Tryz.func222, Tryz.ntmps222
  go_wp2
  go_ret
  exact ⟨ret_eq (by simp;(try omega)),rfl⟩
 ·clear h
  go_enter Tryz.func222, Tryz.ntmps222
  go_wp2
  go_ret
  exact ⟨ret_eq (by simp;(try omega)),rfl⟩
def hiN (k:Int):Int:=if k=2∨k=3 then 1048575 else 1048576
theorem rhi_any (k:Int) (w:World):Calls Tryz.prog 223 #[.int .i64 k] w fun e w'=>e=.returned (.int .i64 (hiN k))∧w'=w:=by
 by_cases h2:k=2
 ·subst h2
  go_enter Tryz.func223, Tryz.ntmps223
  go_wp2
  go_ret
  exact ⟨rfl,rfl⟩
 ·have h2b:(k==2)=false:=by rw [beq_eq_false_iff_ne];exact h2
  by_cases h3:k=3
  ·subst h3
   go_enter Tryz.func223, Tryz.ntmps223
   go_wp2
   go_ret
   exact ⟨rfl,rfl⟩
  ·have h3b:(k==3)=false:=by rw [beq_eq_false_iff_ne];exact h3
   have H:=Zh (show hiN k=1048576 by unfold hiN;rw [if_neg (by omega)])
   clear h2 h3
   go_enter Tryz.func223, Tryz.ntmps223
   go_wp2
   go_ret
   exact ⟨ret_eq (by rw [H.out];rfl),rfl⟩
theorem ck_1 {x:Ac} (h:x.k<1∨5<x.k∨¬(0≤x.e∧x.e≤1099511627776)∨¬(0≤x.a∧x.a≤hiN x.k)):x.check=1:=by
 unfold Ac.check
 by_cases h1:x.k<1∨5<x.k∨x.e<0∨1099511627776<x.e∨x.a<0∨1048576<x.a
 ·rw [if_pos h1]
 ·rw [if_neg h1]
  by_cases h2:(x.k=2∨x.k=3)∧x.a=1048576
  ·rw [if_pos h2]
  ·exfalso
   unfold hiN at h
   split at h<;>omega
theorem ck_go {x:Ac} (h1:¬x.k<1) (h2:¬5<x.k) (h3:0≤x.e∧x.e≤1099511627776) (h4:0≤x.a∧x.a≤hiN x.k):x.check=if 64<x.d.length then 3 else if x.k=1∧x.a≠0∨x.k≠2∧0<x.d.length then 2 else 0:=by
 unfold Ac.check
 unfold hiN at h4
 split at h4
 ·rw [if_neg (by omega),if_neg (by omega)]
 ·rw [if_neg (by omega),if_neg (by omega)]
set_option maxHeartbeats 4000000 in
theorem rcheck9_any (x:Ac) (a:Option Addr) (c:Nat) (hl:x.d.length≤9223372036854775807) (w:World):Calls Tryz.prog 172 #[ac9V x a c] w fun e w'=>e=.returned (errV x.check)∧Below w.heap.size w w':=by
 obtain ⟨k,e,ad,d⟩:=x
 unfold ac9V
 simp only at hl ⊢
 by_cases h1:k<1
 ·have HC:=Zh (ck_1 (x:=⟨k,e,ad,d⟩) (.inl h1))
  go_enter Tryz.func172, Tryz.ntmps172
  go_wp2_with fail
  go_quiet (fail)
  go_wp2
  go_ret
  exact ⟨ret_eq (by rw [HC.out];rfl),below_drewN' (by go_grown) _⟩
 by_cases h2:5<k
 ·have HC:=Zh (ck_1 (x:=⟨k,e,ad,d⟩) (.inr (.inl h2)))
  go_enter Tryz.func172, Tryz.ntmps172
  go_wp2_with fail
  go_quiet (fail)
  go_wp2
  go_ret
  exact ⟨ret_eq (by rw [HC.out];rfl),below_drewN' (by go_grown) _⟩
 by_cases h3:0≤e∧e≤1099511627776
 rotate_left
 ·have HC:=Zh (ck_1 (x:=⟨k,e,ad,d⟩) (.inr (.inr (.inl h3))))
  have HF:=Zh (fun w=>rin_f e 1099511627776 h3 w)
  clear h3
  go_enter Tryz.func172, Tryz.ntmps172
  go_wp2_with fail
  have c0:(w.alloc (.cells #[.int .i64 k,.int .i64 e,.int .i64 ad,.slice a d.length c] 154)).cell? ⟨w.heap.size,0,none⟩=some (.int .i64 k):=by simp [go_sem]
  have c1:(w.alloc (.cells #[.int .i64 k,.int .i64 e,.int .i64 ad,.slice a d.length c] 154)).cell? ⟨w.heap.size,1,none⟩=some (.int .i64 e):=by simp [go_sem]
  have c2:(w.alloc (.cells #[.int .i64 k,.int .i64 e,.int .i64 ad,.slice a d.length c] 154)).cell? ⟨w.heap.size,2,none⟩=some (.int .i64 ad):=by simp [go_sem]
  have c3:(w.alloc (.cells #[.int .i64 k,.int .i64 e,.int .i64 ad,.slice a d.length c] 154)).cell? ⟨w.heap.size,3,none⟩=some (.slice a d.length c):=by simp [go_sem]
  have HG:=Zh (show Below w.heap.size w (w.alloc (.cells #[.int .i64 k,.int .i64 e,.int .i64 ad,.slice a d.length c] 154)) by go_grown)
  generalize w.alloc (.cells #[.int .i64 k,.int .i64 e,.int .i64 ad,.slice a d.length c] 154)=w1 at *
  refine wp_region_held_drew (S:=(fun w'=>w'.cell? ⟨w.heap.size,0,none⟩=some (.int .i64 k)∧w'.cell? ⟨w.heap.size,1,none⟩=some (.int .i64 e)∧w'.cell? ⟨w.heap.size,2,none⟩=some (.int .i64 ad)∧w'.cell? ⟨w.heap.size,3,none⟩=some (.slice a d.length c))) (by kernel_rfl) ⟨by simpa using c0,by simpa using c1,by simpa using c2,by simpa using c3⟩ (fun hH0=>?_)
  refine tA 0 (.pointer (some ⟨w.heap.size,0,none⟩)) rfl hH0 ?_ ?_
  ·intro w hSw;go_simp
  simp only [Act.put,gA,gZ,gS,sA,sZ,sS]
  refine tA 1 (.int .i64 k) rfl hH0 ?_ ?_
  ·intro w hSw;go_simp
  simp only [Act.put,gA,gZ,gS,sA,sZ,sS]
  refine tA 2 (.bool false) rfl hH0 ?_ ?_
  ·intro w hSw;go_simp
  simp only [Act.put,gA,gZ,gS,sA,sZ,sS]
  refine tA 3 (.bool false) rfl hH0 ?_ ?_
  ·intro w hSw;go_simp
  simp only [Act.put,gA,gZ,gS,sA,sZ,sS]
  refine tA 4 (.pointer (some ⟨w.heap.size,0,none⟩)) rfl hH0 ?_ ?_
  ·intro w hSw;go_simp
  simp only [Act.put,gA,gZ,gS,sA,sZ,sS]
  refine tA 5 (.int .i64 k) rfl hH0 ?_ ?_
  ·intro w hSw;go_simp
  simp only [Act.put,gA,gZ,gS,sA,sZ,sS]
  refine tA 6 (.bool false) rfl hH0 ?_ ?_
  ·intro w hSw;go_simp
  simp only [Act.put,gA,gZ,gS,sA,sZ,sS]
  refine tA 7 (.bool false) rfl hH0 ?_ ?_
  ·intro w hSw;go_simp
  simp only [Act.put,gA,gZ,gS,sA,sZ,sS]
  refine tA 8 (.bool false) rfl hH0 ?_ ?_
  ·intro w hSw;go_simp
  simp only [Act.put,gA,gZ,gS,sA,sZ,sS]
  refine tA 9 (.pointer (some ⟨w.heap.size,1,none⟩)) rfl hH0 ?_ ?_
  ·intro w hSw;go_simp
  simp only [Act.put,gA,gZ,gS,sA,sZ,sS]
  refine tA 10 (.int .i64 e) rfl hH0 ?_ ?_
  ·intro w hSw;go_simp
  simp only [Act.put,gA,gZ,gS,sA,sZ,sS]
  refine rD 11 rfl (fun K hK=>?_)
  go_simp
  refine (HF.out _).mono ?_
  rintro en w5 ⟨rfl,rfl⟩
  refine hK.out _ _ ?_ (fun hH1=>?_)
  ·exact hH0
  clear hK K
  refine tA 12 (.bool true) rfl hH1 ?_ ?_
  ·intro w hSw;go_simp
  simp only [Act.put,gA,gZ,gS,sA,sZ,sS]
  refine tA 13 (.bool true) rfl hH1 ?_ ?_
  ·intro w hSw;go_simp
  simp only [Act.put,gA,gZ,gS,sA,sZ,sS]
  refine tA 14 (.bool true) rfl hH1 ?_ ?_
  ·intro w hSw;go_simp
  simp only [Act.put,gA,gZ,gS,sA,sZ,sS]
  refine tU 15 rfl hH1 ?_
  simp only [Act.put,gA,gZ,gS,sA,sZ,sS]
  refine tU 16 rfl hH1 ?_
  simp only [Act.put,gA,gZ,gS,sA,sZ,sS]
  refine tU 17 rfl hH1 ?_
  simp only [Act.put,gA,gZ,gS,sA,sZ,sS]
  refine tU 18 rfl hH1 ?_
  simp only [Act.put,gA,gZ,gS,sA,sZ,sS]
  refine tU 19 rfl hH1 ?_
  simp only [Act.put,gA,gZ,gS,sA,sZ,sS]
  refine tU 20 rfl hH1 ?_
  simp only [Act.put,gA,gZ,gS,sA,sZ,sS]
  refine tU 21 rfl hH1 ?_
  simp only [Act.put,gA,gZ,gS,sA,sZ,sS]
  refine tA 22 (.bool true) rfl hH1 ?_ ?_
  ·intro w hSw;go_simp
  simp only [Act.put,gA,gZ,gS,sA,sZ,sS]
  refine tA 23 (.bool true) rfl hH1 ?_ ?_
  ·intro w hSw;go_simp
  simp only [Act.put,gA,gZ,gS,sA,sZ,sS]
  refine wpAnyH_done (by kernel_rfl) ?_ _
  go_wp2
  go_ret
  exact ⟨ret_eq (by rw [HC.out];rfl),HG.out.trans (Below.drew (Below.refl _ _) |>.mono HG.out.size)⟩
 have HT:=Zh (fun w=>rin_t e 1099511627776 h3.1 h3.2 w)
 have HH:=Zh (fun w=>rhi_any k w)
 by_cases h4:0≤ad∧ad≤hiN k
 rotate_left
 ·have HC:=Zh (ck_1 (x:=⟨k,e,ad,d⟩) (.inr (.inr (.inr h4))))
  have HA:=Zh (fun w=>rin_f ad (hiN k) h4 w)
  clear h3 h4
  obtain ⟨hi,hhi⟩:∃ hi,hi=hiN k:=⟨_,rfl⟩
  rw [←hhi] at HA HH
  clear hhi
  go_enter Tryz.func172, Tryz.ntmps172
  go_wp2_with fail
  have c0:(w.alloc (.cells #[.int .i64 k,.int .i64 e,.int .i64 ad,.slice a d.length c] 154)).cell? ⟨w.heap.size,0,none⟩=some (.int .i64 k):=by simp [go_sem]
  have c1:(w.alloc (.cells #[.int .i64 k,.int .i64 e,.int .i64 ad,.slice a d.length c] 154)).cell? ⟨w.heap.size,1,none⟩=some (.int .i64 e):=by simp [go_sem]
  have c2:(w.alloc (.cells #[.int .i64 k,.int .i64 e,.int .i64 ad,.slice a d.length c] 154)).cell? ⟨w.heap.size,2,none⟩=some (.int .i64 ad):=by simp [go_sem]
  have c3:(w.alloc (.cells #[.int .i64 k,.int .i64 e,.int .i64 ad,.slice a d.length c] 154)).cell? ⟨w.heap.size,3,none⟩=some (.slice a d.length c):=by simp [go_sem]
  have HG:=Zh (show Below w.heap.size w (w.alloc (.cells #[.int .i64 k,.int .i64 e,.int .i64 ad,.slice a d.length c] 154)) by go_grown)
  generalize w.alloc (.cells #[.int .i64 k,.int .i64 e,.int .i64 ad,.slice a d.length c] 154)=w1 at *
  refine wp_region_held_drew (S:=(fun w'=>w'.cell? ⟨w.heap.size,0,none⟩=some (.int .i64 k)∧w'.cell? ⟨w.heap.size,1,none⟩=some (.int .i64 e)∧w'.cell? ⟨w.heap.size,2,none⟩=some (.int .i64 ad)∧w'.cell? ⟨w.heap.size,3,none⟩=some (.slice a d.length c))) (by kernel_rfl) ⟨by simpa using c0,by simpa using c1,by simpa using c2,by simpa using c3⟩ (fun hH0=>?_)
  refine tA 0 (.pointer (some ⟨w.heap.size,0,none⟩)) rfl hH0 ?_ ?_
  ·intro w hSw;go_simp
  simp only [Act.put,gA,gZ,gS,sA,sZ,sS]
  refine tA 1 (.int .i64 k) rfl hH0 ?_ ?_
  ·intro w hSw;go_simp
  simp only [Act.put,gA,gZ,gS,sA,sZ,sS]
  refine tA 2 (.bool false) rfl hH0 ?_ ?_
  ·intro w hSw;go_simp
  simp only [Act.put,gA,gZ,gS,sA,sZ,sS]
  refine tA 3 (.bool false) rfl hH0 ?_ ?_
  ·intro w hSw;go_simp
  simp only [Act.put,gA,gZ,gS,sA,sZ,sS]
  refine tA 4 (.pointer (some ⟨w.heap.size,0,none⟩)) rfl hH0 ?_ ?_
  ·intro w hSw;go_simp
  simp only [Act.put,gA,gZ,gS,sA,sZ,sS]
  refine tA 5 (.int .i64 k) rfl hH0 ?_ ?_
  ·intro w hSw;go_simp
  simp only [Act.put,gA,gZ,gS,sA,sZ,sS]
  refine tA 6 (.bool false) rfl hH0 ?_ ?_
  ·intro w hSw;go_simp
  simp only [Act.put,gA,gZ,gS,sA,sZ,sS]
  refine tA 7 (.bool false) rfl hH0 ?_ ?_
  ·intro w hSw;go_simp
  simp only [Act.put,gA,gZ,gS,sA,sZ,sS]
  refine tA 8 (.bool false) rfl hH0 ?_ ?_
  ·intro w hSw;go_simp
  simp only [Act.put,gA,gZ,gS,sA,sZ,sS]
  refine tA 9 (.pointer (some ⟨w.heap.size,1,none⟩)) rfl hH0 ?_ ?_
  ·intro w hSw;go_simp
  simp only [Act.put,gA,gZ,gS,sA,sZ,sS]
  refine tA 10 (.int .i64 e) rfl hH0 ?_ ?_
  ·intro w hSw;go_simp
  simp only [Act.put,gA,gZ,gS,sA,sZ,sS]
  refine rD 11 rfl (fun K hK=>?_)
  go_simp
  refine (HT.out _).mono ?_
  rintro en w5 ⟨rfl,rfl⟩
  refine hK.out _ _ ?_ (fun hH1=>?_)
  ·exact hH0
  clear hK K
  refine tA 12 (.bool false) rfl hH1 ?_ ?_
  ·intro w hSw;go_simp
  simp only [Act.put,gA,gZ,gS,sA,sZ,sS]
  refine tA 13 (.bool false) rfl hH1 ?_ ?_
  ·intro w hSw;go_simp
  simp only [Act.put,gA,gZ,gS,sA,sZ,sS]
  refine tA 14 (.bool false) rfl hH1 ?_ ?_
  ·intro w hSw;go_simp
  simp only [Act.put,gA,gZ,gS,sA,sZ,sS]
  refine tA 15 (.pointer (some ⟨w.heap.size,2,none⟩)) rfl hH1 ?_ ?_
  ·intro w hSw;go_simp
  simp only [Act.put,gA,gZ,gS,sA,sZ,sS]
  refine tA 16 (.int .i64 ad) rfl hH1 ?_ ?_
  ·intro w hSw;go_simp
  simp only [Act.put,gA,gZ,gS,sA,sZ,sS]
  refine tA 17 (.pointer (some ⟨w.heap.size,0,none⟩)) rfl hH1 ?_ ?_
  ·intro w hSw;go_simp
  simp only [Act.put,gA,gZ,gS,sA,sZ,sS]
  refine tA 18 (.int .i64 k) rfl hH1 ?_ ?_
  ·intro w hSw;go_simp
  simp only [Act.put,gA,gZ,gS,sA,sZ,sS]
  refine rD 19 rfl (fun K hK=>?_)
  go_simp
  refine (HH.out _).mono ?_
  rintro en w5 ⟨rfl,rfl⟩
  refine hK.out _ _ ?_ (fun hH2=>?_)
  ·exact hH1
  clear hK K
  refine rD 20 rfl (fun K hK=>?_)
  go_simp
  refine (HA.out _).mono ?_
  rintro en w5 ⟨rfl,rfl⟩
  refine hK.out _ _ ?_ (fun hH3=>?_)
  ·exact hH2
  clear hK K
  refine tA 21 (.bool true) rfl hH3 ?_ ?_
  ·intro w hSw;go_simp
  simp only [Act.put,gA,gZ,gS,sA,sZ,sS]
  refine tA 22 (.bool true) rfl hH3 ?_ ?_
  ·intro w hSw;go_simp
  simp only [Act.put,gA,gZ,gS,sA,sZ,sS]
  refine tA 23 (.bool true) rfl hH3 ?_ ?_
  ·intro w hSw;go_simp
  simp only [Act.put,gA,gZ,gS,sA,sZ,sS]
  refine wpAnyH_done (by kernel_rfl) ?_ _
  go_wp2
  go_ret
  exact ⟨ret_eq (by rw [HC.out];rfl),HG.out.trans (Below.drew (Below.refl _ _) |>.mono HG.out.size)⟩
 have HA:=Zh (fun w=>rin_t ad (hiN k) h4.1 h4.2 w)
 have HC:=Zh (ck_go (x:=⟨k,e,ad,d⟩) h1 h2 h3 h4)
 have ha0:0≤ad:=h4.1
 clear h3 h4
 obtain ⟨hi,hhi⟩:∃ hi,hi=hiN k:=⟨_,rfl⟩
 rw [←hhi] at HA HH
 clear hhi
 go_enter Tryz.func172, Tryz.ntmps172
 go_wp2_with fail
 have c0:(w.alloc (.cells #[.int .i64 k,.int .i64 e,.int .i64 ad,.slice a d.length c] 154)).cell? ⟨w.heap.size,0,none⟩=some (.int .i64 k):=by simp [go_sem]
 have c1:(w.alloc (.cells #[.int .i64 k,.int .i64 e,.int .i64 ad,.slice a d.length c] 154)).cell? ⟨w.heap.size,1,none⟩=some (.int .i64 e):=by simp [go_sem]
 have c2:(w.alloc (.cells #[.int .i64 k,.int .i64 e,.int .i64 ad,.slice a d.length c] 154)).cell? ⟨w.heap.size,2,none⟩=some (.int .i64 ad):=by simp [go_sem]
 have c3:(w.alloc (.cells #[.int .i64 k,.int .i64 e,.int .i64 ad,.slice a d.length c] 154)).cell? ⟨w.heap.size,3,none⟩=some (.slice a d.length c):=by simp [go_sem]
 have HG:=Zh (show Below w.heap.size w (w.alloc (.cells #[.int .i64 k,.int .i64 e,.int .i64 ad,.slice a d.length c] 154)) by go_grown)
 generalize w.alloc (.cells #[.int .i64 k,.int .i64 e,.int .i64 ad,.slice a d.length c] 154)=w1 at *
 refine wp_region_held_drew (S:=(fun w'=>w'.cell? ⟨w.heap.size,0,none⟩=some (.int .i64 k)∧w'.cell? ⟨w.heap.size,1,none⟩=some (.int .i64 e)∧w'.cell? ⟨w.heap.size,2,none⟩=some (.int .i64 ad)∧w'.cell? ⟨w.heap.size,3,none⟩=some (.slice a d.length c))) (by kernel_rfl) ⟨by simpa using c0,by simpa using c1,by simpa using c2,by simpa using c3⟩ (fun hH0=>?_)
 refine tA 0 (.pointer (some ⟨w.heap.size,0,none⟩)) rfl hH0 ?_ ?_
 ·intro w hSw;go_simp
 simp only [Act.put,gA,gZ,gS,sA,sZ,sS]
 refine tA 1 (.int .i64 k) rfl hH0 ?_ ?_
 ·intro w hSw;go_simp
 simp only [Act.put,gA,gZ,gS,sA,sZ,sS]
 refine tA 2 (.bool false) rfl hH0 ?_ ?_
 ·intro w hSw;go_simp
 simp only [Act.put,gA,gZ,gS,sA,sZ,sS]
 refine tA 3 (.bool false) rfl hH0 ?_ ?_
 ·intro w hSw;go_simp
 simp only [Act.put,gA,gZ,gS,sA,sZ,sS]
 refine tA 4 (.pointer (some ⟨w.heap.size,0,none⟩)) rfl hH0 ?_ ?_
 ·intro w hSw;go_simp
 simp only [Act.put,gA,gZ,gS,sA,sZ,sS]
 refine tA 5 (.int .i64 k) rfl hH0 ?_ ?_
 ·intro w hSw;go_simp
 simp only [Act.put,gA,gZ,gS,sA,sZ,sS]
 refine tA 6 (.bool false) rfl hH0 ?_ ?_
 ·intro w hSw;go_simp
 simp only [Act.put,gA,gZ,gS,sA,sZ,sS]
 refine tA 7 (.bool false) rfl hH0 ?_ ?_
 ·intro w hSw;go_simp
 simp only [Act.put,gA,gZ,gS,sA,sZ,sS]
 refine tA 8 (.bool false) rfl hH0 ?_ ?_
 ·intro w hSw;go_simp
 simp only [Act.put,gA,gZ,gS,sA,sZ,sS]
 refine tA 9 (.pointer (some ⟨w.heap.size,1,none⟩)) rfl hH0 ?_ ?_
 ·intro w hSw;go_simp
 simp only [Act.put,gA,gZ,gS,sA,sZ,sS]
 refine tA 10 (.int .i64 e) rfl hH0 ?_ ?_
 ·intro w hSw;go_simp
 simp only [Act.put,gA,gZ,gS,sA,sZ,sS]
 refine rD 11 rfl (fun K hK=>?_)
 go_simp
 refine (HT.out _).mono ?_
 rintro en w5 ⟨rfl,rfl⟩
 refine hK.out _ _ ?_ (fun hH1=>?_)
 ·exact hH0
 clear hK K
 refine tA 12 (.bool false) rfl hH1 ?_ ?_
 ·intro w hSw;go_simp
 simp only [Act.put,gA,gZ,gS,sA,sZ,sS]
 refine tA 13 (.bool false) rfl hH1 ?_ ?_
 ·intro w hSw;go_simp
 simp only [Act.put,gA,gZ,gS,sA,sZ,sS]
 refine tA 14 (.bool false) rfl hH1 ?_ ?_
 ·intro w hSw;go_simp
 simp only [Act.put,gA,gZ,gS,sA,sZ,sS]
 refine tA 15 (.pointer (some ⟨w.heap.size,2,none⟩)) rfl hH1 ?_ ?_
 ·intro w hSw;go_simp
 simp only [Act.put,gA,gZ,gS,sA,sZ,sS]
 refine tA 16 (.int .i64 ad) rfl hH1 ?_ ?_
 ·intro w hSw;go_simp
 simp only [Act.put,gA,gZ,gS,sA,sZ,sS]
 refine tA 17 (.pointer (some ⟨w.heap.size,0,none⟩)) rfl hH1 ?_ ?_
 ·intro w hSw;go_simp
 simp only [Act.put,gA,gZ,gS,sA,sZ,sS]
 refine tA 18 (.int .i64 k) rfl hH1 ?_ ?_
 ·intro w hSw;go_simp
 simp only [Act.put,gA,gZ,gS,sA,sZ,sS]
 refine rD 19 rfl (fun K hK=>?_)
 go_simp
 refine (HH.out _).mono ?_
 rintro en w5 ⟨rfl,rfl⟩
 refine hK.out _ _ ?_ (fun hH2=>?_)
 ·exact hH1
 clear hK K
 refine rD 20 rfl (fun K hK=>?_)
 go_simp
 refine (HA.out _).mono ?_
 rintro en w5 ⟨rfl,rfl⟩
 refine hK.out _ _ ?_ (fun hH3=>?_)
 ·exact hH2
 clear hK K
 refine tA 21 (.bool false) rfl hH3 ?_ ?_
 ·intro w hSw;go_simp
 simp only [Act.put,gA,gZ,gS,sA,sZ,sS]
 refine tA 22 (.bool false) rfl hH3 ?_ ?_
 ·intro w hSw;go_simp
 simp only [Act.put,gA,gZ,gS,sA,sZ,sS]
 refine tA 23 (.bool false) rfl hH3 ?_ ?_
 ·intro w hSw;go_simp
 simp only [Act.put,gA,gZ,gS,sA,sZ,sS]
 refine wpAnyH_done (by kernel_rfl) ?_ _
 have HGD:=Zh (show Below w.heap.size w w1.drew from HG.out.trans (Below.drew (Below.refl _ _) |>.mono HG.out.size))
 have d0:w1.drew.cell? ⟨w.heap.size,0,none⟩=some (.int .i64 k):=c0
 have d2:w1.drew.cell? ⟨w.heap.size,2,none⟩=some (.int .i64 ad):=c2
 have d3:w1.drew.cell? ⟨w.heap.size,3,none⟩=some (.slice a d.length c):=c3
 clear c0 c1 c2 c3 HG HT HA HH
 generalize w1.drew=w2 at *
 by_cases h64:64<d.length
 ·have HF:=Zh (HC.out.trans (if_pos h64))
  go_wp2
  go_ret
  exact ⟨ret_eq (by rw [HF.out];rfl),HGD.out⟩
 have HF:=Zh (HC.out.trans (if_neg h64))
 clear HC
 by_cases hk1:k=1
 ·have hk1b:(k==1)=true:=by rw [beq_iff_eq];exact hk1
  have hk2b:(k != 2)=true:=by rw [bne_iff_ne];omega
  by_cases hz:ad=0
  ·have hz0:(ad != 0)=false:=by rw [bne_eq_false_iff_eq];exact hz
   by_cases hd:0<d.length
   ·have HV:=Zh (HF.out.trans (if_pos (.inr ⟨(by show k≠2;omega),hd⟩)))
    clear hk1 hz
    go_wp2
    go_ret
    exact ⟨ret_eq (by rw [HV.out];rfl),HGD.out⟩
   ·have HV:=Zh (HF.out.trans (if_neg (by rintro (h | h);exact h.2 hz;exact hd h.2)))
    clear hk1 hz
    go_wp2
    go_ret
    exact ⟨ret_eq (by rw [HV.out];rfl),HGD.out⟩
  ·have hz0:(ad != 0)=true:=by rw [bne_iff_ne];exact hz
   have HV:=Zh (HF.out.trans (if_pos (.inl ⟨hk1,hz⟩)))
   clear hk1 hz
   go_wp2
   go_ret
   exact ⟨ret_eq (by rw [HV.out];rfl),HGD.out⟩
 have hk1b:(k==1)=false:=by rw [beq_eq_false_iff_ne];exact hk1
 by_cases hk2:k=2
 ·have hk2b:(k != 2)=false:=by rw [bne_eq_false_iff_eq];exact hk2
  have HV:=Zh (HF.out.trans (if_neg (by rintro (h | h);exact hk1 h.1;exact h.1 hk2)))
  clear hk1 hk2
  go_wp2
  go_ret
  exact ⟨ret_eq (by rw [HV.out];rfl),HGD.out⟩
 have hk2b:(k != 2)=true:=by rw [bne_iff_ne];exact hk2
 by_cases hd:0<d.length
 ·have HV:=Zh (HF.out.trans (if_pos (.inr ⟨hk2,hd⟩)))
  clear hk1 hk2
  go_wp2
  go_ret
  exact ⟨ret_eq (by rw [HV.out];rfl),HGD.out⟩
 ·have HV:=Zh (HF.out.trans (if_neg (by rintro (h | h);exact hk1 h.1;exact hd h.2)))
  clear hk1 hk2
  go_wp2
  go_ret
  exact ⟨ret_eq (by rw [HV.out];rfl),HGD.out⟩
end Go.Proofs.YtaodldbgikiekaaGreatDoor
