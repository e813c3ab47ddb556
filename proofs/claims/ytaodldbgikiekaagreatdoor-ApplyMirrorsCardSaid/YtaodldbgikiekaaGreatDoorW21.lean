/- Proved here: a part of the proof (21 of 35). -/
import Derived.Test.YtaodldbgikiekaaGreatDoorW20
import Derived.Lib.AppendIntMem
import Derived.Lib.AtoiErrMem
import Derived.BigQuiet
set_option linter.unusedSimpArgs false
set_option linter.unusedVariables false
set_option maxRecDepth 20000
namespace Go.Proofs.YtaodldbgikiekaaGreatDoor
open Go.RowKit
namespace DK
/-- strconv's table of powers of ten lies as it was laid -/
def Pow (w : World) : Prop := Go.Lib.TabIs Tryz.prog w "internal/strconv.uint64pow10" .u64 Go.Lib.pow10Tab
theorem Pow.below {w w':World} (h:Pow w) (hb:Below w.heap.size w w'):Pow w':=Go.Lib.tabBelow_of_tabIs h w' hb
theorem bExtra:Builder.Extra Tryz.prog Tryz.repS_ren where
 sizeBuilder:=by kernel_rfl
 liesBuilder:=by kernel_rfl
 t5:=Tryz.underlying5
 a5:=Tryz.isAgg5
 z5:=Tryz.sizeOf5
 v5:=Tryz.zeroValue5
 infoByte:=by kernel_rfl
 cellsByte:=by kernel_rfl
 sizeByte:=by kernel_rfl
 neB5:=by decide
theorem itoa_any (n:Nat) (w:World) (h:Pow w) (hn:n≤99999999):Calls Tryz.prog 181 #[.int .i64 n] w fun e w'=>e=.returned (.string ⟨(Go.Lib.decDigits n).toArray⟩)∧Below w.heap.size w w' :=
 (Any.strconv_Itoa Tryz.itoS n (by omega) (by omega) w h).mono fun e w' ⟨he,k,os,hw⟩=>⟨by rw [he,Go.Lib.itoa_nonneg],by rw [hw];exact Go.Lib.below_grow _ w (Nat.le_refl _) k os⟩
theorem repeat_any (c:Nat) (w:World) (hc:c≤8):Calls Tryz.prog 182 #[.string ⟨#[48]⟩,.int .i64 c] w fun e w'=>e=.returned (.string ⟨(Go.Lib.repeatL [48] c).toArray⟩)∧Below w.heap.size w w' :=
 Any.strings_Repeat Tryz.repS bExtra ⟨#[48]⟩ c w (by omega) (by show 1*c≤_;omega)
theorem digits_le {n:Nat} (h:n≤99999999):(Go.Lib.decDigits n).length≤8:=by
 have h1:=congrArg List.length (pad8_eq h)
 rw [List.length_append,pad8_len] at h1;omega
theorem ba_append (a b:List UInt8):(⟨a.toArray⟩:ByteArray)++⟨b.toArray⟩=⟨(a++b).toArray⟩:=by
 apply ByteArray.ext
 rw [ByteArray.data_append]
 simp
set_option maxHeartbeats 2000000 in
theorem name_any (b:UInt8) (n:Nat) (w:World) (hp:Pow w) (hn:n≤99999999):Calls Tryz.prog 122 #[.string ⟨#[b]⟩,.int .i64 n] w fun e w'=>e=.returned (.string (nameN b n))∧Below w.heap.size w w':=by
 have HI:=Zh (itoa_any n w hp hn)
 have hl:=digits_le hn
 have HN:=Zh (show nameN b n=(⟨#[b]⟩:ByteArray)++(⟨(Go.Lib.repeatL [48] (8 - (Go.Lib.decDigits n).length)).toArray⟩:ByteArray)++(⟨(Go.Lib.decDigits n).toArray⟩:ByteArray) by
  rw [show (⟨#[b]⟩:ByteArray)=⟨[b].toArray⟩ from rfl,ba_append,ba_append,List.append_assoc,pad8_eq hn];rfl)
 have hr:(Go.Lib.repeatL [48] (8 - (Go.Lib.decDigits n).length)).length≤8:=by rw [repeatL_one,List.length_replicate];omega
 clear hp hn
 obtain ⟨s,hs⟩:∃ s,(⟨(Go.Lib.decDigits n).toArray⟩:ByteArray)=s:=⟨_,rfl⟩
 have hsz:s.size=(Go.Lib.decDigits n).length:=by rw [←hs];simp [ByteArray.size]
 rw [hs] at HN HI
 obtain ⟨k,hk⟩:∃ k,(Go.Lib.decDigits n).length=k:=⟨_,rfl⟩
 rw [hk] at HN hl hr hsz
 obtain ⟨z,hz⟩:∃ z,(⟨(Go.Lib.repeatL [48] (8 - k)).toArray⟩:ByteArray)=z:=⟨_,rfl⟩
 have hzs:z.size≤8:=by rw [←hz];simpa [ByteArray.size] using hr
 rw [hz] at HN
 have HR:=Zh (show ∀ w:World,Calls Tryz.prog 182 #[.string ⟨#[48]⟩,.int .i64 (8 - (k:Int))] w fun e w'=>e=.returned (.string z)∧Below w.heap.size w w' from fun w=>by
  have h1:=repeat_any (8 - k) w (by omega)
  rw [hz] at h1
  rwa [show ((8 - k:Nat):Int)=8 - (k:Int) by omega] at h1)
 have e1:IntKind.i64.wrap (8 - (k:Int))=8 - (k:Int):=IntWalk.i64_in _ (by omega)
 have hb1:(⟨#[b]⟩:ByteArray).size=1:=rfl
 have g1:¬9223372036854775807<1+z.size:=by omega
 have g2:¬9223372036854775807<((⟨#[b]⟩:ByteArray)++z).size+s.size:=by rw [ByteArray.size_append];omega
 clear hr hs hk hz
 go_enter Tryz.func122, Tryz.ntmps122
 go_wp2_with (first | (go_at_call 181;refine HI.out.mono ?_;rintro e w1 ⟨rfl,hb⟩) | (go_at_call 182;refine (HR.out _).mono ?_;rintro e w2 ⟨rfl,hb2⟩))
 go_ret
 exact ⟨by rw [HN.out];rfl,hb.trans (hb2.mono hb.size)⟩
def figsB:Nm:=⟨#[48,49,50,51,52,53,54,55,56,57]⟩
theorem figs_fin:∀ i:Fin 256,figsB.data.toList.contains (UInt8.ofNat i.val)=(decide ((48:UInt8)≤UInt8.ofNat i.val)&&decide (UInt8.ofNat i.val≤57)):=by decide +kernel
theorem figs_is (c:UInt8):figsB.data.toList.contains c=(decide ((48:UInt8)≤c)&&decide (c≤57)):=by
 have h:=figs_fin ⟨c.toNat,c.toNat_lt⟩
 simpa using h
theorem atoi_any (s:Nm) (n:Nat) (w:World) (hs:s.size=8) (h:Go.Lib.atoi s.data.toList=some (n:Int)):Calls Tryz.prog 214 #[.string s] w fun e w'=>e=.returned (.tuple #[.int .i64 n,.nilIface])∧Below w.heap.size w w' :=
 (Any.strconv_Atoi Tryz.atoS s n (by omega) h w).mono fun e w' ⟨he,t,hw⟩=>⟨he,by rw [hw];exact Go.Lib.bytesWorld_below w _ t⟩
theorem digit_of (b:UInt8):(Go.Lib.digitVal b).isSome=(decide ((48:UInt8)≤b)&&decide (b≤57)):=by
 unfold Go.Lib.digitVal
 have h1:((48:UInt8)≤b)↔48≤b.toNat:=by rw [UInt8.le_iff_toNat_le];rfl
 have h2:(b≤(57:UInt8))↔b.toNat≤57:=by rw [UInt8.le_iff_toNat_le];rfl
 by_cases h:48≤b.toNat∧b.toNat≤57
 ·rw [if_pos h];simp [h1.2 h.1,h2.2 h.2]
 ·rw [if_neg h]
  by_cases h3:48≤b.toNat
  ·have:¬b≤(57:UInt8):=fun e=>h ⟨h3,h2.1 e⟩
   simp [this]
  ·have:¬(48:UInt8)≤b:=fun e=>h3 (h1.1 e)
   simp [this]
theorem dec_none:∀ (l:List UInt8) (acc:Nat),l.all (fun b=>figsB.data.toList.contains b)=false→Go.Lib.decFrom acc l=none
 | [],acc,h=>by simp at h
 | b::l,acc,h=>by
  simp only [Go.Lib.decFrom]
  cases hb:Go.Lib.digitVal b with
  | none=>rfl
  | some d =>
   have h1:figsB.data.toList.contains b=true:=by rw [figs_is,←digit_of,hb];rfl
   rw [List.all_cons,h1,Bool.true_and] at h
   exact dec_none l _ h
def numV (o:Option Nat):Value:=match o with
 | none=>.tuple #[.int .i64 0,.bool false]
 | some n=>.tuple #[.int .i64 (n:Nat),.bool true]
set_option maxHeartbeats 4000000 in
theorem number_any (b:UInt8) (x:Nm) (w:World) (hx:x.size≤9223372036854775807):Calls Tryz.prog 166 #[.string ⟨#[b]⟩,.string x] w fun e w'=>e=.returned (numV (numberN b x))∧Below w.heap.size w w':=by
 obtain ⟨xd⟩:=x
 cases hp:Go.Lib.hasPrefix xd.toList [b] with
 | false =>
  have HF:=Zh (show numberN b ⟨xd⟩=none by
   unfold numberN
   show (match xd.toList with | []=>none | c::l=>if c=b∧l.length=8 then Go.Lib.decFrom 0 l else none)=none
   cases hq:xd.toList with
   | nil=>rfl
   | cons c l =>
    rw [hq] at hp
    unfold Go.Lib.hasPrefix at hp
    simp only [List.isPrefixOf,Bool.and_true,beq_eq_false_iff_ne] at hp
    show (if c=b∧l.length=8 then _ else none)=none
    rw [if_neg (fun h=>hp h.1.symm)])
  have HC:=Zh (show ∀ w:World,Calls Tryz.prog 212 #[.string ⟨xd⟩,.string ⟨#[b]⟩] w fun e w'=>e=.returned (.tuple #[.string ⟨xd⟩,.bool false])∧w'=w from fun w=>by
   have h1:=cutPrefix_any ⟨xd⟩ ⟨#[b]⟩ w
   have h2:Go.Lib.hasPrefix (⟨xd⟩:ByteArray).data.toList (⟨#[b]⟩:ByteArray).data.toList=false:=hp
   rw [h2] at h1
   have h3:(⟨(Go.Lib.trimPrefix (⟨xd⟩:ByteArray).data.toList (⟨#[b]⟩:ByteArray).data.toList).toArray⟩:ByteArray)=⟨xd⟩:=by unfold Go.Lib.trimPrefix;rw [if_neg (by rw [h2];decide)]
   rwa [h3] at h1)
  clear hp hx
  go_enter Tryz.func166, Tryz.ntmps166
  go_wp2_with (go_at_call 212;refine (HC.out _).mono ?_;rintro e w1 ⟨rfl,rfl⟩)
  go_ret2
  rw [HF.out]
  exact ⟨rfl,Below.refl _ _⟩
 | true =>
  obtain ⟨l,hl⟩:∃ l,xd.toList=b::l:=by
   cases hq:xd.toList with
   | nil=>rw [hq] at hp;cases hp
   | cons c l =>
    rw [hq] at hp
    unfold Go.Lib.hasPrefix at hp
    simp only [List.isPrefixOf,Bool.and_true,beq_iff_eq] at hp
    exact ⟨l,by rw [hp]⟩
  have HN:=Zh (show numberN b ⟨xd⟩=(if l.length=8 then Go.Lib.decFrom 0 l else none) by
   unfold numberN
   show (match xd.toList with | []=>none | c::l=>if c=b∧l.length=8 then Go.Lib.decFrom 0 l else none)=_
   rw [hl]
   show (if b=b∧l.length=8 then _ else none)=_
   simp)
  obtain ⟨y,hy⟩:∃ y:ByteArray,(⟨l.toArray⟩:ByteArray)=y:=⟨_,rfl⟩
  have hyl:y.data.toList=l:=by rw [←hy]
  have hys:y.size=l.length:=by rw [←hy];simp [ByteArray.size]
  have HC:=Zh (show ∀ w:World,Calls Tryz.prog 212 #[.string ⟨xd⟩,.string ⟨#[b]⟩] w fun e w'=>e=.returned (.tuple #[.string y,.bool true])∧w'=w from fun w=>by
   have h1:=cutPrefix_any ⟨xd⟩ ⟨#[b]⟩ w
   have h2:Go.Lib.hasPrefix (⟨xd⟩:ByteArray).data.toList (⟨#[b]⟩:ByteArray).data.toList=true:=hp
   rw [h2] at h1
   have h3:(⟨(Go.Lib.trimPrefix (⟨xd⟩:ByteArray).data.toList (⟨#[b]⟩:ByteArray).data.toList).toArray⟩:ByteArray)=y:=by
    unfold Go.Lib.trimPrefix
    rw [if_pos h2,←hy]
    show (⟨(xd.toList.drop 1).toArray⟩:ByteArray)=_
    rw [hl];rfl
   rwa [h3] at h1)
  have hll:l.length≤9223372036854775807:=by
   have:(⟨xd⟩:ByteArray).size=xd.toList.length:=by simp [ByteArray.size]
   rw [this,hl,List.length_cons] at hx;omega
  by_cases h8:l.length=8
  ·have g8:(y.size:Int)=8:=by omega
   have HT:=Zh (show ∀ w:World,Calls Tryz.prog 213 #[.string y,.string figsB] w fun e w'=>e=.returned (.string ⟨(Go.Lib.trimS l figsB.data.toList).toArray⟩)∧Below w.heap.size w w' from fun w=>by
    have:=trim_any y figsB w (by omega) (by decide) (ascii_of_all (by decide))
    rwa [hyl] at this)
   cases ha:l.all (fun b=>figsB.data.toList.contains b) with
   | false =>
    have HF:=Zh (show numberN b ⟨xd⟩=none by rw [HN.out,if_pos h8];exact dec_none l 0 ha)
    obtain ⟨t,ht⟩:∃ t,Go.Lib.trimS l figsB.data.toList=t:=⟨_,rfl⟩
    have g3:t.isEmpty=false:=by
     cases t with
     | nil=>rw [(trimS_nil l figsB.data.toList).1 ht] at ha;cases ha
     | cons _ _=>rfl
    rw [ht] at HT
    clear hp hx HN hl hy hyl hys ht ha hll h8
    go_enter Tryz.func166, Tryz.ntmps166
    go_wp2_with (first | (go_at_call 212;refine (HC.out _).mono ?_;rintro e w1 ⟨rfl,rfl⟩) | (go_at_call 213;refine (HT.out _).mono ?_;rintro e w2 ⟨rfl,hb2⟩))
    go_ret2
    rw [HF.out]
    exact ⟨rfl,hb2⟩
   | true =>
    rw [(trimS_nil l figsB.data.toList).2 ha] at HT
    obtain ⟨n,hn1,hn2⟩:=atoi_figs h8 (fun x hx=>by
     have h1:=List.all_eq_true.1 ha x hx
     rw [figs_is] at h1
     simpa using h1)
    have HF:=Zh (show numberN b ⟨xd⟩=some n by rw [HN.out,if_pos h8];exact hn1)
    have HA:=Zh (fun w=>atoi_any y n w (by omega) (by rw [hyl];exact hn2))
    clear hp hx HN hl hy hyl hys ha hll h8 hn1 hn2
    go_enter Tryz.func166, Tryz.ntmps166
    go_upto_region 5 with (first | (go_at_call 212;refine (HC.out _).mono ?_;rintro e w1 ⟨rfl,rfl⟩) | (go_at_call 213;refine (HT.out _).mono ?_;rintro e w2 ⟨rfl,hb2⟩) | (go_at_call 214;refine (HA.out _).mono ?_;rintro e w3 ⟨rfl,hb3⟩))
    have HB:=Zh (hb2.trans (hb3.mono hb2.size))
    clear hb2 hb3
    go_quiet (fail)
    go_wp2_with fail
    go_ret2
    rw [HF.out]
    exact ⟨rfl,by first | exact HB.out | exact HB.out.trans ⟨rfl,rfl,rfl,Nat.le_refl _,fun _ _=>rfl⟩⟩
  ·have HF:=Zh (show numberN b ⟨xd⟩=none by rw [HN.out,if_neg h8])
   have g8:¬(y.size:Int)=8:=by omega
   clear hp hx HN hl hy hyl hys hll h8
   go_enter Tryz.func166, Tryz.ntmps166
   go_wp2_with (first | (go_at_call 212;refine (HC.out _).mono ?_;rintro e w1 ⟨rfl,rfl⟩))
   go_ret2
   rw [HF.out]
   exact ⟨rfl,Below.refl _ _⟩
end DK
end Go.Proofs.YtaodldbgikiekaaGreatDoor
