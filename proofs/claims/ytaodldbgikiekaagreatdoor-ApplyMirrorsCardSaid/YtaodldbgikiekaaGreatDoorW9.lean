/- Proved here: a part of the proof (9 of 35). -/
import Derived.Test.YtaodldbgikiekaaGreatDoorW8
import Derived.Lib.ItoaNum
import Derived.Lib.Atoi
import Derived.Lib.SlTrimSet
import Derived.Lib.Repeat
set_option linter.unusedSimpArgs false
set_option linter.unusedVariables false
namespace Go.Proofs.YtaodldbgikiekaaGreatDoor
namespace DK
theorem dropW_nil (p:UInt8→Bool):∀ (l:List UInt8),l.dropWhile p=[]↔∀ x∈l,p x=true
 | []=>by simp
 | a::l=>by
  by_cases h:p a=true
  ·rw [List.dropWhile_cons_of_pos h,dropW_nil p l];simp [h]
  ·rw [List.dropWhile_cons_of_neg h];simp [h]
theorem trimS_nil (l cs:List UInt8):Go.Lib.trimS l cs=[]↔l.all (fun x=>cs.contains x)=true:=by
 unfold Go.Lib.trimS Go.Lib.trimLeftS Go.Lib.trimRightS
 rw [dropW_nil,List.all_eq_true]
 constructor
 ·intro h
  have hd:l.reverse.dropWhile (cs.contains ·)=[]:=by
   cases hq:l.reverse.dropWhile (cs.contains ·) with
   | nil=>rfl
   | cons a t =>
    exfalso
    have h1:=h a (by rw [hq];simp)
    have h2:∀ (m:List UInt8) (a:UInt8) (t:List UInt8),m.dropWhile (cs.contains ·)=a::t→cs.contains a=false:=by
     intro m
     induction m with
     | nil=>intro a t h;cases h
     | cons x m ih =>
      intro a t h
      by_cases hx:cs.contains x=true
      ·rw [List.dropWhile_cons_of_pos hx] at h;exact ih a t h
      ·rw [List.dropWhile_cons_of_neg hx] at h
       cases h;simpa using hx
    rw [h2 _ a t hq] at h1
    cases h1
  intro x hx
  exact (dropW_nil _ _).1 hd x (List.mem_reverse.2 hx)
 ·intro h x hx
  exact h x (List.mem_reverse.1 ((List.dropWhile_sublist _).subset (List.mem_reverse.1 hx)))
theorem repeatL_one (c:UInt8):∀ n,Go.Lib.repeatL [c] n=List.replicate n c
 | 0=>rfl
 | n+1=>by
  have ih:=repeatL_one c n
  rw [List.replicate_succ,←ih];rfl
/-- eight figures -/
def pad8 (n:Nat):List UInt8:=(List.range 8).map fun t=>Go.Lib.dg n (7 - t)
theorem pad8_len (n:Nat):(pad8 n).length=8:=by simp [pad8]
theorem dg_zero {n j:Nat} (h:n<10 ^ j):Go.Lib.dg n j=48:=by
 unfold Go.Lib.dg
 rw [Nat.div_eq_of_lt h];rfl
theorem pad8_eq {n:Nat} (h:n≤99999999):Go.Lib.repeatL [48] (8 - (Go.Lib.decDigits n).length)++Go.Lib.decDigits n=pad8 n:=by
 rw [repeatL_one,Go.Lib.decDigits_length]
 have hk:Go.Lib.nDigits n≤8:=by
  rcases Nat.lt_or_ge 8 (Go.Lib.nDigits n) with h1 | h1
  ·exfalso
   have h2:∀ (k u:Nat),k+1≤Go.Lib.nDigits u→10 ^ k≤u∨k=0:=by
    intro k
    induction k with
    | zero=>intro u _;exact .inr rfl
    | succ k ih =>
     intro u hu
     by_cases hb:u<10
     ·rw [Go.Lib.nDigits_small hb] at hu;omega
     ·rw [Go.Lib.nDigits_big hb] at hu
      left
      rcases ih (u / 10) (by omega) with h3 | h3
      ·rw [Nat.pow_succ];omega
      ·subst h3;simp;omega
   rcases h2 8 n (by omega) with h3 | h3
   ·have:(10:Nat) ^ 8=100000000:=by decide
    omega
   ·cases h3
  ·exact h1
 have hlt:=Go.Lib.lt_pow_nDigits n
 have hpos:=Go.Lib.nDigits_pos n
 rw [Go.Lib.decDigits_eq]
 generalize Go.Lib.nDigits n=k at *
 refine List.ext_getElem (by simp [pad8];omega) (fun t h1 h2=>?_)
 rw [pad8_len] at h2
 by_cases ht:t<8 - k
 ·rw [List.getElem_append_left (by simpa using ht)]
  simp only [List.getElem_replicate,pad8,List.getElem_map,List.getElem_range]
  exact (dg_zero (Nat.lt_of_lt_of_le hlt (Nat.pow_le_pow_right (by decide) (by omega)))).symm
 ·rw [List.getElem_append_right (by simpa using ht)]
  simp only [List.length_replicate,pad8,List.getElem_map,List.getElem_range]
  congr 1;omega
/-- the name of an object with a number -/
def nameN (b:UInt8) (n:Nat):Nm:=⟨(b::pad8 n).toArray⟩
/-- the number of an object's name -/
def numberN (b:UInt8) (x:Nm):Option Nat:=match x.data.toList with
 | []=>none
 | c::l=>if c=b∧l.length=8 then Go.Lib.decFrom 0 l else none
theorem digit_dg (n j:Nat):Go.Lib.digitVal (Go.Lib.dg n j)=some (n / 10 ^ j % 10):=by
 have h:n / 10 ^ j % 10<10:=Nat.mod_lt _ (by decide)
 unfold Go.Lib.dg Go.Lib.digitVal
 generalize n / 10 ^ j % 10=d at *
 have:(UInt8.ofNat (48+d)).toNat=48+d:=by rw [UInt8.toNat_ofNat'];omega
 rw [this,if_pos (by omega)]
 congr 1;omega
theorem pad8_list (n:Nat):pad8 n=[Go.Lib.dg n 7,Go.Lib.dg n 6,Go.Lib.dg n 5,Go.Lib.dg n 4,Go.Lib.dg n 3,Go.Lib.dg n 2,Go.Lib.dg n 1,Go.Lib.dg n 0]:=rfl
theorem decFrom_pad8 {n:Nat} (h:n≤99999999):Go.Lib.decFrom 0 (pad8 n)=some n:=by
 rw [pad8_list]
 simp only [Go.Lib.decFrom,digit_dg]
 congr 1
 simp only [Nat.reducePow,Nat.zero_mul,Nat.zero_add,Nat.div_one]
 omega
theorem number_name (b:UInt8) {n:Nat} (h:n≤99999999):numberN b (nameN b n)=some n:=by
 unfold numberN nameN
 simp only [pad8_len,and_self,if_true,decFrom_pad8 h]
theorem decFrom_bound:∀ (l:List UInt8) (acc n:Nat),Go.Lib.decFrom acc l=some n→n<(acc+1)*10 ^ l.length
 | [],acc,n,h=>by simp [Go.Lib.decFrom] at h;simp;omega
 | b::r,acc,n,h=>by
  simp only [Go.Lib.decFrom] at h
  cases hd:Go.Lib.digitVal b with
  | none=>simp [hd] at h
  | some d =>
   simp only [hd] at h
   have h1:=decFrom_bound r _ n h
   have h2:d≤9:=by unfold Go.Lib.digitVal at hd;split at hd<;>simp at hd;omega
   rw [List.length_cons,Nat.pow_succ]
   have h3:(acc*10+d+1)*10 ^ r.length≤((acc+1)*10)*10 ^ r.length:=Nat.mul_le_mul_right _ (by omega)
   have h4:(acc+1)*(10 ^ r.length*10)=((acc+1)*10)*10 ^ r.length:=by rw [Nat.mul_assoc,Nat.mul_comm 10]
   omega
theorem number_le {b:UInt8} {x:Nm} {n:Nat} (h:numberN b x=some n):n≤99999999:=by
 unfold numberN at h
 split at h
 ·cases h
 ·split at h
  ·rename_i hc
   have:=decFrom_bound _ _ _ h
   rw [hc.2] at this
   have e:(0+1)*10 ^ 8=100000000:=by decide
   omega
  ·cases h
theorem decFrom_inj:∀ (l m:List UInt8) (acc n:Nat),l.length=m.length→Go.Lib.decFrom acc l=some n→Go.Lib.decFrom acc m=some n→l=m
 | [],[],_,_,_,_,_=>rfl
 | [],_::_,_,_,h,_,_=>by cases h
 | _::_,[],_,_,h,_,_=>by cases h
 | a::l,b::m,acc,n,hl,h1,h2=>by
  simp only [Go.Lib.decFrom] at h1 h2
  cases ha:Go.Lib.digitVal a with
  | none=>simp [ha] at h1
  | some x =>
   cases hb:Go.Lib.digitVal b with
   | none=>simp [hb] at h2
   | some y =>
    simp only [ha] at h1
    simp only [hb] at h2
    have key:∀ (l m:List UInt8) (p q n:Nat),l.length=m.length→Go.Lib.decFrom p l=some n→Go.Lib.decFrom q m=some n→p=q:=by
     have low:∀ (l:List UInt8) (p n:Nat),Go.Lib.decFrom p l=some n→n / 10 ^ l.length=p:=by
      intro l
      induction l with
      | nil=>intro p n h;simp [Go.Lib.decFrom] at h;simp [h]
      | cons c l ih =>
       intro p n h
       simp only [Go.Lib.decFrom] at h
       cases hc:Go.Lib.digitVal c with
       | none=>simp [hc] at h
       | some z =>
        simp only [hc] at h
        have h3:=ih _ _ h
        have hz:z≤9:=by unfold Go.Lib.digitVal at hc;split at hc<;>simp at hc;omega
        rw [List.length_cons,Nat.pow_succ,←Nat.div_div_eq_div_mul,h3];omega
     intro l m p q n hlm h3 h4
     rw [←low l p n h3,←low m q n h4,hlm]
    have hxy:=key l m _ _ n (by simpa using hl) h1 h2
    have hxe:x=y:=by omega
    subst hxe
    have hab:a=b:=by
     unfold Go.Lib.digitVal at ha hb
     split at ha<;>simp at ha
     split at hb<;>simp at hb
     exact UInt8.toNat_inj.1 (by omega)
    rw [hab,decFrom_inj l m _ n (by simpa using hl) h1 h2]
theorem name_of_number {b:UInt8} {x:Nm} {n:Nat} (h:numberN b x=some n):x=nameN b n:=by
 have hle:=number_le h
 unfold numberN at h
 cases x with
 | mk d =>
  simp only at h
  cases hd:d.toList with
  | nil=>rw [hd] at h;cases h
  | cons c l =>
   rw [hd] at h
   simp only at h
   split at h
   ·rename_i hc
    have hl:=decFrom_inj l (pad8 n) 0 n (by rw [hc.2,pad8_len]) h (decFrom_pad8 hle)
    unfold nameN
    congr 1
    apply Array.toList_inj.1
    rw [hd,hc.1,hl]
   ·cases h
theorem name_inj {b:UInt8} {n m:Nat} (hn:n≤99999999) (hm:m≤99999999) (h:nameN b n=nameN b m):n=m:=by
 have h1:=number_name b hn
 rw [h,number_name b hm] at h1
 simpa using h1.symm
theorem name_ne {b c:UInt8} (hbc:b≠c) (n m:Nat):nameN b n≠nameN c m:=by
 intro h
 have:=congrArg (fun x:Nm=>x.data.toList.head?) h
 simp [nameN] at this
 exact hbc this
/-- an eight-figured text's number, as Atoi reads it -/
theorem atoi_figs {l:List UInt8} (hl:l.length=8) (hd:∀ b∈l,(48:UInt8)≤b∧b≤57):∃ n,Go.Lib.decFrom 0 l=some n∧Go.Lib.atoi l=some (n:Int):=by
 have h1:∀ (l:List UInt8) (acc:Nat),(∀ b∈l,(48:UInt8)≤b∧b≤57)→∃ n,Go.Lib.decFrom acc l=some n:=by
  intro l
  induction l with
  | nil=>intro acc _;exact ⟨acc,rfl⟩
  | cons b l ih =>
   intro acc h
   have hb:=h b List.mem_cons_self
   have h48:48≤b.toNat:=by have:=UInt8.le_iff_toNat_le.1 hb.1;simpa using this
   have h57:b.toNat≤57:=by have:=UInt8.le_iff_toNat_le.1 hb.2;simpa using this
   simp only [Go.Lib.decFrom]
   rw [show Go.Lib.digitVal b=some (b.toNat - 48) by unfold Go.Lib.digitVal;rw [if_pos ⟨h48,h57⟩]]
   exact ih _ (fun x hx=>h x (List.mem_cons_of_mem _ hx))
 obtain ⟨n,hn⟩:=h1 l 0 hd
 refine ⟨n,hn,?_⟩
 cases l with
 | nil=>simp at hl
 | cons b r =>
  have hb:=hd b List.mem_cons_self
  have h48:48≤b.toNat:=by have:=UInt8.le_iff_toNat_le.1 hb.1;simpa using this
  have n1:(b==45)=false:=by
   rw [beq_eq_false_iff_ne];intro e;subst e;simp at h48
  have n2:(b==43)=false:=by
   rw [beq_eq_false_iff_ne];intro e;subst e;simp at h48
  show (if (b==45)=true then _ else if (b==43)=true then _ else _)=_
  rw [n1,n2]
  simp only [Bool.false_eq_true,if_false]
  unfold Go.Lib.decNat
  simp [hn]
/-- the figures' order is the numbers' -/
theorem decFrom_less:∀ (l m:List UInt8) (p q x y:Nat),l.length=m.length→Go.Lib.decFrom p l=some x→Go.Lib.decFrom p m=some y→(Go.Op.bytesLess l m=true↔x<y)
 | [],[],p,_,x,y,_,h1,h2=>by
  simp only [Go.Lib.decFrom,Option.some.injEq] at h1 h2
  simp [Go.Op.bytesLess];omega
 | [],_::_,_,_,_,_,h,_,_=>by cases h
 | _::_,[],_,_,_,_,h,_,_=>by cases h
 | a::l,b::m,p,q,x,y,hl,h1,h2=>by
  simp only [Go.Lib.decFrom] at h1 h2
  cases ha:Go.Lib.digitVal a with
  | none=>simp [ha] at h1
  | some u =>
   cases hb:Go.Lib.digitVal b with
   | none=>simp [hb] at h2
   | some v =>
    simp only [ha] at h1
    simp only [hb] at h2
    have hll:l.length=m.length:=by simpa using hl
    have low:∀ (l:List UInt8) (p n:Nat),Go.Lib.decFrom p l=some n→p*10 ^ l.length≤n:=by
     intro l
     induction l with
     | nil=>intro p n h;simp [Go.Lib.decFrom] at h;simp [h]
     | cons c l ih =>
      intro p n h
      simp only [Go.Lib.decFrom] at h
      cases hc:Go.Lib.digitVal c with
      | none=>simp [hc] at h
      | some z =>
       simp only [hc] at h
       have h3:=ih _ _ h
       rw [List.length_cons,Nat.pow_succ]
       have h4:(p*10)*10 ^ l.length≤(p*10+z)*10 ^ l.length:=Nat.mul_le_mul_right _ (by omega)
       have h5:p*(10 ^ l.length*10)=(p*10)*10 ^ l.length:=by rw [Nat.mul_assoc,Nat.mul_comm 10]
       omega
    have au:a.toNat=48+u:=by unfold Go.Lib.digitVal at ha;split at ha<;>simp at ha;omega
    have bv:b.toNat=48+v:=by unfold Go.Lib.digitVal at hb;split at hb<;>simp at hb;omega
    simp only [Go.Op.bytesLess,Bool.or_eq_true,Bool.and_eq_true,decide_eq_true_eq,beq_iff_eq]
    rcases Nat.lt_trichotomy u v with huv | huv | huv
    ·have h3:=decFrom_bound l _ _ h1
     have h4:=low m _ _ h2
     rw [hll] at h3
     have h5:(p*10+u+1)*10 ^ m.length≤(p*10+v)*10 ^ m.length:=Nat.mul_le_mul_right _ (by omega)
     constructor
     ·intro _;omega
     ·intro _;left;rw [UInt8.lt_iff_toNat_lt];omega
    ·subst huv
     have hab:a=b:=UInt8.toNat_inj.1 (by omega)
     subst hab
     have ih:=decFrom_less l m _ q x y hll h1 h2
     constructor
     ·rintro (h | ⟨_,h⟩)
      ·rw [UInt8.lt_iff_toNat_lt] at h;omega
      ·exact ih.1 h
     ·intro h;right;exact ⟨rfl,ih.2 h⟩
    ·have h3:=decFrom_bound m _ _ h2
     have h4:=low l _ _ h1
     rw [←hll] at h3
     have h5:(p*10+v+1)*10 ^ l.length≤(p*10+u)*10 ^ l.length:=Nat.mul_le_mul_right _ (by omega)
     constructor
     ·rintro (h | ⟨h,_⟩)
      ·rw [UInt8.lt_iff_toNat_lt] at h;omega
      ·rw [h] at au;omega
     ·intro h;omega
theorem name_less (b:UInt8) {n m:Nat} (hn:n≤99999999) (hm:m≤99999999):less (nameN b n) (nameN b m)=true↔n<m:=by
 unfold less
 rw [ba_toList,ba_toList]
 unfold nameN
 simp only [List.toList_toArray]
 have:=decFrom_less (pad8 n) (pad8 m) 0 0 n m (by rw [pad8_len,pad8_len]) (decFrom_pad8 hn) (decFrom_pad8 hm)
 simp only [Go.Op.bytesLess,Bool.or_eq_true,Bool.and_eq_true,decide_eq_true_eq,beq_self_eq_true,true_and]
 rw [this]
 constructor
 ·rintro (h | h)
  ·exact absurd h (by rw [UInt8.lt_iff_toNat_lt];omega)
  ·exact h
 ·exact .inr
/-- files' names, rising -/
def namesOf (L:Fl):List Nm:=(L.map (·.1)).mergeSort (fun a b=>!less b a)
theorem sorted_unique:∀ {l m:List Nm},l.Perm m→l.Pairwise (fun a b=>less a b=true)→m.Pairwise (fun a b=>less a b=true)→l=m
 | [],m,h,_,_=>by rw [List.nil_perm.1 h]
 | a::l,[],h,_,_=>by have:=h.length_eq;simp at this
 | a::l,b::m,h,h1,h2=>by
  rw [List.pairwise_cons] at h1 h2
  have hab:a=b:=by
   have ha:a∈b::m:=h.subset List.mem_cons_self
   have hb:b∈a::l:=h.symm.subset List.mem_cons_self
   rcases List.mem_cons.1 ha with e | ha
   ·exact e
   ·rcases List.mem_cons.1 hb with e | hb
    ·exact e.symm
    ·have q1:=h2.1 a ha
     have q2:=h1.1 b hb
     have q3:=less_strict.tr _ _ _ q1 q2
     rw [less_strict.irr] at q3;cases q3
  subst hab
  rw [sorted_unique (List.Perm.cons_inv h) h1.2 h2.2]
theorem not_less {a b:Nm} (h:less b a=false) (hne:a≠b):less a b=true:=by
 rcases less_strict.tot a b hne with h1 | h1
 ·exact h1
 ·rw [h] at h1;cases h1
theorem namesOf_sorted {L:Fl} (h:(L.map (·.1)).Nodup):(namesOf L).Pairwise (fun a b=>less a b=true):=by
 have h1:(namesOf L).Pairwise (fun a b=>(!less b a)=true):=List.pairwise_mergeSort (le:=fun a b=>!less b a) (fun a b c h1 h2=>by
  have h1:less b a=false:=by simpa using h1
  have h2:less c b=false:=by simpa using h2
  show (!less c a)=true
  cases hc:less c a with
  | false=>rfl
  | true =>
   exfalso
   by_cases hab:a=b
   ·subst hab;rw [hc] at h2;cases h2
   ·have:=less_strict.tr _ _ _ hc (not_less h1 hab)
    rw [this] at h2;cases h2) (fun a b=>by
  show ((!less b a)||(!less a b))=true
  cases h1:less b a with
  | false=>rfl
  | true =>
   cases h2:less a b with
   | false=>rfl
   | true=>have:=less_strict.tr _ _ _ h1 h2;rw [less_strict.irr] at this;cases this) _
 have h2:(namesOf L).Nodup:=(List.mergeSort_perm _ _).nodup_iff.2 h
 rw [List.nodup_iff_pairwise_ne] at h2
 exact (h1.and h2).imp (fun ⟨q1,q2⟩=>not_less (by simpa using q1) q2)
theorem namesOf_perm (L:Fl):(namesOf L).Perm (L.map (·.1)):=List.mergeSort_perm _ _
theorem namesOf_is {L:Fl} (h:(L.map (·.1)).Nodup) {l:List Nm} (hp:l.Perm (L.map (·.1))) (hs:l.Pairwise (fun a b=>less a b=true)):l=namesOf L :=
 sorted_unique (hp.trans (namesOf_perm L).symm) hs (namesOf_sorted h)
end DK
end Go.Proofs.YtaodldbgikiekaaGreatDoor
