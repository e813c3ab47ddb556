/- Proved here: a part of the proof (32 of 35). -/
import Derived.Test.YtaodldbgikiekaaGreatDoorW29
import Derived.Test.YtaodldbgikiekaaGreatDoorW31
import Derived.Test.YtaodldbgikiekaaGreatDoorW30
import Derived.Test.YtaodldbgikiekaaGreatDoorW12
import Derived.BigQuiet
import Derived.Deep.DeepCutAuto
import Derived.Deep.CutBlock
set_option linter.unusedSimpArgs false
set_option linter.unusedVariables false
set_option maxRecDepth 100000
namespace Go.Proofs.YtaodldbgikiekaaGreatDoor
namespace SL
open DK SH SQ
theorem Ueq.okU {u v:U} (h:Ueq v u) (k:v.ok):u.ok :=
 ⟨by rw [←h.e];exact k.e0,by rw [←h.e];exact k.e1,by rw [←h.l];exact k.l0,by rw [←h.l];exact k.l1,fun p hp=>by rw [←h.l];exact k.addr p (h.cells.mem_iff.2 hp),fun p hp=>k.kind p (h.cells.mem_iff.2 hp),(h.cells.map _).nodup_iff.1 k.nodup⟩
theorem Fine.okU {r:Int} {k:Nat} {u:U} {x:Un} (h:Fine r k u x):u.ok:=by
 obtain ⟨n,L,rfl,h2,h3,h4,h5,v,hv,he⟩:=h
 exact Ueq.okU he hv.ok
theorem Fine.lowU {r:Int} {k:Nat} {u:U} {x:Un} {M:Cl} {i:Nat} (h:Fine r k u x) (hx:M.us[i]?=some x):M.lowU (i:Int)=u.l:=by
 obtain ⟨n,L,rfl,_⟩:=h
 unfold Cl.lowU
 rw [Int.toNat_natCast,hx]
theorem write_l (u:U) (e a:Int) (d:List UInt8):(u.write e a d).2.l=u.l:=by unfold U.write;(repeat' split)<;>rfl
theorem fill_l (u:U) (e a:Int):(u.fill e a).2.l=u.l:=by unfold U.fill;(repeat' split)<;>rfl
theorem at_three {u:U} (h:u.ok) {a:Int} (h3:(u.at a).k=3):a<u.l:=by
 unfold U.at at h3
 split at h3
 ·assumption
 ·exfalso
  cases hq:u.cells.any (·.1==a) with
  | false=>rw [lookC_none hq] at h3;cases h3
  | true =>
   rcases (h.kind _ (lookC_mem hq)).1 with e | e
   ·have:(lookC u.cells a).k=1:=e
    omega
   ·have:(lookC u.cells a).k=2:=e.1
    omega
theorem cur_ne9 (u:U) (e:Int):u.cur e≠9:=by unfold U.cur;(repeat' split)<;>decide
theorem asks_ne9 (u:U) (e:Int) (f:Bool):u.asks e f≠9:=by
 unfold U.asks
 split
 ·exact cur_ne9 _ _
 ·decide
theorem acheck_ne9 (x:Ac):x.check≠9:=by unfold Ac.check;(repeat' split)<;>decide
theorem write_9 {u:U} (h:u.ok) {e a:Int} {d:List UInt8} (h9:(u.write e a d).1=9):a<u.l:=by
 unfold U.write at h9
 split at h9
 ·cases h9
 ·split at h9
  ·cases h9
  ·split at h9
   ·exact absurd h9 (cur_ne9 _ _)
   ·split at h9
    ·rename_i h3;exact at_three h h3
    ·split at h9<;>cases h9
theorem fill_9 {u:U} (h:u.ok) {e a:Int} (h9:(u.fill e a).1=9):a<u.l:=by
 unfold U.fill at h9
 split at h9
 ·exact absurd h9 (asks_ne9 _ _ _)
 ·split at h9
  ·rename_i h3;exact at_three h h3
  ·split at h9<;>cases h9
theorem put_9 {u:U} (h:u.ok) {e a:Int} {x:C} (h9:(apU u (putA e a x)).1=9):a<u.l:=by
 unfold apU at h9
 split at h9
 ·exact absurd h9 (acheck_ne9 _)
 ·unfold putA at h9
  split at h9
  ·simp at h9;exact write_9 h h9
  ·simp at h9;exact fill_9 h h9
theorem put_l (u:U) (e a:Int) (x:C):(apU u (putA e a x)).2.2.l=u.l∧(apU u (putA e a x)).2.2.e=u.e:=by
 refine ⟨?_,ap_e (putA_k _ _ _)⟩
 unfold putA
 by_cases hk:x.k=1
 ·rw [if_pos hk]
  unfold apU
  split
  ·rfl
  ·simp;exact write_l _ _ _ _
 ·rw [if_neg hk]
  unfold apU
  split
  ·rfl
  ·simp;exact fill_l _ _ _
theorem trim_ap {u:U} {e b:Int} (he:u.e=e) (h0:0≤e∧e≤1099511627776) (hb:0≤b∧b≤1048576):(apU u ⟨4,e,b,[]⟩).1=0∧(apU u ⟨4,e,b,[]⟩).2.2.l=max u.l b∧(apU u ⟨4,e,b,[]⟩).2.2.e=e:=by
 have hc:(⟨4,e,b,[]⟩:Ac).check=0:=by
  unfold Ac.check
  rw [if_neg (by simp;omega),if_neg (by simp),if_neg (by simp),if_neg (by simp)]
 have ha:u.asks e (inR b 1048576)=0:=by
  unfold U.asks U.cur inR
  rw [he]
  simp [hb.1,hb.2]
 have ht:u.trim e b=(0,{ u with l:=max u.l b,cells:=u.cells.filter (fun p=>!decide (p.1<max u.l b))}):=by
  unfold U.trim
  rw [if_neg (by rw [ha];decide)]
 unfold apU
 rw [if_neg (by rw [hc];decide)]
 simp only
 rw [if_neg (by decide),if_neg (by decide),if_neg (by decide),if_pos trivial,ht]
 exact ⟨rfl,rfl,he⟩
theorem allC_rest {St:Type} {f:St→Int→Nat×St} {P:List Int→St→Prop} {Q:Nat→Prop} (hf:∀ u rest s,P (u::rest) s→P rest (f s u).2∧((f s u).1≠0→Q (f s u).1)):∀ (l:List Int) {s:St},P l s→∃ rest,P rest (allC f l s).2∧((allC f l s).1≠0→Q (allC f l s).1)∧((allC f l s).1=0→rest=[])
 | [],s,h=>⟨[],h,fun h=>absurd rfl h,fun _=>rfl⟩
 | u::l,s,h=>by
  have h1:=hf u l s h
  unfold allC
  split
  ·rename_i hz
   exact ⟨l,h1.1,h1.2,fun h0=>absurd h0 hz⟩
  ·exact allC_rest hf l h1.1
/-- units that have never failed, on the way: those of the list yet to come have had k acts, and the low mark l; the others one act more, and l' -/
structure Way (r:Int) (k:Nat) (l l':Int) (M:Cl) (rest:List Int) (s:Cl):Prop where
 ok:s.ok
 stay:Stay M s
 nodup:rest.Nodup
 each:∀ (i:Nat) (x:Un),s.us[i]?=some x→∃ u,u.e=M.p.e∧if (i:Int)∈rest then Fine r k u x∧u.l=l else Fine r (k+1) u x∧u.l=l'
theorem Way.step {r:Int} {k:Nat} {l l':Int} {M s:Cl} {u:Int} {rest:List Int} (h:Way r k l l' M (u::rest) s) (hk:k<512) (hr:((200*k+200:Nat):Int)≤r) {x:Ac} (hx:x.k≠1) (hu:0≤u)
  (hl:∀ v:U,v.e=M.p.e→v.l=l→v.ok→(if (apU v x).1=0 then (apU v x).2.2.l else v.l)=l'):Way r k l l' M rest (s.do u.toNat x).2.2∧(∀ hlt:u.toNat<s.us.length,∃ v:U,v.e=M.p.e∧v.l=l∧v.ok∧(s.do u.toNat x).1=(apU v x).1):=by
 have hok:=h.ok.do u.toNat x
 have hnd:=List.nodup_cons.1 h.nodup
 have hst:=h.stay.do u.toNat x
 cases hus:s.us[u.toNat]? with
 | none =>
  have hge:s.us.length≤u.toNat:=List.getElem?_eq_none_iff.1 hus
  refine ⟨⟨hok,hst,hnd.2,fun i y hy=>?_⟩,fun hlt=>by omega⟩
  have hd:(s.do u.toNat x).2.2=s:=by unfold Cl.do;rw [hus]
  rw [hd] at hy
  obtain ⟨v,he,hv⟩:=h.each i y hy
  refine ⟨v,he,?_⟩
  have hi:i<s.us.length:=(List.getElem?_eq_some_iff.1 hy).1
  have hne:(i:Int)≠u:=by omega
  by_cases hm:(i:Int)∈rest
  ·rw [if_pos (List.mem_cons_of_mem _ hm)] at hv;rw [if_pos hm];exact hv
  ·rw [if_neg (by rw [List.mem_cons];rintro (h | h);exact hne h;exact hm h)] at hv;rw [if_neg hm];exact hv
 | some y0 =>
  obtain ⟨v,he,hv⟩:=h.each _ _ hus
  rw [if_pos (by rw [Int.toNat_of_nonneg hu];exact List.mem_cons_self)] at hv
  obtain ⟨S1,D1,S2,D2,hy,e,hF⟩:=hv.1.act2 hk hr x
  subst hy
  have hd:s.do u.toNat x=((apU v x).1,(if (apU v x).1=0 then (apU v x).2.1 else 0),s.put u.toNat ⟨D2,some S2⟩):=by
   rw [do_on x hus,e]
  have hvo:=hv.1.okU
  refine ⟨⟨hok,hst,hnd.2,fun i y hy=>?_⟩,fun _=>⟨v,he,hv.2,hvo,by rw [hd]⟩⟩
  rw [hd] at hy
  have hy':(s.us.set u.toNat ⟨D2,some S2⟩)[i]?=some y:=hy
  rw [List.getElem?_set] at hy'
  split at hy'
  ·rename_i hi
   split at hy'
   ·simp only [Option.some.injEq] at hy'
    subst hy'
    have hui:(i:Int)=u:=by rw [←hi,Int.toNat_of_nonneg hu]
    refine ⟨if (apU v x).1=0 then (apU v x).2.2 else v,?_,?_⟩
    rotate_left
    ·rw [if_neg (by rw [hui];exact hnd.1)]
     exact ⟨hF.mono (by split<;>omega),by have:=hl v he hv.2 hvo;split<;>rename_i hz<;>simp only [hz,if_true,if_false] at this<;>exact this⟩
    ·split
     ·rw [ap_e hx];exact he
     ·exact he
   ·cases hy'
  ·rename_i hi
   obtain ⟨v2,he2,hv2⟩:=h.each i y hy'
   refine ⟨v2,he2,?_⟩
   have hne:(i:Int)≠u:=fun e=>hi (by rw [←e,Int.toNat_natCast])
   by_cases hm:(i:Int)∈rest
   ·rw [if_pos (List.mem_cons_of_mem _ hm)] at hv2;rw [if_pos hm];exact hv2
   ·rw [if_neg (by rw [List.mem_cons];rintro (h | h);exact hne h;exact hm h)] at hv2;rw [if_neg hm];exact hv2
/-- no unit has ever failed, each has had at most k acts, all have one low mark -/
structure Even (r:Int) (k:Nat) (l:Int) (M:Cl):Prop where
 ok:M.ok
 e:M.q.e=M.p.e
 all:M.p.all.Nodup
 low:0≤l∧l≤1048576
 each:∀ (i:Nat) (x:Un),M.us[i]?=some x→∃ u,Fine r k u x∧u.e=M.p.e∧u.l=l
theorem Even.mono {r:Int} {k m:Nat} {l:Int} {M:Cl} (h:Even r k l M) (hk:k≤m):Even r m l M:=⟨h.ok,h.e,h.all,h.low,fun i x hx=>by obtain ⟨u,h1,h2,h3⟩:=h.each i x hx;exact ⟨u,h1.mono hk,h2,h3⟩⟩
theorem Even.way {r:Int} {k:Nat} {l l':Int} {M:Cl} (h:Even r k l M) {us:List Int} (hn:us.Nodup) (hu:∀ i:Nat,i<M.us.length→(i:Int)∈us∨l'=l):Way r k l l' M us M :=
 ⟨h.ok,Stay.refl M,hn,fun i x hx=>by
  obtain ⟨u,h1,h2,h3⟩:=h.each i x hx
  refine ⟨u,h2,?_⟩
  by_cases hm:(i:Int)∈us
  ·rw [if_pos hm];exact ⟨h1,h3⟩
  ·rw [if_neg hm]
   rcases hu i (List.getElem?_eq_some_iff.1 hx).1 with h | h
   ·exact absurd h hm
   ·exact ⟨h1.mono (Nat.le_succ k),by rw [h];exact h3⟩⟩
theorem Way.even {r:Int} {k:Nat} {l:Int} {M s:Cl} {rest:List Int} (h:Way r k l l M rest s) (he:M.q.e=M.p.e) (ha:M.p.all.Nodup) (hl:0≤l∧l≤1048576):Even r (k+1) l s :=
 ⟨h.ok,by rw [h.stay.q,h.stay.p];exact he,by rw [h.stay.p];exact ha,hl,fun i x hx=>by
  obtain ⟨u,h1,h2⟩:=h.each i x hx
  rw [h.stay.p]
  split at h2
  ·exact ⟨u,h2.1.mono (Nat.le_succ k),h1,h2.2⟩
  ·exact ⟨u,h2.1,h1,h2.2⟩⟩
theorem Way.even0 {r:Int} {k:Nat} {l l':Int} {M s:Cl} (h:Way r k l l' M [] s) (he:M.q.e=M.p.e) (ha:M.p.all.Nodup) (hl:0≤l'∧l'≤1048576):Even r (k+1) l' s :=
 ⟨h.ok,by rw [h.stay.q,h.stay.p];exact he,by rw [h.stay.p];exact ha,hl,fun i x hx=>by
  obtain ⟨u,h1,h2⟩:=h.each i x hx
  rw [h.stay.p]
  rw [if_neg (by simp)] at h2
  exact ⟨u,h2.1,h1,h2.2⟩⟩
theorem Even.raise {r:Int} {k:Nat} {l:Int} {M:Cl} (h:Even r k l M) (n:Int):Even r k l (M.raise n).2:=by
 have hu:=raise_up h.ok n
 exact ⟨hu.ok,by rw [hu.qe,hu.p];exact h.e,by rw [hu.p];exact h.all,h.low,h.each⟩
theorem Even.lowAt {r:Int} {k:Nat} {l:Int} {M:Cl} (h:Even r k l M) {u:Int} (hu:0≤u∧u<(M.us.length:Int)):M.lowU u=l:=by
 obtain ⟨i,rfl⟩:∃ i:Nat,u=i:=⟨u.toNat,by omega⟩
 have hlt:i<M.us.length:=by omega
 obtain ⟨v,h1,_,h3⟩:=h.each i _ (List.getElem?_eq_getElem hlt)
 rw [h1.lowU (List.getElem?_eq_getElem hlt),h3]
theorem minLow_ge {M:Cl} {b:Int}:∀ (l:List Int) (t:Int),b≤t→(∀ u∈l,b≤M.lowU u)→b≤minLow M l t
 | [],t,h,_=>h
 | u::l,t,h,hu=>minLow_ge l (min t (M.lowU u)) (by have:=hu u List.mem_cons_self;omega) (fun v hv=>hu v (List.mem_cons_of_mem _ hv))
theorem Even.minLow {r:Int} {k:Nat} {l b:Int} {M:Cl} (h:Even r k l M) (hb:b≤l):b≤SL.minLow M M.units 1048576 :=
 minLow_ge _ _ (by have:=h.low;omega) (fun u hu=>by rw [h.lowAt ((units_facts h.ok).2 u hu)];exact hb)
theorem home_nodup {M:Cl} (h:M.p.all.Nodup) (a:Int):(M.home a).Nodup:=by
 unfold Cl.home
 rw [List.getD_eq_getElem?_getD]
 cases hg:M.p.cs[(a % (M.p.cs.length:Int)).toNat]? with
 | none=>simp
 | some c=>exact (List.sublist_flatten_of_mem (List.mem_of_getElem? hg)).nodup h
theorem home_mem {M:Cl} {a u:Int} (h:u∈M.home a):u∈M.p.all:=by
 unfold Cl.home at h
 rw [List.getD_eq_getElem?_getD] at h
 cases hg:M.p.cs[(a % (M.p.cs.length:Int)).toNat]? with
 | none=>rw [hg] at h;simp at h
 | some c=>rw [hg] at h;exact List.mem_flatten.2 ⟨_,List.mem_of_getElem? hg,h⟩
/-- a put into such a cluster: a trimmed address lies below the low mark -/
theorem Even.spread {r:Int} {k:Nat} {l:Int} {M:Cl} (h:Even r k l M) (hk:k<512) (hr:((200*k+200:Nat):Int)≤r) {us:List Int} (hn:us.Nodup) (hu:∀ u∈us,0≤u∧u<(M.us.length:Int)) (a:Int) (x:C):Even r (k+1) l (M.spread us a x).2∧((M.spread us a x).1=9→a<l):=by
 obtain ⟨rest,h1,h2,h3⟩:=allC_rest (f:=Cl.putS a x) (P:=fun rest s=>Way r k l l M rest s∧∀ u∈rest,0≤u∧u<(M.us.length:Int)) (Q:=fun z=>z=9→a<l) (fun u rest s ⟨hs,hr2⟩=>by
  have hu0:=hr2 u List.mem_cons_self
  have h4:=hs.step hk hr (x:=putA s.p.e a x) (putA_k _ _ _) hu0.1 (fun v he hv _=>by rw [hs.stay.p];split;exact (put_l v M.p.e a x).1.trans hv;exact hv)
  have e2:(Cl.putS a x s u).2=(s.do u.toNat (putA s.p.e a x)).2.2:=putC_len _ _ _ _ _
  refine ⟨⟨by rw [e2];exact h4.1,fun v hv=>hr2 v (List.mem_cons_of_mem _ hv)⟩,fun _ h9=>?_⟩
  obtain ⟨v,_,hvl,hvo,hvd⟩:=h4.2 (by have:=hs.stay.us;omega)
  have h9':(s.do u.toNat (putA s.p.e a x)).1=9:=by
   have h9:(Cl.putC s.p.e a x s u).1=9:=h9
   unfold Cl.putC at h9
   split at h9
   ·cases h9
   ·exact h9
  rw [hvd] at h9'
  rw [←hvl]
  exact put_9 hvo h9') us (s:=M) ⟨h.way hn (fun _ _=>.inr rfl),hu⟩
 have he:=h1.1.even h.e h.all h.low
 unfold Cl.spread
 split
 ·rename_i hz
  exact ⟨he,h2 hz⟩
 ·refine ⟨he.raise _,fun h9=>?_⟩
  exfalso
  have h9':((allC (Cl.putS a x) us M).2.q.raise (allC (Cl.putS a x) us M).2.p.e (a+1)).1=9:=h9
  unfold Q.raise at h9'
  split at h9'
  ·simp only at h9'
   unfold Q.asks at h9'
   (repeat' split at h9')<;>cases h9'
  ·cases h9'
theorem Even.putAt {r:Int} {k:Nat} {l:Int} {M:Cl} (h:Even r k l M) (hk:k<512) (hr:((200*k+200:Nat):Int)≤r) (a:Int) (x:C):Even r (k+1) l (M.putAt a x).2∧((M.putAt a x).1=9→a<l):=by
 unfold Cl.putAt
 split
 ·exact ⟨h.mono (Nat.le_succ k),fun h=>by cases h⟩
 ·split
  ·refine ⟨h.mono (Nat.le_succ k),fun h9=>?_⟩
   exfalso
   have h9:x.check=9:=h9
   unfold C.check at h9
   (repeat' split at h9)<;>cases h9
  ·split
   ·exact ⟨h.mono (Nat.le_succ k),fun h=>by cases h⟩
   ·exact h.spread hk hr (home_nodup h.all a) (fun u hu=>h.ok.there u (home_mem hu)) a x
theorem Even.trim {r:Int} {k:Nat} {l:Int} {M:Cl} (h:Even r k l M) (hk:k<512) (hr:((200*k+200:Nat):Int)≤r) (hall:∀ i:Nat,i<M.us.length→(i:Int)∈M.p.all) {b:Int} (hb:0≤b∧b≤1048576):∃ M',M.trim b=(0,M')∧Even r (k+1) (max l b) M':=by
 have hpe:=(pj_ok h.ok.proj).e
 obtain ⟨rest,h1,h2,h3⟩:=allC_rest (f:=Cl.trimS M.p.e b) (P:=fun rest s=>Way r k l (max l b) M rest s∧∀ u∈rest,0≤u∧u<(M.us.length:Int)) (Q:=fun _=>False) (fun u rest s ⟨hs,hr2⟩=>by
  have hu0:=hr2 u List.mem_cons_self
  have h4:=hs.step hk hr (x:=⟨4,M.p.e,b,[]⟩) (by simp) hu0.1 (fun v he hv _=>by
   obtain ⟨g1,g2,_⟩:=trim_ap (u:=v) he hpe hb
   rw [if_pos g1,g2,hv])
  refine ⟨⟨h4.1,fun v hv=>hr2 v (List.mem_cons_of_mem _ hv)⟩,fun hz=>?_⟩
  obtain ⟨v,hve,hvl,hvo,hvd⟩:=h4.2 (by have:=hs.stay.us;omega)
  exact hz (hvd.trans (trim_ap hve hpe hb).1)) M.units (s:=M) ⟨h.way (by
   unfold Cl.units
   have hlt:=unitsOf_nodup M.p.all
   exact (List.Pairwise.imp (fun {a b} hab e=>by omega) (dedS_rise (sortI M.p.all) (sortI_sorted _)))) (fun i hi=>.inl ((unitsOf_mem _ _).2 (hall i hi))),(units_facts h.ok).2⟩
 have hz:(allC (Cl.trimS M.p.e b) M.units M).1=0:=by
  cases hq:(allC (Cl.trimS M.p.e b) M.units M).1 with
  | zero=>rfl
  | succ n=>exact (h2 (by rw [hq];simp)).elim
 have he:Even r (k+1) (max l b) (allC (Cl.trimS M.p.e b) M.units M).2:=by
  have:=h3 hz
  subst this
  exact h1.1.even0 h.e h.all (by have:=h.low;omega)
 have hin:inB b 1048576=true:=inB_iff.2 hb
 refine ⟨((allC (Cl.trimS M.p.e b) M.units M).2.raise b).2,?_,he.raise b⟩
 unfold Cl.trim
 rw [if_neg (by rw [hin];decide),if_neg (by rw [hz];decide)]
 have hrz:((allC (Cl.trimS M.p.e b) M.units M).2.raise b).1=0:=by
  show ((allC (Cl.trimS M.p.e b) M.units M).2.q.raise (allC (Cl.trimS M.p.e b) M.units M).2.p.e b).1=0
  have hqe:=he.e
  unfold Q.raise Q.asks
  rw [hin,hqe]
  simp
 exact Prod.ext hrz rfl
def AllIn (M:Cl):Prop:=∀ i:Nat,i<M.us.length→(i:Int)∈M.p.all
theorem Even.markS {r:Int} {k:Nat} {l:Int} {M:Cl} (h:Even r k l M) (hk:k<512) (hr:((200*k+200:Nat):Int)≤r) (hall:AllIn M) {b:Int} (hb:0≤b∧b≤1048576):∃ M' l',SL.markS M b=(0,M')∧Even r (k+1) l' M'∧b≤SL.minLow M' M'.units 1048576:=by
 unfold SL.markS
 split
 ·rename_i hq
  exact ⟨M,l,rfl,h.mono (Nat.le_succ k),hq⟩
 ·obtain ⟨M',e,h'⟩:=h.trim hk hr hall hb
  exact ⟨M',_,e,h',h'.minLow (by omega)⟩
theorem Even.one {r:Int} {k:Nat} {l:Int} {M:Cl} (h:Even r k l M) (hk:k<512) (hr:((200*k+200:Nat):Int)≤r) (a:Int) (y:C):Even r (k+1) l (oneS M a y).2:=by
 have hp:=h.putAt hk hr a y
 unfold oneS
 split
 ·exact h.mono (Nat.le_succ k)
 ·split
  ·exact hp.1
  ·rename_i h9
   have ha:=hp.2 (by omega)
   have:SL.markS (M.putAt a y).2 (a+1)=(0,(M.putAt a y).2):=if_pos (hp.1.minLow (by omega))
   rw [this]
   exact hp.1
theorem Even.ones {r:Int} {l:Int}:∀ (X:List C) {k:Nat} {M:Cl} (a:Int),Even r k l M→k+X.length≤512→((200*(k+X.length):Nat):Int)≤r→Even r (k+X.length) l (onesS X M a).2.1
 | [],k,M,a,h,_,_=>h
 | x::X,k,M,a,h,hk,hr=>by
  simp only [List.length_cons] at hk hr ⊢
  have h1:=h.one (by omega) (by omega) a x
  unfold onesS
  split
  ·exact h1.mono (by omega)
  ·exact (Even.ones X (a+1) h1 (by omega) (by omega)).mono (by omega)
theorem onesS_end:∀ (X:List C) {M:Cl} (a:Int),(onesS X M a).1=0→(onesS X M a).2.2=a+X.length
 | [],M,a,_=>by simp [onesS]
 | x::X,M,a,h=>by
  unfold onesS at h ⊢
  split at h
  ·rename_i hz;exact absurd h hz
  ·rename_i hz
   rw [if_neg hz,onesS_end X _ h]
   simp only [List.length_cons];omega
theorem lowF_rng (a:Int) (ha:0≤a):∀ (X:List C) (s:Int×Int),0≤s.1→0≤s.2→s.2≤a+s.1→0≤(X.foldl (lowF a) s).2∧(X.foldl (lowF a) s).2≤a+s.1+X.length
 | [],s,h0,h1,h2=>by simp;omega
 | x::X,s,h0,h1,h2=>by
  have h3:=lowF_rng a ha X (lowF a s x) (by show 0≤s.1+1;omega) (by show 0≤(if x.k=3 then a+s.1+1 else s.2);split<;>omega) (by show (if x.k=3 then a+s.1+1 else s.2)≤a+(s.1+1);split<;>omega)
  rw [show (lowF a s x).1=s.1+1 from rfl] at h3
  rw [List.foldl_cons]
  simp only [List.length_cons]
  omega
theorem lowL_rng {a:Int} (ha:0≤a) (X:List C):0≤lowL a X∧lowL a X≤a+X.length:=by
 have:=lowF_rng a ha X (0,0) (Int.le_refl _) (Int.le_refl _) (by omega)
 unfold lowL
 simpa using this
theorem Even.cells {r:Int} {k:Nat} {l:Int} {M:Cl} (h:Even r k l M) (hall:AllIn M) {a:Int} {X:List C} (hk:k+1+X.length≤512) (hr:((200*(k+1+X.length):Nat):Int)≤r) (ha:0≤a) (he:a+X.length≤1048576) :
  ∃ l',Even r (k+1+X.length) l' (cellsS M a X).2.1∧((cellsS M a X).1=0→(cellsS M a X).2.2=a+X.length):=by
 have hlo:=lowL_rng ha X
 obtain ⟨M',l',e,h',_⟩:=h.markS (by omega) (by omega) hall (b:=lowL a X) ⟨hlo.1,by omega⟩
 have e2:cellsS M a X=onesS X M' a:=by
  unfold cellsS
  rw [e,if_neg (by simp)]
 rw [e2]
 exact ⟨l',h'.ones X a (by omega) (by omega),onesS_end X a⟩
end SL
end Go.Proofs.YtaodldbgikiekaaGreatDoor

namespace Go.Proofs.YtaodldbgikiekaaGreatDoor
open Go.RowKit
namespace SL
open DK SH SQ
theorem eqIn_rc (n:Nat) (a b:Int) (w:World):(Op.equalIn (n+5) 59 (.agg #[.int .i64 a,.int .i64 b]) (.agg #[.int .i64 a,.int .i64 b])).run Tryz.prog w=.ok true w:=by
 rw [show n+5=(n+4)+1 from rfl,run_equalIn_agg w (n+4) 59 _ _ (by kernel_rfl) (by kernel_rfl)]
 simp [Program.fieldsOf,Tryz.underlying59,go_sem,Op.eqFields]
@[go_sem] theorem rcGuard:Tryz.prog.eqGuardType Tryz.prog.depth 59=false:=by kernel_rfl
@[go_sem] theorem neq_rc (a b:Int) (w:World):(binOp .neq 59 (.agg #[.int .i64 a,.int .i64 b]) (.agg #[.int .i64 a,.int .i64 b])).run Tryz.prog w=.ok (.bool false) w:=by
 rw [run_neq_struct,eqIn_rc 9995 a b w]
 rfl
@[go_sem] theorem eql_rc (a b:Int) (w:World):(binOp .eql 59 (.agg #[.int .i64 a,.int .i64 b]) (.agg #[.int .i64 a,.int .i64 b])).run Tryz.prog w=.ok (.bool true) w:=by
 rw [run_eql_struct,eqIn_rc 9995 a b w]
 rfl
/-- a parcel, with where its cells lie -/
structure PE where
 e:Int
 t:Int
 f:Int
 X:List CE
 a:Option Addr
 k:Nat
def peV (y:PE):List Value:=[.int .i64 y.e,.int .i64 y.t,.int .i64 y.f,.slice y.a y.X.length y.k]
structure PEs (w:World) (a:Option Addr) (k:Nat) (Y:List PE):Prop where
 row:SlV w (.slice a Y.length k) Y.length (Y.flatMap peV)
 each:∀ y∈Y,CEs w y.a y.k y.X
theorem slv_boxN {w0 w:World} {F:Nat→Prop} {L:List Asn} (H:Sep w0 F L w) (i:Nat) {N t n:Nat} {R:List Value} (hi:L[i]?=some (.box N R t)) (hl:n≤1000):SlV w (.slice (some ⟨N,0,none⟩) n n) n R:=by
 refine ⟨_,_,rfl,Nat.le_refl _,by unfold maxLen;omega,(fun h=>by cases h),fun j u hj=>⟨_,rfl,?_⟩⟩
 have e1:(Addr.add ⟨N,0,none⟩ j)=⟨N,j,none⟩:=by unfold Addr.add;split<;>simp_all
 rw [e1]
 exact H.cell i hi j hj
def hole1:CE:=⟨⟨2,[]⟩,none,0⟩
theorem ces_hole {w0 w:World} {L:List Asn} (H:Sep w0 NoF L w) (i:Nat) {N:Nat} (hi:L[i]?=some (.box N [.int .i64 2,.slice none 0 0] 28)):CEs w (some ⟨N,0,none⟩) 1 [hole1] :=
 ⟨slv_boxN H i hi (by decide),fun x hx=>by obtain rfl:=List.mem_singleton.1 hx;exact SlV.of_own (own_nil _ 0 0 0)⟩
theorem ap_hole:(apU u1 ⟨3,1,1,[]⟩).1=0:=by first | rfl | kernel_rfl
theorem even_one {r:Int} {x:Un} (hx:Fine r 1 u1 x) (hs:Sd x.d):Even r 1 0 (M1 x 0) :=
 ⟨m1_ok hx hs ⟨by decide,by decide⟩,rfl,by show ([0]:List Int).Nodup;simp,by decide,fun i y hy=>by
  have:y=x:=by
   have h1:([x]:List Un)[i]?=some y:=hy
   cases i with
   | zero=>simpa using h1.symm
   | succ i=>simp at h1
  rw [this];exact ⟨u1,hx,rfl,rfl⟩⟩
theorem take26 {r:Int} {x:Un} (hr:1000≤r) (hx:Fine r 1 u1 x) (hs:Sd x.d):takeA (M1 x 0) ⟨1,1⟩ 1 0 2 [hole1]=(0,M1 x 0,⟨1,1⟩)∧∃ M',takeA (M1 x 0) ⟨1,1⟩ 1 0 1 [hole1]=(0,M',⟨1,2⟩):=by
 have hev:=even_one hx hs
 have hp:∀ f:Int,0≤f→f≤10→pclC 1 0 f ([hole1].map (·.c))=0:=fun f h0 h1=>by
  unfold pclC
  rw [if_neg (by decide)]
  unfold segC
  rw [if_neg (by omega),if_neg (by decide),if_neg (by show ¬1048576<f+1;omega)]
  rfl
 refine ⟨?_,?_⟩
 ·unfold takeA
  rw [if_neg (by rw [hp 2 (by decide) (by decide)];decide),if_neg (by decide),if_pos (by decide)]
 ·have hn:newsS 1 [hole1] 1=[hole1]:=by
   have hi:idxB emptyC ([hole1].drop ((1:Int) - 1).toNat)=-1:=rfl
   unfold newsS
   rw [if_neg (by decide),hi,if_neg (by decide)]
   rfl
  have hput:((M1 x 0).putAt 1 ⟨2,[]⟩).1=0:=by
   obtain ⟨S,D,S',D',hxe,e,hF⟩:=hx.act (by decide) (by omega) ⟨3,1,1,[]⟩
   have hh:(M1 x 0).home 1=[0]:=by unfold Cl.home M1;simp
   have hd:(M1 x 0).do 0 ⟨3,1,1,[]⟩=(0,(apU u1 ⟨3,1,1,[]⟩).2.1,(M1 x 0).put 0 ⟨D',some S'⟩):=by
    rw [do_on (u:=0) (D:=D) (S:=S) _ (by show ([x]:List Un)[0]?=_;rw [hxe];rfl),e,ap_hole]
    rfl
   unfold Cl.putAt
   rw [if_neg (by decide),if_neg (by decide),if_neg (by decide),hh]
   have hs1:Cl.putS 1 ⟨2,[]⟩ (M1 x 0) 0=(0,(M1 x 0).put 0 ⟨D',some S'⟩):=by
    unfold Cl.putS Cl.putC
    rw [if_neg (by simp)]
    show (((M1 x 0).do 0 ⟨3,1,1,[]⟩).1,((M1 x 0).do 0 ⟨3,1,1,[]⟩).2.2)=_
    rw [hd]
   unfold Cl.spread
   have ha:allC (Cl.putS 1 ⟨2,[]⟩) [0] (M1 x 0)=(0,(M1 x 0).put 0 ⟨D',some S'⟩):=by
    unfold allC
    rw [hs1]
    simp [allC]
   rw [ha]
   rw [if_neg (by simp)]
   show ((⟨1,0⟩:Q).raise 1 (1+1)).1=0
   decide
  have hone:(oneS (M1 x 0) 1 ⟨2,[]⟩).1=0:=by
   unfold oneS
   rw [if_neg (by decide),if_pos (by rw [hput];decide)]
   exact hput
  have hmk:SL.markS (M1 x 0) (lowL 1 [⟨2,[]⟩])=(0,M1 x 0):=if_pos (hev.minLow (by show (0:Int)≤0;decide))
  have hc:cellsS (M1 x 0) 1 [⟨2,[]⟩]=(0,(oneS (M1 x 0) 1 ⟨2,[]⟩).2,2):=by
   unfold cellsS
   rw [hmk]
   simp only [ne_eq,not_true_eq_false,if_false]
   unfold onesS
   rw [if_neg (by rw [hone];decide)]
   rfl
  have hev2:=hev.one (by decide) (by omega) 1 ⟨2,[]⟩
  have hm2:SL.markS (oneS (M1 x 0) 1 ⟨2,[]⟩).2 (min 0 2)=(0,(oneS (M1 x 0) 1 ⟨2,[]⟩).2):=if_pos (hev2.minLow (by decide))
  refine ⟨(oneS (M1 x 0) 1 ⟨2,[]⟩).2,?_⟩
  unfold takeA
  rw [if_neg (by rw [hp 1 (by decide) (by decide)];decide),if_neg (by decide),if_neg (by decide)]
  simp only
  rw [hn]
  show (if (cellsS (M1 x 0) 1 [⟨2,[]⟩]).1≠0 then _ else _)=_
  rw [show ([hole1].map (·.c))=[⟨2,[]⟩] from rfl,hc]
  simp only [ne_eq,not_true_eq_false,if_false]
  rw [hm2]
set_option maxHeartbeats 16000000 in
theorem alive26_any (w:World) (hp:Pow w):Calls Tryz.prog 4 #[] w fun e w'=>e=.returned (.bool true)∧Below w.heap.size w w':=by
 have HP:=Lib.hid' hp
 obtain ⟨x1,hx1,hs1,hn1⟩:=new_one (r:=1048576) (by decide)
 have HN1:=Lib.hid' hn1
 obtain ⟨ht1,M',ht2⟩:=take26 (by decide) hx1 hs1
 have HT1:=Lib.hid' ht1
 have HT2:=Lib.hid' ht2
 have HOK:=Zh (m1_ok hx1 hs1 ⟨by decide,by decide⟩:(M1 x1 0).ok)
 clear hx1 hs1 hn1 hp ht1 ht2
 go_enter Tryz.func4, Tryz.ntmps4
 go_wp2_with fail
 obtain ⟨w0,hw0,hb0,hX⟩:=chs_one (w:=w)
 rw [hw0]
 have hL:Sep w NoF [] w0:=(Sep.start w).below hb0
 clear hw0 hb0
 have HNW:=Zh (New_any 1 1048576 _ _ _ w0 HP.out hL hX (by show ([0]:List Int).length≤_;decide))
 clear hX hL
 refine HNW.out.mono ?_
 rintro e w1 hE
 unfold NewR at hE
 rw [show newCl 1 1048576 (([([0],some ⟨w.heap.size,0,none⟩,1)]:List Ch).map (·.1))=(0,M1 x1 0) from HN1.out] at hE
 obtain ⟨c,J,rfl,h1⟩:∃ c J,e=.returned (.tuple #[ptrV c,.nilIface])∧ClAt c (M1 x1 0) J [] w w1:=by
  rcases hE with ⟨h0,_⟩ | ⟨_,h⟩
  ·exact absurd rfl h0
  ·exact h
 have H1:=Lib.hid' h1
 clear hE h1 HNW HN1
 go_wp2_with fail
 refine (anew_any 1 1 w1).mono ?_
 rintro e w2 hE
 unfold NewAp at hE
 rw [if_neg (by decide)] at hE
 obtain ⟨rfl,hs2⟩:=hE
 have H2:=Zh (H1.out.newB (A:=Asn.appl w1.heap.size ⟨1,1⟩) hs2.toBelow (hs2.at 0 rfl) (fun b hb=>by have:b=w1.heap.size:=hb;omega))
 clear hs2 H1
 generalize w1.heap.size=b at *
 go_wp2_with fail
 have h3:=(H2.out.allocB w2.heap.size [.int .i64 2,.slice none 0 0] 28 rfl).swapB
 rw [show ([.int .i64 2,.slice none 0 0]:List Value).toArray=#[.int .i64 2,.slice none 0 0] from rfl] at h3
 have H3:=Lib.hid' h3
 clear h3 H2
 generalize w2.alloc (.cells #[.int .i64 2,.slice none 0 0] 28)=w3 at *
 generalize w2.heap.size=N3 at *
 have HA:=Zh (atake_any ⟨1,1⟩ 1 0 2 [hole1] (some ⟨N3,0,none⟩) 1 w3 HP.out H3.out HOK.out (by decide) (fun M' w' h'=>ces_hole h'.side 0 rfl))
 rw [HT1.out,show pclV 1 0 2 (some ⟨N3,0,none⟩) [hole1].length 1=.agg #[.int .i64 1,.int .i64 0,.int .i64 2,.slice (some ⟨N3,0,none⟩) 1 1] from rfl] at HA
 refine HA.out.mono ?_
 clear HA
 rintro e w4 ⟨rfl,h4⟩
 rw [show rcV (0,M1 x1 0,(⟨1,1⟩:Sp))=.agg #[.int .i64 1,.int .i64 1] from rfl]
 have H4:=Lib.hid' h4
 clear h4 H3
 rw [errV_0]
 go_upto_region 6 with fail
 have h5:=((H4.out.allocB w4.heap.size [.int .i64 1,.int .i64 1] 59 rfl).swapB).allocB (w4.heap.size+1) [.int .i64 2,.slice none 0 0] 28 (by simp)
 rw [show ([.int .i64 2,.slice none 0 0]:List Value).toArray=#[.int .i64 2,.slice none 0 0] from rfl,show ([.int .i64 1,.int .i64 1]:List Value).toArray=#[.int .i64 1,.int .i64 1] from rfl] at h5
 have H5:=Lib.hid' h5.swapB
 clear h5 H4
 go_wp2_with fail
 generalize (w4.alloc (.cells #[.int .i64 1,.int .i64 1] 59)).alloc (.cells #[.int .i64 2,.slice none 0 0] 28)=w5 at *
 generalize w4.heap.size=N4 at *
 have HA:=Zh (atake_any ⟨1,1⟩ 1 0 1 [hole1] (some ⟨N4+1,0,none⟩) 1 w5 HP.out H5.out HOK.out (by decide) (fun M' w' h'=>ces_hole h'.side 0 rfl))
 rw [HT2.out,show pclV 1 0 1 (some ⟨N4+1,0,none⟩) [hole1].length 1=.agg #[.int .i64 1,.int .i64 0,.int .i64 1,.slice (some ⟨N4+1,0,none⟩) 1 1] from rfl] at HA
 refine HA.out.mono ?_
 clear HA
 rintro e w6 ⟨rfl,h6⟩
 rw [show rcV (0,M',(⟨1,2⟩:Sp))=.agg #[.int .i64 1,.int .i64 2] from rfl]
 have H6:=Lib.hid' h6
 have q1:=H6.out.side.cell 2 rfl 1 rfl;have ql:=H6.out.side.lt 2 rfl
 clear h6 H5
 rw [errV_0]
 go_wp2_with fail
 go_ret
 have HB:=H6.out.toBelow
 exact ⟨rfl,HB.trans ((show Below w6.heap.size w6 _ by go_grown).mono HB.size)⟩
theorem u64_b (n:Nat) (h:n<18446744073709551616):IntKind.u64.wrap ((n:Nat):Int)=((n:Nat):Int):=wraps_u64 _ (by omega) (by omega)
set_option maxHeartbeats 4000000 in
theorem crow_any (X:List CE) (a:Option Addr) (k:Nat) (W:World) (h:CEs W a k X) :
  Calls Tryz.prog 131 #[.slice a X.length k] W fun e w'=>e=.returned (.int .i64 (rowN (X.map (·.c)):Nat))∧Below W.heap.size W w':=by
 have HS:=Lib.hid' h
 have hlen:X.length≤9223372036854775807:=by obtain ⟨_,_,he,h1,h2,_⟩:=h.row;cases he;unfold maxLen at h2;omega
 obtain ⟨Y,hY⟩:∃ Y,Y=X.map (·.c):=⟨_,rfl⟩
 have hYl:Y.length=X.length:=by rw [hY,List.length_map]
 have HY:=Zh (fun (j:Nat) (hj:j<X.length) (hj2:j<Y.length)=>show Y[j]=X[j].c by subst hY;simp)
 rw [←hY]
 have HYL:=Lib.hid' hYl
 clear h hY hYl
 go_enter Tryz.func131, Tryz.ntmps131
 go_wp2_with fail
 go_loopw [3] (fun v3 wr=>∃ n:Nat,v3=.int .i64 n∧n≤X.length∧Hid (rowN Y=n+rowT Y (Y.drop n))∧Hid (Below W.heap.size W wr)) (fun v3 _=>X.length - (intOf v3).toNat)
 case atStart=>exact ⟨0,rfl,Nat.zero_le _,Zh (by rw [List.drop_zero,Nat.zero_add];rfl),Zh (Below.refl _ _)⟩
 case round =>
  obtain ⟨n,rfl,hn,HR,HB⟩:=hrel
  by_cases hlt:n<X.length
  ·have hx:=HS.out.below HB.out
   obtain ⟨b,off,rfl,hb,hc⟩:=SlV.row (f:=ceV) (s:=2) (fun _=>rfl) (by decide) hx.row hlt
   obtain ⟨b2,off2,he,_,hc2⟩:=SlV.row (f:=ceV) (s:=2) (fun _=>rfl) (by decide) hx.row (show 0<X.length by omega)
   cases he
   have c0:=hc 0 _ rfl
   have d0:=hc2 0 _ rfl
   simp only [Nat.add_zero,Nat.zero_mul] at c0 d0
   have HST:=Zh (fun h1 h2=>HR.out.trans (congrArg (n+·) (rowT_step (X:=Y) (n:=n) (by rw [HYL.out];exact hlt) h1 h2)))
   have HSP:=Zh (fun h1=>HR.out.trans (congrArg (n+·) (rowT_stop (X:=Y) (n:=n) (by rw [HYL.out];exact hlt) h1)))
   rw [HY.out n hlt (by rw [HYL.out];exact hlt),HY.out 0 (by omega) (by rw [HYL.out];omega)] at HST HSP
   have hd:decide ((n:Int)<(X.length:Int))=true:=by simpa using hlt
   clear hc hc2 hx HR
   generalize X[n].c.k=xk at *
   generalize X[0].c.k=yk at *
   cases hq:(xk != 1) with
   | false =>
    have HF:=Zh (HSP.out (.inl (by simpa using hq)))
    go_upto_region 2 with fail
    go_quiet (fail)
    go_wp2_with fail
    go_ret
    exact ⟨by rw [HF.out];rfl,below_drewN' HB.out _⟩
   | true =>
    cases hq2:(xk==yk) with
    | false =>
     have HF:=Zh (HSP.out (.inr (by simpa using hq2)))
     go_upto_region 2 with fail
     go_quiet (fail)
     go_wp2_with fail
     go_ret
     exact ⟨by rw [HF.out];rfl,below_drewN' HB.out _⟩
    | true =>
     have HF:=Zh (HST.out (by simpa using hq) (by simpa using hq2))
     go_upto_region 2 with fail
     go_quiet (fail)
     go_wp2_with fail
     go_roundw
     case rel=>exact ⟨n+1,by go_num,by omega,Zh (by rw [HF.out];omega),Zh (below_drewN' HB.out _)⟩
     case measure=>simp [intOf];omega
  ·have hd:decide ((n:Int)<(X.length:Int))=false:=by simpa using hlt
   have HF:=Zh (HR.out.trans (congrArg (n+·) (rowT_end (X:=Y) (n:=n) (by have:=HYL.out;omega))))
   go_upto_region 2 with fail
   go_quiet (fail)
   go_wp2_with fail
   go_ret
   exact ⟨by rw [HF.out];rfl,below_drewN' HB.out _⟩
set_option maxHeartbeats 4000000 in
theorem alike_any (l m:List UInt8) (a b:Option Addr) (c d:Nat) (W:World) (h:Bytes W (.slice a l.length c) l) (h2:Bytes W (.slice b m.length d) m) :
  Calls Tryz.prog 132 #[.slice a l.length c,.slice b m.length d] W fun e w'=>e=.returned (.int .i64 (alikeN l m:Nat))∧Below W.heap.size W w':=by
 have HL:=Lib.hid' h
 have HM:=Lib.hid' h2
 have hl1:=bytes_len h
 have hl2:=bytes_len h2
 clear h h2
 go_enter Tryz.func132, Tryz.ntmps132
 go_wp2_with fail
 go_loopw [5] (fun v5 wr=>∃ n:Nat,v5=.int .i64 n∧n≤l.length∧n≤m.length∧Hid (alikeN l m=n+alikeN (l.drop n) (m.drop n))∧Hid (Below W.heap.size W wr)) (fun v5 _=>l.length - (intOf v5).toNat)
 case atStart=>exact ⟨0,rfl,Nat.zero_le _,Nat.zero_le _,Zh (by simp),Zh (Below.refl _ _)⟩
 case round =>
  obtain ⟨n,rfl,hn,hn2,HR,HB⟩:=hrel
  by_cases hlt:n<l.length∧n<m.length
  ·obtain ⟨h1,h2⟩:=hlt
   obtain ⟨b1,o1,rfl,hb1,hc1'⟩:=bytes_at HL.out h1
   obtain ⟨b2,o2,rfl,hb2,hc2'⟩:=bytes_at HM.out h2
   have hc1:=(HB.out.cell (p:=⟨b1,o1+n,none⟩) hb1).trans hc1'
   have hc2:=(HB.out.cell (p:=⟨b2,o2+n,none⟩) hb2).trans hc2'
   have HST:=Zh (HR.out.trans (congrArg (n+·) (alikeN_step h1 h2)))
   have hd:decide ((n:Int)<min (l.length:Int) (m.length:Int))=true:=by simp;omega
   clear hc1' hc2' HR
   generalize l[n]=x at *
   generalize m[n]=y at *
   have hxy:((x.toNat:Int)==(y.toNat:Int))=(x==y):=by rw [Bool.eq_iff_iff,beq_iff_eq,beq_iff_eq];constructor;{ intro h;exact UInt8.toNat_inj.1 (by omega)};{ intro h;rw [h]}
   cases hq:(x==y) with
   | false =>
    rw [hq] at hxy
    have HF:=Zh (HST.out.trans (congrArg (n+·) (if_neg (by simpa using hq))))
    go_upto_region 2 with fail
    refine startD (S:=(fun w'=>w'.cell? ⟨b1,o1+n,none⟩=some (.int .u8 (x.toNat:Int))∧w'.cell? ⟨b2,o2+n,none⟩=some (.int .u8 (y.toNat:Int))∧b1<w'.heap.size∧b2<w'.heap.size)) (by kernel_rfl) ⟨hc1,hc2,cell_lt hc1,cell_lt hc2⟩ (fun hH0=>?_)
    simp only [List.length_cons,List.length_nil,Nat.reduceAdd,List.replicate_succ,List.replicate_zero]
    refine tD 0 6 (.int .i64 (n:Int)) rfl rfl [(5,.int .i64 (n:Int))] hH0 ?_
    dsimp only [sZ,sS]
    refine tD 1 7 (.slice (some ⟨b1,o1,none⟩) l.length c) rfl rfl [(0,.slice (some ⟨b1,o1,none⟩) l.length c)] hH0 ?_
    dsimp only [sZ,sS]
    refine tD 2 8 (.int .i64 (l.length:Int)) rfl rfl [(7,.slice (some ⟨b1,o1,none⟩) l.length c)] hH0 ?_
    dsimp only [sZ,sS]
    refine tD 3 9 (.slice (some ⟨b2,o2,none⟩) m.length d) rfl rfl [(1,.slice (some ⟨b2,o2,none⟩) m.length d)] hH0 ?_
    dsimp only [sZ,sS]
    refine tD 4 10 (.int .i64 (m.length:Int)) rfl rfl [(9,.slice (some ⟨b2,o2,none⟩) m.length d)] hH0 ?_
    dsimp only [sZ,sS]
    refine tD 5 11 (.int .i64 (min (l.length:Int) (m.length:Int))) rfl rfl [(8,.int .i64 (l.length:Int)),(10,.int .i64 (m.length:Int))] hH0 ?_
    dsimp only [sZ,sS]
    refine tD 6 12 (.bool true) rfl rfl [(6,.int .i64 (n:Int)),(11,.int .i64 (min (l.length:Int) (m.length:Int)))] hH0 ?_
    dsimp only [sZ,sS]
    refine tD 7 13 (.bool true) rfl rfl [(12,.bool true)] hH0 ?_
    dsimp only [sZ,sS]
    refine tD 8 14 (.slice (some ⟨b1,o1,none⟩) l.length c) rfl rfl [(0,.slice (some ⟨b1,o1,none⟩) l.length c)] hH0 ?_
    dsimp only [sZ,sS]
    refine tD 9 15 (.int .i64 (n:Int)) rfl rfl [(5,.int .i64 (n:Int))] hH0 ?_
    dsimp only [sZ,sS]
    refine tD 10 16 (.pointer (some ⟨b1,o1+n,none⟩)) rfl rfl [(14,.slice (some ⟨b1,o1,none⟩) l.length c),(15,.int .i64 (n:Int))] hH0 ?_
    dsimp only [sZ,sS]
    refine tE 11 17 (.int .u8 (x.toNat:Int)) rfl rfl [(16,.pointer (some ⟨b1,o1+n,none⟩))] hH0 ?_ ?_
    ·intro w hSw;obtain ⟨s1,s2,s3,s4⟩:=hSw;go_simp
    dsimp only [sZ,sS]
    refine tD 12 18 (.slice (some ⟨b2,o2,none⟩) m.length d) rfl rfl [(1,.slice (some ⟨b2,o2,none⟩) m.length d)] hH0 ?_
    dsimp only [sZ,sS]
    refine tD 13 19 (.int .i64 (n:Int)) rfl rfl [(5,.int .i64 (n:Int))] hH0 ?_
    dsimp only [sZ,sS]
    refine tD 14 20 (.pointer (some ⟨b2,o2+n,none⟩)) rfl rfl [(18,.slice (some ⟨b2,o2,none⟩) m.length d),(19,.int .i64 (n:Int))] hH0 ?_
    dsimp only [sZ,sS]
    refine tE 15 21 (.int .u8 (y.toNat:Int)) rfl rfl [(20,.pointer (some ⟨b2,o2+n,none⟩))] hH0 ?_ ?_
    ·intro w hSw;obtain ⟨s1,s2,s3,s4⟩:=hSw;go_simp
    dsimp only [sZ,sS]
    refine tD 16 22 (.bool false) rfl rfl [(17,.int .u8 (x.toNat:Int)),(21,.int .u8 (y.toNat:Int))] hH0 ?_
    dsimp only [sZ,sS]
    refine tD 17 23 (.bool false) rfl rfl [(13,.bool true),(22,.bool false)] hH0 ?_
    dsimp only [sZ,sS]
    refine wpAnyH_done (by kernel_rfl) ?_ _
    go_wp2_with fail
    go_ret
    exact ⟨by rw [HF.out];rfl,HB.out.drew⟩
   | true =>
    rw [hq] at hxy
    have HF:=Zh (HST.out.trans (congrArg (n+·) (if_pos (by simpa using hq))))
    go_upto_region 2 with fail
    refine startD (S:=(fun w'=>w'.cell? ⟨b1,o1+n,none⟩=some (.int .u8 (x.toNat:Int))∧w'.cell? ⟨b2,o2+n,none⟩=some (.int .u8 (y.toNat:Int))∧b1<w'.heap.size∧b2<w'.heap.size)) (by kernel_rfl) ⟨hc1,hc2,cell_lt hc1,cell_lt hc2⟩ (fun hH0=>?_)
    simp only [List.length_cons,List.length_nil,Nat.reduceAdd,List.replicate_succ,List.replicate_zero]
    refine tD 0 6 (.int .i64 (n:Int)) rfl rfl [(5,.int .i64 (n:Int))] hH0 ?_
    dsimp only [sZ,sS]
    refine tD 1 7 (.slice (some ⟨b1,o1,none⟩) l.length c) rfl rfl [(0,.slice (some ⟨b1,o1,none⟩) l.length c)] hH0 ?_
    dsimp only [sZ,sS]
    refine tD 2 8 (.int .i64 (l.length:Int)) rfl rfl [(7,.slice (some ⟨b1,o1,none⟩) l.length c)] hH0 ?_
    dsimp only [sZ,sS]
    refine tD 3 9 (.slice (some ⟨b2,o2,none⟩) m.length d) rfl rfl [(1,.slice (some ⟨b2,o2,none⟩) m.length d)] hH0 ?_
    dsimp only [sZ,sS]
    refine tD 4 10 (.int .i64 (m.length:Int)) rfl rfl [(9,.slice (some ⟨b2,o2,none⟩) m.length d)] hH0 ?_
    dsimp only [sZ,sS]
    refine tD 5 11 (.int .i64 (min (l.length:Int) (m.length:Int))) rfl rfl [(8,.int .i64 (l.length:Int)),(10,.int .i64 (m.length:Int))] hH0 ?_
    dsimp only [sZ,sS]
    refine tD 6 12 (.bool true) rfl rfl [(6,.int .i64 (n:Int)),(11,.int .i64 (min (l.length:Int) (m.length:Int)))] hH0 ?_
    dsimp only [sZ,sS]
    refine tD 7 13 (.bool true) rfl rfl [(12,.bool true)] hH0 ?_
    dsimp only [sZ,sS]
    refine tD 8 14 (.slice (some ⟨b1,o1,none⟩) l.length c) rfl rfl [(0,.slice (some ⟨b1,o1,none⟩) l.length c)] hH0 ?_
    dsimp only [sZ,sS]
    refine tD 9 15 (.int .i64 (n:Int)) rfl rfl [(5,.int .i64 (n:Int))] hH0 ?_
    dsimp only [sZ,sS]
    refine tD 10 16 (.pointer (some ⟨b1,o1+n,none⟩)) rfl rfl [(14,.slice (some ⟨b1,o1,none⟩) l.length c),(15,.int .i64 (n:Int))] hH0 ?_
    dsimp only [sZ,sS]
    refine tE 11 17 (.int .u8 (x.toNat:Int)) rfl rfl [(16,.pointer (some ⟨b1,o1+n,none⟩))] hH0 ?_ ?_
    ·intro w hSw;obtain ⟨s1,s2,s3,s4⟩:=hSw;go_simp
    dsimp only [sZ,sS]
    refine tD 12 18 (.slice (some ⟨b2,o2,none⟩) m.length d) rfl rfl [(1,.slice (some ⟨b2,o2,none⟩) m.length d)] hH0 ?_
    dsimp only [sZ,sS]
    refine tD 13 19 (.int .i64 (n:Int)) rfl rfl [(5,.int .i64 (n:Int))] hH0 ?_
    dsimp only [sZ,sS]
    refine tD 14 20 (.pointer (some ⟨b2,o2+n,none⟩)) rfl rfl [(18,.slice (some ⟨b2,o2,none⟩) m.length d),(19,.int .i64 (n:Int))] hH0 ?_
    dsimp only [sZ,sS]
    refine tE 15 21 (.int .u8 (y.toNat:Int)) rfl rfl [(20,.pointer (some ⟨b2,o2+n,none⟩))] hH0 ?_ ?_
    ·intro w hSw;obtain ⟨s1,s2,s3,s4⟩:=hSw;go_simp
    dsimp only [sZ,sS]
    refine tD 16 22 (.bool true) rfl rfl [(17,.int .u8 (x.toNat:Int)),(21,.int .u8 (y.toNat:Int))] hH0 ?_
    dsimp only [sZ,sS]
    refine tD 17 23 (.bool true) rfl rfl [(13,.bool true),(22,.bool true)] hH0 ?_
    dsimp only [sZ,sS]
    refine wpAnyH_done (by kernel_rfl) ?_ _
    go_wp2_with fail
    go_roundw
    case rel=>exact ⟨n+1,by go_num,by omega,by omega,Zh (by rw [HF.out];omega),Zh (HB.out.drew)⟩
    case measure=>simp [intOf];omega
  ·have hd:decide ((n:Int)<min (l.length:Int) (m.length:Int))=false:=by simp;omega
   have HF:=Zh (HR.out.trans (congrArg (n+·) (alikeN_end (by omega))))
   go_upto_region 2 with fail
   refine startD (S:=(fun _=>True)) (by kernel_rfl) trivial (fun hH0=>?_)
   simp only [List.length_cons,List.length_nil,Nat.reduceAdd,List.replicate_succ,List.replicate_zero]
   refine tD 0 6 (.int .i64 (n:Int)) rfl rfl [(5,.int .i64 (n:Int))] hH0 ?_
   dsimp only [sZ,sS]
   refine tD 1 7 (.slice a l.length c) rfl rfl [(0,.slice a l.length c)] hH0 ?_
   dsimp only [sZ,sS]
   refine tD 2 8 (.int .i64 (l.length:Int)) rfl rfl [(7,.slice a l.length c)] hH0 ?_
   dsimp only [sZ,sS]
   refine tD 3 9 (.slice b m.length d) rfl rfl [(1,.slice b m.length d)] hH0 ?_
   dsimp only [sZ,sS]
   refine tD 4 10 (.int .i64 (m.length:Int)) rfl rfl [(9,.slice b m.length d)] hH0 ?_
   dsimp only [sZ,sS]
   refine tD 5 11 (.int .i64 (min (l.length:Int) (m.length:Int))) rfl rfl [(8,.int .i64 (l.length:Int)),(10,.int .i64 (m.length:Int))] hH0 ?_
   dsimp only [sZ,sS]
   refine tD 6 12 (.bool false) rfl rfl [(6,.int .i64 (n:Int)),(11,.int .i64 (min (l.length:Int) (m.length:Int)))] hH0 ?_
   dsimp only [sZ,sS]
   refine tD 7 13 (.bool false) rfl rfl [(12,.bool false)] hH0 ?_
   dsimp only [sZ,sS]
   refine takeD (i:=8) (d:=14) (v:=undef) rfl rfl (by kernel_rfl) (by kernel_rfl) (by kernel_rfl) (fun _ _ _ h=>h) (Or.inr ⟨by kernel_rfl,rfl⟩) hH0 ?_
   dsimp only [sZ,sS]
   refine takeD (i:=9) (d:=15) (v:=undef) rfl rfl (by kernel_rfl) (by kernel_rfl) (by kernel_rfl) (fun _ _ _ h=>h) (Or.inr ⟨by kernel_rfl,rfl⟩) hH0 ?_
   dsimp only [sZ,sS]
   refine takeD (i:=10) (d:=16) (v:=undef) rfl rfl (by kernel_rfl) (by kernel_rfl) (by kernel_rfl) (fun _ _ _ h=>h) (Or.inr ⟨by kernel_rfl,rfl⟩) hH0 ?_
   dsimp only [sZ,sS]
   refine takeD (i:=11) (d:=17) (v:=undef) rfl rfl (by kernel_rfl) (by kernel_rfl) (by kernel_rfl) (fun _ _ _ h=>h) (Or.inr ⟨by kernel_rfl,rfl⟩) hH0 ?_
   dsimp only [sZ,sS]
   refine takeD (i:=12) (d:=18) (v:=undef) rfl rfl (by kernel_rfl) (by kernel_rfl) (by kernel_rfl) (fun _ _ _ h=>h) (Or.inr ⟨by kernel_rfl,rfl⟩) hH0 ?_
   dsimp only [sZ,sS]
   refine takeD (i:=13) (d:=19) (v:=undef) rfl rfl (by kernel_rfl) (by kernel_rfl) (by kernel_rfl) (fun _ _ _ h=>h) (Or.inr ⟨by kernel_rfl,rfl⟩) hH0 ?_
   dsimp only [sZ,sS]
   refine takeD (i:=14) (d:=20) (v:=undef) rfl rfl (by kernel_rfl) (by kernel_rfl) (by kernel_rfl) (fun _ _ _ h=>h) (Or.inr ⟨by kernel_rfl,rfl⟩) hH0 ?_
   dsimp only [sZ,sS]
   refine takeD (i:=15) (d:=21) (v:=undef) rfl rfl (by kernel_rfl) (by kernel_rfl) (by kernel_rfl) (fun _ _ _ h=>h) (Or.inr ⟨by kernel_rfl,rfl⟩) hH0 ?_
   dsimp only [sZ,sS]
   refine takeD (i:=16) (d:=22) (v:=undef) rfl rfl (by kernel_rfl) (by kernel_rfl) (by kernel_rfl) (fun _ _ _ h=>h) (Or.inr ⟨by kernel_rfl,rfl⟩) hH0 ?_
   dsimp only [sZ,sS]
   refine tD 17 23 (.bool false) rfl rfl [(13,.bool false),(22,undef)] hH0 ?_
   dsimp only [sZ,sS]
   refine wpAnyH_done (by kernel_rfl) ?_ _
   go_wp2_with fail
   go_ret
   exact ⟨by rw [HF.out];rfl,HB.out.drew⟩
theorem bytes_cut {w:World} {a:Option Addr} {c k:Nat} {l:List UInt8} (h:Bytes w (.slice a l.length c) l) (hk:k≤l.length):Bytes w (.slice (if c=k then a else Option.map (fun x=>x.add k) a) (l.length - k) (c - k)) (l.drop k):=by
 have hcap:l.length≤c:=by obtain ⟨_,_,he,h1,_⟩:=h;cases he;exact h1
 have hnn:a=none→c=0:=by obtain ⟨_,_,he,_,_,h0,_⟩:=h;cases he;exact h0
 rw [show l.length - k=(l.drop k).length by rw [List.length_drop]]
 by_cases hck:c=k
 ·rw [if_pos hck]
  exact bytes_sub h hk a (.inr (by omega)) (fun _=>hck)
 ·rw [if_neg hck]
  by_cases hlk:l.length=k
  ·refine bytes_sub h hk _ (.inr hlk) (fun h0=>?_)
   cases a with
   | none=>exact absurd (hnn rfl) (by omega)
   | some p=>cases h0
  ·obtain ⟨b,off,rfl,_⟩:=bytes_at h (k:=k) (by omega)
   exact bytes_sub h hk _ (.inl ⟨b,off,rfl,by show some (Addr.add ⟨b,off,none⟩ k)=_;rw [Addr.add_lit]⟩) (by simp)
theorem CEs.cut {w:World} {b off:Nat} {k j:Nat} {X:List CE} (h:CEs w (some ⟨b,off,none⟩) k X) (hj:j≤X.length):CEs w (if k=j then some ⟨b,off,none⟩ else some ⟨b,off+j*2,none⟩) (k - j) (X.drop j):=by
 have hcap:X.length≤k∧k≤maxLen:=by obtain ⟨_,_,he,h1,h2,_⟩:=h.row;cases he;exact ⟨h1,h2⟩
 by_cases hk:k=j
 ·rw [if_pos hk,List.drop_eq_nil_of_le (by omega)]
  exact ⟨SlV.empty w _ _ (by omega) (by simp),by simp⟩
 ·rw [if_neg hk]
  exact h.drop hj
theorem slv_boxU {w0 w:World} {F:Nat→Prop} {L:List Asn} (H:Sep w0 F L w) (i:Nat) {N t n:Nat} {R:List Value} (hi:L[i]?=some (.box N R t)) (hl:n≤1000):SlV w (.slice (some ⟨N,0,none⟩) n n) n R:=by
 refine ⟨_,_,rfl,Nat.le_refl _,by unfold maxLen;omega,(fun h=>by cases h),fun j u hj=>⟨_,rfl,?_⟩⟩
 rw [Addr.add_lit,Nat.zero_add]
 exact H.cell i hi j hj
def sliceN:Value→Nat
 | .slice _ n _=>n
 | _=>0
theorem CellOk.check {x:C} (h:CellOk x):x.check=0:=by
 obtain ⟨h0,h1,h2,h3⟩:=h
 unfold C.check
 rw [if_neg (by omega),if_neg (by omega),if_neg]
 rintro ⟨h4,h5⟩
 rw [h3 h5] at h4
 simp at h4
set_option maxHeartbeats 16000000 in
theorem cputRun_any (bb:List UInt8) (ba:Option Addr) (bc:Nat) (X:List CE) (a:Option Addr) (k:Nat) (W:World) (hb:Bytes W (.slice ba bb.length bc) bb) (h:CEs W a k X) (hn:X.length≤64) (hok:∀ x∈X,CellOk x.c) (hbl:bb.length≤1000) (T:List UInt8) (hT:T=bb++vbs [X.length]++runB [] (X.map (·.c))) :
  Calls Tryz.prog 97 #[.slice ba bb.length bc,.slice a X.length k] W fun en w'=>∃ (a':Option Addr) (c':Nat),en=.returned (.tuple #[.slice a' T.length c',.nilIface])∧w'.ownsRow W.heap.size 5 1 (.slice a' T.length c') T.length (byteVs T)∧Below W.heap.size W w':=by
 have HBB:=Lib.hid' hb
 have HX:=Lib.hid' h
 have HOK:=Lib.hid' hok
 have hTl:T.length≤8000:=by
  have h1:=runB_len 64 (X.map (·.c)) [] (by rw [List.length_map];exact hn) (by omega) (fun y hy=>by obtain ⟨x,hx,rfl⟩:=List.mem_map.1 hy;exact hok x hx)
  have h2:=vbs_len (l:=[X.length]) (by simp;omega)
  rw [hT,List.length_append,List.length_append]
  simp only [List.length_cons,List.length_nil] at h2
  omega
 have HT:=Lib.hid' hT
 have u0:=u64_b X.length (by omega)
 clear hb h hok hT
 go_enter Tryz.func97, Tryz.ntmps97
 go_wp2_with fail
 go_loopw [20] (fun v20 wr=>∃ j:Nat,v20=.int .i64 j∧j≤X.length∧Hid (Below W.heap.size W wr)) (fun v20 _=>X.length - (intOf v20).toNat)
 case atStart=>exact ⟨0,rfl,Nat.zero_le _,Zh (Below.refl _ _)⟩
 case round =>
  obtain ⟨j,rfl,hj,HB⟩:=hrel
  by_cases hlt:j<X.length
  ·have HXr:=HX.out.below HB.out
   obtain ⟨b,off,rfl,hb,hc⟩:=SlV.row (f:=ceV) (s:=2) (fun _=>rfl) (by decide) HXr.row hlt
   have c0:=hc 0 _ rfl;have c1:=hc 1 _ rfl
   simp only [Nat.add_zero] at c0
   have hbe:=HXr.each _ (List.getElem_mem hlt)
   have HCK0:=Zh (HOK.out _ (List.getElem_mem hlt)).check
   clear hc HXr
   generalize X[j]=x at *
   obtain ⟨⟨xk,xd⟩,xa,xc⟩:=x
   simp only at c0 c1 hbe HCK0
   go_upto_region 6 with fail
   have hs:=((Sep.start wr).allocAt wr.heap.size [.int .i64 xk,.slice xa xd.length xc] 28 rfl)
   rw [show ([.int .i64 xk,.slice xa xd.length xc]:List Value).toArray=#[.int .i64 xk,.slice xa xd.length xc] from rfl] at hs
   have HBE:=Zh (SlV.below hbe (Nat.le_refl _) hs.toBelow)
   have HS:=Lib.hid' hs
   have HBS:=Zh (HB.out.trans (hs.toBelow.mono HB.out.size))
   clear hs hbe c0 c1 hb HB
   generalize wr.alloc (.cells #[.int .i64 xk,.slice xa xd.length xc] 28)=w3 at *
   generalize wr.heap.size=N3 at *
   have p0:=HS.out.cell 0 rfl 0 rfl;have p1:=HS.out.cell 0 rfl 1 rfl;have pl:=HS.out.lt 0 rfl
   have HCK:=check_any (.agg #[.int .i64 xk,.slice xa xd.length xc]) ⟨xk,xd⟩ w3 ⟨xa,xc,rfl,HBE.out⟩
   rw [HCK0.out] at HCK
   have HCK:=Lib.hid' HCK
   go_wp2_with fail
   refine HCK.out.mono ?_
   clear HCK p0 p1 pl
   rintro en w4 ⟨rfl,hb4⟩
   have HB4:=Zh (HBS.out.trans (hb4.mono HBS.out.size))
   clear hb4
   rw [errV_0]
   go_wp2_with fail
   go_roundw
   case rel=>exact ⟨j+1,by go_num,by omega,HB4⟩
   case measure=>simp [intOf];omega
  ·go_wp2_with fail
   refine (vPut_any bb ba bc [X.length] (some ⟨wr.heap.size,0,none⟩) 1 _ (SlV.below HBB.out (Nat.le_refl _) (HB.out.alloc HB.out.size _)) (SlV.new wr (uVs [X.length]) 1 172 (by decide)) (by simp;omega) (by omega) (by simp)).mono ?_
   rintro e w3 ⟨ra,rc,rfl,ho3,hb3⟩
   have H3:=Zh (show Sep W NoF [.row 5 1 (.slice ra (bb++vbs [X.length]).length rc) (bb++vbs [X.length]).length (byteVs (bb++vbs [X.length]))] w3 from (((Sep.start W).below HB.out).allocX _).belowRow hb3 ho3)
   clear ho3 hb3 HB
   go_wp2_with fail
   go_loopw [1,9,10] (fun v1 v9 v10 wr=>∃ (Y:List CE) (ya:Option Addr) (yk:Nat) (P:List UInt8) (a':Option Addr) (c':Nat) (last:List UInt8) (la:Option Addr) (lc:Nat),v1=.slice ya Y.length yk∧v9=.slice a' P.length c'∧v10=.slice la last.length lc∧Y.length≤64∧Hid (CEs W ya yk Y)∧Hid (∀ x∈Y,CellOk x.c)∧Hid (Bytes W (.slice la last.length lc) last)∧Hid (P++runB last (Y.map (·.c))=T)∧Hid (Sep W NoF [.row 5 1 (.slice a' P.length c') P.length (byteVs P)] wr)) (fun v1 _ _ _=>sliceN v1)
   case atStart=>exact ⟨X,a,k,bb++vbs [X.length],ra,rc,[],none,0,rfl,by rw [List.length_append],rfl,hn,HX,HOK,Zh (bytes_nil W),Lib.hid' HT.out.symm,H3⟩
   case round =>
    clear H3 HT HX HOK HBB u0 hlt hj hn hbl
    obtain ⟨Y,ya,yk,P,a',c',last,la,lc,rfl,rfl,rfl,hY64,HY,HYK,HLA,HTT,HS⟩:=hrel
    have hPl:P.length≤8000:=by have:=congrArg List.length HTT.out;rw [List.length_append] at this;omega
    by_cases hlt:0<Y.length
    ·obtain ⟨b,off,rfl,_,_⟩:=SlV.row (f:=ceV) (s:=2) (fun _=>rfl) (by decide) HY.out.row hlt
     have HRW:=Zh (crow_any Y (some ⟨b,off,none⟩) yk wr (HY.out.below HS.out.toBelow))
     go_wp2_with fail
     refine HRW.out.mono ?_
     clear HRW
     rintro en w2 ⟨rfl,hb2⟩
     have HS2:=Zh (HS.out.below hb2)
     clear hb2 HS
     have hx2:=HY.out.below HS2.out.toBelow
     obtain ⟨b2,off2,he,hb,hc⟩:=SlV.row (f:=ceV) (s:=2) (fun _=>rfl) (by decide) hx2.row hlt
     cases he
     have c0:=hc 0 _ rfl;have c1:=hc 1 _ rfl
     simp only [Nat.zero_mul,Nat.add_zero] at c0 c1
     have HBE:=Zh (HY.out.each _ (List.getElem_mem hlt))
     have HOX:=Zh (HYK.out _ (List.getElem_mem hlt))
     have hYE:Y.map (·.c)=Y[0].c::(Y.drop 1).map (·.c):=by
      have:=List.drop_eq_getElem_cons hlt
      rw [List.drop_zero] at this
      conv=>lhs;rw [this]
      rfl
     have HYE:=Lib.hid' hYE
     have hrl:rowN (Y.map (·.c))≤Y.length:=by have:=rowN_le (Y.map (·.c));rwa [List.length_map] at this
     have HCT:=Zh (fun (j:Nat) (hj:j≤Y.length)=>(HY.out).cut hj)
     clear hc hx2 hYE
     generalize Y[0]=x at *
     obtain ⟨⟨xk,d⟩,da,dc⟩:=x
     simp only at c0 c1
     obtain ⟨q0,q1,q2,q3⟩:=HOX.out
     simp only at q0 q1 q2 q3
     by_cases hk1:xk=1
     ·have hr0:rowN (Y.map (·.c))=0:=by rw [HYE.out];exact rowN_data hk1
      rw [hr0]
      obtain ⟨ya2,hya2⟩:∃ p,(if yk=1 then some (⟨b,off,none⟩:Addr) else some ⟨b,off+2,none⟩)=p:=⟨_,rfl⟩
      have hct:=HCT.out 1 hlt
      rw [Nat.one_mul,hya2] at hct
      have HCT1:=Lib.hid' hct
      have HTD:=Zh (show (P++dataB last d)++runB d ((Y.drop 1).map (·.c))=T by rw [←HTT.out,HYE.out,runB_data hk1,List.append_assoc])
      have HALI:=Zh (fun wq (hq:Below W.heap.size W wq)=>alike_any last d la da lc dc wq (SlV.below HLA.out (Nat.le_refl _) hq) (SlV.below HBE.out (Nat.le_refl _) hq))
      have hsl:=(alikeN_le last d).2
      have HDB:=Zh (show dataB last d=vbs [0,d.length,alikeN last d]++d.drop (alikeN last d) from rfl)
      clear hct HTT HCT hr0 hk1 q3
      generalize alikeN last d=s at *
      go_wp2_with fail
      refine (HALI.out _ HS2.out.toBelow).mono ?_
      clear HALI
      rintro en w4 ⟨rfl,hb4⟩
      have HS4:=Zh (HS2.out.below hb4)
      clear hb4 HS2 c0 c1 hb
      obtain ⟨da2,hda2⟩:∃ p,(if dc=s then da else Option.map (fun x=>x.add s) da)=p:=⟨_,rfl⟩
      have hbc:=bytes_cut HBE.out hsl
      rw [hda2] at hbc
      have HBC:=Lib.hid' hbc
      have u1:=u64_b d.length (by omega)
      have u2:=u64_b s (by omega)
      clear hbc
      go_upto_region 19 with fail
      refine startD (S:=(fun _=>True)) (by kernel_rfl) trivial (fun hH0=>?_)
      simp only [List.length_cons,List.length_nil,Nat.reduceAdd,List.replicate_succ,List.replicate_zero]
      refine tD 0 63 (.slice a' P.length c') rfl rfl [(9,.slice a' P.length c')] hH0 ?_
      dsimp only [sZ,sS]
      refine tD 1 64 (.slice da d.length dc) rfl rfl [(12,.slice da d.length dc)] hH0 ?_
      dsimp only [sZ,sS]
      refine tD 2 65 (.int .i64 (d.length:Int)) rfl rfl [(64,.slice da d.length dc)] hH0 ?_
      dsimp only [sZ,sS]
      refine tD 3 66 (.int .u64 (d.length:Int)) rfl rfl [(65,.int .i64 (d.length:Int))] hH0 ?_
      dsimp only [sZ,sS]
      refine tD 4 67 (.int .i64 (s:Int)) rfl rfl [(13,.int .i64 (s:Int))] hH0 ?_
      dsimp only [sZ,sS]
      refine tD 5 68 (.int .u64 (s:Int)) rfl rfl [(67,.int .i64 (s:Int))] hH0 ?_
      dsimp only [sZ,sS]
      refine tD 8 71 (.slice da d.length dc) rfl rfl [(12,.slice da d.length dc)] hH0 ?_
      dsimp only [sZ,sS]
      refine tD 9 72 (.int .i64 (s:Int)) rfl rfl [(13,.int .i64 (s:Int))] hH0 ?_
      dsimp only [sZ,sS]
      refine tD 10 73 (.slice da2 (d.length - s) (dc - s)) rfl rfl [(71,.slice da d.length dc),(72,.int .i64 (s:Int))] hH0 ?_
      dsimp only [sZ,sS]
      refine rD 6 rfl (fun K hK=>?_)
      go_simp
      have HA:=((HS4.out.drew).allocAt w4.heap.size [.int .u64 0,.int .u64 (d.length:Int),.int .u64 (s:Int)] 172 rfl)
      refine hK.out _ _ ?_ (fun hH1=>?_)
      ·trivial
      clear hK K
      try simp only [Act.put,gA,gZ,gS,sA,sZ,sS]
      refine rD 7 rfl (fun K hK=>?_)
      go_simp
      refine (vPut_any P a' c' [0,d.length,s] (some ⟨w4.heap.size,0,none⟩) 3 _ (SlV.of_own (HA.row 1 rfl)) (slv_boxU (n:=3) HA 0 rfl (by decide)) (by simp;omega) (by omega) (by simp)).mono ?_
      rintro e w6 ⟨a6,c6,rfl,ho6,hb6⟩
      have HC6:=((HA.drop 0).drop 0).belowRow hb6 ho6
      clear ho6 hb6 HA
      rw [List.length_append]
      refine hK.out _ _ ?_ (fun hH2=>?_)
      ·trivial
      clear hK K
      try simp only [Act.put,gA,gZ,gS,sA,sZ,sS]
      refine rD 11 rfl (fun K hK=>?_)
      refine Sep.appendSlStep etBytes rfl (.tmp 70) (.tmp 73) rfl HC6 0 rfl (by rw [List.length_append];rfl) (d.length - s) (byteVs (d.drop s)) _ rfl (by have h:SlV w6 (.slice da2 (d.length - s) (dc - s)) (d.drop s).length (byteVs (d.drop s)):=SlV.below HBC.out (Nat.le_refl _) HC6.toBelow;rw [List.length_drop] at h;exact h) (by simp [byteVs]) (byteVs_one _) (by rw [List.length_append];have:=vbs_len (l:=[0,d.length,s]) (by simp;omega);simp at this;omega) ?_
      intro a5 c5 w5 hs5
      rw [List.length_append] at hs5 ⊢
      refine hK.out _ _ ?_ (fun hH3=>?_)
      ·trivial
      clear hK K
      try simp only [Act.put,gA,gZ,gS,sA,sZ,sS]
      refine tD 12 9 (.slice a5 (P.length+(vbs [0,d.length,s]).length+(d.length - s)) c5) rfl rfl [(74,.slice a5 (P.length+(vbs [0,d.length,s]).length+(d.length - s)) c5)] hH3 ?_
      dsimp only [sZ,sS]
      refine wpAnyH_done (by kernel_rfl) ?_ _
      have hal:(P++dataB last d).length=P.length+(vbs [0,d.length,s]).length+(d.length - s):=by rw [HDB.out,List.length_append,List.length_append,List.length_drop,Nat.add_assoc]
      have HS5:=Zh (show Sep W NoF [.row 5 1 (.slice a5 (P++dataB last d).length c5) (P++dataB last d).length (byteVs (P++dataB last d))] w5 by
       rw [hal,HDB.out,←List.append_assoc,byteVs_append (P++_)]
       exact hs5)
      clear hs5 hda2 u1 u2
      go_upto_region 20 with fail
      go_quiet (fail)
      go_wp2_with fail
      go_roundw
      case rel=>exact ⟨Y.drop 1,ya2,yk - 1,P++dataB last d,a5,c5,d,da,dc,by rw [List.length_drop],by rw [hal],rfl,by rw [List.length_drop];omega,HCT1,Zh (fun y hy=>HYK.out y (List.mem_of_mem_drop hy)),HBE,HTD,Zh (HS5.out.below (below_drewN' (Below.refl _ _) _))⟩
      case measure=>simp [sliceN];omega
     ·have hr0:0<rowN (Y.map (·.c)):=by rw [HYE.out];exact rowN_pos hk1
      have HRB:=Zh (show runB last (Y.map (·.c))=rowB (rowN (Y.map (·.c))) xk++runB last ((Y.map (·.c)).drop (rowN (Y.map (·.c)))) by conv=>lhs;rw [HYE.out,runB_row hk1,←HYE.out])
      generalize rowN (Y.map (·.c))=n at *
      have HTD:=Zh (show (P++rowB n xk)++runB last ((Y.drop n).map (·.c))=T by rw [←HTT.out,HRB.out,List.append_assoc,List.map_drop])
      obtain ⟨ya2,hya2⟩:∃ p,(if yk=n then some (⟨b,off,none⟩:Addr) else some ⟨b,off+n*2,none⟩)=p:=⟨_,rfl⟩
      have hct:=HCT.out n hrl
      rw [hya2] at hct
      have HCT1:=Lib.hid' hct
      obtain ⟨kk,rfl⟩:∃ m:Nat,xk=m:=⟨xk.toNat,by omega⟩
      have u1:=u64_b n (by omega)
      have u2:=u64_b kk (by omega)
      have hn0:(0:Int)<n:=by omega
      clear hct HTT HCT HRB hk1 q3 HBE HYE hr0
      go_wp2_with fail
      refine (vPut_any P a' c' [n,kk] (some ⟨w2.heap.size,0,none⟩) 2 _ (SlV.of_own ((HS2.out.allocX _).row 0 rfl)) (SlV.new w2 (uVs [n,kk]) 2 172 (by decide)) (by simp;omega) (by omega) (by simp)).mono ?_
      rintro e w5 ⟨a5,c5,rfl,ho5,hb5⟩
      have HS5:=Zh (show Sep W NoF [.row 5 1 (.slice a5 (P++rowB n kk).length c5) (P++rowB n kk).length (byteVs (P++rowB n kk))] w5 from (((HS2.out.drop 0).allocX _)).belowRow hb5 ho5)
      clear ho5 hb5 HS2 c0 c1 hb u1 u2
      go_wp2_with fail
      go_roundw
      case rel=>exact ⟨Y.drop n,ya2,yk - n,P++rowB n kk,a5,c5,last,la,lc,by rw [List.length_drop],by rw [List.length_append];rfl,rfl,by rw [List.length_drop];omega,HCT1,Zh (fun y hy=>HYK.out y (List.mem_of_mem_drop hy)),HLA,HTD,HS5⟩
      case measure=>simp [sliceN];omega
    ·have hY0:Y=[]:=List.eq_nil_of_length_eq_zero (by omega)
     have HF:=Zh (show P=T by rw [←HTT.out,hY0];show P=P++runB last [];rw [runB_nil,List.append_nil])
     go_wp2_with fail
     go_ret2
     rw [←HF.out]
     exact ⟨a',c',rfl,HS.out.own 0 rfl,HS.out.toBelow⟩
end SL
end Go.Proofs.YtaodldbgikiekaaGreatDoor
