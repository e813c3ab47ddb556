/- Proved here: a part of the proof (34 of 37). -/
import Derived.Test.YtimbeeiihbmofaaGreatDoorW30
import Derived.Test.YtimbeeiihbmofaaGreatDoorW28
set_option linter.unusedSimpArgs false
set_option linter.unusedVariables false
set_option maxRecDepth 100000
namespace Go.Proofs.YtimbeeiihbmofaaGreatDoor
namespace SL
open DK SH SQ
theorem Is.fill {r:Int} {k:Nat} {c:Cl} {m:M} (h:Is r k c m) (hk:k<512) (hr:((200*k+200:Nat):Int)≤r) (a:Int):∃ c',c.fill a=((m.fil a).1,c')∧Is r (k+1) c' (m.fil a).2:=by
 have hst:=h.mono (Nat.le_succ k)
 unfold Cl.fill M.fil
 have hi:inB a 1048575=inR a 1048575:=rfl
 rw [hi]
 cases hq:inR a 1048575 with
 | false=>exact ⟨c,by simp,by simpa using hst⟩
 | true =>
  have ⟨h0,h1⟩:=inB_iff.1 (hi.trans hq)
  obtain ⟨u,rs,hh⟩:=home_ne h.mid.ok h0
  have hum:u∈c.home a:=by rw [hh];exact List.mem_cons_self
  have hrg:=h.home hum
  obtain ⟨s1,s2,s3,s4⟩:=shD_at (k:=k) (m:=m) hrg.1 hum
  have hrd:=h.mid.read hrg h0 h1
  rw [s2,s3] at hrd
  simp only [Bool.not_true,Bool.false_eq_true,if_false,reduceCtorEq,hh]
  unfold fillTo
  rw [hrd]
  simp only [ne_eq,not_true_eq_false,if_false]
  by_cases h3:(m.u.at a).k=3
  ·rw [if_pos h3,if_pos h3];exact ⟨c,rfl,hst⟩
  rw [if_neg h3,if_neg h3]
  by_cases hk1:(m.u.at a).k=1
  ·rw [if_neg (by simpa using hk1),if_pos hk1]
   -- the rest of the home has it, too
   have hx:(m.u.at a).k=1∧(m.u.at a).d.length≤64∨m.u.at a=⟨2,[]⟩:=by
    rcases at_kind h.ok.u a with h | h | h
    ·omega
    ·omega
    ·exact .inl ⟨hk1,h.2⟩
   have hz:putZ (m.u.at a) (m.u.at a)=0:=putZ_zero.2 ⟨h3,.inr rfl⟩
   have hnd:=home_nodup h.nd a
   rw [hh] at hnd
   obtain ⟨p1,_⟩:=h.mid.puts (l:=rs) (List.nodup_cons.1 hnd).2 (fun v hv=>h.home (by rw [hh];exact List.mem_cons_of_mem _ hv)) hk hr h0 h1 hx (y:=m.u.at a) (fun v hv=>by
    have hvm:v∈c.home a:=by rw [hh];exact List.mem_cons_of_mem _ hv
    obtain ⟨s1,s2,s3,s4⟩:=shD_at (k:=k) (m:=m) (h.home hvm).1 hvm
    exact ⟨by omega,s2,s3⟩)
   obtain ⟨s',e,hs⟩:=p1 hz
   have hse:s'.q.e=s'.p.e:=by rw [hs.stay.q,hs.stay.p];exact h.qe
   have hsp:c.spread rs a (m.u.at a)=(0,{ s' with q:=⟨s'.q.e,max s'.q.n (a+1)⟩}):=by
    unfold Cl.spread
    rw [e,if_neg (by simp),raise_eq hse ⟨by omega,by omega⟩]
   rw [hsp]
   simp only [ne_eq,not_true_eq_false,if_false]
   refine ⟨_,rfl,?_⟩
   have hput:=put_same h.ok.u h3 (by omega)
   refine hs.is (Q.ok_raise hs.ok.seq ⟨by omega,by omega⟩) (by show s'.q.e=_;rw [hs.stay.q];exact h.qe) ⟨h.e.1,by have:=h.e.2;omega⟩ h.nd ?_ ?_ (fun i=>?_)
   ·show max s'.q.n (a+1)=max m.t (a+1)
    rw [hs.stay.q,h.tail]
   ·exact M.ok_put h.ok (by unfold inR;simp [h0,h1]) h3 (by
     rcases hx with hx | hx
     ·exact ⟨.inl hx.1,hx.2⟩
     ·rw [hx];exact ⟨.inr ⟨rfl,rfl⟩,by simp⟩)
   ·have hm:(m.put' a (m.u.at a)).u=m.u:=by
     show ({ m.u with cells:=putC m.u.cells a (m.u.at a)}:U)=m.u
     rw [hput]
    have hsame:∀ k',shD c k' (m.put' a (m.u.at a)) i=shD c k' m i:=by
     intro k'
     unfold shD
     rw [hm]
    rw [hsame]
    have hk2:(shD c k m i).k=k:=by unfold shD;split<;>rfl
    have he2:(shD c (k+1) m i).e=(shD c k m i).e∧(shD c (k+1) m i).l=(shD c k m i).l∧(shD c (k+1) m i).f=(shD c k m i).f:=by
     unfold shD;split<;>exact ⟨rfl,rfl,rfl⟩
    by_cases hi:(i:Int)∈rs
    ·simp only [if_pos hi]
     have him:(i:Int)∈c.home a:=by rw [hh];exact List.mem_cons_of_mem _ hi
     have:=shD_at (k:=k) (m:=m) (u:=(i:Int)) (by omega) him
     rw [Int.toNat_natCast] at this
     rw [upC_same this.2.2.1,he2.1,he2.2.1,he2.2.2]
     exact ⟨by omega,rfl,rfl,fun _=>rfl⟩
    ·simp only [if_neg hi]
     rw [he2.1,he2.2.1,he2.2.2]
     exact ⟨by omega,rfl,rfl,fun _=>rfl⟩
  ·rw [if_pos (by simpa using hk1),if_neg hk1]
   have hz:putZ (m.u.at a) ⟨2,[]⟩=0:=by
    refine putZ_zero.2 ⟨h3,?_⟩
    rcases at_kind h.ok.u a with h | h | h
    ·omega
    ·exact .inl h.1
    ·right
     rcases h.1 with h | h
     ·omega
     ·obtain ⟨q,p⟩:=h
      generalize m.u.at a=y at *
      obtain ⟨yk,yd⟩:=y
      simp only at q p
      rw [q,p]
   obtain ⟨c',e,hc'⟩:=(h.spread hk hr h0 h1 (x:=⟨2,[]⟩) (.inr rfl)).1 hz
   rw [hh] at e
   exact ⟨c',e,hc'⟩
theorem Is.append {r:Int} {k:Nat} {c:Cl} {m:M} (h:Is r k c m) (hk:k<512) (hr:((200*k+200:Nat):Int)≤r) (d:List UInt8):∃ c',c.append d=((m.app d).1,(m.app d).2.1,c')∧Is r (k+1) c' (m.app d).2.2:=by
 have hst:=h.mono (Nat.le_succ k)
 unfold Cl.append M.app
 by_cases hd:64<d.length
 ·rw [if_pos hd,if_pos hd];exact ⟨c,rfl,hst⟩
 rw [if_neg hd,if_neg hd]
 have hqn:=h.mid.ok.seq.n
 obtain ⟨fu,hfu⟩:∃ f,c.fuel=f+1:=⟨c.fuel - 1,by unfold Cl.fuel;omega⟩
 rw [hfu]
 show ∃ c',(if (c.try d).1=true then c.try d |>.2.2.2.appendF d fu else (c.try d).2)=_∧_
 by_cases ht:1048576≤m.t
 ·rw [if_pos ht]
  have e1:c.q.take c.p.e 1=(5,0,c.q):=by
   unfold Q.take Q.asks
   rw [h.qe]
   simp only [show (decide ((1:Int)≤1)&&decide ((1:Int)≤64))=true from by decide,Bool.true_eq_false,if_false,Int.lt_irrefl,ne_eq,not_true_eq_false]
   rw [if_pos (by rw [h.tail];omega)]
  rw [try_seq e1 (by decide)]
  exact ⟨c,rfl,hst⟩
 rw [if_neg ht]
 have e1:c.q.take c.p.e 1=(0,m.t,⟨c.q.e,m.t+1⟩):=by
  unfold Q.take Q.asks
  rw [h.qe]
  simp only [show (decide ((1:Int)≤1)&&decide ((1:Int)≤64))=true from by decide,Bool.true_eq_false,if_false,Int.lt_irrefl,ne_eq,not_true_eq_false]
  rw [if_neg (by rw [h.tail];omega),h.tail]
 have hl:=h.ok.lt
 have hl0:=h.ok.u.l0
 have h0:0≤m.t:=by omega
 have h1:m.t≤1048575:=by omega
 have hq2:(⟨c.q.e,m.t+1⟩:Q).ok:=⟨h.mid.ok.seq.e,by show 0≤m.t+1∧m.t+1≤1048576;omega⟩
 obtain ⟨u,rs,hh⟩:=home_ne h.mid.ok h0
 have hnd:=home_nodup h.nd m.t
 have hat:=M.at_tail h.ok
 -- each unit of the home writes it
 have hm0:=h.mid.q hq2
 have hall:∃ s',allC (Cl.write ⟨2,c.p.e,m.t,d⟩) (c.home m.t) { c with q:=⟨c.q.e,m.t+1⟩}=(0,s')∧Mid r { c with q:=⟨c.q.e,m.t+1⟩} s' (fun i=>if (i:Int)∈c.home m.t then ⟨(shD c k m i).k+1,(shD c k m i).e,(shD c k m i).l,upC (shD c k m i).f m.t ⟨1,d⟩⟩ else shD c k m i):=by
  refine Mid.all (B:=fun i=>⟨(shD c k m i).k+1,(shD c k m i).e,(shD c k m i).l,upC (shD c k m i).f m.t ⟨1,d⟩⟩) hnd (fun v hv=>(h.home hv).1) (fun s D' v hv hs hD=>?_) hm0
  have hrg:=h.home hv
  obtain ⟨s1,s2,s3,s4⟩:=shD_at (k:=k) (m:=m) hrg.1 hv
  obtain ⟨w,hw,q1,q2,q3⟩:=hs.act (u:=v) hrg (by rw [hD];omega) (by rw [hD];omega) ⟨2,c.p.e,m.t,d⟩
  rw [hD,s2] at hw
  obtain ⟨w',e2,hw'⟩:=hw.write h0 h1 (d:=d) (by omega)
  rw [s3,hat] at e2 hw'
  simp only [show ¬((0:Int)=3) by decide,if_false,if_true] at e2 hw'
  rw [e2] at q1 q3
  simp only [if_true] at q3
  refine ⟨_,Prod.ext q1 rfl,q3 _ (by rw [hD];exact Nat.le_refl _) ?_⟩
  rw [s2]
  exact hw'
 obtain ⟨s',e2,hs'⟩:=hall
 rw [hh] at e2
 have e3:(Cl.write ⟨2,c.p.e,m.t,d⟩ { c with q:=⟨c.q.e,m.t+1⟩} u).1=0∧allC (Cl.write ⟨2,c.p.e,m.t,d⟩) rs (Cl.write ⟨2,c.p.e,m.t,d⟩ { c with q:=⟨c.q.e,m.t+1⟩} u).2=(0,s'):=by
  unfold allC at e2
  split at e2
  ·rename_i hz
   exact absurd (congrArg Prod.fst e2) hz
  ·rename_i hz
   exact ⟨by omega,e2⟩
 rw [try_rest e1 hh e3.1,e3.2]
 simp only [ne_eq,not_true_eq_false,if_false,Bool.false_eq_true]
 refine ⟨s',rfl,?_⟩
 have hsq:s'={ s' with q:=⟨c.q.e,m.t+1⟩}:=by
  have:=hs'.stay.q
  cases s'
  simp only at this
  rw [this]
 rw [hsq]
 refine Mid.is (c:={ c with q:=⟨c.q.e,m.t+1⟩}) hs' hq2 h.qe ⟨h.e.1,by have:=h.e.2;show c.p.e≤_;omega⟩ h.nd ?_ ?_ (put_sh h.ok h.mid.ok hl)
 ·show m.t+1=max m.t (m.t+1);omega
 ·exact M.ok_put h.ok (by unfold inR;simp [h0,h1]) (by rw [hat];decide) ⟨.inl rfl,by simp;omega⟩
end SL
end Go.Proofs.YtimbeeiihbmofaaGreatDoor

namespace Go.Proofs.YtimbeeiihbmofaaGreatDoor
namespace SL
open DK SH SQ
theorem units_nodup (c:Cl):c.units.Nodup:=by
 unfold Cl.units
 exact (List.Pairwise.imp (fun {a b} hab e=>by omega) (dedS_rise (sortI c.p.all) (sortI_sorted _)))
theorem mem_units {c:Cl} {u:Int}:u∈c.units↔u∈c.p.all:=unitsOf_mem _ _
theorem Fine.lowOf {r:Int} {k:Nat} {u:U} {x:Un} {M:Cl} {i:Int} (h:Fine r k u x) (hx:M.us[i.toNat]?=some x):M.lowU i=u.l:=by
 obtain ⟨n,L,rfl,_⟩:=h
 unfold Cl.lowU
 rw [hx]
theorem Fine.epochOf {r:Int} {k:Nat} {u:U} {x:Un} {M:Cl} {i:Int} (h:Fine r k u x) (hx:M.us[i.toNat]?=some x):M.epochU i=u.e:=by
 obtain ⟨n,L,rfl,_⟩:=h
 unfold Cl.epochU
 rw [hx]
theorem Fine.ableOf {r:Int} {k:Nat} {u:U} {x:Un} {M:Cl} {i:Int} (h:Fine r k u x) (hx:M.us[i.toNat]?=some x) (hi:0≤i∧i<(M.us.length:Int)):M.able i=true:=by
 obtain ⟨n,L,rfl,_⟩:=h
 unfold Cl.able
 rw [hx]
 have:M.has i=0:=by
  unfold Cl.has
  rw [if_pos (inB_iff.2 ⟨hi.1,by omega⟩)]
 rw [if_neg (by rw [this];decide)]
 rfl
theorem Mid.able {r:Int} {c s:Cl} {D:Nat→Sh} (h:Mid r c s D) {u:Int} (hu:0≤u∧u<(c.us.length:Int)):s.able u=true∧s.lowU u=(D u.toNat).l∧s.epochU u=(D u.toNat).e:=by
 obtain ⟨y,v,hy,hF,hS⟩:=h.has hu
 exact ⟨hF.ableOf hy (by have:=h.stay.us;omega),(hF.lowOf hy).trans hS.l,(hF.epochOf hy).trans hS.e⟩
theorem check_e {p:Pj} (h:p.check=0) {e:Int} (he:0≤e∧e≤1099511627776):(⟨e,p.cs⟩:Pj).check=0:=by
 unfold Pj.check at h ⊢
 rw [if_neg (by show ¬(e<0∨1099511627776<e);omega)]
 split at h
 ·cases h
 ·exact h
/-- a cluster with another epoch -/
def Cl.eq (s:Cl) (e:Int) (q:Q):Cl:={ s with p:=⟨e,s.p.cs⟩,q:=q }
theorem Mid.isE {r:Int} {k:Nat} {c s:Cl} {D:Nat→Sh} {m':M} {q:Q} {e':Int} (h:Mid r c s D) (hq:q.ok) (hqe:q.e=e') (he:1≤e'∧e'≤k) (hk:k≤1000) (hnd:c.p.all.Nodup) (ht:q.n=m'.t) (hm:m'.ok)
  (hD:∀ i:Nat,(D i).k≤k∧(D i).e=(shD (c.eq e' q) k m' i).e∧(D i).l=(shD (c.eq e' q) k m' i).l∧∀ a,(D i).f a=(shD (c.eq e' q) k m' i).f a):Is r k (s.eq e' q) m':=by
 have hcs:(s.eq e' q).p=(c.eq e' q).p:=by show (⟨e',s.p.cs⟩:Pj)=⟨e',c.p.cs⟩;rw [h.stay.p]
 have hsh:∀ i,shD (s.eq e' q) k m' i=shD (c.eq e' q) k m' i:=fun i=>by
  unfold shD Cl.home
  rw [hcs]
 refine ⟨⟨⟨?_,h.ok.many,?_,hq,h.ok.disk⟩,Stay.refl _,fun i x hx=>?_⟩,hqe,he,?_,ht,hm⟩
 ·rw [hcs];exact check_e (p:=c.p) (by have:=h.ok.proj;rw [h.stay.p] at this;exact this) ⟨by omega,by omega⟩
 ·intro u hu
  rw [hcs] at hu
  exact h.ok.there u (by rw [h.stay.p];exact hu)
 ·obtain ⟨u,g1,g2⟩:=h.each i x hx
  obtain ⟨d1,d2,d3,d4⟩:=hD i
  rw [hsh i]
  refine ⟨u,g1.mono ?_,?_⟩
  ·have:(shD (c.eq e' q) k m' i).k=k:=by unfold shD;split<;>rfl
   rw [this];exact d1
  ·rw [←d2,←d3,←funext d4];exact g2
 ·rw [hcs];exact hnd
theorem Is.trim {r:Int} {k:Nat} {c:Cl} {m:M} (h:Is r k c m) (hk:k<512) (hr:((200*k+200:Nat):Int)≤r) (b:Int):∃ c',c.trim b=((m.trim b).1,c')∧Is r (k+1) c' (m.trim b).2:=by
 have hst:=h.mono (Nat.le_succ k)
 have hok:=M.ok_trim h.ok b
 unfold Cl.trim M.trim at *
 have hi:inB b 1048576=inR b 1048576:=rfl
 rw [hi]
 cases hq:inR b 1048576 with
 | false=>exact ⟨c,by simp,by simpa using hst⟩
 | true =>
  have hb:=inB_iff.1 (hi.trans hq)
  rw [hq] at hok
  simp only [Bool.not_true,Bool.false_eq_true,if_false,reduceCtorEq] at hok ⊢
  obtain ⟨s',e,hs⟩:=Mid.all (r:=r) (c:=c) (f:=Cl.trimS c.p.e b) (B:=fun i=>⟨k+1,c.p.e,max m.u.l b,fun a=>if a<max m.u.l b then ⟨3,[]⟩ else (shD c k m i).f a⟩) (units_nodup c) (fun u hu=>(h.rng (mem_units.1 hu)).1) (fun s D' u hu hs hD=>by
   have hrg:=h.rng (mem_units.1 hu)
   have hsh:=shD_all (k:=k) (m:=m) hrg.1 (mem_units.1 hu)
   obtain ⟨v,hv,q1,q2,q3⟩:=hs.act hrg (by rw [hD,hsh];exact hk) (by rw [hD,hsh];exact hr) ⟨4,c.p.e,b,[]⟩
   rw [hD] at hv q3
   have hv2:Sees v c.p.e m.u.l (shD c k m u.toNat).f:=by rw [hsh] at hv ⊢;exact hv
   obtain ⟨v',e2,hv'⟩:=hv2.trim hb
   rw [e2] at q1 q3
   simp only [if_true] at q3
   refine ⟨_,Prod.ext q1 rfl,q3 _ (by rw [hsh];exact Nat.le_refl _) hv'⟩) h.mid
  have hse:s'.q.e=s'.p.e:=by rw [hs.stay.q,hs.stay.p];exact h.qe
  refine ⟨{ s' with q:=⟨s'.q.e,max s'.q.n b⟩},?_,?_⟩
  ·rw [e,if_neg (by simp),raise_eq hse hb]
  ·refine hs.is (Q.ok_raise hs.ok.seq hb) (by show s'.q.e=_;rw [hs.stay.q];exact h.qe) ⟨h.e.1,by have:=h.e.2;omega⟩ h.nd ?_ hok (fun i=>?_)
   ·show max s'.q.n b=max m.t b
    rw [hs.stay.q,h.tail]
   ·by_cases hi:(i:Int)∈c.p.all
    ·have hiu:(i:Int)∈c.units:=mem_units.2 hi
     simp only [if_pos hiu]
     unfold shD
     simp only [if_pos hi]
     refine ⟨Nat.le_refl _,trivial,rfl,fun a=>?_⟩
     show _=if a<max m.u.l b∨(i:Int)∈c.home a then ({ m.u with l:=max m.u.l b,cells:=m.u.cells.filter (fun p=>!decide (p.1<max m.u.l b))}:U).at a else _
     rw [at_trim h.ok.u _ _ (by omega)]
     by_cases ha:a<max m.u.l b
     ·rw [if_pos ha,if_pos (.inl ha),if_pos ha]
     ·rw [if_neg ha]
      by_cases hh:(i:Int)∈c.home a
      ·rw [if_pos (.inr hh),if_pos (.inr hh),if_neg ha]
      ·rw [if_neg (by rintro (h | h);omega;exact hh h),if_neg (by rintro (h | h);exact ha h;exact hh h)]
    ·have hiu:¬(i:Int)∈c.units:=fun h=>hi (mem_units.1 h)
     simp only [if_neg hiu]
     unfold shD
     simp only [if_neg hi]
     exact ⟨Nat.le_succ _,trivial,trivial,fun _=>trivial⟩
theorem maxE_same {c:Cl} {e:Int}:∀ {l:List Int},(∀ u∈l,c.epochU u≤e)→c.maxE l e=e
 | [],_=>rfl
 | u::l,h=>by
  show l.foldl (fun e u=>max e (c.epochU u)) (max e (c.epochU u))=e
  have h1:=h u List.mem_cons_self
  rw [show max e (c.epochU u)=e by omega]
  exact maxE_same (l:=l) (fun v hv=>h v (List.mem_cons_of_mem _ hv))
theorem set_eq {s:Cl} {e n:Int} (hs:s.q.e<e) (he:0≤e∧e≤1099511627776) (hn:0≤n∧n≤1048576):s.q.set e n=(0,⟨e,n⟩):=by
 unfold Q.set
 rw [if_neg (by rw [inB_iff.2 he,inB_iff.2 hn];decide),if_neg (by omega)]
theorem Is.epochs {r:Int} {k:Nat} {c:Cl} {m:M} (h:Is r k c m) {u:Int} (hu:0≤u∧u<(c.us.length:Int)):c.epochU u≤c.p.e:=by
 rw [(h.mid.able hu).2.2]
 unfold shD
 split
 ·exact Int.le_refl _
 ·exact h.e.1
theorem Is.cut {r:Int} {k:Nat} {c:Cl} {m:M} (h:Is r k c m) (hk:k+2<512) (hr:((200*(k+2)+200:Nat):Int)≤r) (a:Int):∃ c',c.cut a=((m.cut a).1,c')∧Is r (k+2) c' (m.cut a).2:=by
 have hst:=h.mono (show k≤k+2 by omega)
 have hok:=M.ok_cut h.ok a
 unfold Cl.cut M.cut at *
 have hi:inB a 1048576=inR a 1048576:=rfl
 rw [hi]
 cases hq:inR a 1048576 with
 | false=>exact ⟨c,by simp,by simpa using hst⟩
 | true =>
  have hb:=inB_iff.1 (hi.trans hq)
  rw [hq] at hok
  simp only [Bool.not_true,Bool.false_eq_true,if_false,reduceCtorEq] at hok ⊢
  have hin:∀ u∈c.units,0≤u∧u<(c.us.length:Int):=fun u hu=>h.rng (mem_units.1 hu)
  rw [if_neg (by rw [List.any_eq_true];rintro ⟨u,hu,hx⟩;rw [(h.mid.able (hin u hu)).1] at hx;cases hx)]
  have hlow:∀ u∈c.units,c.lowU u=m.u.l:=fun u hu=>by rw [(h.mid.able (hin u hu)).2.1,shD_all (hin u hu).1 (mem_units.1 hu)]
  by_cases ha:a<m.u.l
  ·obtain ⟨u,rs,hh⟩:=home_ne h.mid.ok (a:=0) (Int.le_refl _)
   have hu:u∈c.units:=mem_units.2 (home_mem (a:=0) (by rw [hh];exact List.mem_cons_self))
   rw [if_pos (by rw [List.any_eq_true];exact ⟨u,hu,by rw [hlow u hu];simpa using ha⟩),if_pos ha]
   exact ⟨c,rfl,hst⟩
  rw [if_neg ha] at hok
  rw [if_neg (by rw [List.any_eq_true];rintro ⟨u,hu,hx⟩;rw [hlow u hu] at hx;exact ha (by simpa using hx)),if_neg ha]
  have hlt:c.later c.units=c.p.e+1:=by unfold Cl.later;rw [maxE_same (fun u hu=>h.epochs (hin u hu))]
  have he:=h.e
  rw [hlt,if_neg (by omega)]
  obtain ⟨s',e,hs⟩:=Mid.all (r:=r) (c:=c) (f:=Cl.cutS (c.p.e+1) a) (B:=fun i=>⟨k+2,c.p.e+1,m.u.l,fun x=>if a≤x then ⟨0,[]⟩ else (shD c k m i).f x⟩) (units_nodup c) (fun u hu=>(hin u hu).1) (fun s D' u hu hs hD=>by
   have hrg:=hin u hu
   have hsh:=shD_all (k:=k) (m:=m) hrg.1 (mem_units.1 hu)
   obtain ⟨v,hv,q1,q2,q3⟩:=hs.act hrg (by rw [hD,hsh];show k<512;omega) (by rw [hD,hsh];show ((200*k+200:Nat):Int)≤r;omega) ⟨1,c.p.e+1,0,[]⟩
   rw [hD] at hv q3
   have hv2:Sees v c.p.e m.u.l (shD c k m u.toNat).f:=by rw [hsh] at hv ⊢;exact hv
   obtain ⟨v',e2,hv',_⟩:=hv2.rise (n:=c.p.e+1) ⟨by omega,by omega⟩
   rw [e2] at q1 q3
   simp only [if_true] at q3
   have hm1:=q3 ⟨k+1,c.p.e+1,m.u.l,(shD c k m u.toNat).f⟩ (by rw [hsh];exact Nat.le_refl _) hv'
   obtain ⟨w,hw,w1,w2,w3⟩:=hm1.act hrg (by rw [upS_at];show k+1<512;omega) (by rw [upS_at];show ((200*(k+1)+200:Nat):Int)≤r;omega) ⟨5,c.p.e+1,a,[]⟩
   rw [upS_at] at hw w3
   have hw2:Sees w (c.p.e+1) m.u.l (shD c k m u.toNat).f:=hw
   obtain ⟨n,w',e3,hw'⟩:=hw2.cut (b:=a) ⟨by omega,hb.2⟩
   rw [e3] at w1 w3
   simp only [if_true] at w3
   have hm2:=w3 ⟨k+2,c.p.e+1,m.u.l,fun x=>if a≤x then ⟨0,[]⟩ else (shD c k m u.toNat).f x⟩ (Nat.le_refl _) hw'
   refine ⟨((s.do u.toNat ⟨1,c.p.e+1,0,[]⟩).2.2.do u.toNat ⟨5,c.p.e+1,a,[]⟩).2.2,?_,?_⟩
   ·unfold Cl.cutS
    rw [if_neg (by rw [q1];simp)]
    exact Prod.ext w1 rfl
   ·have e4:upS (upS D' u.toNat ⟨k+1,c.p.e+1,m.u.l,(shD c k m u.toNat).f⟩) u.toNat ⟨k+2,c.p.e+1,m.u.l,fun x=>if a≤x then ⟨0,[]⟩ else (shD c k m u.toNat).f x⟩=upS D' u.toNat ⟨k+2,c.p.e+1,m.u.l,fun x=>if a≤x then ⟨0,[]⟩ else (shD c k m u.toNat).f x⟩:=by
     funext j;unfold upS;split<;>rfl
    rw [e4] at hm2
    exact hm2) h.mid
  have hqe:s'.q.e=c.p.e:=by rw [hs.stay.q];exact h.qe
  refine ⟨s'.eq (c.p.e+1) ⟨c.p.e+1,a⟩,?_,?_⟩
  ·rw [e]
   unfold cutEnd
   rw [if_neg (by simp),set_eq (by rw [hqe];omega) ⟨by omega,by omega⟩ hb]
   rfl
  ·refine hs.isE (q:=⟨c.p.e+1,a⟩) (e':=c.p.e+1) (m':=⟨{ m.u with cells:=m.u.cells.filter (fun p=>!decide (a≤p.1))},a⟩) ⟨⟨by show 0≤c.p.e+1;omega,by show c.p.e+1≤_;omega⟩,hb⟩ rfl ⟨by omega,by omega⟩ (by omega) h.nd rfl hok (fun i=>?_)
   have hl:m.u.l≤a:=by omega
   by_cases hi:(i:Int)∈c.p.all
   ·have hiu:(i:Int)∈c.units:=mem_units.2 hi
    have hi2:(i:Int)∈(c.eq (c.p.e+1) ⟨c.p.e+1,a⟩).p.all:=hi
    simp only [if_pos hiu]
    unfold shD
    simp only [if_pos hi,if_pos hi2]
    refine ⟨Nat.le_refl _,by first | rfl | trivial,by first | rfl | trivial,fun x=>?_⟩
    show _=if x<m.u.l∨(i:Int)∈c.home x then ({ m.u with cells:=m.u.cells.filter (fun p=>!decide (a≤p.1))}:U).at x else _
    rw [at_cut h.ok.u hl]
    by_cases hx:a≤x
    ·rw [if_pos hx]
     by_cases hh:x<m.u.l∨(i:Int)∈c.home x
     ·rw [if_pos hh,if_pos hx]
     ·rw [if_neg hh]
    ·rw [if_neg hx]
     by_cases hh:x<m.u.l∨(i:Int)∈c.home x
     ·rw [if_pos hh,if_pos hh,if_neg hx]
     ·rw [if_neg hh,if_neg hh]
   ·have hiu:¬(i:Int)∈c.units:=fun h=>hi (mem_units.1 h)
    have hi2:¬(i:Int)∈(c.eq (c.p.e+1) ⟨c.p.e+1,a⟩).p.all:=hi
    simp only [if_neg hiu]
    unfold shD
    simp only [if_neg hi,if_neg hi2]
    exact ⟨by omega,by first | rfl | trivial,by first | rfl | trivial,fun _=>by first | rfl | trivial⟩
end SL
end Go.Proofs.YtimbeeiihbmofaaGreatDoor

namespace Go.Proofs.YtimbeeiihbmofaaGreatDoor
open Go.RowKit
namespace SL
open DK SH SQ
/-- a cell is put into a unit where it has none -/
def fillS (e a:Int) (x:C) (M:Cl) (u:Int):Nat×Cl:=if (M.readU u.toNat e a).1≠0∨(M.readU u.toNat e a).2.k≠0 then ((M.readU u.toNat e a).1,M) else Cl.putC e a x M u
abbrev cellsB (N N0:Nat):Asn:=.box N [.map (some N0)] 67
set_option maxHeartbeats 8000000 in
theorem fill1_any {c N B N2 N3 N0:Nat} {M:Cl} {J:CJ} {L:List Asn} {LM:List (Int×Value)} {W:World} (b:Bd) (tail a u:Int) (x:C) (xa:Option Addr) (xc:Nat) (w:World) (hp:Pow W)
  (h:ClAt c M J (intB N2 a::cellsB N3 N0::Asn.mapI N0 LM::bdB B c b tail::ptrD N B::L) W w) (hu:0≤u∧u<(M.us.length:Int)) (hok:M.ok) (hon:M.On u.toNat)
  (hv:(lookE LM a).getD zCell=.agg #[.int .i64 x.k,.slice xa x.d.length xc]) (hB:∀ M' w',ClAt c M' J L W w'→Bytes w' (.slice xa x.d.length xc) x.d) :
  Calls Tryz.prog 127 #[.int .i64 u,ptrV N,ptrV N2,ptrV N3] w fun en w'=>en=.returned (errV (fillS b.e a x M u).1)∧ClAt c (fillS b.e a x M u).2 J (intB N2 a::cellsB N3 N0::Asn.mapI N0 LM::bdB B c b tail::ptrD N B::L) W w':=by
 obtain ⟨k,rfl⟩:∃ k:Nat,u=k:=⟨u.toNat,by omega⟩
 rw [Int.toNat_natCast] at hon
 obtain ⟨D,S,hus⟩:=hon
 obtain ⟨g,n,cap,Q,c1,hgn,hgl,hgc,hq0,hqs⟩:=h.shelf (u:=k) (by omega)
 obtain ⟨q,rfl⟩:=optV_on hus hq0
 obtain ⟨D',S',hus',hrd⟩:=hqs q rfl
 have HRD:=Zh (fun wq hb=>hrd b.e a wq hb)
 have HRU:=Zh (show M.readU k b.e a=readS S' D' b.e a by unfold Cl.readU;rw [hus'])
 have HF:=Zh (show fillS b.e a x M (k:Int)=if (readS S' D' b.e a).1≠0∨(readS S' D' b.e a).2.k≠0 then ((readS S' D' b.e a).1,M) else Cl.putC b.e a x M k by unfold fillS;rw [Int.toNat_natCast,HRU.out])
 have HPU:=Zh (fun (wq:World) (hq:ClAt c M J (intB N2 a::cellsB N3 N0::Asn.mapI N0 LM::bdB B c b tail::ptrD N B::L) W wq)=>sput_any (k:Int) b.e a x xa xc wq hp hq hu hok (fun M' w' h'=>hB M' w' (ClAt.less (K:=[_,_,_,_,_]) h')))
 have HV:=Lib.hid' hv
 have H:=Lib.hid' h
 have n0:=h.side.cell 4 rfl 0 rfl;have nl:=h.side.lt 4 rfl
 have b0:=h.side.cell 3 rfl 0 rfl;have b1:=h.side.cell 3 rfl 1 rfl;have bl:=h.side.lt 3 rfl
 have m0:=h.side.cell 0 rfl 0 rfl;have ml:=h.side.lt 0 rfl
 have cl:=h.c2.2
 have hgq:w.cell? ⟨g,k,none⟩=some (ptrV q):=hgc
 clear h hu hok hp hus hus' hrd hqs hq0 hgc hB hv HRU
 generalize readS S' D' b.e a=rr at *
 go_enter Tryz.func127, Tryz.ntmps127
 go_upto_region 1 with fail
 refine startD (S:=(fun w'=>Below w.heap.size w w')) (by kernel_rfl) (by go_grown) (fun hH0=>?_)
 simp only [List.length_cons,List.length_nil,Nat.reduceAdd,List.replicate_succ,List.replicate_zero]
 refine tE 0 9 (.pointer (some ⟨B,0,none⟩)) rfl rfl [(1,.pointer (some ⟨N,0,none⟩))] hH0 ?_ ?_
 ·intro w hSw;have q1:=(hSw.cell (p:=⟨N,0,none⟩) nl).trans n0;go_simp
 dsimp only [sZ,sS]
 refine tD 1 10 (.pointer (some ⟨B,0,none⟩)) rfl rfl [(9,.pointer (some ⟨B,0,none⟩))] hH0 ?_
 dsimp only [sZ,sS]
 refine tD 2 11 (.pointer (some ⟨B,0,none⟩)) rfl rfl [(10,.pointer (some ⟨B,0,none⟩))] hH0 ?_
 dsimp only [sZ,sS]
 refine tE 3 12 (.pointer (some ⟨c,0,none⟩)) rfl rfl [(11,.pointer (some ⟨B,0,none⟩))] hH0 ?_ ?_
 ·intro w hSw;have q1:=(hSw.cell (p:=⟨B,0,none⟩) bl).trans b0;go_simp
 dsimp only [sZ,sS]
 refine tD 4 13 (.pointer (some ⟨c,0,none⟩)) rfl rfl [(12,.pointer (some ⟨c,0,none⟩))] hH0 ?_
 dsimp only [sZ,sS]
 refine tD 5 14 (.pointer (some ⟨c,1,none⟩)) rfl rfl [(13,.pointer (some ⟨c,0,none⟩))] hH0 ?_
 dsimp only [sZ,sS]
 refine tE 6 15 (.slice (some ⟨g,0,none⟩) n cap) rfl rfl [(14,.pointer (some ⟨c,1,none⟩))] hH0 ?_ ?_
 ·intro w hSw;have q1:=(hSw.cell (p:=⟨c,1,none⟩) cl).trans c1;go_simp
 dsimp only [sZ,sS]
 refine tD 7 16 (.int .i64 (k:Int)) rfl rfl [(0,.int .i64 (k:Int))] hH0 ?_
 dsimp only [sZ,sS]
 refine tD 8 17 (.pointer (some ⟨g,k,none⟩)) rfl rfl [(15,.slice (some ⟨g,0,none⟩) n cap),(16,.int .i64 (k:Int))] hH0 ?_
 dsimp only [sZ,sS]
 refine tE 9 18 (ptrV q) rfl rfl [(17,.pointer (some ⟨g,k,none⟩))] hH0 ?_ ?_
 ·intro w hSw;have q1:=(hSw.cell (p:=⟨g,k,none⟩) hgl).trans hgq;go_simp
 dsimp only [sZ,sS]
 refine tE 10 19 (.pointer (some ⟨B,0,none⟩)) rfl rfl [(1,.pointer (some ⟨N,0,none⟩))] hH0 ?_ ?_
 ·intro w hSw;have q1:=(hSw.cell (p:=⟨N,0,none⟩) nl).trans n0;go_simp
 dsimp only [sZ,sS]
 refine tD 11 20 (.pointer (some ⟨B,0,none⟩)) rfl rfl [(19,.pointer (some ⟨B,0,none⟩))] hH0 ?_
 dsimp only [sZ,sS]
 refine tD 12 21 (.pointer (some ⟨B,1,none⟩)) rfl rfl [(20,.pointer (some ⟨B,0,none⟩))] hH0 ?_
 dsimp only [sZ,sS]
 refine tD 13 22 (.pointer (some ⟨B,1,none⟩)) rfl rfl [(21,.pointer (some ⟨B,1,none⟩))] hH0 ?_
 dsimp only [sZ,sS]
 refine tE 14 23 (.int .i64 b.e) rfl rfl [(22,.pointer (some ⟨B,1,none⟩))] hH0 ?_ ?_
 ·intro w hSw;have q1:=(hSw.cell (p:=⟨B,1,none⟩) bl).trans b1;go_simp
 dsimp only [sZ,sS]
 refine tE 15 24 (.int .i64 a) rfl rfl [(2,.pointer (some ⟨N2,0,none⟩))] hH0 ?_ ?_
 ·intro w hSw;have q1:=(hSw.cell (p:=⟨N2,0,none⟩) ml).trans m0;go_simp
 dsimp only [sZ,sS]
 refine wpAnyH_ready (rs:=[16,20]) (by kernel_rfl) (by simp) (AllReadyH.cons (o:=_) rfl (fun K hK=>?_) (AllReadyH.cons (o:=_) rfl (fun K hK=>?_) AllReadyH.nil))
 ·skip
  go_simp
  refine (HRD.out _ (by go_grown)).mono ?_
  rintro en w2 ⟨a2,cp2,rfl,_,hb2⟩
  have HB2:=Zh (show Below w.heap.size w w2 from below_call (by go_grown) (by simp) hb2)
  clear hb2
  refine hK.out _ _ ?_ (fun hH1=>?_)
  ·exact HB2.out
  clear hK K
  try simp only [Act.put,gA,gZ,gS,sA,sZ,sS]
  refine tD 17 8 (.tuple #[.agg #[.int .i64 rr.2.k,.slice a2 rr.2.d.length cp2],errV rr.1]) rfl rfl [(25,.tuple #[.agg #[.int .i64 rr.2.k,.slice a2 rr.2.d.length cp2],errV rr.1])] hH1 ?_
  dsimp only [sZ,sS]
  refine tD 18 26 (.agg #[.int .i64 rr.2.k,.slice a2 rr.2.d.length cp2]) rfl rfl [(8,.tuple #[.agg #[.int .i64 rr.2.k,.slice a2 rr.2.d.length cp2],errV rr.1])] hH1 ?_
  dsimp only [sZ,sS]
  refine tD 19 27 (errV rr.1) rfl rfl [(8,.tuple #[.agg #[.int .i64 rr.2.k,.slice a2 rr.2.d.length cp2],errV rr.1])] hH1 ?_
  dsimp only [sZ,sS]
  refine rD 20 rfl (fun K hK=>?_)
  go_simp
  have hz2:=HB2.out.size
  refine hK.out _ _ ?_ (fun hH2=>?_)
  ·exact HB2.out.alloc HB2.out.size _
  clear hK K
  try simp only [Act.put,gA,gZ,gS,sA,sZ,sS]
  refine rD 21 rfl (fun K hK=>?_)
  go_simp
  refine hK.out _ _ ?_ (fun hH3=>?_)
  ·exact HB2.out.alloc HB2.out.size _
  clear hK K
  try simp only [Act.put,gA,gZ,gS,sA,sZ,sS]
  refine tD 22 7 (errV rr.1) rfl rfl [(27,errV rr.1)] hH3 ?_
  dsimp only [sZ,sS]
  refine wpAnyH_done (by kernel_rfl) ?_ _
  have HBF:=Zh (show Below w.heap.size w (w2.alloc (.cells #[.int .i64 rr.2.k,.slice a2 rr.2.d.length cp2] 40)) from by exact HB2.out.alloc HB2.out.size _)
  have k0:(w2.alloc (.cells #[.int .i64 rr.2.k,.slice a2 rr.2.d.length cp2] 40)).cell? ⟨w2.heap.size,0,none⟩=some (.int .i64 rr.2.k):=by simp [go_sem]
  have kl:w2.heap.size<(w2.alloc (.cells #[.int .i64 rr.2.k,.slice a2 rr.2.d.length cp2] 40)).heap.size:=by simp
  have H2:=Zh (H.out.below HBF.out)
  clear n0 nl b0 b1 bl m0 ml cl c1 hgl hgq hgn HRD HBF HB2 hz2
  generalize (w2.alloc (.cells #[.int .i64 rr.2.k,.slice a2 rr.2.d.length cp2] 40))=wf at *
  generalize w2.heap.size=N6 at *
  by_cases hz:rr.1=0
  ·rw [hz,errV_0]
   by_cases hk:rr.2.k=0
   ·have HF2:=Zh (HF.out.trans (if_neg (by simp [hz,hk])))
    rw [hk] at k0
    clear HF hz hk
    go_upto_region 4 with fail
    have p0:=H2.out.side.cell 4 rfl 0 rfl;have p1:=H2.out.side.cell 3 rfl 0 rfl;have p2:=H2.out.side.cell 3 rfl 1 rfl;have p3:=H2.out.side.cell 0 rfl 0 rfl;have p4:=H2.out.side.cell 1 rfl 0 rfl;have p5:=(H2.out.side.at 2 rfl:MapAt wf N0 LM)
    refine startD (S:=(fun w'=>w'.cell? ⟨N,0,none⟩=some (ptrV B)∧w'.cell? ⟨B,0,none⟩=some (ptrV c)∧w'.cell? ⟨B,1,none⟩=some (.int .i64 b.e)∧w'.cell? ⟨N2,0,none⟩=some (.int .i64 a)∧w'.cell? ⟨N3,0,none⟩=some (.map (some N0))∧MapAt w' N0 LM)) (by kernel_rfl) ⟨p0,p1,p2,p3,p4,p5⟩ (fun hH0=>?_)
    simp only [List.length_cons,List.length_nil,Nat.reduceAdd,List.replicate_succ,List.replicate_zero]
    refine tD 0 36 (.pointer (some ⟨B,0,none⟩)) rfl rfl [(1,.pointer (some ⟨N,0,none⟩))] hH0 ?_
    dsimp only [sZ,sS]
    refine tD 1 37 (.pointer (some ⟨B,0,none⟩)) rfl rfl [(36,.pointer (some ⟨B,0,none⟩))] hH0 ?_
    dsimp only [sZ,sS]
    refine tD 2 38 (.pointer (some ⟨B,0,none⟩)) rfl rfl [(37,.pointer (some ⟨B,0,none⟩))] hH0 ?_
    dsimp only [sZ,sS]
    refine tD 3 39 (.pointer (some ⟨c,0,none⟩)) rfl rfl [(38,.pointer (some ⟨B,0,none⟩))] hH0 ?_
    dsimp only [sZ,sS]
    refine tD 4 40 (.int .i64 (k:Int)) rfl rfl [(0,.int .i64 (k:Int))] hH0 ?_
    dsimp only [sZ,sS]
    refine tD 5 41 (.pointer (some ⟨B,0,none⟩)) rfl rfl [(1,.pointer (some ⟨N,0,none⟩))] hH0 ?_
    dsimp only [sZ,sS]
    refine tD 6 42 (.pointer (some ⟨B,0,none⟩)) rfl rfl [(41,.pointer (some ⟨B,0,none⟩))] hH0 ?_
    dsimp only [sZ,sS]
    refine tD 7 43 (.pointer (some ⟨B,1,none⟩)) rfl rfl [(42,.pointer (some ⟨B,0,none⟩))] hH0 ?_
    dsimp only [sZ,sS]
    refine tD 8 44 (.pointer (some ⟨B,1,none⟩)) rfl rfl [(43,.pointer (some ⟨B,1,none⟩))] hH0 ?_
    dsimp only [sZ,sS]
    refine tD 9 45 (.int .i64 b.e) rfl rfl [(44,.pointer (some ⟨B,1,none⟩))] hH0 ?_
    dsimp only [sZ,sS]
    refine tD 10 46 (.int .i64 a) rfl rfl [(2,.pointer (some ⟨N2,0,none⟩))] hH0 ?_
    dsimp only [sZ,sS]
    refine tD 11 47 (.map (some N0)) rfl rfl [(3,.pointer (some ⟨N3,0,none⟩))] hH0 ?_
    dsimp only [sZ,sS]
    refine tD 12 48 (.int .i64 a) rfl rfl [(2,.pointer (some ⟨N2,0,none⟩))] hH0 ?_
    dsimp only [sZ,sS]
    refine tE 13 49 (.agg #[.int .i64 x.k,.slice xa x.d.length xc]) rfl rfl [(47,.map (some N0)),(48,.int .i64 a)] hH0 ?_ ?_
    ·intro w hSw;have hl:=run_look mtCells hSw.2.2.2.2.2 a;rw [HV.out] at hl;go_simp
    dsimp only [sZ,sS]
    refine rD 14 rfl (fun K hK=>?_)
    go_simp
    refine (HPU.out _ (H2.out.below (Below.refl _ _).drew)).mono ?_
    rintro en w7 ⟨rfl,h7⟩
    have H7:=Lib.hid' h7
    have HF7:w7.cell? ⟨N,0,none⟩=some (ptrV B)∧w7.cell? ⟨B,0,none⟩=some (ptrV c)∧w7.cell? ⟨B,1,none⟩=some (.int .i64 b.e)∧w7.cell? ⟨N2,0,none⟩=some (.int .i64 a)∧w7.cell? ⟨N3,0,none⟩=some (.map (some N0))∧MapAt w7 N0 LM:=⟨h7.side.cell 4 rfl 0 rfl,h7.side.cell 3 rfl 0 rfl,h7.side.cell 3 rfl 1 rfl,h7.side.cell 0 rfl 0 rfl,h7.side.cell 1 rfl 0 rfl,h7.side.at 2 rfl⟩
    clear h7
    refine hK.out _ _ ?_ (fun hH1=>?_)
    ·exact HF7
    clear hK K
    try simp only [Act.put,gA,gZ,gS,sA,sZ,sS]
    refine tD 15 5 (errV (Cl.putC b.e a x M (k:Int)).1) rfl rfl [(50,errV (Cl.putC b.e a x M (k:Int)).1)] hH1 ?_
    dsimp only [sZ,sS]
    refine wpAnyH_done (by kernel_rfl) ?_ _
    clear HF7 p0 p1 p2 p3 p4 p5
    go_wp2_with fail
    go_ret
    rw [HF2.out]
    exact ⟨rfl,H7.out⟩
   ·have HF2:=Zh (HF.out.trans (if_pos (.inr hk)))
    have hkn:(rr.2.k != 0)=true:=by simpa using hk
    have HZ:=Lib.hid' hz
    clear HF hz
    go_wp2_with fail
    go_ret
    rw [HF2.out,HZ.out]
    exact ⟨rfl,H2.out⟩
  ·have HF2:=Zh (HF.out.trans (if_pos (.inl hz)))
   have HZ:=Lib.hid' hz
   rw [errV_pos hz]
   clear HF hz
   go_wp2_with fail
   go_ret
   rw [HF2.out]
   exact ⟨by rw [errV_pos HZ.out];rfl,H2.out⟩
 ·skip
  go_simp
  refine hK.out _ _ ?_ (fun hH1=>?_)
  ·go_grown
  clear hK K
  try simp only [Act.put,gA,gZ,gS,sA,sZ,sS]
  refine rD 16 rfl (fun K hK=>?_)
  go_simp
  refine (HRD.out _ (by go_grown)).mono ?_
  rintro en w2 ⟨a2,cp2,rfl,_,hb2⟩
  have hc2':=(bcell hb2).1
  have r0:w2.cell? ⟨w.heap.size,0,none⟩=some (.int .i64 0):=(hc2' _ _ (by simp)).trans (by simp [go_sem])
  have r1:w2.cell? ⟨w.heap.size,1,none⟩=some (.slice none 0 0):=(hc2' _ _ (by simp)).trans (by simp [go_sem])
  have f0:w2.frozen? ⟨w.heap.size,0,none⟩=false:=((bcell hb2).2 _ _ (by simp)).trans (by simp [go_sem])
  have f1:w2.frozen? ⟨w.heap.size,1,none⟩=false:=((bcell hb2).2 _ _ (by simp)).trans (by simp [go_sem])
  have hz2:=hb2.size
  have HB2:=Zh (show Below w.heap.size w w2 from below_call (by go_grown) (by simp) hb2)
  have lt1:w.heap.size<w2.heap.size:=by simp at hz2;omega
  clear hc2' hb2 hz2
  refine hK.out _ _ ?_ (fun hH2=>?_)
  ·exact HB2.out
  clear hK K
  try simp only [Act.put,gA,gZ,gS,sA,sZ,sS]
  refine tD 17 8 (.tuple #[.agg #[.int .i64 rr.2.k,.slice a2 rr.2.d.length cp2],errV rr.1]) rfl rfl [(25,.tuple #[.agg #[.int .i64 rr.2.k,.slice a2 rr.2.d.length cp2],errV rr.1])] hH2 ?_
  dsimp only [sZ,sS]
  refine tD 18 26 (.agg #[.int .i64 rr.2.k,.slice a2 rr.2.d.length cp2]) rfl rfl [(8,.tuple #[.agg #[.int .i64 rr.2.k,.slice a2 rr.2.d.length cp2],errV rr.1])] hH2 ?_
  dsimp only [sZ,sS]
  refine tD 19 27 (errV rr.1) rfl rfl [(8,.tuple #[.agg #[.int .i64 rr.2.k,.slice a2 rr.2.d.length cp2],errV rr.1])] hH2 ?_
  dsimp only [sZ,sS]
  refine rD 21 rfl (fun K hK=>?_)
  go_simp
  refine hK.out _ _ ?_ (fun hH3=>?_)
  ·exact Below.setCell (Below.setCell HB2.out (Nat.le_refl _) _) (Nat.le_refl _) _
  clear hK K
  try simp only [Act.put,gA,gZ,gS,sA,sZ,sS]
  refine tD 22 7 (errV rr.1) rfl rfl [(27,errV rr.1)] hH3 ?_
  dsimp only [sZ,sS]
  refine wpAnyH_done (by kernel_rfl) ?_ _
  have HBF:=Zh (show Below w.heap.size w ((w2.setCell ⟨w.heap.size,0,none⟩ (.int .i64 rr.2.k)).setCell ⟨w.heap.size,1,none⟩ (.slice a2 rr.2.d.length cp2)) from by exact Below.setCell (Below.setCell HB2.out (Nat.le_refl _) _) (Nat.le_refl _) _)
  have k0:((w2.setCell ⟨w.heap.size,0,none⟩ (.int .i64 rr.2.k)).setCell ⟨w.heap.size,1,none⟩ (.slice a2 rr.2.d.length cp2)).cell? ⟨w.heap.size,0,none⟩=some (.int .i64 rr.2.k):=by simp [go_sem,r0,r1,lt1]
  have kl:w.heap.size<((w2.setCell ⟨w.heap.size,0,none⟩ (.int .i64 rr.2.k)).setCell ⟨w.heap.size,1,none⟩ (.slice a2 rr.2.d.length cp2)).heap.size:=by simp;omega
  have H2:=Zh (H.out.below HBF.out)
  clear n0 nl b0 b1 bl m0 ml cl c1 hgl hgq hgn HRD HBF HB2 r0 r1 f0 f1 lt1
  generalize ((w2.setCell ⟨w.heap.size,0,none⟩ (.int .i64 rr.2.k)).setCell ⟨w.heap.size,1,none⟩ (.slice a2 rr.2.d.length cp2))=wf at *
  skip
  by_cases hz:rr.1=0
  ·rw [hz,errV_0]
   by_cases hk:rr.2.k=0
   ·have HF2:=Zh (HF.out.trans (if_neg (by simp [hz,hk])))
    rw [hk] at k0
    clear HF hz hk
    go_upto_region 4 with fail
    have p0:=H2.out.side.cell 4 rfl 0 rfl;have p1:=H2.out.side.cell 3 rfl 0 rfl;have p2:=H2.out.side.cell 3 rfl 1 rfl;have p3:=H2.out.side.cell 0 rfl 0 rfl;have p4:=H2.out.side.cell 1 rfl 0 rfl;have p5:=(H2.out.side.at 2 rfl:MapAt wf N0 LM)
    refine startD (S:=(fun w'=>w'.cell? ⟨N,0,none⟩=some (ptrV B)∧w'.cell? ⟨B,0,none⟩=some (ptrV c)∧w'.cell? ⟨B,1,none⟩=some (.int .i64 b.e)∧w'.cell? ⟨N2,0,none⟩=some (.int .i64 a)∧w'.cell? ⟨N3,0,none⟩=some (.map (some N0))∧MapAt w' N0 LM)) (by kernel_rfl) ⟨p0,p1,p2,p3,p4,p5⟩ (fun hH0=>?_)
    simp only [List.length_cons,List.length_nil,Nat.reduceAdd,List.replicate_succ,List.replicate_zero]
    refine tD 0 36 (.pointer (some ⟨B,0,none⟩)) rfl rfl [(1,.pointer (some ⟨N,0,none⟩))] hH0 ?_
    dsimp only [sZ,sS]
    refine tD 1 37 (.pointer (some ⟨B,0,none⟩)) rfl rfl [(36,.pointer (some ⟨B,0,none⟩))] hH0 ?_
    dsimp only [sZ,sS]
    refine tD 2 38 (.pointer (some ⟨B,0,none⟩)) rfl rfl [(37,.pointer (some ⟨B,0,none⟩))] hH0 ?_
    dsimp only [sZ,sS]
    refine tD 3 39 (.pointer (some ⟨c,0,none⟩)) rfl rfl [(38,.pointer (some ⟨B,0,none⟩))] hH0 ?_
    dsimp only [sZ,sS]
    refine tD 4 40 (.int .i64 (k:Int)) rfl rfl [(0,.int .i64 (k:Int))] hH0 ?_
    dsimp only [sZ,sS]
    refine tD 5 41 (.pointer (some ⟨B,0,none⟩)) rfl rfl [(1,.pointer (some ⟨N,0,none⟩))] hH0 ?_
    dsimp only [sZ,sS]
    refine tD 6 42 (.pointer (some ⟨B,0,none⟩)) rfl rfl [(41,.pointer (some ⟨B,0,none⟩))] hH0 ?_
    dsimp only [sZ,sS]
    refine tD 7 43 (.pointer (some ⟨B,1,none⟩)) rfl rfl [(42,.pointer (some ⟨B,0,none⟩))] hH0 ?_
    dsimp only [sZ,sS]
    refine tD 8 44 (.pointer (some ⟨B,1,none⟩)) rfl rfl [(43,.pointer (some ⟨B,1,none⟩))] hH0 ?_
    dsimp only [sZ,sS]
    refine tD 9 45 (.int .i64 b.e) rfl rfl [(44,.pointer (some ⟨B,1,none⟩))] hH0 ?_
    dsimp only [sZ,sS]
    refine tD 10 46 (.int .i64 a) rfl rfl [(2,.pointer (some ⟨N2,0,none⟩))] hH0 ?_
    dsimp only [sZ,sS]
    refine tD 11 47 (.map (some N0)) rfl rfl [(3,.pointer (some ⟨N3,0,none⟩))] hH0 ?_
    dsimp only [sZ,sS]
    refine tD 12 48 (.int .i64 a) rfl rfl [(2,.pointer (some ⟨N2,0,none⟩))] hH0 ?_
    dsimp only [sZ,sS]
    refine tE 13 49 (.agg #[.int .i64 x.k,.slice xa x.d.length xc]) rfl rfl [(47,.map (some N0)),(48,.int .i64 a)] hH0 ?_ ?_
    ·intro w hSw;have hl:=run_look mtCells hSw.2.2.2.2.2 a;rw [HV.out] at hl;go_simp
    dsimp only [sZ,sS]
    refine rD 14 rfl (fun K hK=>?_)
    go_simp
    refine (HPU.out _ (H2.out.below (Below.refl _ _).drew)).mono ?_
    rintro en w7 ⟨rfl,h7⟩
    have H7:=Lib.hid' h7
    have HF7:w7.cell? ⟨N,0,none⟩=some (ptrV B)∧w7.cell? ⟨B,0,none⟩=some (ptrV c)∧w7.cell? ⟨B,1,none⟩=some (.int .i64 b.e)∧w7.cell? ⟨N2,0,none⟩=some (.int .i64 a)∧w7.cell? ⟨N3,0,none⟩=some (.map (some N0))∧MapAt w7 N0 LM:=⟨h7.side.cell 4 rfl 0 rfl,h7.side.cell 3 rfl 0 rfl,h7.side.cell 3 rfl 1 rfl,h7.side.cell 0 rfl 0 rfl,h7.side.cell 1 rfl 0 rfl,h7.side.at 2 rfl⟩
    clear h7
    refine hK.out _ _ ?_ (fun hH1=>?_)
    ·exact HF7
    clear hK K
    try simp only [Act.put,gA,gZ,gS,sA,sZ,sS]
    refine tD 15 5 (errV (Cl.putC b.e a x M (k:Int)).1) rfl rfl [(50,errV (Cl.putC b.e a x M (k:Int)).1)] hH1 ?_
    dsimp only [sZ,sS]
    refine wpAnyH_done (by kernel_rfl) ?_ _
    clear HF7 p0 p1 p2 p3 p4 p5
    go_wp2_with fail
    go_ret
    rw [HF2.out]
    exact ⟨rfl,H7.out⟩
   ·have HF2:=Zh (HF.out.trans (if_pos (.inr hk)))
    have hkn:(rr.2.k != 0)=true:=by simpa using hk
    have HZ:=Lib.hid' hz
    clear HF hz
    go_wp2_with fail
    go_ret
    rw [HF2.out,HZ.out]
    exact ⟨rfl,H2.out⟩
  ·have HF2:=Zh (HF.out.trans (if_pos (.inl hz)))
   have HZ:=Lib.hid' hz
   rw [errV_pos hz]
   clear HF hz
   go_wp2_with fail
   go_ret
   rw [HF2.out]
   exact ⟨by rw [errV_pos HZ.out];rfl,H2.out⟩
end SL
end Go.Proofs.YtimbeeiihbmofaaGreatDoor

namespace Go.Proofs.YtimbeeiihbmofaaGreatDoor
open Go.RowKit
namespace SL
open DK SH SQ
theorem look_ent {EM:List Ent} (hn:((EM.map noAd).map (·.1)).Nodup) {a:Int} (ha:a∈EM.map (fun x:Ent=>x.1)):∃ x∈EM,(lookE (EM.map entM) a).getD zCell=.agg #[.int .i64 x.2.1.k,.slice x.2.2.1 x.2.1.d.length x.2.2.2]∧lookC (EM.map noAd) a=x.2.1:=by
 obtain ⟨x,hx,rfl⟩:=List.mem_map.1 ha
 cases hf:lookE (EM.map entM) x.1 with
 | none =>
  have h1:=look_entM EM x.1
  rw [hf] at h1
  have h2:(EM.map noAd).any (fun q=>q.1==x.1)=true:=List.any_eq_true.2 ⟨noAd x,List.mem_map_of_mem hx,by simp [noAd]⟩
  rw [h2] at h1
  cases h1
 | some v =>
  unfold lookE at hf
  obtain ⟨q,hq,rfl⟩:=Option.map_eq_some_iff.1 hf
  obtain ⟨y,hy,rfl⟩:=List.mem_map.1 (List.mem_of_find?_eq_some hq)
  have h1:y.1=x.1:=by have:=List.find?_some hq;simpa using this
  refine ⟨y,hy,rfl,?_⟩
  have h2:=lookC_of_mem hn (List.mem_map_of_mem (f:=noAd) hy)
  rw [←h1]
  exact h2
theorem fillS_stay {M s:Cl} {e a:Int} {x:C} {u:Int} (h:Stay M s∧s.ok):Stay M (fillS e a x s u).2∧(fillS e a x s u).2.ok:=by
 unfold fillS
 split
 ·exact h
 ·rw [putC_len];exact ⟨h.1.do _ _,h.2.do _ _⟩
theorem fillS_on {s:Cl} {e a:Int} {x:C} {u:Int} {v:Nat} (h:s.On v):(fillS e a x s u).2.On v:=by
 unfold fillS
 split
 ·exact h
 ·rw [putC_len];exact h.do _ _
/-- a chain's cells are put into its units -/
def Cl.fillAll (M:Cl) (e:Int) (st chain:List Int):Nat×Cl:=allC (fun s a=>allC (fillS e a (lookC (M.cells st chain) a)) chain s) (sortI ((M.cells st chain).map (·.1))) M
theorem cf_fill (args:Array Value) (w:World):(callFunc 127 args).run Tryz.prog w=.ok (.enter 127 args) w:=by kernel_rfl
def FIn (c N B N3 N0:Nat) (M:Cl) (J:CJ) (L:List Asn) (W:World) (b:Bd) (tail:Int) (LM:List (Int×Value)) (chain:List Int) (s:Cl) (w:World):Prop :=
 ClAt c s J (cellsB N3 N0::Asn.mapI N0 LM::bdB B c b tail::ptrD N B::L) W w∧(Stay M s∧s.ok)∧∀ u∈chain,s.On u.toNat
set_option maxHeartbeats 8000000 in
theorem fillB_any {c B:Nat} {M:Cl} {J:CJ} {L:List Asn} {W:World} (b:Bd) (tail:Int) (ca:Option Addr) (cc:Nat) (chain:List Int) (w:World) (hp:Pow W) (h:ClAt c M J (bdB B c b tail::L) W w) (hok:M.ok)
  (hst:∀ M' w',ClAt c M' J L W w'→Zs w' (.slice b.sa b.st.length b.sc) b.st) (hch:∀ M' w',ClAt c M' J L W w'→Zs w' (.slice ca chain.length cc) chain) (hcl:chain.length≤1048576)
  (hu:∀ u∈chain,0≤u∧u<(M.us.length:Int)) (hon:∀ u∈chain,M.On u.toNat) :
  Calls Tryz.prog 91 #[ptrV B,.slice ca chain.length cc] w fun en w'=>en=.returned (errV (M.fillAll b.e b.st chain).1)∧ClAt c (M.fillAll b.e b.st chain).2 J (bdB B c b tail::L) W w'∧(Stay M (M.fillAll b.e b.st chain).2∧(M.fillAll b.e b.st chain).2.ok)∧∀ u∈chain,(M.fillAll b.e b.st chain).2.On u.toNat:=by
 have h1:=(h.allocB w.heap.size [ptrV B] 80 rfl).swapB
 have e0:w.alloc (.cells [ptrV B].toArray 80)=w.alloc (.cells #[ptrV B] 80):=rfl
 rw [e0] at h1
 obtain ⟨w1,hw1⟩:∃ w1,w.alloc (.cells #[ptrV B] 80)=w1:=⟨_,rfl⟩
 obtain ⟨N,hN⟩:∃ n,n=w.heap.size:=⟨_,rfl⟩
 rw [hw1,←hN] at h1
 have HP:=Lib.hid' hp
 have HST:=Lib.hid' hst
 have HCH:=Lib.hid' hch
 have HU:=Lib.hid' hu
 have HON:=Lib.hid' hon
 have HOK:=Lib.hid' hok
 have HCE:=Zh (cells_any b tail ca cc chain w1 h1 (fun M' w' h'=>hst M' w' (ClAt.less (K:=[_]) h')) (fun M' w' h'=>hch M' w' (ClAt.less (K:=[_]) h')) hcl (fun u hu' _=>⟨(hu u hu').1,hon u hu'⟩))
 have HFI:=Zh (show M.fillAll b.e b.st chain=allC (fun s a=>allC (fillS b.e a (lookC (M.cells b.st chain) a)) chain s) (sortI ((M.cells b.st chain).map (·.1))) M from rfl)
 have n0:=h1.side.cell 1 rfl 0 rfl;have nl:=h1.side.lt 1 rfl
 clear h h1 e0 hp hst hch hu hon hok
 go_enter Tryz.func91, Tryz.ntmps91
 go_upto_region 1 with fail
 try rw [hw1]
 rw [←hN]
 clear hw1 hN
 go_wp2_with fail
 refine HCE.out.mono ?_
 clear HCE n0 nl
 rintro en w2 ⟨EM,N0,oa,oc,rfl,hEM,hCA,Z,vs,h2,hvs⟩
 have H2:=Lib.hid' h2
 have HEM:=Lib.hid' hEM
 have HCA:=Lib.hid' hCA
 have HVS:=Lib.hid' hvs
 clear h2 hEM hCA hvs
 go_upto_region 2 with fail
 have h3:=H2.out.allocB w2.heap.size [.map (some N0)] 67 rfl
 rw [show ([.map (some N0)]:List Value).toArray=#[.map (some N0)] from rfl] at h3
 have HEN:=Zh (show (sortI (EM.map (fun x:Ent=>x.1))).length=EM.length by rw [sortI_len,List.length_map])
 have hem:EM.length≤1048576:=by have:=HCA.out.len;rwa [List.length_map] at this
 have HLE:=Zh (fun a (ha:a∈sortI (EM.map (fun x:Ent=>x.1)))=>look_ent HCA.out.1 ((sortI_perm _).mem_iff.1 ha))
 have HFI2:=Zh (show M.fillAll b.e b.st chain=allC (fun s a=>allC (fillS b.e a (lookC (EM.map noAd) a)) chain s) (sortI (EM.map (fun x:Ent=>x.1))) M by
  rw [HFI.out,←HEM.out,List.map_map];rfl)
 generalize sortI (EM.map (fun x:Ent=>x.1))=l at *
 have H3:=Zh (h3.permL (List.Perm.cons _ (List.Perm.cons _ (List.perm_append_comm_assoc [_,_] [_,_] L))))
 clear h3 H2 HFI
 generalize (w2.alloc (.cells #[.map (some N0)] 67))=w3 at *
 generalize w2.heap.size=N3 at *
 have HI:=Zh (show FIn c N B N3 N0 M J (.row 3 1 (.slice oa EM.length oc) EM.length (zVs l)::Asn.pool Z vs::L) W b tail (EM.map entM) chain M w3 from ⟨H3.out,⟨Stay.refl M,HOK.out⟩,HON.out⟩)
 clear H3
 go_wp2_with fail
 obtain ⟨F,hF⟩:∃ F:Cl→Int→Nat×Cl,F=fun s a=>allC (fillS b.e a (lookC (EM.map noAd) a)) chain s:=⟨_,rfl⟩
 rw [←hF] at HFI2
 have HFF:=Zh (fun s a=>congrFun (congrFun hF s) a)
 clear hF HEM HCA
 go_loopw [18] (fun v18 wr=>∃ (k:Nat) (s:Cl),v18=.int .i64 k∧k≤EM.length∧Hid (FIn c N B N3 N0 M J (.row 3 1 (.slice oa EM.length oc) EM.length (zVs l)::Asn.pool Z vs::L) W b tail (EM.map entM) chain s wr)∧Hid (M.fillAll b.e b.st chain=allC F (l.drop k) s)) (fun v18 _=>EM.length - (intOf v18).toNat)
 case atStart=>exact ⟨0,M,rfl,Nat.zero_le _,HI,Zh (by rw [List.drop_zero];exact HFI2.out)⟩
 case round =>
  clear HI HFI2
  obtain ⟨k,s,rfl,hk,HI,HA⟩:=hrel
  by_cases hlt:k<EM.length
  ·have hkl:k<l.length:=by rw [HEN.out];exact hlt
   have hz:Zs wr (.slice oa l.length oc) l:=by
    show SlV wr (.slice oa l.length oc) l.length (zVs l)
    rw [HEN.out]
    exact SlV.of_own (HI.out.1.side.row 4 rfl)
   obtain ⟨ob,off,rfl,hb,hc⟩:=hz.at hkl
   have HM:=Zh (show l[k]∈l from List.getElem_mem hkl)
   have HE:=Zh (fun h=>allC_stop (f:=F) hkl (s:=s) h)
   have HS:=Zh (fun h=>allC_step (f:=F) hkl (s:=s) h)
   clear hz
   generalize l[k]=y at *
   obtain ⟨x,hx,hval,hlk⟩:=HLE.out y HM.out
   have h5:=HI.out.1.allocB wr.heap.size [.int .i64 y] 3 rfl
   rw [show ([.int .i64 y]:List Value).toArray=#[.int .i64 y] from rfl] at h5
   have HIr:=Lib.hid' HI.out.2
   go_upto_region 5 with fail
   clear hb hc HI
   generalize (wr.alloc (.cells #[.int .i64 y] 3))=w5 at *
   generalize wr.heap.size=N2 at *
   have HI5:=Zh (show (fun (s:Cl) (w:World)=>ClAt c s J (intB N2 y::cellsB N3 N0::Asn.mapI N0 (EM.map entM)::bdB B c b tail::ptrD N B::.row 3 1 (.slice (some ⟨ob,off,none⟩) EM.length oc) EM.length (zVs l)::Asn.pool Z vs::L) W w∧(Stay M s∧s.ok)∧∀ u∈chain,s.On u.toNat) s w5 from ⟨h5,HIr.out⟩)
   have HDO:=Zh (show DoesU 127 #[ptrV N,ptrV N2,ptrV N3] (fillS b.e y x.2.1) (fun (s:Cl) (w:World)=>ClAt c s J (intB N2 y::cellsB N3 N0::Asn.mapI N0 (EM.map entM)::bdB B c b tail::ptrD N B::.row 3 1 (.slice (some ⟨ob,off,none⟩) EM.length oc) EM.length (zVs l)::Asn.pool Z vs::L) W w∧(Stay M s∧s.ok)∧∀ u∈chain,s.On u.toNat) chain from fun s u w hv hI=>by
    refine (fill1_any b tail y u x.2.1 x.2.2.1 x.2.2.2 w HP.out hI.1 (by rw [hI.2.1.1.us];exact HU.out u hv) hI.2.1.2 (hI.2.2 u hv) hval (fun M' w' h'=>h'.side.bytes 1 rfl (HVS.out x hx))).mono ?_
    rintro en w' ⟨rfl,h'⟩
    exact ⟨rfl,h',fillS_stay hI.2.1,fun v hv=>fillS_on (hI.2.2 v hv)⟩)
   have HALL:=Zh (all_any 127 #[ptrV N,ptrV N2,ptrV N3] (fillS b.e y x.2.1) _ chain ca cc s w5 hcl (fun s w hI=>HCH.out _ _ (ClAt.less (K:=[_,_,_,_,_,_,_]) hI.1)) cf_fill HDO.out HI5.out)
   rw [←hlk,←HFF.out s y] at HALL
   clear h5 HI5 HDO hval hx hlk
   go_wp2_with fail
   refine HALL.out.mono ?_
   clear HALL
   rintro en w6 ⟨rfl,h6,hr6⟩
   have H6:=Zh (show FIn c N B N3 N0 M J (.row 3 1 (.slice (some ⟨ob,off,none⟩) EM.length oc) EM.length (zVs l)::Asn.pool Z vs::L) W b tail (EM.map entM) chain (F s y).2 w6 from ⟨ClAt.less (K:=[_]) h6,hr6⟩)
   clear h6 hr6
   by_cases h0:(F s y).1=0
   ·have HA2:=Zh (HA.out.trans (HS.out h0))
    rw [h0,errV_0]
    clear h0
    go_wp2_with fail
    go_roundw
    case rel=>exact ⟨k+1,(F s y).2,by go_num,by omega,H6,HA2⟩
    case measure=>simp [intOf];omega
   ·have HA2:=Zh (HA.out.trans (HE.out h0))
    rw [errV_pos h0]
    have H0:=Lib.hid' h0
    clear h0
    go_wp2_with fail
    go_ret
    rw [HA2.out]
    exact ⟨by rw [errV_pos H0.out];rfl,(ClAt.less (K:=[_,_]) H6.out.1).sub (((((List.Sublist.refl L).cons _).cons _).cons _).cons_cons _),H6.out.2⟩
  ·have HA2:=Zh (HA.out.trans (show allC F (l.drop k) s=(0,s) by rw [List.drop_eq_nil_of_le (by rw [HEN.out];omega)];rfl))
   go_wp2_with fail
   go_ret
   rw [HA2.out]
   exact ⟨rfl,(ClAt.less (K:=[_,_]) HI.out.1).sub (((((List.Sublist.refl L).cons _).cons _).cons _).cons_cons _),HI.out.2⟩
end SL
end Go.Proofs.YtimbeeiihbmofaaGreatDoor

namespace Go.Proofs.YtimbeeiihbmofaaGreatDoor
open Go.RowKit
namespace SL
open DK SH SQ
/-- chains' cells are put into their units, one chain by one -/
def fillsS (e:Int) (st:List Int):List (List Int)→Cl→Nat×Cl
 | [],M=>(0,M)
 | ch::l,M=>if (M.fillAll e st ch).1≠0 then M.fillAll e st ch else fillsS e st l (M.fillAll e st ch).2
/-- all of it: an error's number, the cluster then -/
def runEnd (e:Int) (cs:List (List Int)) (n:Int) (r:Nat×Cl):Nat×Cl:=if r.1≠0 then r else ((r.2.q.set e n).1,{ r.2 with p:=⟨e,cs⟩,q:=(r.2.q.set e n).2 })
def runTrim (b:Bd) (tail:Int) (r:Nat×Cl):Nat×Cl:=if r.1≠0 then r else runEnd b.e (b.J.Ks.map (·.1)) (max tail b.low) (fillsS b.e b.st (b.J.Ks.map (·.1)) r.2)
def runEmpty (b:Bd) (tail:Int) (r:Nat×Cl):Nat×Cl:=if r.1≠0 then r else runTrim b tail (allC (Cl.trimS b.e b.low) b.units r.2)
def runSeal (b:Bd) (s:Nat×(Cl×Int)):Nat×Cl:=if s.1≠0 then (s.1,s.2.1) else runEmpty b s.2.2 (allC (hollowS b.e) b.fresh s.2.1)
def runS (b:Bd) (M:Cl):Nat×Cl:=runSeal b (allC (sealS b.e b.st) b.units (M,0))
abbrev jR (J:CJ):Asn:=.row 42 1 (.slice J.a J.Ks.length J.c) J.Ks.length (J.Ks.map chV)
abbrev jA (J:CJ):Asn:=Asn.all (J.Ks.map chA)
theorem jch {w0 w:World} {L:List Asn} {J:CJ} (h:Sep w0 NoF L w) (i j:Nat) (hi:L[i]?=some (jA J)) (hj:L[j]?=some (jR J)):Chs w J.a J.c J.Ks:=h.chs i j hi hj
/-- the cluster takes the rows of what comes next -/
theorem ClAt.turnJ {c:Nat} {M:Cl} {J J':CJ} {L:List Asn} {W w:World} (h:ClAt c M J (jR J'::jA J'::L) W w) (e:Int) :
  ClAt c { M with p:=⟨e,J'.Ks.map (·.1)⟩} J' L W ((w.setCell ⟨c,2,none⟩ (.int .i64 e)).setCell ⟨c,3,none⟩ (.slice J'.a J'.Ks.length J'.c)):=by
 obtain ⟨P,rfl,hP,H⟩:=h
 have H1:=(H.set 0 rfl 2 (.int .i64 e)).set 0 rfl 3 (.slice J'.a J'.Ks.length J'.c)
 generalize (w.setCell ⟨c,2,none⟩ (.int .i64 e)).setCell ⟨c,3,none⟩ (.slice J'.a J'.Ks.length J'.c)=wz at H1 ⊢
 refine ⟨{ P with J:=J' },rfl,⟨hP.us,rfl⟩,?_⟩
 have H2:Sep W NoF ([.box c [P.dv,P.sv,.int .i64 e,.slice J'.a J'.Ks.length J'.c,ptrV P.b] 65,Asn.seq P.b M.q,.row 112 1 P.dv P.Us.length (P.Us.map (fun y=>ptrV y.N)),
  .row 84 1 P.sv P.Us.length (P.Us.map (fun y=>optV y.Q)),jR P.J,jA P.J]++((Asn.pool P.Z P.vs::P.Us.map (unA P.vs))++([jR J',jA J']++L))) wz:=by
  have e1:clL c M P (jR J'::jA J'::L)=clK c M P++((Asn.pool P.Z P.vs::P.Us.map (unA P.vs))++([jR J',jA J']++L)):=by unfold clL;simp
  rw [e1] at H1
  exact H1
 have H3:=H2.perm (((List.perm_append_comm_assoc (Asn.pool P.Z P.vs::P.Us.map (unA P.vs)) [jR J',jA J'] L).append_left _))
 have H4:Sep W NoF ([.box c [P.dv,P.sv,.int .i64 e,.slice J'.a J'.Ks.length J'.c,ptrV P.b] 65,Asn.seq P.b M.q,.row 112 1 P.dv P.Us.length (P.Us.map (fun y=>ptrV y.N)),
  .row 84 1 P.sv P.Us.length (P.Us.map (fun y=>optV y.Q)),jR J',jA J']++((Asn.pool P.Z P.vs::P.Us.map (unA P.vs))++L)) wz :=
  H3.keepOnly ((((((List.Sublist.refl _).cons _).cons _).cons_cons _).cons_cons _).cons_cons _ |>.cons_cons _)
 have e2:clL c { M with p:=⟨e,J'.Ks.map (·.1)⟩} { P with J:=J' } L=[.box c [P.dv,P.sv,.int .i64 e,.slice J'.a J'.Ks.length J'.c,ptrV P.b] 65,Asn.seq P.b M.q,.row 112 1 P.dv P.Us.length (P.Us.map (fun y=>ptrV y.N)),
  .row 84 1 P.sv P.Us.length (P.Us.map (fun y=>optV y.Q)),jR J',jA J']++((Asn.pool P.Z P.vs::P.Us.map (unA P.vs))++L):=by unfold clL;simp;rfl
 rw [e2]
 exact H4
theorem ClAt.c3f {c:Nat} {M:Cl} {J:CJ} {L:List Asn} {W w:World} (h:ClAt c M J L W w):w.cell? ⟨c,3,none⟩=some (.slice J.a J.Ks.length J.c)∧w.frozen? ⟨c,2,none⟩=false∧w.frozen? ⟨c,3,none⟩=false:=by
 obtain ⟨P,rfl,_,H⟩:=h
 exact ⟨H.cell 0 rfl 3 rfl,H.free 0 rfl 2,H.free 0 rfl 3⟩
theorem fillAll_on {M:Cl} {e:Int} {st ch:List Int} {v:Nat} (h:M.On v):(M.fillAll e st ch).2.On v:=by
 unfold Cl.fillAll
 refine allC_inv (I:=fun (s:Cl)=>s.On v) (fun s a _ hs=>?_) h
 exact allC_inv (I:=fun (s:Cl)=>s.On v) (fun s u _ hs=>fillS_on hs) hs
theorem trims_on {M:Cl} {e b:Int} {l:List Int} {v:Nat} (h:M.On v):(allC (Cl.trimS e b) l M).2.On v:=allC_inv (I:=fun (s:Cl)=>s.On v) (fun s u _ hs=>hs.do _ _) h
theorem hollows_on {M:Cl} {e:Int} {l:List Int} {v:Nat} (h:M.On v):(allC (hollowS e) l M).2.On v:=allC_inv (I:=fun (s:Cl)=>s.On v) (fun s u _ hs=>hs.do _ _) h
set_option maxHeartbeats 16000000 in
theorem run_any {c B:Nat} {M:Cl} {J:CJ} {L:List Asn} {W:World} (b:Bd) (w:World) (hp:Pow W) (h:ClAt c M J (bdB B c b 0::jR b.J::jA b.J::L) W w) (hok:M.ok) (hb:BdOk c M.us.length J (jR b.J::jA b.J::L) W b) :
  Calls Tryz.prog 41 #[ptrV B] w fun en w'=>en=.returned (errV (runS b M).1)∧∃ J',ClAt c (runS b M).2 J' L W w':=by
 have HP:=Lib.hid' hp
 have HB:=Lib.hid' hb
 have HOK:=Lib.hid' hok
 have H0:=Lib.hid' h
 have HUF:=Lib.hid' hb.uf
 have HS:=Zh (seal_any b 0 w hp h hok hb)
 have HF:=Zh (show runS b M=runSeal b (allC (sealS b.e b.st) b.units (M,0)) from rfl)
 have HSO:=Zh (fun h0 v hv=>seal_on (e:=b.e) (st:=b.st) (l:=b.units) (s:=(M,(0:Int))) h0 (fun u hu=>by have:=hb.uf.2 u hu;show u.toNat<M.us.length;omega) v (.inl hv))
 have hbl:=h.side.lt 0 rfl
 have hul:=hb.uf.1
 clear h hp hb hok
 generalize allC (sealS b.e b.st) b.units (M,0)=sr at *
 obtain ⟨sz,M1,tail⟩:=sr
 simp only at HS HSO
 go_enter Tryz.func41, Tryz.ntmps41
 go_wp2_with fail
 refine HS.out.mono ?_
 clear HS
 rintro en w1 ⟨rfl,h1,hst1,hok1⟩
 have H1:=Lib.hid' h1
 have HK1:=Zh (And.intro hst1 hok1)
 clear h1 hst1 hok1
 by_cases hz:sz=0
 rotate_left
 ·have HR:=Zh (HF.out.trans (if_pos hz))
  have HZ:=Lib.hid' hz
  rw [errV_pos hz]
  clear HF hz
  go_wp2_with fail
  go_ret
  rw [HR.out]
  exact ⟨by rw [errV_pos HZ.out];rfl,J,ClAt.less (K:=[_,_,_]) H1.out⟩
 subst hz
 have HF1:=Zh (show runS b M=runEmpty b tail (allC (hollowS b.e) b.fresh M1) from HF.out.trans (if_neg (by simp)))
 have HO1:=Zh (fun (v:Nat) (hv:(v:Int)∈b.units)=>HSO.out rfl v hv)
 have HB1:=Zh (show BdOk c M1.us.length J (jR b.J::jA b.J::L) W b by rw [HK1.out.1.us];exact HB.out)
 rw [errV_0]
 clear HF HSO
 have HE:=Zh (empty_any b tail w1 HP.out H1.out HK1.out.2 HB1.out (fun u hu=>HO1.out u.toNat (by rw [Int.toNat_of_nonneg (HUF.out.2 u (Bd.fresh_mem hu)).1];exact Bd.fresh_mem hu)))
 have HO2:=Zh (fun (v:Nat) (hv:(v:Int)∈b.units)=>hollows_on (e:=b.e) (l:=b.fresh) (HO1.out v hv))
 generalize allC (hollowS b.e) b.fresh M1=hr at *
 obtain ⟨hz,M2⟩:=hr
 simp only at HE HO2
 go_wp2_with fail
 refine HE.out.mono ?_
 clear HE
 rintro en w2 ⟨rfl,h2,hst2,hok2⟩
 have H2:=Lib.hid' h2
 have HK2:=Zh (And.intro hst2 hok2)
 clear h2 hst2 hok2
 by_cases hz:hz=0
 rotate_left
 ·have HR:=Zh (HF1.out.trans (if_pos hz))
  have HZ:=Lib.hid' hz
  rw [errV_pos hz]
  clear HF1 hz
  go_wp2_with fail
  go_ret
  rw [HR.out]
  exact ⟨by rw [errV_pos HZ.out];rfl,J,ClAt.less (K:=[_,_,_]) H2.out⟩
 subst hz
 have HF2:=Zh (show runS b M=runTrim b tail (allC (Cl.trimS b.e b.low) b.units M2) from HF1.out.trans (if_neg (by simp)))
 rw [errV_0]
 clear HF1
 have HUN:=Zh (fun (wq:World) (hq:ClAt c M2 J (bdB B c b tail::jR b.J::jA b.J::L) W wq)=>bunits_any (K:=[bdB B c b tail]) wq hq (show BdOk c M.us.length J (jR b.J::jA b.J::L) W b from HB.out))
 have HTR:=Zh (fun (ua:Option Addr) (uc:Nat) (wq:World) (hq:ClAt c M2 J (.row 3 1 (.slice ua b.units.length uc) b.units.length (zVs b.units)::bdB B c b tail::jR b.J::jA b.J::L) W wq)=>trimAll_any b.units ua uc b.e b.low wq HP.out hq HK2.out.2 (by omega) (fun u hu=>by rw [HK2.out.1.us,HK1.out.1.us];exact HUF.out.2 u hu) (fun M' w' h'=>SlV.of_own (h'.side.row 0 rfl)))
 have HO3:=Zh (fun (v:Nat) (hv:(v:Int)∈b.units)=>trims_on (e:=b.e) (b:=b.low) (l:=b.units) (HO2.out v hv))
 generalize allC (Cl.trimS b.e b.low) b.units M2=tr at *
 obtain ⟨tz,M3⟩:=tr
 simp only at HTR HO3
 have b0:=H2.out.side.cell 0 rfl 0 rfl;have b1:=H2.out.side.cell 0 rfl 1 rfl;have b2:=H2.out.side.cell 0 rfl 2 rfl;have b4:=H2.out.side.cell 0 rfl 4 rfl;have bl:=H2.out.side.lt 0 rfl
 clear hbl
 go_upto_region 7 with fail
 refine startD (S:=(fun w'=>w'.cell? ⟨B,0,none⟩=some (ptrV c)∧w'.cell? ⟨B,1,none⟩=some (.int .i64 b.e)∧w'.cell? ⟨B,2,none⟩=some (.slice b.J.a b.J.Ks.length b.J.c)∧w'.cell? ⟨B,4,none⟩=some (.int .i64 b.low)∧B<w'.heap.size)) (by kernel_rfl) ⟨b0,b1,b2,b4,bl⟩ (fun hH0=>?_)
 simp only [List.length_cons,List.length_nil,Nat.reduceAdd,List.replicate_succ,List.replicate_zero]
 refine tD 0 19 (.pointer (some ⟨B,0,none⟩)) rfl rfl [(0,.pointer (some ⟨B,0,none⟩))] hH0 ?_
 dsimp only [sZ,sS]
 refine tD 1 20 (.pointer (some ⟨B,0,none⟩)) rfl rfl [(19,.pointer (some ⟨B,0,none⟩))] hH0 ?_
 dsimp only [sZ,sS]
 refine tD 2 21 (.pointer (some ⟨B,0,none⟩)) rfl rfl [(20,.pointer (some ⟨B,0,none⟩))] hH0 ?_
 dsimp only [sZ,sS]
 refine tD 3 22 (.pointer (some ⟨c,0,none⟩)) rfl rfl [(21,.pointer (some ⟨B,0,none⟩))] hH0 ?_
 dsimp only [sZ,sS]
 refine tD 4 23 (.pointer (some ⟨B,0,none⟩)) rfl rfl [(0,.pointer (some ⟨B,0,none⟩))] hH0 ?_
 dsimp only [sZ,sS]
 refine tD 5 24 (.pointer (some ⟨B,0,none⟩)) rfl rfl [(23,.pointer (some ⟨B,0,none⟩))] hH0 ?_
 dsimp only [sZ,sS]
 refine tD 6 25 (.pointer (some ⟨B,1,none⟩)) rfl rfl [(24,.pointer (some ⟨B,0,none⟩))] hH0 ?_
 dsimp only [sZ,sS]
 refine tD 7 26 (.agg #[.int .i64 b.e,.slice b.J.a b.J.Ks.length b.J.c]) rfl rfl [(25,.pointer (some ⟨B,1,none⟩))] hH0 ?_
 dsimp only [sZ,sS]
 refine tD 9 28 (.pointer (some ⟨B,0,none⟩)) rfl rfl [(0,.pointer (some ⟨B,0,none⟩))] hH0 ?_
 dsimp only [sZ,sS]
 refine tD 10 29 (.pointer (some ⟨B,0,none⟩)) rfl rfl [(28,.pointer (some ⟨B,0,none⟩))] hH0 ?_
 dsimp only [sZ,sS]
 refine tD 11 30 (.pointer (some ⟨B,1,none⟩)) rfl rfl [(29,.pointer (some ⟨B,0,none⟩))] hH0 ?_
 dsimp only [sZ,sS]
 refine tD 12 31 (.pointer (some ⟨B,1,none⟩)) rfl rfl [(30,.pointer (some ⟨B,1,none⟩))] hH0 ?_
 dsimp only [sZ,sS]
 refine tD 13 32 (.int .i64 b.e) rfl rfl [(31,.pointer (some ⟨B,1,none⟩))] hH0 ?_
 dsimp only [sZ,sS]
 refine tD 14 33 (.pointer (some ⟨B,0,none⟩)) rfl rfl [(0,.pointer (some ⟨B,0,none⟩))] hH0 ?_
 dsimp only [sZ,sS]
 refine tD 15 34 (.pointer (some ⟨B,0,none⟩)) rfl rfl [(33,.pointer (some ⟨B,0,none⟩))] hH0 ?_
 dsimp only [sZ,sS]
 refine tD 16 35 (.pointer (some ⟨B,4,none⟩)) rfl rfl [(34,.pointer (some ⟨B,0,none⟩))] hH0 ?_
 dsimp only [sZ,sS]
 refine tD 17 36 (.int .i64 b.low) rfl rfl [(35,.pointer (some ⟨B,4,none⟩))] hH0 ?_
 dsimp only [sZ,sS]
 refine rD 8 rfl (fun K hK=>?_)
 go_simp
 refine (HUN.out _ (H2.out.below (Below.refl w2.heap.size w2).drew)).mono ?_
 clear HUN
 rintro en w3 ⟨ua,uc,rfl,h3⟩
 have H3:=Zh (show ClAt c M2 J (.row 3 1 (.slice ua b.units.length uc) b.units.length (zVs b.units)::bdB B c b tail::jR b.J::jA b.J::L) W w3 from h3)
 clear h3
 refine hK.out _ _ ?_ (fun hH1=>?_)
 ·exact ⟨H3.out.side.cell 1 rfl 0 rfl,H3.out.side.cell 1 rfl 1 rfl,H3.out.side.cell 1 rfl 2 rfl,H3.out.side.cell 1 rfl 4 rfl,H3.out.side.lt 1 rfl⟩
 clear hK K
 try simp only [Act.put,gA,gZ,gS,sA,sZ,sS]
 refine rD 18 rfl (fun K hK=>?_)
 go_simp
 refine (HTR.out ua uc _ H3.out).mono ?_
 clear HTR
 rintro en w4 ⟨rfl,h4,hok4,hst4⟩
 have H4:=Lib.hid' h4
 have HK4:=Zh (And.intro hst4 hok4)
 clear h4 hst4 hok4
 refine hK.out _ _ ?_ (fun hH2=>?_)
 ·exact ⟨H4.out.side.cell 1 rfl 0 rfl,H4.out.side.cell 1 rfl 1 rfl,H4.out.side.cell 1 rfl 2 rfl,H4.out.side.cell 1 rfl 4 rfl,H4.out.side.lt 1 rfl⟩
 clear hK K
 try simp only [Act.put,gA,gZ,gS,sA,sZ,sS]
 refine tD 19 5 (errV tz) rfl rfl [(37,errV tz)] hH2 ?_
 dsimp only [sZ,sS]
 refine wpAnyH_done (by kernel_rfl) ?_ _
 skip
 clear b0 b1 b2 b4 bl
 have H5:=Zh (ClAt.less (K:=[_]) H4.out)
 have HK5:=Zh (show Stay M M3∧M3.ok from ⟨⟨HK4.out.1.us.trans (HK2.out.1.us.trans HK1.out.1.us),HK4.out.1.p.trans (HK2.out.1.p.trans HK1.out.1.p),HK4.out.1.q.trans (HK2.out.1.q.trans HK1.out.1.q)⟩,HK4.out.2⟩)
 clear H4 H3 H2 HK4 HK2 HK1
 by_cases hz:tz=0
 rotate_left
 ·have HR:=Zh (HF2.out.trans (if_pos hz))
  have HZ:=Lib.hid' hz
  rw [errV_pos hz]
  clear HF2 hz
  go_wp2_with fail
  go_ret
  rw [HR.out]
  exact ⟨by rw [errV_pos HZ.out];rfl,J,ClAt.less (K:=[_,_,_]) H5.out⟩
 subst hz
 have HF3:=Zh (show runS b M=runEnd b.e (b.J.Ks.map (·.1)) (max tail b.low) (fillsS b.e b.st (b.J.Ks.map (·.1)) M3) from HF2.out.trans (if_neg (by simp)))
 rw [errV_0]
 clear HF2
 have b2:=H5.out.side.cell 0 rfl 2 rfl;have bl:=H5.out.side.lt 0 rfl
 have hkl:b.J.Ks.length≤4:=by have:=HB.out.pj.n;simp at this;omega
 obtain ⟨bb,off,hja,_⟩:=(jch H5.out.side 2 1 rfl rfl).at (k:=0) (by have:=HB.out.pj.n;simp at this;omega)
 have HJA:=Lib.hid' hja
 go_upto_block 3 with fail
 try rw [hja]
 clear b2 bl hja
 go_loopw [47] (fun v47 wr=>∃ (k:Nat) (M4:Cl),v47=.int .i64 k∧k≤b.J.Ks.length∧Hid (ClAt c M4 J (bdB B c b tail::jR b.J::jA b.J::L) W wr)∧Hid (Stay M M4∧M4.ok)∧Hid (∀ v:Nat,(v:Int)∈b.units→M4.On v)∧Hid (fillsS b.e b.st (b.J.Ks.map (·.1)) M3=fillsS b.e b.st ((b.J.Ks.drop k).map (·.1)) M4)) (fun v47 _=>b.J.Ks.length - (intOf v47).toNat)
 case atStart=>exact ⟨0,M3,rfl,Nat.zero_le _,H5,HK5,HO3,Lib.hid' rfl⟩
 case round =>
  clear H5 HK5 HO3
  obtain ⟨k,M4,rfl,hk,H6,HK6,HO6,HR6⟩:=hrel
  by_cases hlt:k<b.J.Ks.length
  ·have hch:=jch H6.out.side 2 1 rfl rfl
   obtain ⟨bb',off',hja',hbb,c0,hz0⟩:=hch.at hlt
   rw [HJA.out] at hja'
   simp only [Option.some.injEq,Addr.mk.injEq,and_true] at hja'
   obtain ⟨rfl,rfl⟩:=hja'
   have HMEM:=Zh (List.getElem_mem hlt)
   have HDR:=Zh (List.drop_eq_getElem_cons hlt)
   clear hch hz0
   generalize b.J.Ks[k]=y at *
   obtain ⟨ych,ya,yc⟩:=y
   simp only at c0
   have HYU:=Zh (show ∀ u∈ych,u∈b.units from fun u hu=>(unitsOf_mem u _).2 (List.mem_flatten.2 ⟨ych,List.mem_map_of_mem (f:=(·.1)) HMEM.out,hu⟩))
   have HYL:=Zh (show ych.length≤4 from (HB.out.pj.each ych (List.mem_map_of_mem (f:=(·.1)) HMEM.out)).2)
   have HFB:=Zh (fillB_any b tail ya yc ych wr HP.out H6.out HK6.out.2 HB.out.st (fun M' w' h'=>(HB.out.ch M' w' h').2 _ HMEM.out) (by have:=HYL.out;omega) (fun u hu=>by rw [HK6.out.1.us];exact HUF.out.2 u (HYU.out u hu)) (fun u hu=>HO6.out u.toNat (by rw [Int.toNat_of_nonneg (HUF.out.2 u (HYU.out u hu)).1];exact HYU.out u hu)))
   have HON:=Zh (fun (v:Nat) (hv:(v:Int)∈b.units)=>fillAll_on (e:=b.e) (st:=b.st) (ch:=ych) (HO6.out v hv))
   have HRR:=Zh (show fillsS b.e b.st (b.J.Ks.map (·.1)) M3=if (M4.fillAll b.e b.st ych).1≠0 then M4.fillAll b.e b.st ych else fillsS b.e b.st ((b.J.Ks.drop (k+1)).map (·.1)) (M4.fillAll b.e b.st ych).2 by rw [HR6.out,HDR.out];rfl)
   clear HR6 HDR HO6
   generalize M4.fillAll b.e b.st ych=fr at *
   obtain ⟨fz,M5⟩:=fr
   simp only at HFB HON HRR
   go_wp2_with fail
   refine HFB.out.mono ?_
   clear HFB c0
   rintro en w7 ⟨rfl,h7,hst7,_⟩
   have H7:=Lib.hid' h7
   have HK7:=Zh (show Stay M M5∧M5.ok from ⟨⟨hst7.1.us.trans HK6.out.1.us,hst7.1.p.trans HK6.out.1.p,hst7.1.q.trans HK6.out.1.q⟩,hst7.2⟩)
   clear h7 hst7 HK6 H6
   by_cases hz:fz=0
   ·subst hz
    have HR:=Zh (HRR.out.trans (if_neg (by simp)))
    rw [errV_0]
    clear HRR
    go_wp2_with fail
    go_roundw
    case rel=>exact ⟨k+1,M5,by go_num,by omega,H7,HK7,HON,HR⟩
    case measure=>simp [intOf];omega
   ·have HR:=Zh (show runS b M=(fz,M5) by rw [HF3.out,HRR.out,if_pos hz];exact if_pos hz)
    have HZ:=Lib.hid' hz
    rw [errV_pos hz]
    clear hz HRR
    go_wp2_with fail
    go_ret
    rw [HR.out]
    exact ⟨by rw [errV_pos HZ.out];rfl,J,ClAt.less (K:=[_,_,_]) H7.out⟩
  ·have HR:=Zh (show runS b M=((M4.q.set b.e (max tail b.low)).1,{ M4 with p:=⟨b.e,b.J.Ks.map (·.1)⟩,q:=(M4.q.set b.e (max tail b.low)).2 }) by
    rw [HF3.out,HR6.out,List.drop_of_length_le (by omega)];rfl)
   clear HR6 HF3 HO6
   have b0:=H6.out.side.cell 0 rfl 0 rfl;have b1:=H6.out.side.cell 0 rfl 1 rfl;have b2:=H6.out.side.cell 0 rfl 2 rfl;have bl:=H6.out.side.lt 0 rfl
   obtain ⟨c2,cl⟩:=H6.out.c2
   obtain ⟨c3,cf2,cf3⟩:=H6.out.c3f
   go_upto_region 17 with fail
   refine startD (S:=(fun w'=>w'.cell? ⟨B,0,none⟩=some (ptrV c)∧w'.cell? ⟨B,1,none⟩=some (.int .i64 b.e)∧w'.cell? ⟨B,2,none⟩=some (.slice b.J.a b.J.Ks.length b.J.c)∧B<w'.heap.size∧c<w'.heap.size)) (by kernel_rfl) ⟨b0,b1,b2,bl,cl⟩ (fun hH0=>?_)
   simp only [List.length_cons,List.length_nil,Nat.reduceAdd,List.replicate_succ,List.replicate_zero]
   refine tD 0 58 (.pointer (some ⟨B,0,none⟩)) rfl rfl [(0,.pointer (some ⟨B,0,none⟩))] hH0 ?_
   dsimp only [sZ,sS]
   refine tD 1 59 (.pointer (some ⟨B,0,none⟩)) rfl rfl [(58,.pointer (some ⟨B,0,none⟩))] hH0 ?_
   dsimp only [sZ,sS]
   refine tD 2 60 (.pointer (some ⟨B,0,none⟩)) rfl rfl [(59,.pointer (some ⟨B,0,none⟩))] hH0 ?_
   dsimp only [sZ,sS]
   refine tD 3 61 (.pointer (some ⟨c,0,none⟩)) rfl rfl [(60,.pointer (some ⟨B,0,none⟩))] hH0 ?_
   dsimp only [sZ,sS]
   refine tD 4 62 (.pointer (some ⟨B,0,none⟩)) rfl rfl [(0,.pointer (some ⟨B,0,none⟩))] hH0 ?_
   dsimp only [sZ,sS]
   refine tD 5 63 (.pointer (some ⟨B,0,none⟩)) rfl rfl [(62,.pointer (some ⟨B,0,none⟩))] hH0 ?_
   dsimp only [sZ,sS]
   refine tD 6 64 (.pointer (some ⟨B,1,none⟩)) rfl rfl [(63,.pointer (some ⟨B,0,none⟩))] hH0 ?_
   dsimp only [sZ,sS]
   refine tD 7 65 (.agg #[.int .i64 b.e,.slice b.J.a b.J.Ks.length b.J.c]) rfl rfl [(64,.pointer (some ⟨B,1,none⟩))] hH0 ?_
   dsimp only [sZ,sS]
   refine tD 8 66 (.pointer (some ⟨c,0,none⟩)) rfl rfl [(61,.pointer (some ⟨c,0,none⟩))] hH0 ?_
   dsimp only [sZ,sS]
   refine tD 9 67 (.pointer (some ⟨c,2,none⟩)) rfl rfl [(66,.pointer (some ⟨c,0,none⟩))] hH0 ?_
   dsimp only [sZ,sS]
   refine rD 10 rfl (fun K hK=>?_)
   go_simp
   have H7:=Zh ((H6.out.permL ((List.Perm.swap _ _ _).trans ((List.Perm.swap _ _ _).cons _))).turnJ b.e |>.below (Below.refl _ _).drew)
   refine hK.out _ _ ?_ (fun hH1=>?_)
   ·exact ⟨H7.out.side.cell 0 rfl 0 rfl,H7.out.side.cell 0 rfl 1 rfl,H7.out.side.cell 0 rfl 2 rfl,H7.out.side.lt 0 rfl,H7.out.c2.2⟩
   clear hK K
   refine wpAnyH_done (by kernel_rfl) ?_ _
   skip
   clear b0 b1 b2 bl c2 cl c3 cf2 cf3 H6
   generalize World.drew _=w8 at *
   obtain ⟨bq,Kq,q4,hsq,_,hback⟩:=H7.out.seqd
   have HSQ:=Lib.hid' hsq
   have HBK:=Lib.hid' hback
   have b0:=H7.out.side.cell 0 rfl 0 rfl;have b1:=H7.out.side.cell 0 rfl 1 rfl;have b4:=H7.out.side.cell 0 rfl 4 rfl;have b5:=H7.out.side.cell 0 rfl 5 rfl;have bl:=H7.out.side.lt 0 rfl
   have cl:=H7.out.c2.2
   clear hsq hback H7
   go_upto_region 18 with fail
   refine startD (S:=(fun w'=>w'.cell? ⟨B,0,none⟩=some (ptrV c)∧w'.cell? ⟨B,1,none⟩=some (.int .i64 b.e)∧w'.cell? ⟨B,4,none⟩=some (.int .i64 b.low)∧w'.cell? ⟨B,5,none⟩=some (.int .i64 tail)∧w'.cell? ⟨c,4,none⟩=some (ptrV bq)∧B<w'.heap.size∧c<w'.heap.size)) (by kernel_rfl) ⟨b0,b1,b4,b5,q4,bl,cl⟩ (fun hH0=>?_)
   simp only [List.length_cons,List.length_nil,Nat.reduceAdd,List.replicate_succ,List.replicate_zero]
   refine tD 0 68 (.pointer (some ⟨B,0,none⟩)) rfl rfl [(0,.pointer (some ⟨B,0,none⟩))] hH0 ?_
   dsimp only [sZ,sS]
   refine tD 1 69 (.pointer (some ⟨B,0,none⟩)) rfl rfl [(68,.pointer (some ⟨B,0,none⟩))] hH0 ?_
   dsimp only [sZ,sS]
   refine tD 2 70 (.pointer (some ⟨B,0,none⟩)) rfl rfl [(69,.pointer (some ⟨B,0,none⟩))] hH0 ?_
   dsimp only [sZ,sS]
   refine tD 3 71 (.pointer (some ⟨c,0,none⟩)) rfl rfl [(70,.pointer (some ⟨B,0,none⟩))] hH0 ?_
   dsimp only [sZ,sS]
   refine tD 4 72 (.pointer (some ⟨c,0,none⟩)) rfl rfl [(71,.pointer (some ⟨c,0,none⟩))] hH0 ?_
   dsimp only [sZ,sS]
   refine tD 5 73 (.pointer (some ⟨c,4,none⟩)) rfl rfl [(72,.pointer (some ⟨c,0,none⟩))] hH0 ?_
   dsimp only [sZ,sS]
   refine tD 6 74 (ptrV bq) rfl rfl [(73,.pointer (some ⟨c,4,none⟩))] hH0 ?_
   dsimp only [sZ,sS]
   refine tD 7 75 (.pointer (some ⟨B,0,none⟩)) rfl rfl [(0,.pointer (some ⟨B,0,none⟩))] hH0 ?_
   dsimp only [sZ,sS]
   refine tD 8 76 (.pointer (some ⟨B,0,none⟩)) rfl rfl [(75,.pointer (some ⟨B,0,none⟩))] hH0 ?_
   dsimp only [sZ,sS]
   refine tD 9 77 (.pointer (some ⟨B,1,none⟩)) rfl rfl [(76,.pointer (some ⟨B,0,none⟩))] hH0 ?_
   dsimp only [sZ,sS]
   refine tD 10 78 (.pointer (some ⟨B,1,none⟩)) rfl rfl [(77,.pointer (some ⟨B,1,none⟩))] hH0 ?_
   dsimp only [sZ,sS]
   refine tD 11 79 (.int .i64 b.e) rfl rfl [(78,.pointer (some ⟨B,1,none⟩))] hH0 ?_
   dsimp only [sZ,sS]
   refine tD 12 80 (.pointer (some ⟨B,0,none⟩)) rfl rfl [(0,.pointer (some ⟨B,0,none⟩))] hH0 ?_
   dsimp only [sZ,sS]
   refine tD 13 81 (.pointer (some ⟨B,0,none⟩)) rfl rfl [(80,.pointer (some ⟨B,0,none⟩))] hH0 ?_
   dsimp only [sZ,sS]
   refine tD 14 82 (.pointer (some ⟨B,5,none⟩)) rfl rfl [(81,.pointer (some ⟨B,0,none⟩))] hH0 ?_
   dsimp only [sZ,sS]
   refine tD 15 83 (.int .i64 tail) rfl rfl [(82,.pointer (some ⟨B,5,none⟩))] hH0 ?_
   dsimp only [sZ,sS]
   refine tD 16 84 (.pointer (some ⟨B,0,none⟩)) rfl rfl [(0,.pointer (some ⟨B,0,none⟩))] hH0 ?_
   dsimp only [sZ,sS]
   refine tD 17 85 (.pointer (some ⟨B,0,none⟩)) rfl rfl [(84,.pointer (some ⟨B,0,none⟩))] hH0 ?_
   dsimp only [sZ,sS]
   refine tD 18 86 (.pointer (some ⟨B,4,none⟩)) rfl rfl [(85,.pointer (some ⟨B,0,none⟩))] hH0 ?_
   dsimp only [sZ,sS]
   refine tD 19 87 (.int .i64 b.low) rfl rfl [(86,.pointer (some ⟨B,4,none⟩))] hH0 ?_
   dsimp only [sZ,sS]
   refine rD 20 rfl (fun K hK=>?_)
   go_simp
   refine hK.out _ _ ?_ (fun hH1=>?_)
   ·exact hH0
   clear hK K
   try simp only [Act.put,gA,gZ,gS,sA,sZ,sS]
   refine rD 21 rfl (fun K hK=>?_)
   go_simp
   refine (SQ.set_any b.e (max tail b.low) HSQ.out.drew).mono ?_
   rintro en wz ⟨rfl,hsz⟩
   obtain ⟨hz1,hz4⟩:=HBK.out _ _ hsz
   have HZ1:=Lib.hid' hz1
   have HFZ:=Zh (show wz.cell? ⟨B,0,none⟩=some (ptrV c)∧wz.cell? ⟨B,1,none⟩=some (.int .i64 b.e)∧wz.cell? ⟨B,4,none⟩=some (.int .i64 b.low)∧wz.cell? ⟨B,5,none⟩=some (.int .i64 tail)∧wz.cell? ⟨c,4,none⟩=some (ptrV bq)∧B<wz.heap.size∧c<wz.heap.size from ⟨hz1.side.cell 0 rfl 0 rfl,hz1.side.cell 0 rfl 1 rfl,hz1.side.cell 0 rfl 4 rfl,hz1.side.cell 0 rfl 5 rfl,hz4,hz1.side.lt 0 rfl,hz1.c2.2⟩)
   clear hsz hz1 hz4
   refine hK.out _ _ ?_ (fun hH2=>?_)
   ·exact HFZ.out
   clear hK K
   try simp only [Act.put,gA,gZ,gS,sA,sZ,sS]
   refine tD 22 2 (errV (M4.q.set b.e (max tail b.low)).1) rfl rfl [(89,errV (M4.q.set b.e (max tail b.low)).1)] hH2 ?_
   dsimp only [sZ,sS]
   refine wpAnyH_done (by kernel_rfl) ?_ _
   clear b0 b1 b4 b5 bl q4 cl
   go_wp2_with fail
   go_ret
   rw [HR.out]
   exact ⟨rfl,b.J,ClAt.less (K:=[_]) HZ1.out⟩
end SL
end Go.Proofs.YtimbeeiihbmofaaGreatDoor
