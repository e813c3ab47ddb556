/- Proved here: a part of the proof (25 of 35). -/
import Derived.Test.YtaodldbgikiekaaGreatDoorW22
import Derived.Test.YtaodldbgikiekaaGreatDoorW12
import Derived.Test.YtaodldbgikiekaaGreatDoorW7
import Derived.Test.YtaodldbgikiekaaGreatDoorW24
import Derived.Test.YtaodldbgikiekaaGreatDoorW11
import Derived.Test.YtaodldbgikiekaaGreatDoorW1
import Derived.Test.YtaodldbgikiekaaGreatDoorW14
import Derived.Test.YtaodldbgikiekaaGreatDoorW28
set_option linter.unusedSimpArgs false
set_option linter.unusedVariables false
set_option maxRecDepth 100000
namespace Go.Proofs.YtaodldbgikiekaaGreatDoor
open Go.RowKit
namespace SH
open DK
def AgR (q N:Nat) (u:U) (n:Nat) (D:Dk) (vs:PoolL) (F:Nat→Prop) (w:World) (e:Ending) (w':World):Prop :=
 e=.returned (.tuple #[.bool (againD D u n).2.1,errV (againD D u n).1])∧ShR q N ⟨(againD D u n).2.2.1,(againD D u n).2.2.2,false⟩ D vs F w w'
theorem AgR.of {q N:Nat} {u u':U} {n n':Nat} {D:Dk} {vs us:PoolL} {F:Nat→Prop} {w w':World} {e:Nat} {b:Bool} (hd:againD D u n=(e,b,u',n')) (hs:∀ y∈vs,y∈us) (h:ShAt q N ⟨u',n',false⟩ D us [] F w w'):AgR q N u n D vs F w (.returned (.tuple #[.bool b,errV e])) w':=by
 unfold AgR
 rw [hd]
 exact ⟨rfl,us,hs,h⟩
def CompR (q N:Nat) (S:Sf) (D:Dk) (vs:PoolL) (F:Nat→Prop) (w:World) (e:Ending) (w':World):Prop :=
 e=.returned (errV (compS S D).1)∧ShAt q N (compS S D).2.1 (compS S D).2.2 vs [] F w w'
theorem CompR.of {q N:Nat} {S S':Sf} {D D':Dk} {vs:PoolL} {F:Nat→Prop} {w w':World} {e:Nat} (hd:compS S D=(e,S',D')) (h:ShAt q N S' D' vs [] F w w'):CompR q N S D vs F w (.returned (errV e)) w':=by
 unfold CompR
 rw [hd]
 exact ⟨rfl,h⟩
end SH
end Go.Proofs.YtaodldbgikiekaaGreatDoor

namespace Go.Proofs.YtaodldbgikiekaaGreatDoor
namespace SH
open DK
theorem put1_ne {g:Vw} {n x:Nm} {d:Option (List UInt8)} (h:x≠n):put1 g n d x=g x:=if_neg h
theorem put1_eq {g:Vw} {n:Nm} {d:Option (List UInt8)}:put1 g n d n=d:=if_pos rfl
theorem Base.act {g:Vw} {b n:Nat} {ub:U} {d:Option (List UInt8)} (h:Base g b ub):Base (put1 g (nameN 114 n) d) b ub:=by
 have hne:∀ k,put1 g (nameN 114 n) d (nameN 98 k)=g (nameN 98 k):=fun k=>put1_ne (name_ne (by decide) k n)
 refine ⟨?_,fun k h1 h2=>by rw [hne];exact h.2 k h1 h2⟩
 rw [hne,hne]
 exact h.1
theorem Acts.snoc {g:Vw} {x:Ac} {n:Nat} (hn:n≤99999999):∀ {k b:Nat} {u v:U},Acts g k b u v→b+k=n→(apU v x).1=0→x.check=0→Acts (put1 g (nameN 114 n) (some x.put)) (k+1) b u (apU v x).2.2
 | 0,b,u,v,h,hb,h1,h2=>by
  have h:u=v:=h
  subst h
  have hb:b=n:=by omega
  subst hb
  exact ⟨x.put,x,put1_eq,Ac.take_put h2,h1,rfl⟩
 | k+1,b,u,v,h,hb,h1,h2=>by
  obtain ⟨d,y,q1,q2,q3,q4⟩:=h
  refine ⟨d,y,?_,q2,q3,Acts.snoc hn q4 (by omega) h1 h2⟩
  rw [put1_ne (fun e=>by have:=name_inj (by omega) hn e;omega)]
  exact q1
theorem ap_check {u:U} {x:Ac} (h:(apU u x).1=0):x.check=0:=by
 apply Decidable.byContradiction
 intro hc
 unfold apU at h
 rw [if_pos hc] at h
 exact hc h
theorem Rep.act {g:Vw} {v:U} {n:Nat} {x:Ac} (h:Rep g v n) (hn:n≤99999999) (hx:(apU v x).1=0):Rep (put1 g (nameN 114 n) (some x.put)) (apU v x).2.2 (n+1):=by
 obtain ⟨b,ub,k,e,hb,ha,hno⟩:=h
 refine ⟨b,ub,k+1,by omega,hb.act,ha.snoc hn e.symm hx (ap_check hx),fun m h1 h2=>?_⟩
 rw [put1_ne (fun e=>by have:=name_inj h2 hn e;omega)]
 exact hno m (by omega) h2
/-- nothing but the one base counts -/
structure Rep0 (g:Vw) (u:U) (n:Nat):Prop where
 base:∃ d,g (nameN 98 n)=some d∧takeU d=(0,u)∧u.ok
 high:∀ k,n<k→k≤99999999→g (nameN 98 k)=none
 acts:∀ m,n≤m→m≤99999999→g (nameN 114 m)=none
theorem Rep.base {g:Vw} {v u:U} {n:Nat} {d:List UInt8} (h:Rep g v n) (hn:n≤99999999) (ht:takeU d=(0,u)) (hu:u.ok):Rep0 (put1 g (nameN 98 n) (some d)) u n:=by
 obtain ⟨b,ub,k,e,hb,ha,hno⟩:=h
 refine ⟨⟨d,put1_eq,ht,hu⟩,fun m h1 h2=>?_,fun m h1 h2=>?_⟩
 ·rw [put1_ne (fun e=>by have:=name_inj h2 hn e;omega)]
  exact hb.2 m (by omega) h2
 ·rw [put1_ne (name_ne (by decide) m n)]
  exact hno m h1 h2
/-- .. but for the order of the cells -/
def RepE (g:Vw) (u:U) (n:Nat):Prop:=∃ v,Rep g v n∧Ueq v u
theorem RepE.act {g:Vw} {u:U} {n:Nat} {x:Ac} (h:RepE g u n) (hn:n≤99999999) (hx:(apU u x).1=0):RepE (put1 g (nameN 114 n) (some x.put)) (apU u x).2.2 (n+1):=by
 obtain ⟨v,hv,he⟩:=h
 obtain ⟨e1,_,e3⟩:=ap_eq he hv.ok.nodup x
 exact ⟨_,hv.act hn (by rw [e1];exact hx),e3⟩
theorem act_len {x:Ac} (h:x.check=0):x.put.length≤200:=by
 obtain ⟨h1,h2,h3,h4,h5,h6,h7,h8,h9⟩:=Ac.check_ok h
 have g1:=vb_len_le (n:=x.k.toNat) (k:=10) (by decide) (by omega)
 have g2:=vb_len_le (n:=x.e.toNat) (k:=10) (by decide) (by omega)
 have g3:=vb_len_le (n:=x.a.toNat) (k:=10) (by decide) (by omega)
 have g4:=vb_len_le (n:=x.d.length) (k:=10) (by decide) (by omega)
 have ht:x.text.length≤110:=by
  unfold Ac.text headB
  simp only [List.length_append]
  split<;>split<;>simp only [List.length_append,List.length_nil]<;>omega
 have g5:=vb_len_le (n:=x.text.length) (k:=10) (by decide) (by omega)
 unfold Ac.put
 rw [frameB_len];omega
theorem doS_cases {r:Int} {L:Fl} {f:Int} {u:U} {n:Nat} {x:Ac} (hg:(L.map (·.1)).Nodup) (h5:L.length<512) (h6:(usedF L:Int)+200≤r) (hn:n≤99999999) (hR:RepE (V L) u n) (hx:(apU u x).1=0) :
  (∃ f',doS ⟨u,n,false⟩ ⟨r,L,L,[],f,false⟩ x=(0,(apU u x).2.1,⟨(apU u x).2.2,n+1,false⟩,⟨r,putL L (nameN 114 n) x.put,putL L (nameN 114 n) x.put,[],f',false⟩)∧(f=-1→f'=-1)∧RepE (V (putL L (nameN 114 n) x.put)) (apU u x).2.2 (n+1)) ∨
  (f≠-1∧∃ D',doS ⟨u,n,false⟩ ⟨r,L,L,[],f,false⟩ x=(14,0,⟨u,n,true⟩,D')∧AfterC r D' (fun g=>RepE g u n∨RepE g (apU u x).2.2 (n+1))):=by
 have hlen:=act_len (ap_check hx)
 have hbg:=begun_name (b:=114) (by decide) n
 have hV:=V_putL hg hbg x.put
 have hA:=hR.act hn hx
 rcases putD_cases r L f (nameN 114 n) x.put hg (obj_r n) hbg (tilde_name (by decide) n) (by omega) h5 (by omega) with ⟨f',e,hf⟩ | ⟨hf,D',e,ha⟩
 ·left
  refine ⟨f',?_,hf,by rw [hV];exact hA⟩
  unfold doS
  rw [if_neg (by simp),if_neg (by simpa using hx),if_neg (by show ¬99999999<n;omega)]
  simp only [e,ne_eq,not_true_eq_false,if_false]
 ·right
  refine ⟨hf,D',?_,ha.imp (fun g hg=>?_)⟩
  ·unfold doS
   rw [if_neg (by simp),if_neg (by simpa using hx),if_neg (by show ¬99999999<n;omega)]
   simp only [e]
   rw [if_pos (by decide)]
   rfl
  ·rcases hg with rfl | rfl
   ·exact .inl hR
   ·exact .inr hA
/-- acts and bases alone -/
def Only (L:Fl):Prop:=∀ p∈L,(numberN 114 p.1).isSome=true∨(numberN 98 p.1).isSome=true
theorem putL_mem {L:Fl} {n:Nm} {d:List UInt8} {p:Nm×List UInt8} (h:p∈putL L n d):p=(n,d)∨p∈L:=by
 unfold putL at h
 rcases putF_mem.1 h with h | ⟨h,_⟩
 ·exact .inl h
 ·have h1:=List.mem_filter.1 h
  rcases putF_mem.1 h1.1 with h2 | ⟨h2,_⟩
  ·have h3:=h1.2
   rw [h2] at h3
   simp [bne] at h3
  ·exact .inr h2
theorem Only.base {L:Fl} (h:Only L) {n:Nat} (hn:n≤99999999) {d:List UInt8}:Only (putL L (nameN 98 n) d):=fun p hp=>by
 rcases putL_mem hp with rfl | hp
 ·right;show (numberN 98 (nameN 98 n)).isSome=true;rw [number_name 98 hn];rfl
 ·exact h p hp
theorem Only.noBeg {L:Fl} (h:Only L):NoBeg L:=fun p hp=>by
 rcases h p hp with h | h
 ·obtain ⟨n,hn⟩:=Option.isSome_iff_exists.1 h
  rw [name_of_number hn];exact begun_name (by decide) n
 ·obtain ⟨n,hn⟩:=Option.isSome_iff_exists.1 h
  rw [name_of_number hn];exact begun_name (by decide) n
theorem V_nil (x:Nm):V [] x=none:=by unfold V getF;split<;>rfl
theorem rep_new:Rep (V []) U.new 0:=⟨0,U.new,0,rfl,⟨.inl ⟨rfl,rfl,V_nil _⟩,fun k _ _=>V_nil _⟩,rfl,fun m _ _=>V_nil _⟩
theorem cut_clean (r:Int) (L:Fl) (f:Int) (ks:List Bool):upD (cutD ⟨r,L,L,[],f,false⟩ ks)=⟨r,L,L,[],-1,false⟩:=by
 unfold upD
 rw [if_pos (by rfl)]
 unfold cutD
 simp only [kept_nil]
 rfl
/-- a shelf whose disk has all power -/
def BasAt (k:Nat) (S:Sf) (D:Dk):Prop:=∃ u n L,S=⟨u,n,false⟩∧D=⟨16777216,L,L,[],-1,false⟩∧Ok k D∧n≤k∧u.ok∧u.cells.length≤k∧RepE (V L) u n∧Only L
theorem BasAt.ok {k:Nat} {S:Sf} {D:Dk} (h:BasAt k S D):Ok k D∧D.pend=[]:=by
 obtain ⟨u,n,L,_,rfl,h,_⟩:=h
 exact ⟨h,rfl⟩
theorem BasAt.open {k:Nat} {S:Sf} {D:Dk} (h:BasAt k S D) (hk:k≤100):∃ S',openS (upD (cutD D []))=(0,S',D)∧S'.n=S.n∧Ueq S'.u S.u∧BasAt k S' D:=by
 obtain ⟨u,n,L,rfl,rfl,h1,h2,h3,h4,⟨v,hv,hve⟩,h6⟩:=h
 obtain ⟨L',e,q1,q2,q3,q4⟩:=openS_at 16777216 L h1.shown hv (by omega)
 obtain rfl:=q4 h6.noBeg
 have hl:=hve.cells.length_eq
 exact ⟨⟨v,n,false⟩,by rw [cut_clean];exact e,rfl,hve,v,n,_,rfl,rfl,h1,h2,hv.ok,by omega,⟨v,hv,Ueq.refl _⟩,h6⟩
end SH
end Go.Proofs.YtaodldbgikiekaaGreatDoor

namespace Go.Proofs.YtaodldbgikiekaaGreatDoor
open Go.RowKit
namespace SH
open DK
theorem sread_any {q N:Nat} {S:Sf} {D:Dk} {vs:PoolL} {F:Nat→Prop} (e a:Int) (w:World) (h:ShAt q N S D vs [] F w w) :
  Calls Tryz.prog 107 #[ptrV q,.int .i64 e,.int .i64 a] w (ReadR (readS S D e a).1 (readS S D e a).2 w):=by
 obtain ⟨p,bu,bm,G1,Z,H⟩:=sh_open h
 have HLk:=Zh (fun (wq:World) (hb:Below w.heap.size w wq)=>slooks_any (S:=S) (D:=D) wq (sh_in (H.below hb)) ((H.below hb).at 4 rfl))
 have HRd:=Zh (fun (wq:World) (hb:Below w.heap.size w wq)=>read_any e a wq (Sep.unitAt (H.below hb)))
 have c1:=(sh_in H).c1
 have lq:=(sh_in H).lq
 clear h H
 by_cases hl:looksS S D=0
 rotate_left
 ·have HF:=Zh (show readS S D e a=(looksS S D,⟨0,[]⟩) by unfold readS;rw [if_pos hl])
  have HE:=Lib.hid' hl
  clear hl
  go_enter Tryz.func107, Tryz.ntmps107
  go_wp2_with (go_at_call 148;refine (HLk.out _ (by go_grown)).mono ?_;rintro en w1 ⟨rfl,rfl⟩;rw [errV_pos HE.out])
  refine bodyPost_ret (v:=.tuple #[.agg #[.int .i64 0,.slice none 0 0],.iface 70 (.int .i64 (looksS S D))]) (by simp [results,Tryz.results107,go_sem]) rfl ?_
  rw [HF.out]
  exact ⟨none,0,by rw [errV_pos HE.out];rfl,World.ownsRow_nil _ _ _ _,by go_grown⟩
 have HF:=Zh (show readS S D e a=S.u.read e a by unfold readS;rw [if_neg (by rw [hl];decide)])
 have HE:=Lib.hid' hl
 clear hl
 go_enter Tryz.func107, Tryz.ntmps107
 go_wp2_with (go_at_call 148;refine (HLk.out _ (by go_grown)).mono ?_;rintro en w1 ⟨rfl,rfl⟩;rw [HE.out,errV_0])
 have hb0:Below w.heap.size w (w.alloc (.cells #[.int .i64 0,.slice none 0 0] 28)):=by go_grown
 refine (HRd.out _ (by go_grown)).mono ?_
 rintro en w2 ⟨a2,cp2,rfl,ho,hb2⟩
 have HO:=Lib.hid' ho
 have hc2:=(bcell hb2).1
 have c0:w2.cell? ⟨w.heap.size,0,none⟩=some (.int .i64 0):=(hc2 _ _ (by simp)).trans (by simp [go_sem])
 have c1:w2.cell? ⟨w.heap.size,1,none⟩=some (.slice none 0 0):=(hc2 _ _ (by simp)).trans (by simp [go_sem])
 have f0:w2.frozen? ⟨w.heap.size,0,none⟩=false:=((bcell hb2).2 _ _ (by simp)).trans (by simp [go_sem])
 have f1:w2.frozen? ⟨w.heap.size,1,none⟩=false:=((bcell hb2).2 _ _ (by simp)).trans (by simp [go_sem])
 have hz2:=hb2.size
 have HB2:=Lib.hid' hb2
 clear ho hc2 hb2 hb0
 have lt1:w.heap.size<w2.heap.size:=by simp at hz2;omega
 go_wp2
 refine bodyPost_ret (v:=.tuple #[.agg #[.int .i64 (S.u.read e a).2.k,.slice a2 (S.u.read e a).2.d.length cp2],errV (S.u.read e a).1]) (by simp [results,Tryz.results107,go_sem,c0,c1]) rfl ?_
 rw [HF.out]
 refine ⟨_,_,rfl,own_base (ownsRow_setCell_below (ownsRow_setCell_below HO.out (by simp) _) (by simp) _) (by simp),?_⟩
 refine Below.setCell (Below.setCell ?_ (by simp) _) (by simp) _
 exact below_call (by go_grown) (by simp) HB2.out
end SH
end Go.Proofs.YtaodldbgikiekaaGreatDoor

namespace Go.Proofs.YtaodldbgikiekaaGreatDoor
namespace SL
open DK SH SQ
theorem put_perm {L:Fl} (h:(L.map (·.1)).Nodup) (n:Nm) (d:List UInt8):(putF L n d).Perm ((n,d)::delF L n):=by
 refine (List.perm_ext_iff_of_nodup (nodup_of_keys (putF_keys h n d)) ?_).2 (fun p=>?_)
 ·rw [List.nodup_cons]
  refine ⟨fun hm=>?_,nodup_of_keys (delF_keys h n)⟩
  have:=(List.mem_filter.1 hm).2
  simp [bne] at this
 ·rw [putF_mem,List.mem_cons]
  unfold delF
  rw [List.mem_filter]
  simp [bne]
theorem used_cons (f:Nm×List UInt8) (L:Fl):usedF (f::L)=f.2.length+usedF L:=rfl
theorem used_perm {L M:Fl} (h:L.Perm M):usedF L=usedF M:=by
 unfold usedF
 exact (h.map _).sum_nat
theorem used_del_le {L:Fl} (h:(L.map (·.1)).Nodup) (n:Nm):usedF (delF L n)≤usedF L:=by
 have:=used_del h n
 omega
theorem putL_facts {L:Fl} (h:(L.map (·.1)).Nodup) (n:Nm) (d:List UInt8):((putL L n d).map (·.1)).Nodup∧(putL L n d).length≤L.length+1∧usedF (putL L n d)≤usedF L+d.length:=by
 have hA:((delF (putF L (tilde++n) d) (tilde++n)).map (·.1)).Nodup:=delF_keys (putF_keys h _ _) _
 have pA:(delF (putF L (tilde++n) d) (tilde++n)).Perm (delF L (tilde++n)):=by
  refine (List.perm_ext_iff_of_nodup (nodup_of_keys hA) (nodup_of_keys (delF_keys h _))).2 (fun p=>?_)
  unfold delF
  rw [List.mem_filter,List.mem_filter,putF_mem]
  constructor
  ·rintro ⟨h1 | h1,h2⟩
   ·rw [h1] at h2;simp [bne] at h2
   ·exact ⟨h1.1,h2⟩
  ·rintro ⟨h1,h2⟩
   exact ⟨.inr ⟨h1,by simpa [bne] using h2⟩,h2⟩
 have lA:(delF (putF L (tilde++n) d) (tilde++n)).length≤L.length:=by
  rw [pA.length_eq];exact delF_len _ _
 have uA:usedF (delF (putF L (tilde++n) d) (tilde++n))≤usedF L:=by
  rw [used_perm pA];exact used_del_le h _
 unfold putL
 generalize delF (putF L (tilde++n) d) (tilde++n)=A at *
 refine ⟨putF_keys hA n d,?_,?_⟩
 ·rw [(put_perm hA n d).length_eq]
  have:=delF_len A n
  simp only [List.length_cons];omega
 ·rw [used_perm (put_perm hA n d),used_cons]
  have:=used_del_le hA n
  show d.length+_≤_
  omega
/-- a unit that has never failed: u is its unit; at most k acts were done -/
def Fine (r:Int) (k:Nat) (u:U) (x:Un):Prop:=∃ n L,x=⟨⟨r,L,L,[],-1,false⟩,some ⟨u,n,false⟩⟩∧(L.map (·.1)).Nodup∧L.length≤k∧usedF L≤200*k∧n≤k∧RepE (V L) u n
theorem Fine.new (r:Int):Fine r 0 U.new ⟨newD r,some ⟨U.new,0,false⟩⟩:=⟨0,[],rfl,by simp,Nat.le_refl _,Nat.le_refl _,Nat.le_refl _,_,rep_new,Ueq.refl _⟩
theorem Fine.mono {r:Int} {k m:Nat} {u:U} {x:Un} (h:Fine r k u x) (hk:k≤m):Fine r m u x:=by
 obtain ⟨n,L,h1,h2,h3,h4,h5,h6⟩:=h
 exact ⟨n,L,h1,h2,by omega,by omega,by omega,h6⟩
/-- an act with such a unit -/
theorem Fine.act {r:Int} {k:Nat} {u:U} {x:Un} (h:Fine r k u x) (hk:k<512) (hr:(200*k+200:Nat)≤r) (a:Ac) :
  ∃ S D S' D',x=⟨D,some S⟩∧doS S D a=((apU u a).1,if (apU u a).1=0 then (apU u a).2.1 else 0,S',D')∧Fine r (k+1) (if (apU u a).1=0 then (apU u a).2.2 else u) ⟨D',some S'⟩:=by
 obtain ⟨n,L,rfl,h2,h3,h4,h5,h6⟩:=h
 by_cases hx:(apU u a).1=0
 ·rcases doS_cases (r:=r) (L:=L) (f:=-1) (u:=u) (n:=n) (x:=a) h2 (by omega) (by omega) (by omega) h6 hx with ⟨f',e,hf,hR⟩ | ⟨hf,_⟩
  ·have hf:=hf rfl
   subst hf
   have hp:=putL_facts h2 (nameN 114 n) a.put
   have hl:=act_len (ap_check hx)
   refine ⟨⟨u,n,false⟩,⟨r,L,L,[],-1,false⟩,⟨(apU u a).2.2,n+1,false⟩,⟨r,putL L (nameN 114 n) a.put,putL L (nameN 114 n) a.put,[],-1,false⟩,rfl,?_,?_⟩
   ·rw [if_pos hx,e,hx]
   ·rw [if_pos hx]
    exact ⟨n+1,putL L (nameN 114 n) a.put,rfl,hp.1,by omega,by omega,by omega,hR⟩
  ·exact absurd rfl hf
 ·refine ⟨⟨u,n,false⟩,⟨r,L,L,[],-1,false⟩,⟨u,n,false⟩,⟨r,L,L,[],-1,false⟩,rfl,?_,?_⟩
  ·rw [if_neg hx]
   show doS ⟨u,n,false⟩ _ a=_
   unfold doS
   rw [if_neg (by simp),if_pos hx]
  ·rw [if_neg hx]
   exact Fine.mono (show Fine r k u _ from ⟨n,L,rfl,h2,h3,h4,h5,h6⟩) (Nat.le_succ k)
theorem Fine.read {r:Int} {k:Nat} {u:U} {x:Un} (h:Fine r k u x):∃ S D,x=⟨D,some S⟩∧∀ e a,readS S D e a=u.read e a:=by
 obtain ⟨n,L,rfl,h2,h3,h4,h5,h6⟩:=h
 refine ⟨_,_,rfl,fun e a=>?_⟩
 unfold readS
 have:looksS ⟨u,n,false⟩ ⟨r,L,L,[],-1,false⟩=0:=by unfold looksS;rw [if_neg (by simp)]
 rw [this,if_neg (by decide)]
def u1:U:=⟨1,0,[]⟩
theorem ap1:(apU U.new ⟨1,1,0,[]⟩).1=0∧(apU U.new ⟨1,1,0,[]⟩).2.2=u1:=by first | exact ⟨rfl,rfl⟩ | exact ⟨by kernel_rfl,by kernel_rfl⟩
def M1 (x:Un) (n:Int):Cl:=⟨[x],⟨1,[[0]]⟩,⟨1,n⟩⟩
end SL
end Go.Proofs.YtaodldbgikiekaaGreatDoor

namespace Go.Proofs.YtaodldbgikiekaaGreatDoor
namespace SH
open DK
/-- a shelf whose disk has power: m files ever written, at most c acts done -/
def KAt (m c:Nat) (S:Sf) (D:Dk):Prop:=∃ u n L f,S=⟨u,n,false⟩∧D=⟨16777216,L,L,[],f,false⟩∧Ok m D∧n≤c∧u.ok∧u.cells.length≤c∧RepE (V L) u n
theorem KAt.mono {m c m' c':Nat} {S:Sf} {D:Dk} (h:KAt m c S D) (hm:m≤m') (hc:c≤c'):KAt m' c' S D:=by
 obtain ⟨u,n,L,f,h1,h2,h3,h4,h5,h6,h7⟩:=h
 exact ⟨u,n,L,f,h1,h2,h3.mono hm,Nat.le_trans h4 hc,h5,Nat.le_trans h6 hc,h7⟩
theorem KAt.facts {m c:Nat} {S:Sf} {D:Dk} (h:KAt m c S D):Ok m D∧D.pend=[]∧D.down=false∧S.br=false∧S.u.ok∧S.u.cells.length≤c∧S.n≤c:=by
 obtain ⟨u,n,L,f,rfl,rfl,h3,h4,h5,h6,h7⟩:=h
 exact ⟨h3,rfl,rfl,rfl,h5,h6,h4⟩
/-- what the disk may be when its power has gone: the shelf then has one of two units -/
def Fell (m c:Nat) (u v:U) (D:Dk):Prop:=Ok m D∧AfterC 16777216 D (fun g=>∃ n,n≤c∧(RepE g u n∨RepE g v n))
theorem Fell.facts {m c:Nat} {u v:U} {D:Dk} (h:Fell m c u v D):Ok m D∧D.pend.length≤1∧D.down=true:=⟨h.1,h.2.2.2.1,h.2.2.1⟩
/-- it is opened anew -/
theorem Fell.open {m c:Nat} {u v:U} {D:Dk} (h:Fell m c u v D) (hc:c≤100) (hu:u.cells.length≤c) (hv:v.cells.length≤c) (ks:List Bool) :
  Ok m (upD (cutD D ks))∧(upD (cutD D ks)).pend=[]∧∃ S' D',openS (upD (cutD D ks))=(0,S',D')∧KAt m c S' D'∧(Ueq S'.u u∨Ueq S'.u v):=by
 obtain ⟨ho,ha⟩:=h
 have hok:=(ho.cut ks).start
 obtain ⟨A,e,n,hn,hP⟩:=up_cut ha ks
 rw [e] at hok ⊢
 have key:∀ z:U,z.cells.length≤c→RepE (V A) z n→∃ S' D',openS ⟨16777216,A,A,[],-1,false⟩=(0,S',D')∧KAt m c S' D'∧Ueq S'.u z:=fun z hz ⟨t,ht,hte⟩=>by
  obtain ⟨L',e2,q1,q2,q3,q4⟩:=openS_at 16777216 A hok.shown ht (by omega)
  have hok2:Ok m ⟨16777216,L',L',[],-1,false⟩:=by
   have h1:=Ok.open hok (namesOf A)
   obtain ⟨L2,e3,_,_,_,_⟩:=open_at 16777216 A hok.shown
   rw [e3] at h1
   have h2:(openS ⟨16777216,A,A,[],-1,false⟩).2.2=(openD (namesOf A) ⟨16777216,A,A,[],-1,false⟩).2:=by
    unfold openS
    simp only
    repeat' split
    all_goals rfl
   rw [e2,e3] at h2
   rw [show (⟨16777216,L',L',[],-1,false⟩:Dk)=⟨16777216,L2,L2,[],-1,false⟩ from h2]
   exact h1
  have hl:=hte.cells.length_eq
  exact ⟨_,_,e2,⟨t,n,L',-1,rfl,rfl,hok2,hn,ht.ok,by omega,⟨t,by rw [q1];exact ht,Ueq.refl _⟩⟩,hte⟩
 refine ⟨hok,rfl,?_⟩
 rcases hP with hP | hP
 ·obtain ⟨S',D',a1,a2,a3⟩:=key u hu hP
  exact ⟨S',D',a1,a2,.inl a3⟩
 ·obtain ⟨S',D',a1,a2,a3⟩:=key v hv hP
  exact ⟨S',D',a1,a2,.inr a3⟩
end SH
end Go.Proofs.YtaodldbgikiekaaGreatDoor
