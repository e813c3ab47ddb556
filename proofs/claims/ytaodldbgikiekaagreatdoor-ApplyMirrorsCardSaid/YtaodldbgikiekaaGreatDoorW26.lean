/- Proved here: a part of the proof (26 of 35). -/
import Derived.Test.YtaodldbgikiekaaGreatDoorW25
import Derived.Lib.SlBytesConst
import Derived.Test.YtaodldbgikiekaaGreatDoorW28
import Derived.Test.YtaodldbgikiekaaGreatDoorW22
import Derived.Test.YtaodldbgikiekaaGreatDoorW23
import Derived.Deep.DeepCutAuto
import Derived.Deep.CutBlock
import Derived.Deep.RegionHeld
set_option linter.unusedSimpArgs false
set_option linter.unusedVariables false
set_option maxRecDepth 100000
namespace Go.Proofs.YtaodldbgikiekaaGreatDoor
open Go.RowKit
namespace SH
open DK
/-- the table is kept by what is done with parts laid since -/
theorem pow_kept {w0 w:World} {G:Nat→Prop} {L:List Asn} {A:Asn} (hp:Pow w0) (H:Sep w0 NoF (A::L) w) (hA:A.foot=G):∀ wq,(∃ L,Sep w G L wq)→Pow wq:=fun wq ⟨K,k⟩=>hp.below (H.call1 hA k).toBelow
/-- an act in memory -/
abbrev AcS:=Ac×Option Addr×Nat
def acV (x:AcS):List Value:=[.int .i64 x.1.k,.int .i64 x.1.e,.int .i64 x.1.a,.slice x.2.1 x.1.d.length x.2.2]
def ActsAt (w:World) (v:Value) (X:List AcS):Prop:=SlV w v X.length (X.flatMap acV)∧∀ x∈X,Bytes w (.slice x.2.1 x.1.d.length x.2.2) x.1.d
theorem ShAt.toBelow {q N:Nat} {S:Sf} {D:Dk} {vs:PoolL} {L:List Asn} {w w':World} (h:ShAt q N S D vs L NoF w w'):Below w.heap.size w w':=by
 obtain ⟨_,_,_,H⟩:=h
 exact H.toBelow
end SH
end Go.Proofs.YtaodldbgikiekaaGreatDoor

namespace Go.Proofs.YtaodldbgikiekaaGreatDoor
open Go.RowKit
/-- parts told otherwise, one by one -/
theorem Sep.conv {w0 w:World} {F:Nat→Prop} {L L':List Asn} (hf:F2 (fun A B:Asn=>(A.holds w→B.holds w)∧∀ b,B.foot b→A.foot b) L L'):∀ K:List Asn,Sep w0 F (K++L) w→Sep w0 F (K++L') w:=by
 induction hf with
 | nil=>intro K h;exact h
 | @cons A B L L' hab _ ih =>
  intro K h
  have h1:Sep w0 F (A::(K++L)) w:=h.perm List.perm_middle
  have h2:Sep w0 F (B::(K++L)) w:=h1.turn (hab.1 (h1.at 0 rfl)) hab.2
  have h3:Sep w0 F ((K++[B])++L) w:=by
   refine h2.perm ?_
   rw [List.append_assoc]
   exact List.perm_middle.symm
  have h4:=ih (K++[B]) h3
  rw [List.append_assoc] at h4
  exact h4
theorem Sep.convAll {α:Type} {w0 w:World} {F:Nat→Prop} {f g:α→Asn} {Us:List α} (K L:List Asn) (hfg:∀ y∈Us,((f y).holds w→(g y).holds w)∧∀ b,(g y).foot b→(f y).foot b) (h:Sep w0 F (K++(Us.map f++L)) w):Sep w0 F (K++(Us.map g++L)) w:=by
 refine Sep.conv ?_ K h
 have h1:∀ L:List Asn,F2 (fun A B:Asn=>(A.holds w→B.holds w)∧∀ b,B.foot b→A.foot b) L L:=by
  intro L
  induction L with
  | nil=>exact .nil
  | cons A L ih=>exact .cons ⟨fun h=>h,fun _ h=>h⟩ ih
 have h2:∀ Us:List α,(∀ y∈Us,((f y).holds w→(g y).holds w)∧∀ b,(g y).foot b→(f y).foot b)→F2 (fun A B:Asn=>(A.holds w→B.holds w)∧∀ b,B.foot b→A.foot b) (Us.map f++L) (Us.map g++L):=by
  intro Us
  induction Us with
  | nil=>intro _;exact h1 L
  | cons y Us ih=>intro hq;exact .cons (hq y List.mem_cons_self) (ih (fun z hz=>hq z (List.mem_cons_of_mem _ hz)))
 exact h2 Us hfg
namespace SL
open DK SH SQ
structure UnP where
 N:Nat
 Q:Option Nat
 x:Un
 G:Nat→Prop
def optV (Q:Option Nat):Value:=match Q with
 | none=>.pointer none
 | some q=>ptrV q
/-- a unit's disk and, if it is on, its shelf; its bytes in the pool vs -/
def unI (N:Nat) (Q:Option Nat) (x:Un) (vs:PoolL) (K:List Asn):Prop:=match Q,x.s with
 | some q,some S=>∃ us G1 G2,(∀ y∈us,y∈vs)∧K=[Asn.disk N x.d G1,Asn.shelf q N S us G2]
 | none,none=>∃ G1,K=[Asn.disk N x.d G1]
 | _,_=>False
abbrev unA (vs:PoolL) (y:UnP):Asn:=Asn.ex (unI y.N y.Q y.x vs) y.G
theorem unI_more {N:Nat} {Q:Option Nat} {x:Un} {vs us:PoolL} (hs:∀ y∈vs,y∈us) {K:List Asn} (h:unI N Q x vs K):unI N Q x us K:=by
 unfold unI at h ⊢
 split at h
 ·obtain ⟨ws,G1,G2,h1,h2⟩:=h
  exact ⟨ws,G1,G2,fun y hy=>hs y (h1 y hy),h2⟩
 ·exact h
 ·exact h.elim
theorem unA_more {w:World} {vs us:PoolL} (hs:∀ y∈vs,y∈us) (y:UnP):((unA vs y).holds w→(unA us y).holds w)∧∀ b,(unA us y).foot b→(unA vs y).foot b:=by
 refine ⟨?_,fun _ h=>h⟩
 rintro ⟨K,h1,h2,h3,h4⟩
 exact ⟨K,unI_more hs h1,h2,h3,h4⟩
/-- the rows of the projection's chains -/
structure CJ where
 a:Option Addr
 c:Nat
 Ks:List Ch
structure ClP where
 b:Nat
 dv:Value
 sv:Value
 Us:List UnP
 J:CJ
 Z:Nat→Prop
 vs:PoolL
/-- the parts but for the units -/
def clK (c:Nat) (M:Cl) (P:ClP):List Asn :=
 [.box c [P.dv,P.sv,.int .i64 M.p.e,.slice P.J.a P.J.Ks.length P.J.c,ptrV P.b] 77,Asn.seq P.b M.q,.row 146 1 P.dv P.Us.length (P.Us.map (fun y=>ptrV y.N)),
  .row 149 1 P.sv P.Us.length (P.Us.map (fun y=>optV y.Q)),.row 30 1 (.slice P.J.a P.J.Ks.length P.J.c) P.J.Ks.length (P.J.Ks.map chV),Asn.all (P.J.Ks.map chA)]
def clL (c:Nat) (M:Cl) (P:ClP) (L:List Asn):List Asn:=clK c M P++(Asn.pool P.Z P.vs::(P.Us.map (unA P.vs)++L))
structure ClOK (M:Cl) (P:ClP):Prop where
 us:P.Us.map (·.x)=M.us
 cs:P.J.Ks.map (·.1)=M.p.cs
/-- a cluster, with what lies beside it -/
def ClAt (c:Nat) (M:Cl) (J:CJ) (L:List Asn) (W w:World):Prop:=∃ P,P.J=J∧ClOK M P∧Sep W NoF (clL c M P L) w
theorem ClAt.toBelow {c:Nat} {M:Cl} {J:CJ} {L:List Asn} {W w:World} (h:ClAt c M J L W w):Below W.heap.size W w:=by
 obtain ⟨_,_,_,H⟩:=h
 exact H.toBelow
theorem ClAt.below {c:Nat} {M:Cl} {J:CJ} {L:List Asn} {W w w':World} (h:ClAt c M J L W w) (hb:Below w.heap.size w w'):ClAt c M J L W w':=by
 obtain ⟨P,hJ,h1,H⟩:=h
 exact ⟨P,hJ,h1,H.below hb⟩
/-- what lies beside a unit that is looked at -/
def clR (c:Nat) (M:Cl) (P:ClP) (u:Nat) (L:List Asn):List Asn:=clK c M P++((P.Us.take u).map (unA P.vs)++((P.Us.drop (u+1)).map (unA P.vs)++L))
theorem set_same {α:Type} {v:α}:∀ {l:List α} {u:Nat},l[u]?=some v→l.set u v=l
 | [],u,h=>by simp at h
 | x::l,0,h=>by simp at h;simp [h]
 | x::l,u+1,h=>by simp at h;simp [set_same h]
theorem map_pull {α:Type} (f:α→Asn) {Us:List α} {u:Nat} {y:α} (hu:Us[u]?=some y):Us.map f=(Us.take u).map f++(f y::(Us.drop (u+1)).map f):=by
 have hl:u<Us.length:=(List.getElem?_eq_some_iff.1 hu).1
 have he:Us[u]=y:=(List.getElem?_eq_some_iff.1 hu).2
 have h1:Us=Us.take u++(y::Us.drop (u+1)):=by
  rw [←he,List.getElem_cons_drop,List.take_append_drop]
 conv=>lhs;rw [h1]
 rw [List.map_append,List.map_cons]
theorem map_push {α:Type} (f:α→Asn) {Us:List α} {u:Nat} {y:α} (hu:u<Us.length):(Us.set u y).map f=(Us.take u).map f++(f y::(Us.drop (u+1)).map f):=by
 rw [map_pull f (Us:=Us.set u y) (u:=u) (y:=y) (by rw [List.getElem?_set_self hu])]
 congr 1
 ·rw [List.take_set_of_le (Nat.le_refl _)]
 ·rw [List.drop_set_of_lt (by omega)]
theorem cl_pull {c:Nat} {M:Cl} {P:ClP} {L:List Asn} {W w:World} {u:Nat} {y:UnP} (hu:P.Us[u]?=some y) (H:Sep W NoF (clL c M P L) w):Sep W NoF (unA P.vs y::Asn.pool P.Z P.vs::clR c M P u L) w:=by
 refine H.perm ?_
 unfold clL clR
 rw [map_pull (unA P.vs) hu]
 have e1:(List.map (unA P.vs) (P.Us.take u)++unA P.vs y::List.map (unA P.vs) (P.Us.drop (u+1)))++L=List.map (unA P.vs) (P.Us.take u)++(unA P.vs y::(List.map (unA P.vs) (P.Us.drop (u+1))++L)):=by simp
 rw [e1]
 have p1:(clK c M P++(Asn.pool P.Z P.vs::(List.map (unA P.vs) (P.Us.take u)++(unA P.vs y::(List.map (unA P.vs) (P.Us.drop (u+1))++L))))).Perm (Asn.pool P.Z P.vs::(clK c M P++(List.map (unA P.vs) (P.Us.take u)++(unA P.vs y::(List.map (unA P.vs) (P.Us.drop (u+1))++L))))):=List.perm_middle
 refine p1.trans ?_
 have p2:(clK c M P++(List.map (unA P.vs) (P.Us.take u)++(unA P.vs y::(List.map (unA P.vs) (P.Us.drop (u+1))++L)))).Perm (unA P.vs y::(clK c M P++(List.map (unA P.vs) (P.Us.take u)++(List.map (unA P.vs) (P.Us.drop (u+1))++L)))):=by
  rw [←List.append_assoc,←List.append_assoc]
  exact List.perm_middle
 exact (p2.cons _).trans (List.Perm.swap _ _ _)
/-- the cluster with a unit set anew -/
def ClP.put (P:ClP) (u:Nat) (y:UnP) (Z:Nat→Prop) (vs:PoolL):ClP:={ P with Us:=P.Us.set u y,Z:=Z,vs:=vs }
theorem cl_push {c:Nat} {M:Cl} {P:ClP} {L:List Asn} {W w:World} {u:Nat} {y:UnP} {x:Un} {G Z:Nat→Prop} {us:PoolL} (hu:P.Us[u]?=some y) (hP:ClOK M P) (hs:∀ z∈P.vs,z∈us)
  (H:Sep W NoF (unA us ⟨y.N,y.Q,x,G⟩::Asn.pool Z us::clR c M P u L) w):ClOK (M.put u x) (P.put u ⟨y.N,y.Q,x,G⟩ Z us)∧Sep W NoF (clL c (M.put u x) (P.put u ⟨y.N,y.Q,x,G⟩ Z us) L) w:=by
 have hl:u<P.Us.length:=(List.getElem?_eq_some_iff.1 hu).1
 have he:P.Us[u]=y:=(List.getElem?_eq_some_iff.1 hu).2
 refine ⟨⟨?_,hP.cs⟩,?_⟩
 ·show (P.Us.set u _).map (·.x)=M.us.set u x
  rw [List.map_set,hP.us]
 ·have hN:(P.Us.set u ⟨y.N,y.Q,x,G⟩).map (fun y=>ptrV y.N)=P.Us.map (fun y=>ptrV y.N):=by
   rw [List.map_set]
   refine set_same ?_
   rw [List.getElem?_map,hu];rfl
  have hQ:(P.Us.set u ⟨y.N,y.Q,x,G⟩).map (fun y=>optV y.Q)=P.Us.map (fun y=>optV y.Q):=by
   rw [List.map_set]
   refine set_same ?_
   rw [List.getElem?_map,hu];rfl
  have hK:clK c (M.put u x) (P.put u ⟨y.N,y.Q,x,G⟩ Z us)=clK c M P:=by
   unfold clK ClP.put Cl.put
   simp only [hN,hQ,List.length_set]
  unfold clL
  rw [hK]
  show Sep W NoF (clK c M P++(Asn.pool Z us::((P.Us.set u ⟨y.N,y.Q,x,G⟩).map (unA us)++L))) w
  rw [map_push (unA us) hl]
  have h1:Sep W NoF ((unA us ⟨y.N,y.Q,x,G⟩::Asn.pool Z us::clK c M P)++((P.Us.take u).map (unA P.vs)++((P.Us.drop (u+1)).map (unA P.vs)++L))) w:=H
  have h2:=Sep.convAll _ _ (fun y _=>unA_more hs y) h1
  have h3:Sep W NoF (((unA us ⟨y.N,y.Q,x,G⟩::Asn.pool Z us::clK c M P)++(P.Us.take u).map (unA us))++((P.Us.drop (u+1)).map (unA P.vs)++L)) w:=by rw [List.append_assoc];exact h2
  have h4:=Sep.convAll _ _ (fun y _=>unA_more hs y) h3
  refine h4.perm ?_
  have p1:(((unA us ⟨y.N,y.Q,x,G⟩::Asn.pool Z us::clK c M P)++(P.Us.take u).map (unA us))++((P.Us.drop (u+1)).map (unA us)++L)).Perm (Asn.pool Z us::((clK c M P++(P.Us.take u).map (unA us))++(unA us ⟨y.N,y.Q,x,G⟩::((P.Us.drop (u+1)).map (unA us)++L)))):=by
   refine (List.Perm.swap _ _ _).trans (List.Perm.cons _ ?_)
   exact List.perm_middle.symm
  refine p1.trans ?_
  have e2:clK c M P++(Asn.pool Z us::(((P.Us.take u).map (unA us)++(unA us ⟨y.N,y.Q,x,G⟩::(P.Us.drop (u+1)).map (unA us)))++L))=clK c M P++(Asn.pool Z us::((P.Us.take u).map (unA us)++(unA us ⟨y.N,y.Q,x,G⟩::((P.Us.drop (u+1)).map (unA us)++L)))):=by simp
  rw [e2,List.append_assoc]
  exact List.perm_middle.symm
end SL
end Go.Proofs.YtaodldbgikiekaaGreatDoor

namespace Go.Proofs.YtaodldbgikiekaaGreatDoor
open Go.RowKit
namespace SL
open DK SH SQ
theorem own_at {w:World} {e n:Nat} {v:Value} {xs:List Value} (h:w.ownsRow 0 e 1 v n xs) {j:Nat} {u:Value} (hj:xs[j]?=some u):∃ g cap,v=.slice (some ⟨g,0,none⟩) n cap∧g<w.heap.size∧w.cell? ⟨g,j,none⟩=some u:=by
 have hs:=SlV.of_own h
 have hb:=fun b hb=>own_blk (b:=b) h hb
 obtain ⟨hl,h2⟩:=h
 rcases h2 with ⟨rfl,rfl⟩ | ⟨g,cap,cur,rfl,hg,hh,_⟩
 ·obtain ⟨a,c,he,_,_,_,h3⟩:=hs
  obtain ⟨p,hp,_⟩:=h3 j u hj
  cases he;cases hp
 ·obtain ⟨a,c,he,_,_,_,h3⟩:=hs
  obtain ⟨p,hp,hc⟩:=h3 j u hj
  cases he;cases hp
  refine ⟨g,cap,rfl,(hb g rfl).2,?_⟩
  rw [←hc]
  congr 1
  simp [Addr.add]
theorem row_cell {w:World} {e n n' g cap:Nat} {v:Value} {xs:List Value} (h:w.ownsRow 0 e 1 v n xs) (hv:v=.slice (some ⟨g,0,none⟩) n' cap) {j:Nat} {u:Value} (hj:xs[j]?=some u):w.cell? ⟨g,j,none⟩=some u:=by
 obtain ⟨g',cap',h1,_,h2⟩:=own_at h hj
 rw [hv] at h1
 simp only [Value.slice.injEq,Option.some.injEq,Addr.mk.injEq,and_true] at h1
 rw [h1.1];exact h2
/-- what a unit looks like in the cluster's rows -/
structure UAt (c:Nat) (M:Cl) (P:ClP) (u:Nat) (y:UnP) (w:World):Prop where
 us:M.us[u]?=some y.x
 s:∃ g n cap,P.sv=.slice (some ⟨g,0,none⟩) n cap∧u<n∧g<w.heap.size∧w.cell? ⟨g,u,none⟩=some (optV y.Q)
 d:∃ g n cap,P.dv=.slice (some ⟨g,0,none⟩) n cap∧u<n∧g<w.heap.size∧w.cell? ⟨g,u,none⟩=some (ptrV y.N)
theorem cl_at {c:Nat} {M:Cl} {P:ClP} {L:List Asn} {W w:World} (hP:ClOK M P) (H:Sep W NoF (clL c M P L) w) {u:Nat} (hu:u<M.us.length):∃ y,P.Us[u]?=some y∧UAt c M P u y w:=by
 have hl:u<P.Us.length:=by rw [←hP.us,List.length_map] at hu;exact hu
 refine ⟨P.Us[u],List.getElem?_eq_getElem hl,?_,?_,?_⟩
 ·rw [←hP.us,List.getElem?_map,List.getElem?_eq_getElem hl];rfl
 ·obtain ⟨g,cap,h1,h2,h3⟩:=own_at (H.row 3 rfl) (j:=u) (u:=optV (P.Us[u]).Q) (by rw [List.getElem?_map,List.getElem?_eq_getElem hl];rfl)
  exact ⟨g,_,cap,h1,hl,h2,h3⟩
 ·obtain ⟨g,cap,h1,h2,h3⟩:=own_at (H.row 2 rfl) (j:=u) (u:=ptrV (P.Us[u]).N) (by rw [List.getElem?_map,List.getElem?_eq_getElem hl];rfl)
  exact ⟨g,_,cap,h1,hl,h2,h3⟩
/-- a unit that is on, as a shelf with all else beside it; and back -/
theorem cl_on {c:Nat} {M:Cl} {P:ClP} {L:List Asn} {W w:World} {u:Nat} {y:UnP} {q:Nat} (hP:ClOK M P) (hu:P.Us[u]?=some y) (hq:y.Q=some q) (H:Sep W NoF (clL c M P L) w) :
  ∃ S,y.x.s=some S∧ShAt q y.N S y.x.d P.vs (clR c M P u L) NoF W w∧∀ (S':Sf) (D':Dk) (us:PoolL) (w':World) (K:List Asn),(∀ z∈P.vs,z∈us)→ShAt q y.N S' D' us (K++clR c M P u L) NoF W w'→ClAt c (M.put u ⟨D',some S'⟩) P.J (K++L) W w':=by
 have H1:=cl_pull hu H
 obtain ⟨K,hI,H2⟩:=H1.unpack
 obtain ⟨N,Q,⟨D,s⟩,G⟩:=y
 simp only at hq hI
 subst hq
 cases s with
 | none=>exact (show False from hI).elim
 | some S =>
  obtain ⟨us,G1,G2,hs,rfl⟩:∃ us G1 G2,(∀ y∈us,y∈P.vs)∧K=[Asn.disk N D G1,Asn.shelf q N S us G2]:=hI
  refine ⟨S,rfl,?_,?_⟩
  ·have h1:Sep W NoF (Asn.disk N D G1::Asn.shelf q N S us G2::Asn.pool P.Z P.vs::clR c M P u L) w:=H2
   obtain ⟨G3,h2⟩:=shelf_more h1.swap1 hs
   exact ⟨G1,G3,P.Z,h2.swap1⟩
  ·intro S' D' us' w' K hs' hsh
   obtain ⟨G4,G5,Z,h3⟩:=hsh
   have h4:Sep W NoF ([Asn.disk N D' G4,Asn.shelf q N S' us' G5]++(Asn.pool Z us'::(K++clR c M P u L))) w':=h3
   obtain ⟨G6,h5⟩:=Sep.pack (I:=unI N (some q) ⟨D',some S'⟩ us') _ h4 ⟨us',G4,G5,fun _ h=>h,rfl⟩
   have h6:Sep W NoF (unA us' ⟨N,some q,⟨D',some S'⟩,G6⟩::Asn.pool Z us'::clR c M P u (K++L)) w':=by
    refine h5.perm (List.Perm.cons _ (List.Perm.cons _ ?_))
    unfold clR
    have e1:clK c M P++((P.Us.take u).map (unA P.vs)++((P.Us.drop (u+1)).map (unA P.vs)++(K++L)))=(clK c M P++((P.Us.take u).map (unA P.vs)++(P.Us.drop (u+1)).map (unA P.vs)))++(K++L):=by simp
    have e2:K++(clK c M P++((P.Us.take u).map (unA P.vs)++((P.Us.drop (u+1)).map (unA P.vs)++L)))=(K++(clK c M P++((P.Us.take u).map (unA P.vs)++(P.Us.drop (u+1)).map (unA P.vs))))++L:=by simp
    rw [e1,e2]
    generalize clK c M P++((P.Us.take u).map (unA P.vs)++(P.Us.drop (u+1)).map (unA P.vs))=R
    refine (List.perm_append_comm.append_right L).trans ?_
    rw [List.append_assoc]
   obtain ⟨h7,h8⟩:=cl_push (x:=⟨D',some S'⟩) hu hP hs' h6
   exact ⟨P.put u _ _ _,rfl,h7,h8⟩
theorem cl_off {c:Nat} {M:Cl} {P:ClP} {L:List Asn} {W w:World} {u:Nat} {y:UnP} (hu:P.Us[u]?=some y) (hq:y.Q=none) (H:Sep W NoF (clL c M P L) w):y.x.s=none:=by
 have H1:=cl_pull hu H
 obtain ⟨K,hI,_⟩:=H1.unpack
 obtain ⟨N,Q,⟨D,s⟩,G⟩:=y
 simp only at hq hI
 subst hq
 cases s with
 | none=>rfl
 | some S=>exact (show False from hI).elim
theorem ClAt.less {c:Nat} {M:Cl} {J:CJ} {K L:List Asn} {W w:World} (h:ClAt c M J (K++L) W w):ClAt c M J L W w:=by
 obtain ⟨P,hJ,hP,H⟩:=h
 refine ⟨P,hJ,hP,H.keepOnly ?_⟩
 unfold clL
 exact ((((List.sublist_append_right K L).append_left _).cons_cons _).append_left _)
theorem shAt_drew {q N:Nat} {S:Sf} {D:Dk} {vs:PoolL} {L:List Asn} {F:Nat→Prop} {W w:World} (h:ShAt q N S D vs L F W w):ShAt q N S D vs L F W w.drew:=by
 obtain ⟨G1,G2,Z,H⟩:=h
 exact ⟨G1,G2,Z,H.drew⟩
theorem kdo2_any {q N:Nat} {S:Sf} {D:Dk} {vs:PoolL} {L:List Asn} {W:World} (x:Ac) (a:Option Addr) (c:Nat) (w:World) (hp:Pow W) (h:ShAt q N S D vs L NoF W w) (ho:Sd D) (hB:Bytes w (.slice a x.d.length c) x.d) :
  Calls Tryz.prog 73 #[ptrV q,ac9V x a c] w fun e w'=>e=.returned (.tuple #[.int .i64 (doS S D x).2.1,errV (doS S D x).1])∧∃ us,(∀ x∈vs,x∈us)∧ShAt q N (doS S D x).2.2.1 (doS S D x).2.2.2 us L NoF W w':=by
 obtain ⟨F',h1,hback⟩:=h.enter
 have hpd:=ho.pendLen
 refine (sdo_any (m:=1024) x a c w h1 (hp.below h.toBelow) ho.ok (by omega) (by omega) hB).mono ?_
 intro e w' hE
 obtain ⟨rfl,us,q1,h2⟩:=hE
 exact ⟨rfl,us,q1,hback _ _ _ _ _ h2⟩
theorem kread_any {q N:Nat} {S:Sf} {D:Dk} {vs:PoolL} {L:List Asn} {W:World} (e a:Int) (w:World) (h:ShAt q N S D vs L NoF W w) :
  Calls Tryz.prog 107 #[ptrV q,.int .i64 e,.int .i64 a] w (ReadR (readS S D e a).1 (readS S D e a).2 w):=by
 obtain ⟨F',h1,_⟩:=h.enter
 exact sread_any e a w h1
theorem do_on {M:Cl} {u:Nat} {D:Dk} {S:Sf} (x:Ac) (h:M.us[u]?=some ⟨D,some S⟩):M.do u x=((doS S D x).1,(doS S D x).2.1,M.put u ⟨(doS S D x).2.2.2,some (doS S D x).2.2.1⟩):=by unfold Cl.do;rw [h]
theorem do_off {M:Cl} {u:Nat} {D:Dk} (x:Ac) (h:M.us[u]?=some ⟨D,none⟩):M.do u x=(14,0,M):=by unfold Cl.do;rw [h]
theorem readU_on {M:Cl} {u:Nat} {D:Dk} {S:Sf} (e a:Int) (h:M.us[u]?=some ⟨D,some S⟩):M.readU u e a=readS S D e a:=by unfold Cl.readU;rw [h]
theorem readU_off {M:Cl} {u:Nat} {D:Dk} (e a:Int) (h:M.us[u]?=some ⟨D,none⟩):M.readU u e a=(14,⟨0,[]⟩):=by unfold Cl.readU;rw [h]
/-- what a method with two results answers -/
def ClR (c:Nat) (M':Cl) (J:CJ) (v:Value) (L:List Asn) (W:World) (e:Ending) (w':World):Prop:=e=.returned v∧ClAt c M' J L W w'
set_option maxHeartbeats 4000000 in
theorem do_any {c:Nat} {M:Cl} {J:CJ} {L:List Asn} {W:World} (u:Nat) (x:Ac) (xa:Option Addr) (xc:Nat) (w:World) (hp:Pow W) (h:ClAt c M J L W w) (hu:u<M.us.length) (hok:M.ok) (hB:Bytes w (.slice xa x.d.length xc) x.d) :
  Calls Tryz.prog 89 #[ptrV c,.int .i64 u,ac9V x xa xc] w (ClR c (M.do u x).2.2 J (.tuple #[.int .i64 (M.do u x).2.1,errV (M.do u x).1]) L W):=by
 obtain ⟨P,rfl,hP,H⟩:=h
 obtain ⟨y,hy,hus,⟨g,n,cap,hsv,hun,hgl,hgc⟩,_⟩:=cl_at hP H hu
 have hd:=hok.disk _ (List.mem_of_getElem? hus)
 have c1:=H.cell 0 rfl 1 rfl
 have hl:=H.lt 0 rfl
 rw [hsv] at c1
 have HH:=Lib.hid' H
 have HPO:=Lib.hid' hP
 have HY:=Lib.hid' hy
 have HP:=Lib.hid' hp
 have HB:=Lib.hid' hB
 rw [show ac9V x xa xc=.agg #[.int .i64 x.k,.int .i64 x.e,.int .i64 x.a,.slice xa x.d.length xc] from rfl]
 cases hq:y.Q with
 | none =>
  rw [hq] at hgc
  have hoff:=cl_off hy hq H
  have HF:=Zh (show M.do u x=(14,0,M) from do_off (D:=y.x.d) x (by rw [hus];cases hyx:y.x with | mk D s=>rw [hyx] at hoff;simp only at hoff;rw [hoff]))
  have hgc2:w.cell? ⟨g,u,none⟩=some (.pointer none):=hgc
  clear hP H hp hB hus hd hok hgc hoff hsv hy
  go_enter Tryz.func89, Tryz.ntmps89
  go_wp2
  go_ret2
  rw [HF.out]
  exact ⟨rfl,(show ClAt c M P.J L W w from ⟨P,rfl,HPO.out,HH.out⟩).below (by go_grown)⟩
 | some q =>
  rw [hq] at hgc
  obtain ⟨S,hS,hsh,hback⟩:=cl_on hP hy hq H
  have hus2:M.us[u]?=some ⟨y.x.d,some S⟩:=by rw [hus];cases hyx:y.x with | mk D s=>rw [hyx] at hS;simp only at hS;rw [hS]
  have HF:=Zh (do_on x hus2)
  have HBK:=Lib.hid' hback
  have HD:=Lib.hid' hd
  have hgc2:w.cell? ⟨g,u,none⟩=some (ptrV q):=hgc
  have HSH:=Zh (show ShAt q y.N S y.x.d P.vs ([Asn.box w.heap.size [.int .i64 x.k,.int .i64 x.e,.int .i64 x.a,.slice xa x.d.length xc] 154]++clR c M P u L) NoF W (w.alloc (.cells #[.int .i64 x.k,.int .i64 x.e,.int .i64 x.a,.slice xa x.d.length xc] 154)) from by
   obtain ⟨G1,G2,Z,h1⟩:=hsh
   refine ⟨G1,G2,Z,(h1.allocAt w.heap.size [.int .i64 x.k,.int .i64 x.e,.int .i64 x.a,.slice xa x.d.length xc] 154 rfl).perm ?_⟩
   exact (List.Perm.swap _ _ _).trans (List.Perm.cons _ ((List.Perm.swap _ _ _).trans (List.Perm.cons _ (List.Perm.swap _ _ _)))))
  have HSV:=Lib.hid' hsv
  clear hP H hp hB hus hd hok hgc hS hsh hback hus2 hsv hy
  go_enter Tryz.func89, Tryz.ntmps89
  go_upto_region 3 with fail
  have x0:∀ j v,[Value.int .i64 x.k,.int .i64 x.e,.int .i64 x.a,.slice xa x.d.length xc][j]?=some v→(w.alloc (.cells #[.int .i64 x.k,.int .i64 x.e,.int .i64 x.a,.slice xa x.d.length xc] 154)).drew.cell? ⟨w.heap.size,j,none⟩=some v:=by
   obtain ⟨_,_,_,h1⟩:=HSH.out
   exact fun j v hj=>h1.drew.cell 3 rfl j hj
  have y0:=x0 0 _ rfl;have y1:=x0 1 _ rfl;have y2:=x0 2 _ rfl;have y3:=x0 3 _ rfl
  have g1:(w.alloc (.cells #[.int .i64 x.k,.int .i64 x.e,.int .i64 x.a,.slice xa x.d.length xc] 154)).drew.cell? ⟨c,1,none⟩=some (.slice (some ⟨g,0,none⟩) n cap):=(World.cell?_alloc_past _ _ _ hl).trans c1
  have g2:(w.alloc (.cells #[.int .i64 x.k,.int .i64 x.e,.int .i64 x.a,.slice xa x.d.length xc] 154)).drew.cell? ⟨g,u,none⟩=some (ptrV q):=(World.cell?_alloc_past _ _ _ hgl).trans hgc2
  clear x0

  refine startD (S:=(fun w'=>w'.cell? ⟨c,1,none⟩=some (.slice (some ⟨g,0,none⟩) n cap)∧w'.cell? ⟨g,u,none⟩=some (ptrV q)∧w'.cell? ⟨w.heap.size,0,none⟩=some (.int .i64 x.k)∧w'.cell? ⟨w.heap.size,1,none⟩=some (.int .i64 x.e)∧w'.cell? ⟨w.heap.size,2,none⟩=some (.int .i64 x.a)∧w'.cell? ⟨w.heap.size,3,none⟩=some (.slice xa x.d.length xc))) (by kernel_rfl) ⟨g1,g2,y0,y1,y2,y3⟩ (fun hH0=>?_)
  simp only [List.length_cons,List.length_nil,Nat.reduceAdd,List.replicate_succ,List.replicate_zero]
  refine tD 0 17 (.pointer (some ⟨c,0,none⟩)) rfl rfl [(0,.pointer (some ⟨c,0,none⟩))] hH0 ?_
  dsimp only [sZ,sS]
  refine tD 1 18 (.pointer (some ⟨c,0,none⟩)) rfl rfl [(17,.pointer (some ⟨c,0,none⟩))] hH0 ?_
  dsimp only [sZ,sS]
  refine tD 2 19 (.pointer (some ⟨c,1,none⟩)) rfl rfl [(18,.pointer (some ⟨c,0,none⟩))] hH0 ?_
  dsimp only [sZ,sS]
  refine tD 3 20 (.slice (some ⟨g,0,none⟩) n cap) rfl rfl [(19,.pointer (some ⟨c,1,none⟩))] hH0 ?_
  dsimp only [sZ,sS]
  refine tD 4 21 (.int .i64 (u:Nat)) rfl rfl [(1,.int .i64 (u:Nat))] hH0 ?_
  dsimp only [sZ,sS]
  refine tD 5 22 (.pointer (some ⟨g,u,none⟩)) rfl rfl [(20,.slice (some ⟨g,0,none⟩) n cap),(21,.int .i64 (u:Nat))] hH0 ?_
  dsimp only [sZ,sS]
  refine tD 6 23 (ptrV q) rfl rfl [(22,.pointer (some ⟨g,u,none⟩))] hH0 ?_
  dsimp only [sZ,sS]
  refine tD 7 24 (.agg #[.int .i64 x.k,.int .i64 x.e,.int .i64 x.a,.slice xa x.d.length xc]) rfl rfl [(5,.pointer (some ⟨w.heap.size,0,none⟩))] hH0 ?_
  dsimp only [sZ,sS]
  refine rD 8 rfl (fun K hK=>?_)
  go_simp
  refine (kdo2_any x xa xc _ HP.out (shAt_drew HSH.out) HD.out (SlV.below HB.out (Nat.le_refl _) (by go_grown))).mono ?_
  rintro e w2 ⟨rfl,us,hs,h2⟩
  have H2:=Zh (HBK.out _ _ us w2 _ hs h2)
  have HF2:w2.cell? ⟨c,1,none⟩=some (.slice (some ⟨g,0,none⟩) n cap)∧w2.cell? ⟨g,u,none⟩=some (ptrV q)∧w2.cell? ⟨w.heap.size,0,none⟩=some (.int .i64 x.k)∧w2.cell? ⟨w.heap.size,1,none⟩=some (.int .i64 x.e)∧w2.cell? ⟨w.heap.size,2,none⟩=some (.int .i64 x.a)∧w2.cell? ⟨w.heap.size,3,none⟩=some (.slice xa x.d.length xc):=by
   obtain ⟨_,_,_,h3⟩:=h2
   exact ⟨by rw [←HSV.out];exact h3.cell 4 rfl 1 rfl,row_cell (h3.row 7 rfl) HSV.out (by rw [List.getElem?_map,HY.out];show some (optV y.Q)=_;rw [hq];rfl),h3.cell 3 rfl 0 rfl,h3.cell 3 rfl 1 rfl,h3.cell 3 rfl 2 rfl,h3.cell 3 rfl 3 rfl⟩
  clear h2
  refine hK.out _ _ ?_ (fun hH1=>?_)
  ·exact HF2
  clear hK K
  try simp only [Act.put,gA,gZ,gS,sA,sZ,sS]
  refine tD 9 26 (.int .i64 (doS S y.x.d x).2.1) rfl rfl [(25,.tuple #[.int .i64 (doS S y.x.d x).2.1,errV (doS S y.x.d x).1])] hH1 ?_
  dsimp only [sZ,sS]
  refine tD 10 27 (errV (doS S y.x.d x).1) rfl rfl [(25,.tuple #[.int .i64 (doS S y.x.d x).2.1,errV (doS S y.x.d x).1])] hH1 ?_
  dsimp only [sZ,sS]
  refine tD 11 6 (.int .i64 (doS S y.x.d x).2.1) rfl rfl [(26,.int .i64 (doS S y.x.d x).2.1)] hH1 ?_
  dsimp only [sZ,sS]
  refine tD 12 7 (errV (doS S y.x.d x).1) rfl rfl [(27,errV (doS S y.x.d x).1)] hH1 ?_
  dsimp only [sZ,sS]
  refine wpAnyH_done (by kernel_rfl) ?_ _
  go_wp2_with fail
  go_ret2
  rw [HF.out]
  exact ⟨rfl,ClAt.less (K:=[_]) H2.out⟩

theorem allC_stop {St:Type} {f:St→Int→Nat×St} {l:List Int} {k:Nat} (hk:k<l.length) {s:St} (h:(f s l[k]).1≠0):allC f (l.drop k) s=f s l[k]:=by
 rw [List.drop_eq_getElem_cons hk]
 show (if (f s l[k]).1≠0 then _ else _)=_
 rw [if_pos h]
theorem allC_step {St:Type} {f:St→Int→Nat×St} {l:List Int} {k:Nat} (hk:k<l.length) {s:St} (h:(f s l[k]).1=0):allC f (l.drop k) s=allC f (l.drop (k+1)) (f s l[k]).2:=by
 rw [List.drop_eq_getElem_cons hk]
 show (if (f s l[k]).1≠0 then _ else _)=_
 rw [if_neg (by rw [h];decide)]
/-- a function value that does a thing with a unit -/
def DoesU {St:Type} (f:Nat) (cap:Array Value) (step:St→Int→Nat×St) (I:St→World→Prop) (l:List Int):Prop :=
 ∀ (s:St) (u:Int) (w:World),u∈l→I s w→Calls Tryz.prog f (#[.int .i64 u]++cap) w fun e w'=>e=.returned (errV (step s u).1)∧I (step s u).2 w'
set_option maxHeartbeats 4000000 in
theorem all_any {St:Type} (f:Nat) (cap:Array Value) (step:St→Int→Nat×St) (I:St→World→Prop) (l:List Int) (a:Option Addr) (c:Nat) (s:St) (w:World) (hl:l.length≤1048576) (hZ:∀ s w,I s w→Zs w (.slice a l.length c) l)
  (hcf:∀ args w,(callFunc f args).run Tryz.prog w=.ok (.enter f args) w) (hf:DoesU f cap step I l) (hI:I s w) :
  Calls Tryz.prog 90 #[.slice a l.length c,.func (.func f) #[] cap] w fun e w'=>e=.returned (errV (allC step l s).1)∧I (allC step l s).2 w':=by
 have HZ:=Lib.hid' hZ
 have HF:=Lib.hid' hf
 have HI:=Lib.hid' hI
 clear hZ hf hI
 go_enter Tryz.func90, Tryz.ntmps90
 go_wp2_with fail
 go_loopw [10] (fun v10 wr=>∃ (k:Nat) (st:St),v10=.int .i64 k∧k≤l.length∧Hid (I st wr)∧Hid (allC step l s=allC step (l.drop k) st)) (fun v10 _=>l.length - (intOf v10).toNat)
 case atStart=>exact ⟨0,s,rfl,Nat.zero_le _,HI,Zh (by rw [List.drop_zero])⟩
 case round =>
  clear HI
  obtain ⟨k,st,rfl,hk,HI,HA⟩:=hrel
  by_cases hlt:k<l.length
  ·obtain ⟨b,off,rfl,hb,hc⟩:=(HZ.out _ _ HI.out).at hlt
   have HM:=Zh (show l[k]∈l from List.getElem_mem hlt)
   have HE:=Zh (fun h=>allC_stop (f:=step) hlt (s:=st) h)
   have HS:=Zh (fun h=>allC_step (f:=step) hlt (s:=st) h)
   generalize l[k]=y at *
   go_wp2_with fail
   refine (HF.out st y wr HM.out HI.out).mono ?_
   rintro e w2 ⟨rfl,hi2⟩
   have HI2:=Lib.hid' hi2
   clear hi2
   by_cases h0:(step st y).1=0
   ·have HA2:=Zh (HA.out.trans (HS.out h0))
    rw [h0,errV_0]
    clear h0
    go_wp2_with fail
    go_roundw
    case rel=>exact ⟨k+1,(step st y).2,by go_num,by omega,HI2,HA2⟩
    case measure=>simp [intOf];omega
   ·have HA2:=Zh (HA.out.trans (HE.out h0))
    rw [errV_pos h0]
    have H0:=Lib.hid' h0
    clear h0
    go_wp2_with fail
    go_ret
    rw [HA2.out]
    exact ⟨by rw [errV_pos H0.out];rfl,HI2.out⟩
  ·have HA2:=Zh (HA.out.trans (show allC step (l.drop k) st=(0,st) by rw [List.drop_eq_nil_of_le (by omega)];rfl))
   go_wp2_with fail
   go_ret
   rw [HA2.out]
   exact ⟨rfl,HI.out⟩
structure PjOk (p:Pj):Prop where
 e:0≤p.e∧p.e≤1099511627776
 n:1≤p.cs.length∧p.cs.length≤4
 each:∀ x∈p.cs,1≤x.length∧x.length≤4
theorem pj_ok {p:Pj} (h:p.check=0):PjOk p:=by
 unfold Pj.check at h
 split at h
 ·cases h
 ·rename_i h1
  split at h
  ·cases h
  ·rename_i h2
   refine ⟨by omega,⟨by omega,by omega⟩,fun x hx=>?_⟩
   have h3:p.cs.any wrongC=false:=by
    cases hq:p.cs.any wrongC with
    | false=>rfl
    | true=>exact absurd (.inr (.inr hq)) h2
   have h4:wrongC x=false:=by
    have:=List.any_eq_false.1 h3 x hx
    simpa using this
   unfold wrongC at h4
   simp only [Bool.or_eq_false_iff,decide_eq_false_iff_not] at h4
   omega
theorem mem_all {p:Pj} {x:List Int} (hx:x∈p.cs) {u:Int} (hu:u∈x):u∈p.all:=by
 unfold Pj.all
 exact List.mem_flatten.2 ⟨x,hx,hu⟩
theorem home_at {M:Cl} (h:PjOk M.p) {a:Int} (ha:0≤a):∃ i,i<M.p.cs.length∧a.tmod (M.p.cs.length:Int)=(i:Int)∧M.p.cs[i]?=some (M.home a):=by
 have hn:=h.n
 have h1:0≤a % (M.p.cs.length:Int):=Int.emod_nonneg _ (by omega)
 have h2:a % (M.p.cs.length:Int)<M.p.cs.length:=Int.emod_lt_of_pos _ (by omega)
 refine ⟨(a % (M.p.cs.length:Int)).toNat,by omega,?_,?_⟩
 ·rw [Int.tmod_eq_emod_of_nonneg ha];omega
 ·unfold Cl.home
  rw [List.getD_eq_getElem?_getD,List.getElem?_eq_getElem (by omega)];rfl
/-- a chain of the cluster's own, read -/
theorem ClAt.chain {c:Nat} {M:Cl} {J:CJ} {L:List Asn} {W w:World} (h:ClAt c M J L W w) {y:Ch} (hy:y∈J.Ks):Zs w (chV y) y.1:=by
 obtain ⟨P,rfl,hP,H⟩:=h
 exact SlV.of_own (H.one chA 5 rfl hy)
theorem ClAt.csOf {c:Nat} {M:Cl} {J:CJ} {L:List Asn} {W w:World} (h:ClAt c M J L W w):J.Ks.map (·.1)=M.p.cs:=by
 obtain ⟨P,rfl,hP,_⟩:=h
 exact hP.cs
set_option maxHeartbeats 4000000 in
theorem home_any {c:Nat} {M:Cl} {J:CJ} {L:List Asn} {W:World} (a:Int) (w:World) (h:ClAt c M J L W w) (hok:M.ok) (ha:0≤a) :
  Calls Tryz.prog 60 #[ptrV c,.int .i64 a] w fun e w'=>(∃ y,y∈J.Ks∧e=.returned (chV y)∧y.1=M.home a)∧Below w.heap.size w w':=by
 obtain ⟨i,hi,hm,hg⟩:=home_at (pj_ok hok.proj) ha
 have hcs:=h.csOf
 have hpn:=(pj_ok hok.proj).n
 obtain ⟨P,rfl,hP,H⟩:=h
 have hil:i<P.J.Ks.length:=by rw [←hcs,List.length_map] at hi;exact hi
 have hln:P.J.Ks.length=M.p.cs.length:=by rw [←hcs,List.length_map]
 have HY:=Zh (show P.J.Ks[i]∈P.J.Ks from List.getElem_mem hil)
 have HG:=Zh (show (P.J.Ks[i]).1=M.home a by
  rw [←hcs,List.getElem?_map,List.getElem?_eq_getElem hil] at hg
  simpa using hg)
 obtain ⟨g,cap,hv,hgl,hgc⟩:=own_at (H.row 4 rfl) (j:=i) (u:=chV (P.J.Ks[i])) (by rw [List.getElem?_map,List.getElem?_eq_getElem hil];rfl)
 have c3:=H.cell 0 rfl 3 rfl
 have hl:=H.lt 0 rfl
 rw [hv] at c3
 generalize P.J.Ks[i]=y at *
 rw [←hln] at hm hpn
 generalize hnn:P.J.Ks.length=n at *
 clear hnn
 have hgc2:w.cell? ⟨g,i,none⟩=some (.slice y.2.1 y.1.length y.2.2):=hgc
 have hn0:¬(n:Int)=0:=by omega
 clear H hP hok hg hi hln hcs hgc hv
 go_enter Tryz.func60, Tryz.ntmps60
 go_upto_region 1 with fail
 go_quiet (fail)
 go_wp2_with fail
 go_ret
 exact ⟨⟨y,HY.out,rfl,HG.out⟩,⟨rfl,rfl,rfl,Nat.le_refl _,fun _ _=>rfl⟩⟩
/-- the act's box -/
abbrev actB (N:Nat) (x:Ac) (xa:Option Addr) (xc:Nat):Asn:=.box N [.int .i64 x.k,.int .i64 x.e,.int .i64 x.a,.slice xa x.d.length xc] 154
abbrev ptrB (N c:Nat):Asn:=.box N [ptrV c] 42
theorem ClAt.side {c:Nat} {M:Cl} {J:CJ} {L:List Asn} {W w:World} (h:ClAt c M J L W w):Sep W NoF L w:=by
 obtain ⟨P,_,_,H⟩:=h
 refine H.keepOnly ?_
 unfold clL
 exact ((List.sublist_append_right _ _).trans (List.sublist_cons_self _ _)).trans (List.sublist_append_right _ _)
theorem ClAt.c2 {c:Nat} {M:Cl} {J:CJ} {L:List Asn} {W w:World} (h:ClAt c M J L W w):w.cell? ⟨c,2,none⟩=some (.int .i64 M.p.e)∧c<w.heap.size:=by
 obtain ⟨P,_,_,H⟩:=h
 exact ⟨H.cell 0 rfl 2 rfl,H.lt 0 rfl⟩
/-- the sequencer ahead of all else; and back -/
theorem ClAt.seqd {c:Nat} {M:Cl} {J:CJ} {L:List Asn} {W w:World} (h:ClAt c M J L W w):∃ b K,w.cell? ⟨c,4,none⟩=some (ptrV b)∧Sep W NoF (Asn.seq b M.q::K) w∧(∃ i:Nat,i<2∧True)∧∀ (q':Q) (w':World),Sep W NoF (Asn.seq b q'::K) w'→ClAt c { M with q:=q' } J L W w'∧w'.cell? ⟨c,4,none⟩=some (ptrV b):=by
 obtain ⟨P,rfl,hP,H⟩:=h
 refine ⟨P.b,(clL c M P L).eraseIdx 1,H.cell 0 rfl 4 rfl,H.focus 1 rfl,⟨0,by decide,trivial⟩,fun q' w' h'=>?_⟩
 have h1:Sep W NoF (clL c { M with q:=q' } P L) w':=h'.perm (List.Perm.swap _ _ _)
 exact ⟨⟨P,rfl,⟨hP.us,hP.cs⟩,h1⟩,h1.cell 0 rfl 4 rfl⟩
set_option maxHeartbeats 4000000 in
theorem write_any {c N1 N2:Nat} {M:Cl} {J:CJ} {L:List Asn} {W:World} (u:Int) (x:Ac) (xa:Option Addr) (xc:Nat) (w:World) (hp:Pow W) (h:ClAt c M J (ptrB N1 c::actB N2 x xa xc::L) W w) (hu:0≤u∧u<(M.us.length:Int)) (hok:M.ok) (hB:Bytes w (.slice xa x.d.length xc) x.d) :
  Calls Tryz.prog 88 #[.int .i64 u,ptrV N1,ptrV N2] w fun e w'=>e=.returned (errV (Cl.write x M u).1)∧ClAt c (Cl.write x M u).2 J (ptrB N1 c::actB N2 x xa xc::L) W w':=by
 obtain ⟨k,rfl⟩:∃ k:Nat,u=k:=⟨u.toNat,by omega⟩
 have HD:=Zh (do_any k x xa xc w hp h (by omega) hok hB)
 have hs:=h.side
 have c0:=hs.cell 0 rfl 0 rfl
 have x0:=hs.cell 1 rfl 0 rfl;have x1:=hs.cell 1 rfl 1 rfl;have x2:=hs.cell 1 rfl 2 rfl;have x3:=hs.cell 1 rfl 3 rfl
 have l0:=hs.lt 0 rfl;have l1:=hs.lt 1 rfl
 have HW:=Zh (show Cl.write x M (k:Int)=((M.do k x).1,(M.do k x).2.2) from rfl)
 rw [show ac9V x xa xc=.agg #[.int .i64 x.k,.int .i64 x.e,.int .i64 x.a,.slice xa x.d.length xc] from rfl] at HD
 clear h hu hok hB hs hp
 go_enter Tryz.func88, Tryz.ntmps88
 go_wp2_with fail
 refine HD.out.mono ?_
 rintro e w2 ⟨rfl,h2⟩
 go_wp2_with fail
 go_ret
 rw [HW.out]
 exact ⟨rfl,h2⟩
theorem cf_write (args:Array Value) (w:World):(callFunc 88 args).run Tryz.prog w=.ok (.enter 88 args) w:=by kernel_rfl
theorem ClAt.allocB {c:Nat} {M:Cl} {J:CJ} {L:List Asn} {W w:World} (h:ClAt c M J L W w) (N:Nat) (R:List Value) (t:Nat) (hN:w.heap.size=N):ClAt c M J (.box N R t::L) W (w.alloc (.cells R.toArray t)):=by
 obtain ⟨P,hJ,hP,H⟩:=h
 refine ⟨P,hJ,hP,(H.allocAt N R t hN).perm ?_⟩
 have e1:∀ L,clL c M P L=(clK c M P++(Asn.pool P.Z P.vs::P.Us.map (unA P.vs)))++L:=fun L=>by unfold clL;simp
 rw [e1 L,e1 (_::L)]
 exact List.perm_middle.symm
/-- the first part beside is set anew -/
theorem ClAt.setB {c:Nat} {M:Cl} {J:CJ} {L:List Asn} {W w:World} {N:Nat} {R:List Value} {t:Nat} (h:ClAt c M J (.box N R t::L) W w) (j:Nat) (v:Value):ClAt c M J (.box N (R.set j v) t::L) W (w.setCell ⟨N,j,none⟩ v):=by
 obtain ⟨P,hJ,hP,H⟩:=h
 have e1:∀ L,clL c M P L=(clK c M P++(Asn.pool P.Z P.vs::P.Us.map (unA P.vs)))++L:=fun L=>by unfold clL;simp
 rw [e1] at H
 have h1:Sep W NoF (.box N R t::((clK c M P++(Asn.pool P.Z P.vs::P.Us.map (unA P.vs)))++L)) w:=H.perm List.perm_middle
 refine ⟨P,hJ,hP,?_⟩
 rw [e1]
 exact (h1.set 0 rfl j v).perm List.perm_middle.symm
theorem take_zero {q q2:Q} {e a:Int} (h:q.take e 1=(0,a,q2)):a=q.n∧q2=⟨q.e,q.n+1⟩∧q.n+1≤1048576:=by
 unfold Q.take at h
 split at h
 ·rename_i h1;exact absurd (congrArg Prod.fst h) h1
 ·split at h
  ·cases congrArg Prod.fst h
  ·rename_i h2
   cases h
   exact ⟨rfl,rfl,by omega⟩
theorem try_seq {M:Cl} {d:List UInt8} {z:Nat} {a:Int} {q2:Q} (h:M.q.take M.p.e 1=(z,a,q2)) (hz:z≠0):M.try d=(false,z,0,{ M with q:=q2 }):=by
 unfold Cl.try;rw [h,if_pos hz]
theorem try_again {M:Cl} {d:List UInt8} {a u:Int} {r:List Int} {q2:Q} (h:M.q.take M.p.e 1=(0,a,q2)) (hh:M.home a=u::r) (hw:(Cl.write ⟨2,M.p.e,a,d⟩ { M with q:=q2 } u).1=8∨(Cl.write ⟨2,M.p.e,a,d⟩ { M with q:=q2 } u).1=9) :
  M.try d=(true,0,0,(Cl.write ⟨2,M.p.e,a,d⟩ { M with q:=q2 } u).2):=by
 unfold Cl.try;rw [h,if_neg (by simp)]
 simp only [hh]
 rw [if_pos hw]
theorem try_err {M:Cl} {d:List UInt8} {a u:Int} {r:List Int} {q2:Q} (h:M.q.take M.p.e 1=(0,a,q2)) (hh:M.home a=u::r) (hw:¬((Cl.write ⟨2,M.p.e,a,d⟩ { M with q:=q2 } u).1=8∨(Cl.write ⟨2,M.p.e,a,d⟩ { M with q:=q2 } u).1=9)) (he:(Cl.write ⟨2,M.p.e,a,d⟩ { M with q:=q2 } u).1≠0) :
  M.try d=(false,(Cl.write ⟨2,M.p.e,a,d⟩ { M with q:=q2 } u).1,0,(Cl.write ⟨2,M.p.e,a,d⟩ { M with q:=q2 } u).2):=by
 unfold Cl.try;rw [h,if_neg (by simp)]
 simp only [hh]
 rw [if_neg hw,if_pos he]
theorem try_rest {M:Cl} {d:List UInt8} {a u:Int} {r:List Int} {q2:Q} (h:M.q.take M.p.e 1=(0,a,q2)) (hh:M.home a=u::r) (he:(Cl.write ⟨2,M.p.e,a,d⟩ { M with q:=q2 } u).1=0) :
  M.try d=if (allC (Cl.write ⟨2,M.p.e,a,d⟩) r (Cl.write ⟨2,M.p.e,a,d⟩ { M with q:=q2 } u).2).1≠0 then (false,(allC (Cl.write ⟨2,M.p.e,a,d⟩) r (Cl.write ⟨2,M.p.e,a,d⟩ { M with q:=q2 } u).2).1,0,(allC (Cl.write ⟨2,M.p.e,a,d⟩) r (Cl.write ⟨2,M.p.e,a,d⟩ { M with q:=q2 } u).2).2) else (false,0,a,(allC (Cl.write ⟨2,M.p.e,a,d⟩) r (Cl.write ⟨2,M.p.e,a,d⟩ { M with q:=q2 } u).2).2):=by
 unfold Cl.try;rw [h,if_neg (by simp)]
 simp only [hh]
 rw [if_neg (by omega),if_neg (by omega)]
theorem Cl.ok.seqTo {M:Cl} (h:M.ok) {q2:Q} (hq:q2.ok):({ M with q:=q2 }:Cl).ok:=⟨h.proj,h.many,h.there,hq,h.disk⟩
theorem ClAt.swapB {c:Nat} {M:Cl} {J:CJ} {L:List Asn} {A B:Asn} {W w:World} (h:ClAt c M J (A::B::L) W w):ClAt c M J (B::A::L) W w:=by
 obtain ⟨P,hJ,hP,H⟩:=h
 refine ⟨P,hJ,hP,H.perm ?_⟩
 unfold clL
 exact (List.Perm.append_left _ (List.Perm.swap _ _ _)).cons _ |>.append_left _
theorem ClAt.sub {c:Nat} {M:Cl} {J:CJ} {L L':List Asn} {W w:World} (h:ClAt c M J L W w) (hs:L'.Sublist L):ClAt c M J L' W w:=by
 obtain ⟨P,hJ,hP,H⟩:=h
 refine ⟨P,hJ,hP,H.keepOnly ?_⟩
 unfold clL
 exact ((hs.append_left _).cons_cons _).append_left _
theorem zs_tail {w:World} {gb go yc:Nat} {u:Int} {r:List Int} (h:Zs w (.slice (some ⟨gb,go,none⟩) (r.length+1) yc) (u::r)):r.length+1≤yc∧(yc=1→Zs w (.slice (some ⟨gb,go,none⟩) r.length 0) r)∧Zs w (.slice (some ⟨gb,go+1,none⟩) r.length (yc - 1)) r:=by
 obtain ⟨a,cap,he,h1,h2,h3,h4⟩:=h
 cases he
 have h1':r.length+1≤yc:=h1
 have h2':yc - 1≤maxLen:=by omega
 refine ⟨h1,fun hy=>?_,some ⟨gb,go+1,none⟩,yc - 1,rfl,by omega,h2',(fun h=>by cases h),fun j v hj=>?_⟩
 ·have hr:r=[]:=by
   cases r with
   | nil=>rfl
   | cons=>simp at h1';omega
  subst hr
  exact ⟨some ⟨gb,go,none⟩,0,rfl,Nat.zero_le _,Nat.zero_le _,(fun h=>by cases h),fun j v hj=>by simp [zVs] at hj⟩
 ·obtain ⟨p,hp,hc⟩:=h4 (j+1) v (by simpa [zVs] using hj)
  cases hp
  refine ⟨_,rfl,?_⟩
  rw [←hc]
  congr 1
  show (Addr.mk gb (go+1) none).add j=(Addr.mk gb go none).add (j+1)
  unfold Addr.add
  rw [if_neg (show ¬j+1=0 by omega)]
  by_cases hj0:j=0
  ·subst hj0;rfl
  ·rw [if_neg hj0];simp only [Nat.add_assoc,Nat.add_comm 1 j]
def mA (v:Value):Nat:=match v with
 | .int _ x=>(1048577 - x).toNat
 | _=>1048579
theorem mA_less {v:Value} {a n:Int} (h:v=undef∨∃ a':Int,v=.int .i64 a'∧a'<n) (ha:a=n) (h0:0≤a) (h1:a≤1048576):mA (.int .i64 a)<mA v:=by
 rcases h with rfl | ⟨a',rfl,h2⟩
 ·show (1048577 - a).toNat<1048579
  omega
 ·show (1048577 - a).toNat<(1048577 - a').toNat
  omega
theorem append_step {M:Cl} (d:List UInt8) (h:M.q.n≤1048576):M.appendF d M.fuel=if (M.try d).1=true then Cl.appendF d (M.fuel - 1) (M.try d).2.2.2 else (M.try d).2:=by
 obtain ⟨k,hk⟩:∃ k,M.fuel=k+1:=⟨M.fuel - 1,by unfold Cl.fuel;omega⟩
 rw [hk];rfl
set_option maxHeartbeats 16000000 in
theorem append_any {c:Nat} {M:Cl} {J:CJ} {L:List Asn} {W:World} (d:List UInt8) (da:Option Addr) (dc:Nat) (w:World) (hp:Pow W) (h:ClAt c M J L W w) (hok:M.ok) (hB:∀ M' w',ClAt c M' J L W w'→Bytes w' (.slice da d.length dc) d) :
  Calls Tryz.prog 42 #[ptrV c,.slice da d.length dc] w (ClR c (M.append d).2.2 J (.tuple #[.int .i64 (M.append d).2.1,errV (M.append d).1]) L W):=by
 have hlD:=bytes_len (hB _ _ h)
 have HP:=Lib.hid' hp
 have HB:=Lib.hid' hB
 have HOK:=Lib.hid' hok
 have H1:=Zh (h.allocB w.heap.size [ptrV c] 42 rfl)
 have HL:=Lib.hid' h
 have HA:=Zh (show M.append d=if 64<d.length then (3,0,M) else M.appendF d M.fuel from rfl)
 have hl:=h.c2.2
 clear h hp hB hok
 go_enter Tryz.func42, Tryz.ntmps42
 by_cases hd:64<d.length
 ·have hdd:(64:Int)<(d.length:Int):=by omega
  have HA2:=Zh (HA.out.trans (if_pos hd))
  clear hd
  go_wp2_with fail
  go_ret2
  rw [HA2.out]
  exact ⟨rfl,ClAt.less (K:=[_]) H1.out⟩
 have hdd:¬(64:Int)<(d.length:Int):=by omega
 have HA2:=Zh (HA.out.trans (if_neg hd))
 clear hd HL
 go_wp2_with fail
 generalize w.alloc (.cells #[ptrV c] 42)=w1 at *
 generalize w.heap.size=N1 at *
 go_loopw [6] (fun v6 wr=>∃ M',Hid (ClAt c M' J (ptrB N1 c::L) W wr)∧Hid M'.ok∧Hid (M'.p=M.p∧M'.us.length=M.us.length)∧Hid (M.append d=M'.appendF d M'.fuel)∧(v6=undef∨∃ a:Int,v6=.int .i64 a∧a<M'.q.n)) (fun v6 _=>mA v6)
 case atStart=>exact ⟨M,H1,HOK,Lib.hid' ⟨rfl,rfl⟩,HA2,.inl rfl⟩
 case round =>
  clear H1 HOK HA HA2
  obtain ⟨M1,H1,HOK,HSP,HA,h6⟩:=hrel
  obtain ⟨b,K,hb4,hsq,_,hback⟩:=H1.out.seqd
  have HSQ:=Lib.hid' hsq
  have HBK:=Lib.hid' hback
  obtain ⟨hc2,hl2⟩:=H1.out.c2
  have hn1:=H1.out.side.cell 0 rfl 0 rfl
  have hnl:=H1.out.side.lt 0 rfl
  have H6:=Lib.hid' h6
  clear hsq hback h6
  go_upto_region 5 with fail

  refine startD (S:=(fun w'=>w'.cell? ⟨N1,0,none⟩=some (ptrV c)∧w'.cell? ⟨c,2,none⟩=some (.int .i64 M1.p.e)∧w'.cell? ⟨c,4,none⟩=some (ptrV b)∧N1<w'.heap.size∧c<w'.heap.size)) (by kernel_rfl) ⟨hn1,hc2,hb4,hnl,hl2⟩ (fun hH0=>?_)
  simp only [List.length_cons,List.length_nil,Nat.reduceAdd,List.replicate_succ,List.replicate_zero]
  refine tD 0 21 (.pointer (some ⟨c,0,none⟩)) rfl rfl [(2,.pointer (some ⟨N1,0,none⟩))] hH0 ?_
  dsimp only [sZ,sS]
  refine tD 1 22 (.pointer (some ⟨c,0,none⟩)) rfl rfl [(21,.pointer (some ⟨c,0,none⟩))] hH0 ?_
  dsimp only [sZ,sS]
  refine tD 2 23 (.pointer (some ⟨c,4,none⟩)) rfl rfl [(22,.pointer (some ⟨c,0,none⟩))] hH0 ?_
  dsimp only [sZ,sS]
  refine tD 3 24 (ptrV b) rfl rfl [(23,.pointer (some ⟨c,4,none⟩))] hH0 ?_
  dsimp only [sZ,sS]
  refine tD 4 25 (.pointer (some ⟨c,0,none⟩)) rfl rfl [(2,.pointer (some ⟨N1,0,none⟩))] hH0 ?_
  dsimp only [sZ,sS]
  refine tD 5 26 (.pointer (some ⟨c,0,none⟩)) rfl rfl [(25,.pointer (some ⟨c,0,none⟩))] hH0 ?_
  dsimp only [sZ,sS]
  refine tD 6 27 (.pointer (some ⟨c,2,none⟩)) rfl rfl [(26,.pointer (some ⟨c,0,none⟩))] hH0 ?_
  dsimp only [sZ,sS]
  refine tD 7 28 (.pointer (some ⟨c,2,none⟩)) rfl rfl [(27,.pointer (some ⟨c,2,none⟩))] hH0 ?_
  dsimp only [sZ,sS]
  refine tD 8 29 (.int .i64 M1.p.e) rfl rfl [(28,.pointer (some ⟨c,2,none⟩))] hH0 ?_
  dsimp only [sZ,sS]
  refine rD 9 rfl (fun K hK=>?_)
  go_simp
  refine (SQ.take_any M1.p.e HOK.out.seq HSQ.out.drew).mono ?_
  rintro e w2 ⟨rfl,hs2⟩
  obtain ⟨h2,hb42⟩:=HBK.out _ _ hs2
  have H2:=Lib.hid' h2
  have HF2:w2.cell? ⟨N1,0,none⟩=some (ptrV c)∧w2.cell? ⟨c,2,none⟩=some (.int .i64 M1.p.e)∧w2.cell? ⟨c,4,none⟩=some (ptrV b)∧N1<w2.heap.size∧c<w2.heap.size:=⟨h2.side.cell 0 rfl 0 rfl,h2.c2.1,hb42,h2.side.lt 0 rfl,h2.c2.2⟩
  clear hs2 h2 hb42
  refine hK.out _ _ ?_ (fun hH1=>?_)
  ·exact HF2
  clear hK K
  try simp only [Act.put,gA,gZ,gS,sA,sZ,sS]
  refine tD 10 20 (.tuple #[.int .i64 (M1.q.take M1.p.e 1).2.1,errV (M1.q.take M1.p.e 1).1]) rfl rfl [(30,.tuple #[.int .i64 (M1.q.take M1.p.e 1).2.1,errV (M1.q.take M1.p.e 1).1])] hH1 ?_
  dsimp only [sZ,sS]
  refine tD 11 31 (.int .i64 (M1.q.take M1.p.e 1).2.1) rfl rfl [(20,.tuple #[.int .i64 (M1.q.take M1.p.e 1).2.1,errV (M1.q.take M1.p.e 1).1])] hH1 ?_
  dsimp only [sZ,sS]
  refine tD 12 32 (errV (M1.q.take M1.p.e 1).1) rfl rfl [(20,.tuple #[.int .i64 (M1.q.take M1.p.e 1).2.1,errV (M1.q.take M1.p.e 1).1])] hH1 ?_
  dsimp only [sZ,sS]
  refine tD 13 6 (.int .i64 (M1.q.take M1.p.e 1).2.1) rfl rfl [(31,.int .i64 (M1.q.take M1.p.e 1).2.1)] hH1 ?_
  dsimp only [sZ,sS]
  refine tD 14 7 (errV (M1.q.take M1.p.e 1).1) rfl rfl [(32,errV (M1.q.take M1.p.e 1).1)] hH1 ?_
  dsimp only [sZ,sS]
  refine wpAnyH_done (by kernel_rfl) ?_ _
  clear HF2 hb4 hc2 hn1
  have HTA:=Zh (append_step (M:=M1) d HOK.out.seq.n.2)
  obtain ⟨tk,htk⟩:∃ tk,M1.q.take M1.p.e 1=tk:=⟨_,rfl⟩
  have HQ2:=Zh (show tk.2.2.ok from by rw [←htk];exact HOK.out.seq.take)
  rw [htk] at H2 ⊢
  obtain ⟨z,a,q2⟩:=tk
  dsimp only at H2 HQ2 ⊢
  clear HSQ HBK H1
  by_cases hz:z=0
  ·subst hz
   rw [errV_0]
   have HOK2:=Zh (HOK.out.seqTo HQ2.out)
   obtain ⟨hea,heq,hen⟩:=take_zero htk
   have HTK:=Lib.hid' htk
   have HEA:=Lib.hid' hea
   have HEQ:=Lib.hid' heq
   have ha0:0≤a:=by have:=HOK.out.seq.n;omega
   clear htk hea heq hen
   have hn2:=H2.out.side.cell 0 rfl 0 rfl
   have hc22:=H2.out.c2.1
   have hl22:=H2.out.c2.2
   have hl12:=H2.out.side.lt 0 rfl
   go_wp2_with fail
   have H3:=Zh ((H2.out.allocB w2.heap.size [.int .i64 2,.int .i64 M1.p.e,.int .i64 a,.slice da d.length dc] 154 rfl).swapB)
   generalize w2.alloc (.cells #[.int .i64 2,.int .i64 M1.p.e,.int .i64 a,.slice da d.length dc] 154)=w3 at *
   generalize w2.heap.size=N2 at *
   clear H2 hn2 hc22 hl22 hl12
   refine (home_any a w3 H3.out HOK2.out ha0).mono ?_
   rintro e w4 ⟨⟨⟨l,ya,yc⟩,hy,rfl,hyh⟩,hb4⟩
   have H4:=Zh (H3.out.below hb4)
   have HY:=Lib.hid' hy
   have hmem:l∈M1.p.cs:=by
    rw [←show J.Ks.map (·.1)=M1.p.cs from H3.out.csOf]
    exact List.mem_map_of_mem (f:=(·.1)) hy
   have hlen:=(pj_ok HOK.out.proj).each _ hmem
   obtain ⟨u,r,rfl⟩:∃ u r,l=u::r:=by
    cases l with
    | nil=>simp at hlen
    | cons u r=>exact ⟨u,r,rfl⟩
   have HHM:=Zh (show M1.home a=u::r from hyh.symm)
   have hlr:r.length≤3:=by have:=hlen.2;simp at this;omega
   have HTHL:=Zh (fun v (hv:v∈u::r)=>HOK.out.there v (mem_all hmem hv))
   obtain ⟨gb,go,hya,hgb,hgc⟩:=(H4.out.chain hy).at (k:=0) (by simp)
   have hgc2:w4.cell? ⟨gb,go,none⟩=some (.int .i64 u):=hgc
   simp only at hya
   subst hya
   have hcv:chV (u::r,some ⟨gb,go,none⟩,yc)=.slice (some ⟨gb,go,none⟩) (r.length+1) yc:=rfl
   rw [hcv]
   clear H3 hb4 hy hyh hmem hlen hgc hcv
   go_wp2_with fail
   have hbx:=HB.out _ _ (H4.out.sub (L':=L) ((List.Sublist.refl L).cons _ |>.cons _))
   refine (write_any (N1:=N1) (N2:=N2) u ⟨2,M1.p.e,a,d⟩ da dc w4 HP.out H4.out (HTHL.out u List.mem_cons_self) HOK2.out hbx).mono ?_
   clear hbx hgc2
   rintro e w5 ⟨rfl,h5⟩
   have HOK3:=Zh (show (Cl.write ⟨2,M1.p.e,a,d⟩ ({ M1 with q:=q2 }:Cl) u).2.ok from HOK2.out.do _ _)
   have HSP3:=Zh (show (Cl.write ⟨2,M1.p.e,a,d⟩ ({ M1 with q:=q2 }:Cl) u).2.us.length=M1.us.length∧(Cl.write ⟨2,M1.p.e,a,d⟩ ({ M1 with q:=q2 }:Cl) u).2.p=M1.p∧(Cl.write ⟨2,M1.p.e,a,d⟩ ({ M1 with q:=q2 }:Cl) u).2.q=q2 from Cl.do_len _ _ _)
   have HT1:=Zh (fun hw=>try_again (d:=d) HTK.out HHM.out hw)
   have HT2:=Zh (fun hw he=>try_err (d:=d) HTK.out HHM.out hw he)
   have HT3:=Zh (fun he=>try_rest (d:=d) HTK.out HHM.out he)
   have H5:=Lib.hid' h5
   clear h5 H4
   obtain ⟨wr2,hwr2⟩:∃ wr2,Cl.write ⟨2,M1.p.e,a,d⟩ ({ M1 with q:=q2 }:Cl) u=wr2:=⟨_,rfl⟩
   rw [hwr2] at HOK3 HSP3 HT1 HT2 HT3 H5 ⊢
   obtain ⟨ze,M3⟩:=wr2
   dsimp only at HOK3 HSP3 HT1 HT2 HT3 H5 ⊢
   clear hwr2
   have HAG:=Zh (fun (hw:ze=8∨ze=9)=>show M.append d=M3.appendF d M3.fuel from by
    rw [HA.out,HTA.out,HT1.out hw]
    show (if true=true then Cl.appendF d (M1.fuel - 1) M3 else _)=_
    rw [if_pos rfl]
    congr 1
    have h1:M3.q.n=M1.q.n+1:=by rw [HSP3.out.2.2,HEQ.out]
    unfold Cl.fuel
    omega)
   have HMA:=Zh (fun h1:a≤1048576=>mA_less H6.out HEA.out ha0 h1)
   have ha1:a≤1048576:=by have:=HOK.out.seq.n;have:=HEA.out;omega
   have HLT:=Zh (show a<M3.q.n by
    have h1:M3.q.n=M1.q.n+1:=by rw [HSP3.out.2.2,HEQ.out]
    have:=HEA.out
    omega)
   have HRL:=Zh (show Hid (ClAt c M3 J (ptrB N1 c::L) W w5)∧Hid M3.ok∧Hid (M3.p=M.p∧M3.us.length=M.us.length)∧a<M3.q.n from ⟨Zh (H5.out.sub (((List.Sublist.refl L).cons _).cons_cons _)),HOK3,Lib.hid' ⟨HSP3.out.2.1.trans HSP.out.1,HSP3.out.1.trans HSP.out.2⟩,HLT.out⟩)
   by_cases h8:ze=8
   ·have HE:=Zh (HAG.out (.inl h8))
    subst h8
    rw [errV_pos (by decide)]
    go_wp2_with fail
    go_roundw
    case rel=>exact ⟨M3,HRL.out.1,HRL.out.2.1,HRL.out.2.2.1,HE,.inr ⟨a,rfl,HRL.out.2.2.2⟩⟩
    case measure=>exact HMA.out ha1
   by_cases h9:ze=9
   ·have HE:=Zh (HAG.out (.inr h9))
    subst h9
    rw [errV_pos (by decide)]
    go_wp2_with fail
    go_roundw
    case rel=>exact ⟨M3,HRL.out.1,HRL.out.2.1,HRL.out.2.2.1,HE,.inr ⟨a,rfl,HRL.out.2.2.2⟩⟩
    case measure=>exact HMA.out ha1
   by_cases h0:ze=0
   ·have HT:=Zh (HT3.out h0)
    subst h0
    rw [errV_0]
    clear HT1 HT2 HT3 h8 h9 HAG HMA HRL
    have HI5:=Zh (show ClAt c M3 J (ptrB N1 c::actB N2 ⟨2,M1.p.e,a,d⟩ da dc::L) W w5∧M3.ok∧M3.us.length=M1.us.length from ⟨H5.out,HOK3.out,HSP3.out.1⟩)
    have HDO:=Zh (show DoesU 88 #[ptrV N1,ptrV N2] (Cl.write ⟨2,M1.p.e,a,d⟩) (fun (s:Cl) (w:World)=>ClAt c s J (ptrB N1 c::actB N2 ⟨2,M1.p.e,a,d⟩ da dc::L) W w∧s.ok∧s.us.length=M1.us.length) r from fun s v w hv hI=>by
     have hbx:=HB.out _ _ (hI.1.sub (L':=L) ((List.Sublist.refl L).cons _ |>.cons _))
     have hth:=HTHL.out v (List.mem_cons_of_mem _ hv)
     refine (write_any (N1:=N1) (N2:=N2) v ⟨2,M1.p.e,a,d⟩ da dc w HP.out hI.1 (by rw [hI.2.2];exact hth) hI.2.1 hbx).mono ?_
     rintro e w' ⟨rfl,h'⟩
     exact ⟨rfl,h',hI.2.1.do _ _,(Cl.do_len _ _ _).1.trans hI.2.2⟩)
    have HZS:=Zh (fun (s:Cl) (w:World) (hI:ClAt c s J (ptrB N1 c::actB N2 ⟨2,M1.p.e,a,d⟩ da dc::L) W w∧s.ok∧s.us.length=M1.us.length)=>zs_tail (hI.1.chain HY.out))
    have hcap:r.length+1≤yc:=(HZS.out _ _ HI5.out).1
    by_cases hy1:yc=1
    ·subst hy1
     obtain rfl:r=[]:=List.eq_nil_of_length_eq_zero (by omega)
     have HALL:=Zh (all_any 88 #[ptrV N1,ptrV N2] (Cl.write ⟨2,M1.p.e,a,d⟩) (fun (s:Cl) (w:World)=>ClAt c s J (ptrB N1 c::actB N2 ⟨2,M1.p.e,a,d⟩ da dc::L) W w∧s.ok∧s.us.length=M1.us.length) [] (some ⟨gb,go,none⟩) 0 M3 w5 (by decide) (fun s w hI=>(HZS.out s w hI).2.1 rfl) cf_write HDO.out HI5.out)
     rw [List.length_nil] at HALL
     clear hcap hlr
     go_wp2_with fail
     refine HALL.out.mono ?_
     clear HALL
     clear HDO HZS HI5
     rintro e w6 ⟨rfl,hI6⟩
     have H6':=Lib.hid' hI6
     clear hI6
     obtain ⟨al,hal⟩:∃ al,allC (Cl.write ⟨2,M1.p.e,a,d⟩) [] M3=al:=⟨_,rfl⟩
     rw [hal] at H6' HT ⊢
     obtain ⟨zf,M4⟩:=al
     dsimp only at H6' HT ⊢
     clear hal
     by_cases hf:zf=0
     ·subst hf
      rw [errV_0]
      have hres:M.append d=(0,a,M4):=by rw [HA.out,HTA.out,HT.out];rfl
      have HRES:=Lib.hid' hres
      clear hres
      go_wp2_with fail
      go_ret2
      rw [HRES.out]
      exact ⟨rfl,H6'.out.1.sub ((List.Sublist.refl L).cons _ |>.cons _)⟩
     ·have hres:M.append d=(zf,0,M4):=by rw [HA.out,HTA.out,HT.out,if_pos hf];rfl
      have HRES:=Lib.hid' hres
      rw [errV_pos hf]
      have HZ:=Lib.hid' hf
      clear hres hf
      go_wp2_with fail
      go_ret2
      rw [HRES.out]
      exact ⟨by rw [errV_pos HZ.out];rfl,H6'.out.1.sub ((List.Sublist.refl L).cons _ |>.cons _)⟩
    ·have hy2:¬yc=1:=hy1
     have HALL:=Zh (all_any 88 #[ptrV N1,ptrV N2] (Cl.write ⟨2,M1.p.e,a,d⟩) (fun (s:Cl) (w:World)=>ClAt c s J (ptrB N1 c::actB N2 ⟨2,M1.p.e,a,d⟩ da dc::L) W w∧s.ok∧s.us.length=M1.us.length) r (some ⟨gb,go+1,none⟩) (yc - 1) M3 w5 (by omega) (fun s w hI=>(HZS.out s w hI).2.2) cf_write HDO.out HI5.out)
     clear hy1
     go_wp2_with fail
     refine HALL.out.mono ?_
     clear HALL
     clear HDO HZS HI5
     rintro e w6 ⟨rfl,hI6⟩
     have H6':=Lib.hid' hI6
     clear hI6
     obtain ⟨al,hal⟩:∃ al,allC (Cl.write ⟨2,M1.p.e,a,d⟩) r M3=al:=⟨_,rfl⟩
     rw [hal] at H6' HT ⊢
     obtain ⟨zf,M4⟩:=al
     dsimp only at H6' HT ⊢
     clear hal
     by_cases hf:zf=0
     ·subst hf
      rw [errV_0]
      have hres:M.append d=(0,a,M4):=by rw [HA.out,HTA.out,HT.out];rfl
      have HRES:=Lib.hid' hres
      clear hres
      go_wp2_with fail
      go_ret2
      rw [HRES.out]
      exact ⟨rfl,H6'.out.1.sub ((List.Sublist.refl L).cons _ |>.cons _)⟩
     ·have hres:M.append d=(zf,0,M4):=by rw [HA.out,HTA.out,HT.out,if_pos hf];rfl
      have HRES:=Lib.hid' hres
      rw [errV_pos hf]
      have HZ:=Lib.hid' hf
      clear hres hf
      go_wp2_with fail
      go_ret2
      rw [HRES.out]
      exact ⟨by rw [errV_pos HZ.out];rfl,H6'.out.1.sub ((List.Sublist.refl L).cons _ |>.cons _)⟩
   ·have HT:=Zh (HT2.out (by omega) h0)
    have g8:((ze:Int)==8)=false:=by rw [beq_eq_false_iff_ne];omega
    have g9:((ze:Int)==9)=false:=by rw [beq_eq_false_iff_ne];omega
    rw [errV_pos h0]
    have HZ:=Lib.hid' h0
    clear HT1 HT2 HT3 h8 h9 h0 HAG HMA HRL
    go_wp2_with fail
    go_ret2
    have hres:M.append d=(ze,0,M3):=by rw [HA.out,HTA.out,HT.out];rfl
    rw [hres]
    exact ⟨by rw [errV_pos HZ.out];rfl,H5.out.sub ((List.Sublist.refl L).cons _ |>.cons _)⟩
  ·have HT:=Zh (try_seq (d:=d) htk hz)
   rw [errV_pos hz]
   have HZ:=Lib.hid' hz
   clear hz htk
   go_wp2_with fail
   go_ret2
   have hres:M.append d=(z,0,{ M1 with q:=q2 }):=by rw [HA.out,HTA.out,HT.out];rfl
   rw [hres]
   exact ⟨by rw [errV_pos HZ.out];rfl,ClAt.less (K:=[_]) H2.out⟩

set_option maxHeartbeats 8000000 in
theorem read_any {c:Nat} {M:Cl} {J:CJ} {L:List Asn} {W:World} (u:Nat) (a:Int) (w:World) (h:ClAt c M J L W w) (hu:u<M.us.length) :
  Calls Tryz.prog 61 #[ptrV c,.int .i64 u,.int .i64 a] w (ReadR (M.readU u M.p.e a).1 (M.readU u M.p.e a).2 w):=by
 obtain ⟨hc2,hl⟩:=h.c2
 obtain ⟨P,rfl,hP,H⟩:=h
 obtain ⟨y,hy,hus,⟨g,n,cap,hsv,hun,hgl,hgc⟩,_⟩:=cl_at hP H hu
 have c1:=H.cell 0 rfl 1 rfl
 rw [hsv] at c1
 cases hq:y.Q with
 | none =>
  rw [hq] at hgc
  have hoff:=cl_off hy hq H
  have HF:=Zh (show M.readU u M.p.e a=(14,⟨0,[]⟩) from readU_off (D:=y.x.d) _ _ (by rw [hus];cases hyx:y.x with | mk D s=>rw [hyx] at hoff;simp only at hoff;rw [hoff]))
  have hgc2:w.cell? ⟨g,u,none⟩=some (.pointer none):=hgc
  clear hP H hus hgc hoff hsv hy
  go_enter Tryz.func61, Tryz.ntmps61
  go_wp2
  refine bodyPost_ret (v:=.tuple #[.agg #[.int .i64 0,.slice none 0 0],.iface 70 (.int .i64 14)]) (by simp [results,Tryz.results61,go_sem]) rfl ?_
  rw [HF.out]
  exact ⟨none,0,rfl,World.ownsRow_nil _ _ _ _,by go_grown⟩
 | some q =>
  rw [hq] at hgc
  obtain ⟨S,hS,hsh,_⟩:=cl_on hP hy hq H
  have hus2:M.us[u]?=some ⟨y.x.d,some S⟩:=by rw [hus];cases hyx:y.x with | mk D s=>rw [hyx] at hS;simp only at hS;rw [hS]
  have HF:=Zh (readU_on M.p.e a hus2)
  have HRd:=Zh (fun (wq:World) (hb:Below w.heap.size w wq)=>kread_any M.p.e a wq (show ShAt q y.N S y.x.d P.vs (clR c M P u L) NoF W wq from by
   obtain ⟨G1,G2,Z,h1⟩:=hsh
   exact ⟨G1,G2,Z,h1.below hb⟩))
  have hgc2:w.cell? ⟨g,u,none⟩=some (ptrV q):=hgc
  generalize readS S y.x.d M.p.e a=rr at *
  generalize M.p.e=ep at *
  clear hP H hus hgc hS hsh hus2 hsv hy
  go_enter Tryz.func61, Tryz.ntmps61
  go_upto_region 3 with fail
  refine startD (S:=(fun w'=>Below w.heap.size w w')) (by kernel_rfl) (by go_grown) (fun hH0=>?_)
  simp only [List.length_cons,List.length_nil,Nat.reduceAdd,List.replicate_succ,List.replicate_zero]
  refine tD 0 18 (.pointer (some ⟨c,0,none⟩)) rfl rfl [(0,.pointer (some ⟨c,0,none⟩))] hH0 ?_
  dsimp only [sZ,sS]
  refine tD 1 19 (.pointer (some ⟨c,0,none⟩)) rfl rfl [(18,.pointer (some ⟨c,0,none⟩))] hH0 ?_
  dsimp only [sZ,sS]
  refine tD 2 20 (.pointer (some ⟨c,1,none⟩)) rfl rfl [(19,.pointer (some ⟨c,0,none⟩))] hH0 ?_
  dsimp only [sZ,sS]
  refine tE 3 21 (.slice (some ⟨g,0,none⟩) n cap) rfl rfl [(20,.pointer (some ⟨c,1,none⟩))] hH0 ?_ ?_
  ·intro w hSw;have q1:=(hSw.cell (p:=⟨c,1,none⟩) hl).trans c1;go_simp
  dsimp only [sZ,sS]
  refine tD 4 22 (.int .i64 (u:Nat)) rfl rfl [(1,.int .i64 (u:Nat))] hH0 ?_
  dsimp only [sZ,sS]
  refine tD 5 23 (.pointer (some ⟨g,u,none⟩)) rfl rfl [(21,.slice (some ⟨g,0,none⟩) n cap),(22,.int .i64 (u:Nat))] hH0 ?_
  dsimp only [sZ,sS]
  refine tE 6 24 (ptrV q) rfl rfl [(23,.pointer (some ⟨g,u,none⟩))] hH0 ?_ ?_
  ·intro w hSw;have q1:=(hSw.cell (p:=⟨g,u,none⟩) hgl).trans hgc2;go_simp
  dsimp only [sZ,sS]
  refine tD 7 25 (.pointer (some ⟨c,0,none⟩)) rfl rfl [(0,.pointer (some ⟨c,0,none⟩))] hH0 ?_
  dsimp only [sZ,sS]
  refine tD 8 26 (.pointer (some ⟨c,0,none⟩)) rfl rfl [(25,.pointer (some ⟨c,0,none⟩))] hH0 ?_
  dsimp only [sZ,sS]
  refine tD 9 27 (.pointer (some ⟨c,2,none⟩)) rfl rfl [(26,.pointer (some ⟨c,0,none⟩))] hH0 ?_
  dsimp only [sZ,sS]
  refine tD 10 28 (.pointer (some ⟨c,2,none⟩)) rfl rfl [(27,.pointer (some ⟨c,2,none⟩))] hH0 ?_
  dsimp only [sZ,sS]
  refine tE 11 29 (.int .i64 ep) rfl rfl [(28,.pointer (some ⟨c,2,none⟩))] hH0 ?_ ?_
  ·intro w hSw;have q1:=(hSw.cell (p:=⟨c,2,none⟩) hl).trans hc2;go_simp
  dsimp only [sZ,sS]
  refine tD 12 30 (.int .i64 a) rfl rfl [(2,.int .i64 a)] hH0 ?_
  dsimp only [sZ,sS]
  refine rD 13 rfl (fun K hK=>?_)
  go_simp
  refine (HRd.out _ (by go_grown)).mono ?_
  rintro en w2 ⟨a2,cp2,rfl,ho,hb2⟩
  have HO:=Lib.hid' ho
  have hc2':=(bcell hb2).1
  have r0:w2.cell? ⟨w.heap.size,0,none⟩=some (.int .i64 0):=(hc2' _ _ (by simp)).trans (by simp [go_sem])
  have r1:w2.cell? ⟨w.heap.size,1,none⟩=some (.slice none 0 0):=(hc2' _ _ (by simp)).trans (by simp [go_sem])
  have f0:w2.frozen? ⟨w.heap.size,0,none⟩=false:=((bcell hb2).2 _ _ (by simp)).trans (by simp [go_sem])
  have f1:w2.frozen? ⟨w.heap.size,1,none⟩=false:=((bcell hb2).2 _ _ (by simp)).trans (by simp [go_sem])
  have hz2:=hb2.size
  have HB2:=Zh (show Below w.heap.size w w2 from below_call (by go_grown) (by simp) hb2)
  have lt1:w.heap.size<w2.heap.size:=by simp at hz2;omega
  clear ho hc2' hb2 hz2
  refine hK.out _ _ ?_ (fun hH1=>?_)
  ·exact HB2.out
  clear hK K
  try simp only [Act.put,gA,gZ,gS,sA,sZ,sS]
  refine tD 14 32 (.agg #[.int .i64 rr.2.k,.slice a2 rr.2.d.length cp2]) rfl rfl [(31,.tuple #[.agg #[.int .i64 rr.2.k,.slice a2 rr.2.d.length cp2],errV rr.1])] hH1 ?_
  dsimp only [sZ,sS]
  refine tD 15 33 (errV rr.1) rfl rfl [(31,.tuple #[.agg #[.int .i64 rr.2.k,.slice a2 rr.2.d.length cp2],errV rr.1])] hH1 ?_
  dsimp only [sZ,sS]
  refine rD 16 rfl (fun K hK=>?_)
  go_simp
  refine hK.out _ _ ?_ (fun hH2=>?_)
  ·exact Below.setCell (Below.setCell HB2.out (Nat.le_refl _) _) (Nat.le_refl _) _
  clear hK K
  try simp only [Act.put,gA,gZ,gS,sA,sZ,sS]
  refine tD 17 7 (errV rr.1) rfl rfl [(33,errV rr.1)] hH2 ?_
  dsimp only [sZ,sS]
  refine wpAnyH_done (by kernel_rfl) ?_ _
  go_wp2_with fail
  refine bodyPost_ret (v:=.tuple #[.agg #[.int .i64 rr.2.k,.slice a2 rr.2.d.length cp2],errV rr.1]) (by simp [results,Tryz.results61,go_sem,r0,r1]) rfl ?_
  rw [HF.out]
  refine ⟨_,_,rfl,own_base (ownsRow_setCell_below (ownsRow_setCell_below HO.out (by simp) _) (by simp) _) (by simp),?_⟩
  exact Below.setCell (Below.setCell HB2.out (Nat.le_refl _) _) (Nat.le_refl _) _
theorem in2_any (x m:Int) (w:World):Calls Tryz.prog 59 #[.int .i64 x,.int .i64 m] w fun e w'=>e=.returned (.bool (inB x m))∧w=w':=by
 have HB:=Zh (show inB x m=(decide (0≤x)&&decide (x≤m)) from rfl)
 by_cases h0:0≤x
 ·by_cases h1:x≤m
  ·go_enter Tryz.func59, Tryz.ntmps59
   go_wp2
   go_ret
   rw [HB.out]
   exact ⟨by simp [h0,h1],rfl⟩
  ·go_enter Tryz.func59, Tryz.ntmps59
   go_wp2
   go_ret
   rw [HB.out]
   exact ⟨by simp [h0,h1],rfl⟩
 ·go_enter Tryz.func59, Tryz.ntmps59
  go_wp2
  go_ret
  rw [HB.out]
  exact ⟨by simp;omega,rfl⟩
theorem ask_any (c:Nat) (b:Bool) (w:World):Calls Tryz.prog 58 #[ptrV c,.bool b] w fun e w'=>e=.returned (errV (if b=true then 0 else 1))∧w=w':=by
 cases b with
 | true =>
  go_enter Tryz.func58, Tryz.ntmps58
  go_wp2
  go_ret
  exact ⟨rfl,rfl⟩
 | false =>
  go_enter Tryz.func58, Tryz.ntmps58
  go_wp2
  go_ret
  exact ⟨rfl,rfl⟩
set_option maxHeartbeats 8000000 in
theorem Read_any {c:Nat} {M:Cl} {J:CJ} {L:List Asn} {W:World} (a:Int) (w:World) (h:ClAt c M J L W w) (hok:M.ok) :
  Calls Tryz.prog 25 #[ptrV c,.int .i64 a] w (ReadR (M.read a).1 (M.read a).2 w):=by
 have HM:=Zh (show M.read a=if inB a 1048575=false then (1,⟨0,[]⟩) else M.readU ((M.home a).getLast?.getD 0).toNat M.p.e a from rfl)
 cases hi:inB a 1048575 with
 | false =>
  have HF:=Zh (show M.read a=(1,⟨0,[]⟩) by rw [HM.out,if_pos hi])
  go_enter Tryz.func25, Tryz.ntmps25
  go_wp2_with (first | (go_at_call 59;refine (in2_any _ _ _).mono ?_;rintro en w1 ⟨rfl,rfl⟩;rw [hi]) | (go_at_call 58;refine (ask_any _ _ _).mono ?_;rintro en w1 ⟨rfl,rfl⟩;rw [if_neg (by decide),errV_pos (by decide)]))
  refine bodyPost_ret (v:=.tuple #[.agg #[.int .i64 0,.slice none 0 0],.iface 70 (.int .i64 1)]) (by simp [results,Tryz.results25,go_sem]) rfl ?_
  rw [HF.out]
  exact ⟨none,0,rfl,World.ownsRow_nil _ _ _ _,by go_grown⟩
 | true =>
  have ha:0≤a:=by unfold inB at hi;simp at hi;omega
  have HOK:=Lib.hid' hok
  have HC:=Lib.hid' h
  have HM2:=Zh (show M.read a=M.readU ((M.home a).getLast?.getD 0).toNat M.p.e a by rw [HM.out,if_neg (by rw [hi];decide)])
  clear h hok
  go_enter Tryz.func25, Tryz.ntmps25
  go_wp2_with (first | (go_at_call 59;refine (in2_any _ _ _).mono ?_;rintro en w1 ⟨rfl,rfl⟩;rw [hi]) | (go_at_call 58;refine (ask_any _ _ _).mono ?_;rintro en w1 ⟨rfl,rfl⟩;rw [if_pos rfl,errV_0]))
  have hb0:Below w.heap.size w (w.alloc (.cells #[.int .i64 0,.slice none 0 0] 28)):=by go_grown
  refine (home_any a _ (HC.out.below hb0) HOK.out ha).mono ?_
  rintro en w2 ⟨⟨⟨l,ya,yc⟩,hy,rfl,hyh⟩,hb2⟩
  have H2:=Zh ((HC.out.below hb0).below hb2)
  have hmem:l∈M.p.cs:=by
   rw [←show J.Ks.map (·.1)=M.p.cs from HC.out.csOf]
   exact List.mem_map_of_mem (f:=(·.1)) hy
  have hlen:=(pj_ok HOK.out.proj).each _ hmem
  obtain ⟨r,u,rfl⟩:∃ r u,l=r++[u]:=by
   rcases List.eq_nil_or_concat l with rfl | ⟨r,u,rfl⟩
   ·simp at hlen
   ·exact ⟨r,u,by simp⟩
  have hu:=HOK.out.there u (mem_all hmem (List.mem_append_right _ List.mem_cons_self))
  have HLAST:=Zh (show ((M.home a).getLast?.getD 0).toNat=u.toNat by rw [show M.home a=r++[u] from hyh.symm];simp)
  obtain ⟨k,rfl⟩:∃ k:Nat,u=k:=⟨u.toNat,by omega⟩
  obtain ⟨gb,go,hya,hgb,hgc⟩:=(H2.out.chain hy).at (k:=r.length) (by simp)
  have hgc2:w2.cell? ⟨gb,go+r.length,none⟩=some (.int .i64 (k:Nat)):=by simpa using hgc
  simp only at hya
  subst hya
  have hcv:chV (r++[(k:Int)],some ⟨gb,go,none⟩,yc)=.slice (some ⟨gb,go,none⟩) (r.length+1) yc:=by simp [chV]
  rw [hcv]
  have hrl:r.length≤3:=by have:=hlen.2;simp at this;omega
  have hc2':=(bcell hb2).1
  have hs2:=hb2.size
  have l2:w.heap.size<w2.heap.size:=by simp at hs2;omega
  have q0:w2.cell? ⟨w.heap.size,0,none⟩=some (.int .i64 0):=(hc2' _ _ (by simp)).trans (by simp [go_sem])
  have q1:w2.cell? ⟨w.heap.size,1,none⟩=some (.slice none 0 0):=(hc2' _ _ (by simp)).trans (by simp [go_sem])
  have e0:w2.frozen? ⟨w.heap.size,0,none⟩=false:=((bcell hb2).2 _ _ (by simp)).trans (by simp [go_sem])
  have e1:w2.frozen? ⟨w.heap.size,1,none⟩=false:=((bcell hb2).2 _ _ (by simp)).trans (by simp [go_sem])
  have HB2:=Zh (show Below w.heap.size w w2 from below_call (by go_grown) (by simp) hb2)
  have HRD:=Zh (read_any k a w2 H2.out (by omega))
  clear hb2 hc2' hs2 hyh hmem hlen hgc hcv hy hb0 hu
  go_wp2_with fail
  refine HRD.out.mono ?_
  rintro en w3 ⟨a3,cp3,rfl,ho,hb3⟩
  have HO:=Lib.hid' ho
  have c3':=(bcell hb3).1
  have r0:w3.cell? ⟨w.heap.size,0,none⟩=some (.int .i64 0):=(c3' _ _ (by omega)).trans q0
  have r1:w3.cell? ⟨w.heap.size,1,none⟩=some (.slice none 0 0):=(c3' _ _ (by omega)).trans q1
  have f0:w3.frozen? ⟨w.heap.size,0,none⟩=false:=((bcell hb3).2 _ _ (by omega)).trans e0
  have f1:w3.frozen? ⟨w.heap.size,1,none⟩=false:=((bcell hb3).2 _ _ (by omega)).trans e1
  have hs3:=hb3.size
  have l3:w.heap.size<w3.heap.size:=by omega
  have l23:w.heap.size≤w2.heap.size:=by omega
  have HB3:=Zh (HB2.out.trans (hb3.mono l23))
  clear ho c3' hb3 hs3 q0 q1 e0 e1
  go_wp2
  refine bodyPost_ret (v:=.tuple #[.agg #[.int .i64 (M.readU k M.p.e a).2.k,.slice a3 (M.readU k M.p.e a).2.d.length cp3],errV (M.readU k M.p.e a).1]) (by simp [results,Tryz.results25,go_sem,r0,r1]) rfl ?_
  rw [HM2.out,HLAST.out]
  refine ⟨_,_,rfl,own_base (ownsRow_setCell_below (ownsRow_setCell_below HO.out (by simp;omega) _) (by simp;omega) _) (by omega),?_⟩
  exact Below.setCell (Below.setCell HB3.out (Nat.le_refl _) _) (Nat.le_refl _) _
end SL
end Go.Proofs.YtaodldbgikiekaaGreatDoor
