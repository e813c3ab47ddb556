/- Proved here: a part of the proof (14 of 35). -/
import Derived.Test.YtaodldbgikiekaaGreatDoorW9
import Derived.Test.YtaodldbgikiekaaGreatDoorW11
import Derived.Test.YtaodldbgikiekaaGreatDoorW13
import Derived.Test.YtaodldbgikiekaaGreatDoorW8
set_option linter.unusedSimpArgs false
set_option linter.unusedVariables false
namespace Go.Proofs.YtaodldbgikiekaaGreatDoor
namespace SH
open DK
structure Sf where
 u:U
 n:Nat
 br:Bool
def baseOf (l:List Nm):Option (Nm×Nat):=l.reverse.findSome? (fun x=>(numberN 98 x).map (fun n=>(x,n)))
/-- the greatest base among objects' names; an error's number, the unit, its number -/
def baseD (l:List Nm) (D:Dk):Nat×U×Nat:=match baseOf l with
 | none=>(0,U.new,0)
 | some (x,n)=>if (getD D x).1≠0 then ((getD D x).1,U.zero,0) else ((takeU (getD D x).2).1,(takeU (getD D x).2).2,n)
/-- the next act that is there: an error's number, whether there was one, the unit and the number then -/
def againD (D:Dk) (u:U) (n:Nat):Nat×Bool×U×Nat :=
 if 99999999<n then (0,false,u,n) else
 if (getD D (nameN 114 n)).1=4 then (0,false,u,n) else if (getD D (nameN 114 n)).1≠0 then ((getD D (nameN 114 n)).1,false,u,n) else
 if (Ac.take (getD D (nameN 114 n)).2).1≠0 then ((Ac.take (getD D (nameN 114 n)).2).1,false,u,n) else
 if (apU u (Ac.take (getD D (nameN 114 n)).2).2).1≠0 then (13,false,(apU u (Ac.take (getD D (nameN 114 n)).2).2).2.2,n) else
 (0,true,(apU u (Ac.take (getD D (nameN 114 n)).2).2).2.2,n+1)
def loopD (D:Dk):Nat→U→Nat→Nat×U×Nat
 | 0,u,n=>(0,u,n)
 | k+1,u,n=>if (againD D u n).1≠0 then ((againD D u n).1,(againD D u n).2.2.1,(againD D u n).2.2.2) else if (againD D u n).2.1=true then loopD D k (againD D u n).2.2.1 (againD D u n).2.2.2 else (0,u,n)
def objs (D:Dk) (b:Nm):List Nm:=listN (namesOf D.shown) b
def bName:Nm:=⟨#[98]⟩
/-- a shelf is opened: an error's number, the shelf, the disk then -/
def openS (D:Dk):Nat×Sf×Dk :=
 if (openD (namesOf D.shown) D).1≠0 then ((openD (namesOf D.shown) D).1,⟨U.zero,0,false⟩,(openD (namesOf D.shown) D).2) else
 if (openD (namesOf D.shown) D).2.down=true then (14,⟨U.zero,0,false⟩,(openD (namesOf D.shown) D).2) else
 if (baseD (objs (openD (namesOf D.shown) D).2 bName) (openD (namesOf D.shown) D).2).1≠0 then ((baseD (objs (openD (namesOf D.shown) D).2 bName) (openD (namesOf D.shown) D).2).1,⟨U.zero,0,false⟩,(openD (namesOf D.shown) D).2) else
 let b:=baseD (objs (openD (namesOf D.shown) D).2 bName) (openD (namesOf D.shown) D).2
 let l:=loopD (openD (namesOf D.shown) D).2 (100000000 - b.2.2) b.2.1 b.2.2
 (l.1,⟨l.2.1,l.2.2,false⟩,(openD (namesOf D.shown) D).2)
def fallS (S:Sf) (e:Nat):Sf:=if e=14 then { S with br:=true } else S
/-- an act is done: an error's number, what is answered, the shelf and the disk then -/
def doS (S:Sf) (D:Dk) (x:Ac):Nat×Int×Sf×Dk :=
 if S.br=true then (14,0,S,D) else
 if (apU S.u x).1≠0 then ((apU S.u x).1,0,S,D) else
 if 99999999<S.n then (5,0,S,D) else
 if (putD D (nameN 114 S.n) x.put).1≠0 then ((putD D (nameN 114 S.n) x.put).1,0,fallS S (putD D (nameN 114 S.n) x.put).1,(putD D (nameN 114 S.n) x.put).2) else
 (0,(apU S.u x).2.1,⟨(apU S.u x).2.2,S.n+1,false⟩,(putD D (nameN 114 S.n) x.put).2)
def looksS (S:Sf) (D:Dk):Nat:=if S.br=true∨D.down=true then 14 else 0
def readS (S:Sf) (D:Dk) (e a:Int):Nat×C:=if looksS S D≠0 then (looksS S D,⟨0,[]⟩) else S.u.read e a
/-- acts and bases but one are deleted -/
def sweepS (keep:Nm):List Nm→Dk→Nat×Dk
 | [],D=>(0,D)
 | x::l,D=>if ((numberN 114 x).isSome=true∨(numberN 98 x).isSome=true)∧x≠keep then (if (dropD D x).1≠0 then dropD D x else sweepS keep l (dropD D x).2) else sweepS keep l D
def sweepAll (keep:Nm) (D:Dk):Nat×Dk:=if D.down=true then (14,D) else sweepS keep (objs D ⟨#[]⟩) D
/-- a base is made -/
def compS (S:Sf) (D:Dk):Nat×Sf×Dk :=
 if S.br=true then (14,S,D) else if 99999999<S.n then (5,S,D) else
 if (putU S.u.e S.u.l (sortC S.u.cells)).1≠0 then ((putU S.u.e S.u.l (sortC S.u.cells)).1,S,D) else
 if (putD D (nameN 98 S.n) (putU S.u.e S.u.l (sortC S.u.cells)).2).1≠0 then ((putD D (nameN 98 S.n) (putU S.u.e S.u.l (sortC S.u.cells)).2).1,fallS S (putD D (nameN 98 S.n) (putU S.u.e S.u.l (sortC S.u.cells)).2).1,(putD D (nameN 98 S.n) (putU S.u.e S.u.l (sortC S.u.cells)).2).2) else
 ((sweepAll (nameN 98 S.n) (putD D (nameN 98 S.n) (putU S.u.e S.u.l (sortC S.u.cells)).2).2).1,fallS S (sweepAll (nameN 98 S.n) (putD D (nameN 98 S.n) (putU S.u.e S.u.l (sortC S.u.cells)).2).2).1,(sweepAll (nameN 98 S.n) (putD D (nameN 98 S.n) (putU S.u.e S.u.l (sortC S.u.cells)).2).2).2)
theorem opt_eq {α:Type} {a b:Option α} (h:∀ x,a=some x↔b=some x):a=b:=by
 cases a with
 | some x=>exact ((h x).1 rfl).symm
 | none =>
  cases b with
  | none=>rfl
  | some y=>exact (h y).2 rfl
theorem getF_put {L:Fl} (h:(L.map (·.1)).Nodup) (n:Nm) (d:List UInt8) (x:Nm):getF (putF L n d) x=if x=n then some d else getF L x:=by
 refine opt_eq fun y=>?_
 rw [getF_iff (putF_keys h n d),putF_mem]
 by_cases hx:x=n
 ·rw [if_pos hx];subst hx
  constructor
  ·rintro (e | ⟨_,e⟩)
   ·rw [Prod.mk.injEq] at e;rw [e.2]
   ·exact absurd rfl e
  ·intro e;left;rw [Option.some.inj e]
 ·rw [if_neg hx,getF_iff h]
  constructor
  ·rintro (e | ⟨e,_⟩)
   ·exact absurd (Prod.mk.inj e).1 hx
   ·exact e
  ·intro e;exact .inr ⟨e,hx⟩
theorem getF_del {L:Fl} (h:(L.map (·.1)).Nodup) (n:Nm) (x:Nm):getF (delF L n) x=if x=n then none else getF L x:=by
 refine opt_eq fun y=>?_
 rw [getF_iff (delF_keys h n)]
 unfold delF
 rw [List.mem_filter]
 by_cases hx:x=n
 ·rw [if_pos hx];subst hx;simp
 ·rw [if_neg hx,getF_iff h];simp [hx]
/-- what is seen of files: those that are not begun -/
def V (L:Fl) (x:Nm):Option (List UInt8):=if DK.begun x=true then none else getF L x
abbrev Vw:=Nm→Option (List UInt8)
def put1 (g:Vw) (n:Nm) (d:Option (List UInt8)):Vw:=fun x=>if x=n then d else g x
theorem V_put {L:Fl} (h:(L.map (·.1)).Nodup) {n:Nm} (hn:DK.begun n=false) (d:List UInt8):V (putF L n d)=put1 (V L) n (some d):=by
 funext x
 unfold V put1
 rw [getF_put h]
 by_cases hx:x=n
 ·subst hx;simp [hn]
 ·simp [hx]
theorem V_put_begun {L:Fl} (h:(L.map (·.1)).Nodup) {n:Nm} (hn:DK.begun n=true) (d:List UInt8):V (putF L n d)=V L:=by
 funext x
 unfold V
 rw [getF_put h]
 by_cases hx:x=n
 ·subst hx;simp [hn]
 ·simp [hx]
theorem V_del_begun {L:Fl} (h:(L.map (·.1)).Nodup) {n:Nm} (hn:DK.begun n=true):V (delF L n)=V L:=by
 funext x
 unfold V
 rw [getF_del h]
 by_cases hx:x=n
 ·subst hx;simp [hn]
 ·simp [hx]
theorem begun_tilde (n:Nm):DK.begun (tilde++n)=true:=by
 unfold DK.begun tilde;simp [ByteArray.data_append]
theorem begun_name {b:UInt8} (hb:b≠126) (n:Nat):DK.begun (nameN b n)=false:=by
 unfold DK.begun nameN;simp [hb]
/-- a disk's files behind a whole put -/
def putL (L:Fl) (n:Nm) (d:List UInt8):Fl:=putF (delF (putF L (tilde++n) d) (tilde++n)) n d
theorem V_putL {L:Fl} (h:(L.map (·.1)).Nodup) {n:Nm} (hn:DK.begun n=false) (d:List UInt8):V (putL L n d)=put1 (V L) n (some d):=by
 unfold putL
 rw [V_put (delF_keys (putF_keys h _ _) _) hn,V_del_begun (putF_keys h _ _) (begun_tilde n),V_put_begun h (begun_tilde n)]
theorem writeD_at (r:Int) (L S:Fl) (p:List Chg) (f:Int) (n:Nm) (d:List UInt8) (hn:named n=true) (hd:d.length≤65536) (hs:S.length<512) (hr:(usedF S:Int)+d.length≤r) :
  writeD ⟨r,L,S,p,f,false⟩ n d=if f=0 then (14,⟨r,L,S,p,f,true⟩) else (0,⟨r,L,putF S n d,p++[⟨0,n,⟨#[]⟩,d⟩],lower f,false⟩):=by
 unfold writeD worksD addD doF
 by_cases hf:f=0
 ·simp [hf]
 ·simp only [hf,if_false,Bool.false_eq_true,ne_eq,not_true_eq_false]
  rw [if_neg (by rw [hn];decide),if_neg (by omega),if_neg]
  ·simp
  ·rintro (⟨_,h⟩ | h)<;>omega
theorem syncD_at (r:Int) (L S:Fl) (p:List Chg) (f:Int) :
  syncD ⟨r,L,S,p,f,false⟩=if f=0 then (14,⟨r,L,S,p,f,true⟩) else (0,⟨r,S,S,[],lower f,false⟩):=by
 unfold syncD worksD
 by_cases hf:f=0<;>simp [hf]
theorem renameD_at (r:Int) (L S:Fl) (p:List Chg) (f:Int) (a b:Nm) (ha:named a=true) (hb:named b=true) {d:List UInt8} (h:getF S a=some d) :
  renameD ⟨r,L,S,p,f,false⟩ a b=if f=0 then (14,⟨r,L,S,p,f,true⟩) else (0,⟨r,L,putF (delF S a) b d,p++[⟨1,a,b,[]⟩],lower f,false⟩):=by
 unfold renameD worksD addD doF
 by_cases hf:f=0
 ·simp [hf]
 ·simp [hf,ha,hb,h]
theorem removeD_at (r:Int) (L S:Fl) (p:List Chg) (f:Int) (a:Nm) (ha:named a=true) {d:List UInt8} (h:getF S a=some d) :
  removeD ⟨r,L,S,p,f,false⟩ a=if f=0 then (14,⟨r,L,S,p,f,true⟩) else (0,⟨r,L,delF S a,p++[⟨2,a,⟨#[]⟩,[]⟩],lower f,false⟩):=by
 unfold removeD worksD addD doF
 by_cases hf:f=0
 ·simp [hf]
 ·simp [hf,ha,h]
theorem kept_one (c:Chg) (ks:List Bool):kept [c] ks=[]∨kept [c] ks=[c]:=by
 cases ks with
 | nil=>exact .inl rfl
 | cons k ks =>
  cases k
  ·left;cases ks<;>simp [kept]
  ·right;cases ks<;>simp [kept]
theorem kept_nil (ks:List Bool):kept [] ks=[]:=by cases ks<;>simp [kept]
/-- what a disk may show behind a cut -/
def AfterC (r:Int) (D:Dk) (P:Vw→Prop):Prop:=D.room=r∧D.down=true∧D.pend.length≤1∧∀ ks,P (V (allF D.sure (kept D.pend ks)))
theorem AfterC.imp {r:Int} {D:Dk} {P Q:Vw→Prop} (h:AfterC r D P) (k:∀ g,P g→Q g):AfterC r D Q:=⟨h.1,h.2.1,h.2.2.1,fun ks=>k _ (h.2.2.2 ks)⟩
theorem after_none {r:Int} {L S:Fl} {f:Int} {P:Vw→Prop} (h:P (V L)):AfterC r ⟨r,L,S,[],f,true⟩ P :=
 ⟨rfl,rfl,Nat.zero_le 1,fun ks=>by show P (V (allF L (kept [] ks)));rw [kept_nil];exact h⟩
theorem after_one {r:Int} {L S:Fl} {c:Chg} {f:Int} {P:Vw→Prop} (h:P (V L)) (h2:P (V (doF L c))):AfterC r ⟨r,L,S,[c],f,true⟩ P :=
 ⟨rfl,rfl,Nat.le_refl 1,fun ks=>by
  show P (V (allF L (kept [c] ks)))
  rcases kept_one c ks with e | e<;>rw [e]
  ·exact h
  ·exact h2⟩
/-- a cut and started disk -/
theorem up_cut {r:Int} {D:Dk} {P:Vw→Prop} (h:AfterC r D P) (ks:List Bool):∃ A,upD (cutD D ks)=⟨r,A,A,[],-1,false⟩∧P (V A):=by
 refine ⟨allF D.sure (kept D.pend ks),?_,h.2.2.2 ks⟩
 unfold upD
 rw [if_pos (by rfl)]
 unfold cutD
 simp only [kept_nil]
 show Dk.mk D.room (allF (allF D.sure (kept D.pend ks)) []) _ _ _ _=_
 rw [h.1];rfl
theorem putD_cases (r:Int) (L:Fl) (f:Int) (n:Nm) (d:List UInt8) (hL:(L.map (·.1)).Nodup) (ho:objNamed n=true) (hb:DK.begun n=false) (hn:named (tilde++n)=true) (hd:d.length≤65536) (hs:L.length<512) (hr:(usedF L:Int)+d.length≤r) :
  (∃ f',putD ⟨r,L,L,[],f,false⟩ n d=(0,⟨r,putL L n d,putL L n d,[],f',false⟩)∧(f=-1→f'=-1)) ∨
  (f≠-1∧∃ D',putD ⟨r,L,L,[],f,false⟩ n d=(14,D')∧AfterC r D' (fun g=>g=V L∨g=put1 (V L) n (some d))):=by
 have hnn:named n=true:=by unfold objNamed at ho;simp only [Bool.and_eq_true] at ho;exact ho.1.2
 have hg:getF (putF L (tilde++n) d) (tilde++n)=some d:=by rw [getF_put hL,if_pos rfl]
 have hV1:=V_put_begun hL (begun_tilde n) d
 have hV2:V (putF (delF (putF L (tilde++n) d) (tilde++n)) n d)=put1 (V L) n (some d):=V_putL hL hb d
 unfold putD
 rw [if_neg (by rw [ho];decide),writeD_at r L L [] f _ d hn hd hs hr]
 by_cases h0:f=0
 ·right
  rw [if_pos h0,if_pos (by simp)]
  exact ⟨by omega,_,rfl,after_none (.inl rfl)⟩
 rw [if_neg h0]
 simp only [ne_eq,not_true_eq_false,if_false,List.nil_append]
 rw [syncD_at]
 by_cases h1:lower f=0
 ·right
  rw [if_pos h1,if_pos (by simp)]
  refine ⟨fun e=>by rw [e] at h1;exact absurd h1 (by decide),_,rfl,after_one (.inl rfl) (.inl ?_)⟩
  show V (if (0:Nat)=0 then putF L (tilde++n) d else _)=_
  rw [if_pos rfl,hV1]
 rw [if_neg h1]
 simp only [not_true_eq_false,if_false]
 rw [renameD_at _ _ _ _ _ _ _ hn hnn hg]
 by_cases h2:lower (lower f)=0
 ·right
  rw [if_pos h2,if_pos (by simp)]
  exact ⟨fun e=>by rw [e] at h2;exact absurd h2 (by decide),_,rfl,after_none (.inl hV1)⟩
 rw [if_neg h2]
 simp only [not_true_eq_false,if_false,List.nil_append]
 rw [syncD_at]
 by_cases h3:lower (lower (lower f))=0
 ·right
  rw [if_pos h3]
  refine ⟨fun e=>by rw [e] at h3;exact absurd h3 (by decide),_,rfl,after_one (.inl hV1) (.inr ?_)⟩
  show V (if (1:Nat)=0 then _ else match getF (putF L (tilde++n) d) (tilde++n) with
   | none=>_
   | some b=>if (1:Nat)=1 then putF (delF (putF L (tilde++n) d) (tilde++n)) n b else _)=_
  rw [hg]
  exact hV2
 ·left
  rw [if_neg h3]
  exact ⟨_,rfl,fun e=>by rw [e];rfl⟩
/-- the greatest base -/
def Base (g:Vw) (b:Nat) (ub:U):Prop :=
 ((b=0∧ub=U.new∧g (nameN 98 0)=none)∨(∃ d,g (nameN 98 b)=some d∧takeU d=(0,ub)∧ub.ok))∧∀ k,b<k→k≤99999999→g (nameN 98 k)=none
def Acts (g:Vw):Nat→Nat→U→U→Prop
 | 0,b,u,v=>u=v
 | k+1,b,u,v=>∃ d x,g (nameN 114 b)=some d∧Ac.take d=(0,x)∧(apU u x).1=0∧Acts g k (b+1) (apU u x).2.2 v
/-- a view says that v is the unit, and n the next act's number -/
def Rep (g:Vw) (v:U) (n:Nat):Prop:=∃ b ub k,n=b+k∧Base g b ub∧Acts g k b ub v∧∀ m,n≤m→m≤99999999→g (nameN 114 m)=none
theorem Base.ok {g:Vw} {b:Nat} {u:U} (h:Base g b u):u.ok:=by
 rcases h.1 with ⟨_,rfl,_⟩ | ⟨d,_,_,h⟩
 ·exact U.ok_new
 ·exact h
theorem Acts.ok {g:Vw}:∀ {k b:Nat} {u v:U},Acts g k b u v→u.ok→v.ok
 | 0,b,u,v,h,hu=>by have h:u=v:=h;rw [←h];exact hu
 | k+1,b,u,v,h,hu=>by
  obtain ⟨d,x,_,_,_,h⟩:=h
  exact h.ok (apU_ok hu x)
theorem Rep.ok {g:Vw} {v:U} {n:Nat} (h:Rep g v n):v.ok:=by
 obtain ⟨b,ub,k,_,hb,ha,_⟩:=h
 exact ha.ok hb.ok
theorem sign_dg (n j:Nat):sign (Go.Lib.dg n j)=true:=by
 have h:n / 10 ^ j % 10<10:=Nat.mod_lt _ (by decide)
 unfold Go.Lib.dg
 generalize n / 10 ^ j % 10=d at *
 have:d=0∨d=1∨d=2∨d=3∨d=4∨d=5∨d=6∨d=7∨d=8∨d=9:=by omega
 rcases this with rfl | rfl | rfl | rfl | rfl | rfl | rfl | rfl | rfl | rfl<;>decide
theorem dg_126 (n j:Nat):(Go.Lib.dg n j != 126)=true:=by
 have h:n / 10 ^ j % 10<10:=Nat.mod_lt _ (by decide)
 unfold Go.Lib.dg
 generalize n / 10 ^ j % 10=d at *
 have:d=0∨d=1∨d=2∨d=3∨d=4∨d=5∨d=6∨d=7∨d=8∨d=9:=by omega
 rcases this with rfl | rfl | rfl | rfl | rfl | rfl | rfl | rfl | rfl | rfl<;>decide
theorem obj_name {b:UInt8} (hb:sign b=true) (h2:(b != 126)=true) (n:Nat):objNamed (nameN b n)=true:=by
 have hs:(nameN b n).size=9:=by show (b::pad8 n).toArray.size=9;simp [pad8_len]
 unfold objNamed named noTilde
 rw [hs]
 unfold nameN
 rw [pad8_list]
 simp only [List.all_cons,List.all_nil,hb,h2,sign_dg,dg_126,Bool.and_self,decide_true,Nat.reduceLeDiff]
theorem tilde_name {b:UInt8} (hb:sign b=true) (n:Nat):named (tilde++nameN b n)=true:=by
 have hs:(tilde++nameN b n).data.toList=126::b::pad8 n:=by simp [tilde,nameN,ByteArray.data_append]
 have hz:(tilde++nameN b n).size=10:=by
  show (tilde++nameN b n).data.size=10
  rw [←Array.length_toList,hs];simp [pad8_len]
 unfold named
 rw [hz,hs,pad8_list]
 simp only [List.all_cons,List.all_nil,hb,sign_dg,Bool.and_self,decide_true,Nat.reduceLeDiff]
 decide
theorem obj_r (n:Nat):objNamed (nameN 114 n)=true:=obj_name (by decide) (by decide) n
theorem obj_b (n:Nat):objNamed (nameN 98 n)=true:=obj_name (by decide) (by decide) n
theorem getD_at {D:Dk} (hd:D.down=false) {b:UInt8} (hb:sign b=true) (h2:b≠126) (n:Nat):getD D (nameN b n)=match V D.shown (nameN b n) with
  | some d=>(0,d)
  | none=>(4,[]):=by
 unfold getD readD V
 rw [obj_name hb (by simpa using h2) n,begun_name h2]
 rw [if_neg (by decide),if_neg (by rw [hd];decide),if_neg (by decide)]
 cases getF D.shown (nameN b n)<;>rfl
theorem loop_at {D:Dk} (hd:D.down=false):∀ (k K b:Nat) (u v:U),Acts (V D.shown) k b u v→(∀ m,b+k≤m→m≤99999999→V D.shown (nameN 114 m)=none)→b+k≤99999999→k<K→loopD D K u b=(0,v,b+k)
 | 0,K,b,u,v,h,hn,hb,hk=>by
  have h:u=v:=h
  subst h
  obtain ⟨K,rfl⟩:∃ j,K=j+1:=⟨K - 1,by omega⟩
  have hg:=getD_at hd (b:=114) (by decide) (by decide) b
  rw [hn b (by omega) (by omega)] at hg
  have ha:againD D u b=(0,false,u,b):=by
   unfold againD
   rw [if_neg (by omega),hg,if_pos rfl]
  unfold loopD
  rw [ha]
  simp
 | k+1,K,b,u,v,h,hn,hb,hk=>by
  obtain ⟨d,x,h1,h2,h3,h4⟩:=h
  obtain ⟨K,rfl⟩:∃ j,K=j+1:=⟨K - 1,by omega⟩
  have hg:=getD_at hd (b:=114) (by decide) (by decide) b
  rw [h1] at hg
  have ha:againD D u b=(0,true,(apU u x).2.2,b+1):=by
   unfold againD
   rw [if_neg (by omega),hg]
   simp only [h2,h3]
   simp
  have ih:=loop_at hd k K (b+1) _ v h4 (fun m hm=>hn m (by omega)) (by omega) (by omega)
  unfold loopD
  rw [ha]
  simp only [ne_eq,not_true_eq_false,if_false,if_true,ih]
  congr 2;omega
theorem begins_b (n:Nat):begins bName (nameN 98 n)=true:=by unfold begins bName nameN;simp
theorem objs_mem {D:Dk} {b x:Nm}:x∈objs D b↔x∈D.shown.map (·.1)∧objNamed x=true∧begins b x=true:=by
 unfold objs listN
 rw [List.mem_filter,(namesOf_perm D.shown).mem_iff,Bool.and_eq_true]
theorem objs_sorted {D:Dk} (h:(D.shown.map (·.1)).Nodup) (b:Nm):(objs D b).Pairwise (fun a b=>less a b=true):=(namesOf_sorted h).filter _
theorem seen {L:Fl} (h:(L.map (·.1)).Nodup) {x:Nm} (hb:DK.begun x=false):x∈L.map (·.1)↔(V L x).isSome=true:=by
 unfold V
 rw [if_neg (by rw [hb];decide)]
 constructor
 ·intro hx
  obtain ⟨p,hp,rfl⟩:=List.mem_map.1 hx
  rw [(getF_iff h (n:=p.1) (d:=p.2)).2 hp];rfl
 ·intro hx
  obtain ⟨d,hd⟩:=Option.isSome_iff_exists.1 hx
  exact List.mem_map_of_mem (f:=(·.1)) ((getF_iff h).1 hd)
theorem base_at {D:Dk} (hd:D.down=false) (hn:(D.shown.map (·.1)).Nodup) {b:Nat} {ub:U} (hb:b≤99999999) (h:Base (V D.shown) b ub):baseD (objs D bName) D=(0,ub,b):=by
 have hin:∀ m,(V D.shown (nameN 98 m)).isSome=true→nameN 98 m∈objs D bName:=fun m hm=>objs_mem.2 ⟨(seen hn (begun_name (by decide) m)).2 hm,obj_b m,begins_b m⟩
 have hout:∀ x m,x∈objs D bName→numberN 98 x=some m→x=nameN 98 m∧m≤99999999∧(V D.shown (nameN 98 m)).isSome=true:=fun x m hx hm=>by
  have e:=name_of_number hm
  refine ⟨e,number_le hm,?_⟩
  rw [←e]
  exact (seen hn (by rw [e];exact begun_name (by decide) m)).1 (objs_mem.1 hx).1
 have hall:∀ x m,x∈objs D bName→numberN 98 x=some m→m≤b:=fun x m hx hm=>by
  obtain ⟨_,h2,h3⟩:=hout x m hx hm
  rcases Nat.lt_or_ge b m with hlt | hge
  ·rw [h.2 m hlt h2] at h3;cases h3
  ·exact hge
 unfold baseD
 cases hq:baseOf (objs D bName) with
 | none =>
  unfold baseOf at hq
  rw [List.findSome?_eq_none_iff] at hq
  rcases h.1 with ⟨rfl,rfl,_⟩ | ⟨d,hd1,_,_⟩
  ·rfl
  ·exfalso
   have:=hq (nameN 98 b) (List.mem_reverse.2 (hin b (by rw [hd1];rfl)))
   rw [number_name 98 hb] at this
   cases this
 | some r =>
  obtain ⟨x,m⟩:=r
  unfold baseOf at hq
  obtain ⟨l1,a,l2,e1,e2,e3⟩:=List.findSome?_eq_some_iff.1 hq
  have hm:numberN 98 a=some m∧a=x:=by
   cases hnm:numberN 98 a with
   | none=>rw [hnm] at e2;cases e2
   | some k=>rw [hnm] at e2;simp at e2;exact ⟨by rw [e2.2],e2.1⟩
  obtain ⟨hm,rfl⟩:=hm
  have ha:a∈objs D bName:=List.mem_reverse.1 (by rw [e1];simp)
  obtain ⟨ea,hm9,hs⟩:=hout a m ha hm
  have hmb:=hall a m ha hm
  rcases h.1 with ⟨rfl,rfl,h0⟩ | ⟨d,hd1,ht,_⟩
  ·obtain rfl:m=0:=by omega
   rw [h0] at hs;cases hs
  ·have hmb':m=b:=by
    rcases Nat.lt_or_ge m b with hlt | hge
    ·exfalso
     have hi:=List.mem_reverse.2 (hin b (by rw [hd1];rfl))
     rw [e1,List.mem_append,List.mem_cons] at hi
     rcases hi with hi | hi | hi
     ·have:=e3 _ hi
      rw [number_name 98 hb] at this;cases this
     ·rw [ea] at hi
      have:=name_inj hb hm9 hi
      omega
     ·have hp:(objs D bName).reverse.Pairwise (fun x y=>less y x=true):=List.pairwise_reverse.2 (objs_sorted hn bName)
      rw [e1,List.pairwise_append] at hp
      have:=(List.pairwise_cons.1 hp.2.1).1 _ hi
      rw [ea,name_less 98 hb hm9] at this
      omega
    ·omega
   subst hmb'
   have hg:=getD_at hd (b:=98) (by decide) (by decide) m
   rw [hd1] at hg
   simp only at hg
   show (if (getD D a).1≠0 then _ else _)=_
   rw [ea,hg]
   simp [ht]
theorem sweep_at (r:Int) (L:Fl):∀ (l:List Nm) (S:Fl) (p:List Chg) (s:Bool),(S.map (·.1)).Nodup→(∀ f∈S,named f.1=true)→l.Nodup→(∀ x∈l,DK.begun x=true→x∈S.map (·.1)) →
  ∃ s' S' p',sweepD l s ⟨r,L,S,p,-1,false⟩=(0,s',⟨r,L,S',p',-1,false⟩)∧(S'.map (·.1)).Nodup∧V S'=V S∧(∀ f∈S',f∈S∧(f.1∈l→DK.begun f.1=false))∧(s'=true∨(s=false∧s'=false∧S'=S∧p'=p))
 | [],S,p,s,h1,h2,h3,h4=>⟨s,S,p,rfl,h1,rfl,fun f hf=>⟨hf,fun h=>by simp at h⟩,by cases s<;>simp⟩
 | x::l,S,p,s,h1,h2,h3,h4=>by
  rw [List.nodup_cons] at h3
  by_cases hx:DK.begun x=false
  ·obtain ⟨s',S',p',e,q1,q2,q3,q4⟩:=sweep_at r L l S p s h1 h2 h3.2 (fun y hy=>h4 y (List.mem_cons_of_mem _ hy))
   refine ⟨s',S',p',?_,q1,q2,fun f hf=>⟨(q3 f hf).1,fun hm=>?_⟩,q4⟩
   ·unfold sweepD;rw [if_pos hx];exact e
   ·rcases List.mem_cons.1 hm with e | hm
    ·rw [e];exact hx
    ·exact (q3 f hf).2 hm
  ·have hb:DK.begun x=true:=by simpa using hx
   obtain ⟨f,hf,hfx⟩:=List.mem_map.1 (h4 x List.mem_cons_self hb)
   have hg:getF S x=some f.2:=(getF_iff h1).2 (by rw [←hfx];exact hf)
   have hnx:named x=true:=by rw [←hfx];exact h2 f hf
   have hr:=removeD_at r L S p (-1) x hnx hg
   rw [if_neg (by decide)] at hr
   obtain ⟨s',S',p',e,q1,q2,q3,q4⟩:=sweep_at r L l (delF S x) (p++[⟨2,x,⟨#[]⟩,[]⟩]) true (delF_keys h1 x) (fun f hf=>h2 f (List.mem_filter.1 hf).1) h3.2 (fun y hy hyb=>by
    obtain ⟨g,hg,hgy⟩:=List.mem_map.1 (h4 y (List.mem_cons_of_mem _ hy) hyb)
    refine List.mem_map.2 ⟨g,List.mem_filter.2 ⟨hg,?_⟩,hgy⟩
    have:g.1≠x:=fun e=>h3.1 (by rw [←e,hgy];exact hy)
    simpa [bne] using this)
   refine ⟨s',S',p',?_,q1,by rw [q2,V_del_begun h1 hb],fun f hf=>⟨(List.mem_filter.1 (q3 f hf).1).1,fun hm=>?_⟩,?_⟩
   ·unfold sweepD
    rw [if_neg hx,hr]
    simp only [ne_eq,not_true_eq_false,if_false]
    exact e
   ·rcases List.mem_cons.1 hm with e | hm
    ·have:=(List.mem_filter.1 (q3 f hf).1).2
     rw [e] at this
     simp [bne] at this
    ·exact (q3 f hf).2 hm
   ·rcases q4 with q4 | q4
    ·exact .inl q4
    ·cases q4.1
/-- files none of which is begun -/
def NoBeg (L:Fl):Prop:=∀ f∈L,DK.begun f.1=false
theorem open_at (r:Int) (L:Fl) (hL:DK.Good L):∃ L',openD (namesOf L) ⟨r,L,L,[],-1,false⟩=(0,⟨r,L',L',[],-1,false⟩)∧V L'=V L∧(L'.map (·.1)).Nodup∧NoBeg L'∧(NoBeg L→L'=L):=by
 have hm:∀ x,x∈namesOf L↔x∈L.map (·.1):=fun x=>(namesOf_perm L).mem_iff
 obtain ⟨s',S',p',e,q1,q2,q3,q4⟩:=sweep_at r L (namesOf L) L [] false hL.nodup (fun f hf=>(hL.files f hf).1) ((namesOf_perm L).nodup_iff.2 hL.nodup) (fun x hx _=>(hm x).1 hx)
 have hb:NoBeg S':=fun f hf=>(q3 f hf).2 ((hm _).2 (List.mem_map_of_mem (f:=(·.1)) (q3 f hf).1))
 unfold openD
 rw [if_neg (by simp),e]
 simp only [ne_eq,not_true_eq_false,if_false]
 cases s' with
 | true =>
  rw [if_pos rfl,syncD_at,if_neg (by decide)]
  refine ⟨S',rfl,q2,q1,hb,fun h=>?_⟩
  have hno:∀ (l:List Nm) (D:Dk),(∀ x∈l,DK.begun x=false)→(sweepD l false D).2.1=false:=by
   intro l
   induction l with
   | nil=>intro D _;rfl
   | cons x l ih =>
    intro D hx
    unfold sweepD
    rw [if_pos (hx x List.mem_cons_self)]
    exact ih D (fun y hy=>hx y (List.mem_cons_of_mem _ hy))
  have:=hno (namesOf L) ⟨r,L,L,[],-1,false⟩ (fun x hx=>by
   obtain ⟨f,hf,rfl⟩:=List.mem_map.1 ((hm x).1 hx)
   exact h f hf)
  rw [e] at this
  cases this
 | false =>
  rcases q4 with q4 | ⟨_,_,q4,q5⟩
  ·cases q4
  ·subst q4 q5
   rw [if_neg (by decide)]
   exact ⟨_,rfl,rfl,hL.nodup,hb,fun _=>rfl⟩
theorem openS_at (r:Int) (L:Fl) (hL:DK.Good L) {v:U} {n:Nat} (h:Rep (V L) v n) (hn:n≤99999999):∃ L',openS ⟨r,L,L,[],-1,false⟩=(0,⟨v,n,false⟩,⟨r,L',L',[],-1,false⟩)∧V L'=V L∧(L'.map (·.1)).Nodup∧NoBeg L'∧(NoBeg L→L'=L):=by
 obtain ⟨L',e,q1,q2,q3,q4⟩:=open_at r L hL
 refine ⟨L',?_,q1,q2,q3,q4⟩
 obtain ⟨b,ub,k,rfl,hb,ha,hno⟩:=h
 have hbase:=base_at (D:=⟨r,L',L',[],-1,false⟩) rfl q2 (b:=b) (ub:=ub) (by omega) (by rw [show V (Dk.shown ⟨r,L',L',[],-1,false⟩)=V L from q1];exact hb)
 have hloop:=loop_at (D:=⟨r,L',L',[],-1,false⟩) rfl k (100000000 - b) b ub v (by rw [show V (Dk.shown ⟨r,L',L',[],-1,false⟩)=V L from q1];exact ha) (fun m h1 h2=>by rw [show V (Dk.shown ⟨r,L',L',[],-1,false⟩)=V L from q1];exact hno m h1 h2) hn (by omega)
 unfold openS
 rw [show namesOf (Dk.shown ⟨r,L,L,[],-1,false⟩)=namesOf L from rfl,e]
 simp only [ne_eq,not_true_eq_false,if_false,Bool.false_eq_true]
 rw [hbase]
 simp only [not_true_eq_false,if_false]
 rw [hloop]
end SH
end Go.Proofs.YtaodldbgikiekaaGreatDoor
