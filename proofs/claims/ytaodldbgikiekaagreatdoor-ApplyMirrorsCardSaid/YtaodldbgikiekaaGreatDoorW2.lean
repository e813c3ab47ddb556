/- Proved here: a part of the proof (2 of 35). -/
import Derived.Test.YtaodldbgikiekaaGreatDoorProg
import Derived.Test.YtaodldbgikiekaaGreatDoorW1
import Derived.Deep.RegionHeld3
import Derived.Deep.QuietTactic
import Derived.BigQuiet
import Derived.Handy
import Derived.WideLaws
import Derived.LaidEql
import Derived.Test.YtaodldbgikiekaaGreatDoorW8
import Derived.Deep.RegionHeld
import Derived.Tactics
import Derived.Deep.MidRow
set_option linter.unusedSimpArgs false
set_option linter.unusedVariables false
set_option maxRecDepth 20000
namespace Go.Proofs.YtaodldbgikiekaaGreatDoor
open Go.RowKit

theorem etBytes:ElemT Tryz.prog 26 5 1 1:=ElemT.mk' (z:=.int .u8 0) Tryz.underlying26 (by kernel_rfl) rfl (by decide) (by decide)

theorem undErr:Tryz.prog.underlying 40=some (.interface (Tryz.prog.methodsAt 40)):=by kernel_rfl
@[go_sem] theorem eql_held (w:World) (u:TypeId) (x:Value):(binOp .eql 40 (.iface u x) .nilIface).run Tryz.prog w=.ok (.bool false) w:=run_eql_held_nil (P:=Tryz.prog) w 40 u x undErr
@[go_sem] theorem neq_held (w:World) (u:TypeId) (x:Value):(binOp .neq 40 (.iface u x) .nilIface).run Tryz.prog w=.ok (.bool true) w:=run_neq_held_nil (P:=Tryz.prog) w 40 u x undErr
@[go_sem] theorem eql_nil (w:World):(binOp .eql 40 .nilIface .nilIface).run Tryz.prog w=.ok (.bool true) w:=run_eql_nil_nil (P:=Tryz.prog) w 40 undErr
@[go_sem] theorem neq_nil (w:World):(binOp .neq 40 .nilIface .nilIface).run Tryz.prog w=.ok (.bool false) w:=run_neq_nil_nil (P:=Tryz.prog) w 40 undErr
@[go_sem] theorem ta_errno (w:World) (n:Int):(Instr.typeAssert (.iface 70 (.int .i64 n)) 40 70 true).run Tryz.prog w=.ok (.tuple #[.int .i64 n,.bool true]) w:=by kernel_rfl

@[go_sem] theorem field_kind (w:World) (x y:Value):(Instr.field 28 (.agg #[x,y]) 0).run Tryz.prog w=.ok x w:=by kernel_rfl
@[go_sem] theorem field_data (w:World) (x y:Value):(Instr.field 28 (.agg #[x,y]) 1).run Tryz.prog w=.ok y w:=by kernel_rfl

/-- an error by its number; 0: none -/
def errV (n:Nat):Value:=if n=0 then .nilIface else .iface 70 (.int .i64 n)
theorem errV_0:errV 0=.nilIface:=rfl
theorem errV_pos {n:Nat} (h:n≠0):errV n=.iface 70 (.int .i64 n):=by simp [errV,h]
theorem ret_eq {a b:Value} (h:a=b):Ending.returned a=.returned b:=by rw [h]

theorem strOf_toList (l:List UInt8):(strOf l).toList=l:=by rw [ByteArray.toList_eq];simp [strOf]

theorem bytesEq_any (u v:Value) (a b:List UInt8) (w:World) (ha:Bytes w u a) (hb:Bytes w v b):Calls Tryz.prog 62 #[u,v] w fun e w'=>e=.returned (.bool (a==b))∧w=w':=by
 have h1:=run_string_of (P:=Tryz.prog) 26 5 9 Tryz.underlying26 Tryz.underlying5 Tryz.underlying9 ha
 have h2:=run_string_of (P:=Tryz.prog) 26 5 9 Tryz.underlying26 Tryz.underlying5 Tryz.underlying9 hb
 clear ha hb
 go_enter Tryz.func62, Tryz.ntmps62
 go_wp2
 go_ret
 exact ⟨ret_eq (by rw [strOf_toList,strOf_toList];rfl),rfl⟩

set_option maxHeartbeats 400000 in
theorem clone_any (v:Value) (l:List UInt8) (w:World) (h:Bytes w v l) (hl:l.length≤1099511627776) :
  Calls Tryz.prog 49 #[v] w (OwnR w.heap.size 5 1 l.length (byteVs l) w):=by
 have hh:=h
 obtain ⟨a,cap,rfl,h1,h2,h0,h3⟩:=h
 have hq:=fun w n c=>Lib.run_eql_slice_nil (P:=Tryz.prog) w 26 5 a n c 0 0 Tryz.underlying26
 cases a with
 | none =>
  obtain rfl:cap=0:=h0 rfl
  have hl0:l=[]:=List.eq_nil_of_length_eq_zero (by omega)
  subst hl0
  clear h3 h1 h2 h0 hh
  go_enter Tryz.func49, Tryz.ntmps49
  go_wp2
  go_ret
  exact ⟨_,_,rfl,World.ownsRow_nil _ _ _ _,Below.refl _ _⟩
 | some p =>
  clear h3 h0
  have HH:Hid (Bytes w (.slice (some p) l.length cap) l):=hh
  clear hh
  go_enter Tryz.func49, Tryz.ntmps49
  go_wp2_with (at_builtin;refine append_sl etBytes rfl (.tmp 5) (.tmp 6) rfl w.heap.size 0 [] _ rfl ?own l.length (byteVs l) _ rfl ?src ?len (byteVs_one l) ?cy ?base ?_)
  case own=>exact own_empty _ _ _
  case src=>exact SlV.below HH.out (Nat.le_refl _) ((Below.refl _ _).alloc (Nat.le_refl _) _)
  case len=>simp [byteVs]
  case cy=>omega
  case base=>simp
  intro a' c' w1 ho hf
  go_wp2
  go_ret
  refine ⟨a',c',by simp,by simpa using ho,?_⟩
  exact ((Below.refl w.heap.size w).alloc (Nat.le_refl _) _).trans (hf.below (by simp) (fun k hk=>by simp [Act.eval,Value.ownBlock] at hk;omega))

/-- v reads as the cell c -/
def CellIs (w:World) (v:Value) (c:C):Prop:=∃ a cap,v=.agg #[.int .i64 c.k,.slice a c.d.length cap]∧Bytes w (.slice a c.d.length cap) c.d

def CopyR (c:C) (w:World) (en:Ending) (w':World):Prop :=
 ∃ a cap,en=.returned (.agg #[.int .i64 c.k,.slice a c.d.length cap])∧w'.ownsRow w.heap.size 5 1 (.slice a c.d.length cap) c.d.length (byteVs c.d)∧Below w.heap.size w w'

set_option maxHeartbeats 400000 in
theorem copy_any (v:Value) (c:C) (w:World) (h:CellIs w v c) (hl:c.d.length≤1099511627776) :
  Calls Tryz.prog 195 #[v] w (CopyR c w):=by
 obtain ⟨k,d⟩:=c
 obtain ⟨a,cap,rfl,hh⟩:=h
 have HH:Hid (Bytes w (.slice a d.length cap) d):=hh
 clear hh
 simp only at hl
 go_enter Tryz.func195, Tryz.ntmps195
 go_wp2
 have l2:∀ n:Nat,n<n+1+1:=by omega
 go_region_held3 (fun w'=>w'.cell? ⟨w.heap.size,0,none⟩=some (.int .i64 k)∧w'.cell? ⟨w.heap.size,1,none⟩=some (.slice a d.length cap)) (go_keep) (first | (go_at_call 49;refine (clone_any _ d _ ?_ hl).mono ?_;(exact SlV.below HH.out (Nat.le_refl _) (by go_grown));rintro e w' ⟨a',c',rfl,ho,hb⟩;obtain ⟨hc,hf⟩:=bcell hb))
 clear l2
 have c0:w'.cell? ⟨w.heap.size+1,0,none⟩=some (.int .i64 0):=(hc _ _ (by simp)).trans (by simp [go_sem])
 have c1:w'.cell? ⟨w.heap.size+1,1,none⟩=some (.slice none 0 0):=(hc _ _ (by simp)).trans (by simp [go_sem])
 go_wp2
 refine bodyPost_ret (v:=.agg #[.int .i64 k,.slice a' d.length c']) (by simp [results,Tryz.results195,go_sem,c0,c1]) rfl ⟨_,_,rfl,?_,?_⟩
 ·exact own_base (ownsRow_setCell_below (ownsRow_setCell_below ho (by simp) _) (by simp) _) (by simp;omega)
 ·exact ((below_call (by go_grown) (by simp;omega) hb).setCell (by simp) _).setCell (by simp) _

theorem same_any (u v:Value) (a b:C) (w:World) (ha:CellIs w u a) (hb:CellIs w v b) :
  Calls Tryz.prog 26 #[u,v] w fun e w'=>e=.returned (.bool (decide (a=b)))∧Below w.heap.size w w':=by
 obtain ⟨k,d⟩:=a
 obtain ⟨k',d'⟩:=b
 obtain ⟨p,cp,rfl,h1⟩:=ha
 obtain ⟨q,cq,rfl,h2⟩:=hb
 have H1:Hid (Bytes w (.slice p d.length cp) d):=h1
 have H2:Hid (Bytes w (.slice q d'.length cq) d'):=h2
 clear h1 h2
 simp only
 cases hk:(k==k') with
 | false =>
  have hne:¬k=k':=by simpa using hk
  have Hne:Hid (¬k=k'):=hne
  clear hne
  go_enter Tryz.func26, Tryz.ntmps26
  go_wp2
  go_ret
  exact ⟨ret_eq (by have:=Hne.out;simp [this]),by go_grown⟩
 | true =>
  have he:k=k':=by simpa using hk
  subst he
  clear hk
  go_enter Tryz.func26, Tryz.ntmps26
  go_wp2_with (go_at_call 62;refine (bytesEq_any _ _ d d' _ (SlV.below H1.out (Nat.le_refl _) (by go_grown)) (SlV.below H2.out (Nat.le_refl _) (by go_grown))).mono ?_;rintro e w' ⟨rfl,rfl⟩)
  go_ret
  exact ⟨ret_eq (by simp;rw [Bool.eq_iff_iff];simp),by go_grown⟩

theorem check_any (v:Value) (c:C) (w:World) (h:CellIs w v c) :
  Calls Tryz.prog 92 #[v] w fun e w'=>e=.returned (errV c.check)∧Below w.heap.size w w':=by
 obtain ⟨p,cp,rfl,h⟩:=h
 clear h
 go_enter Tryz.func92, Tryz.ntmps92
 go_wp2
 all_goals go_ret
 all_goals (refine ⟨ret_eq ?_,by go_grown⟩)
 all_goals (unfold C.check;(repeat' split)<;>first | rfl | (exfalso;omega) | (exfalso;simp_all;done) | (exfalso;simp_all;omega))

end Go.Proofs.YtaodldbgikiekaaGreatDoor

namespace Go.Proofs.YtaodldbgikiekaaGreatDoor
open Go.RowKit
namespace DK
theorem mtFiles:MS.MapT Tryz.prog 190 9 26 (.slice none 0 0):=⟨Tryz.underlying190,Tryz.underlying9,fun w=>by kernel_rfl⟩
abbrev Vs:=List (Value×List UInt8)
def FRel (vs:Vs) (x:ByteArray×Value) (y:Nm×List UInt8):Prop:=x.1=y.1∧(x.2,y.2)∈vs
/-- the entries of a map of files, their bytes in the pool -/
def FilesIn (vs:Vs) (L:List (ByteArray×Value)) (M:Fl):Prop:=F2 (FRel vs) L M
theorem FilesIn.get {vs:Vs} {L:List (ByteArray×Value)} {M:Fl} (h:FilesIn vs L M) (n:Nm):(MS.lookE L n=none∧getF M n=none)∨∃ v d,MS.lookE L n=some v∧getF M n=some d∧(v,d)∈vs:=by
 rcases F2.find h (f:=fun p=>p.1==n) (g:=fun p=>p.1==n) (fun p q h=>by rw [h.1]) with ⟨e1,e2⟩ | ⟨p,q,e1,e2,hr⟩
 ·left;exact ⟨by simp [MS.lookE,e1],by simp [getF,e2]⟩
 ·right;exact ⟨p.2,q.2,by simp [MS.lookE,e1],by simp [getF,e2],hr.2⟩
theorem FilesIn.put {vs:Vs} {L:List (ByteArray×Value)} {M:Fl} (h:FilesIn vs L M) {v:Value} {d:List UInt8} (hm:(v,d)∈vs) (n:Nm):FilesIn vs (MS.putE L n v) (putF M n d):=by
 unfold MS.putE putF
 rw [F2.any h (f:=fun p=>p.1==n) (g:=fun p=>p.1==n) (fun p q h=>by rw [h.1])]
 split
 ·refine F2.map h (fun a b hab=>?_)
  rw [hab.1]
  split
  ·exact ⟨rfl,hm⟩
  ·exact hab
 ·exact F2.append h (F2.one ⟨rfl,hm⟩)
theorem FilesIn.del {vs:Vs} {L:List (ByteArray×Value)} {M:Fl} (h:FilesIn vs L M) (n:Nm):FilesIn vs (MS.delE L n) (delF M n):=F2.filter h (fun a b hab=>by rw [hab.1])
theorem FilesIn.more {vs us:Vs} {L:List (ByteArray×Value)} {M:Fl} (h:FilesIn vs L M) (hs:∀ x∈vs,x∈us):FilesIn us L M:=F2.mono h (fun _ _ _ _ h=>⟨h.1,hs _ h.2⟩)
theorem FilesIn.len {vs:Vs} {L:List (ByteArray×Value)} {M:Fl} (h:FilesIn vs L M):L.length=M.length:=F2.length h
theorem FilesIn.keys {vs:Vs} {L:List (ByteArray×Value)} {M:Fl} (h:FilesIn vs L M):L.map (·.1)=M.map (·.1):=F2.map_eq h (fun _ _ h=>h.1)
/-- a change done to the entries -/
def doE (L:List (ByteArray×Value)) (k:Nat) (n to:Nm) (v:Value):List (ByteArray×Value) :=
 if k=0 then MS.putE L n v else match MS.lookE L n with
  | none=>L
  | some b=>if k=1 then MS.putE (MS.delE L n) to b else MS.delE L n
theorem FilesIn.do {vs:Vs} {L:List (ByteArray×Value)} {M:Fl} (h:FilesIn vs L M) {v:Value} (c:Chg) (hm:(v,c.d)∈vs):FilesIn vs (doE L c.kind c.name c.to v) (doF M c):=by
 unfold doE doF
 split
 ·exact h.put hm _
 ·rcases h.get c.name with ⟨e1,e2⟩ | ⟨b,d,e1,e2,e3⟩
  ·rw [e1,e2];exact h
  ·rw [e1,e2]
   show FilesIn vs (if c.kind=1 then _ else _) (if c.kind=1 then _ else _)
   split
   ·exact (h.del _).put e3 _
   ·exact h.del _
def lenV:Value→Nat
 | .slice _ n _=>n
 | _=>0
def sumV (L:List (ByteArray×Value)):Nat:=(L.map (fun p=>lenV p.2)).sum
def IsSl (v:Value):Prop:=∃ a n c,v=.slice a n c
theorem lenV_of {w:World} {v:Value} {d:List UInt8} (h:Bytes w v d):lenV v=d.length:=by
 obtain ⟨a,c,rfl,_⟩:=h;rfl
theorem isSl_of {w:World} {v:Value} {d:List UInt8} (h:Bytes w v d):IsSl v:=by
 obtain ⟨a,c,rfl,_⟩:=h;exact ⟨_,_,_,rfl⟩
/-- a pool's slices -/
def PoolIn (w:World) (vs:Vs):Prop:=∀ x∈vs,Bytes w x.1 x.2
theorem FilesIn.sum {vs:Vs} {L:List (ByteArray×Value)} {M:Fl} (h:FilesIn vs L M) {w:World} (hp:PoolIn w vs):sumV L=usedF M:=by
 have:=F2.map_eq h (f:=fun p=>lenV p.2) (g:=fun p=>p.2.length) (fun a b hab=>lenV_of (hp _ hab.2))
 unfold sumV usedF;rw [this]
theorem FilesIn.sl {vs:Vs} {L:List (ByteArray×Value)} {M:Fl} (h:FilesIn vs L M) {w:World} (hp:PoolIn w vs):∀ p∈L,IsSl p.2:=fun p hpL=>by
 obtain ⟨q,_,hq⟩:=F2.mem_left h hpL
 exact isSl_of (hp _ hq.2)
/-- a change that waits, with its bytes' place -/
def chgV (p:Chg×Value):List Value:=[.int .i64 (p.1.kind:Nat),.string p.1.name,.string p.1.to,p.2]
def chgVs (P:List (Chg×Value)):List Value:=P.flatMap chgV
def diskI (N:Nat) (D:Dk) (K:List Asn):Prop:=∃ bs bh v P Z vs Ls Lh,K=[.box N [.int .i64 D.room,.map (some bs),.map (some bh),v,.int .i64 D.fuse,.bool D.down] 193,.map bs Ls,.map bh Lh,.row 300 4 v P.length (chgVs P),.pool Z vs] ∧
 FilesIn vs Ls D.sure∧FilesIn vs Lh D.shown∧P.map (·.1)=D.pend∧(∀ p∈P,(p.2,p.1.d)∈vs)∧nilB∈vs
/-- a disk in memory -/
abbrev _root_.Go.Proofs.YtaodldbgikiekaaGreatDoor.Asn.disk (N:Nat) (D:Dk) (G:Nat→Prop):Asn:=Asn.ex (diskI N D) G
end DK
end Go.Proofs.YtaodldbgikiekaaGreatDoor

namespace Go.Proofs.YtaodldbgikiekaaGreatDoor
open Go

def nthOp:List Oper→Nat→Option Oper
 | [],_=>none
 | o::_,0=>some o
 | _::l,i+1=>nthOp l i
theorem nthOp_eq:∀ (l:List Oper) (i:Nat),l.toArray[i]?=nthOp l i
 | [],_=>rfl
 | _::_,0=>rfl
 | _::l,i+1=>by have:=nthOp_eq l i;simpa [nthOp] using this
theorem put_lit (t:List Value) (ds:List Deferred) (d:Nat) (v:Value):Act.put ⟨t.toArray,ds⟩ (some d) v=⟨(t.set d v).toArray,ds⟩:=by
 simp [Act.put]
/-- a small memory of slots: what an operation's operands are -/
def assocV:List (Nat×Value)→Nat→Value
 | [],_=>undef
 | (k,v)::l,t=>if k=t then v else assocV l t
@[go_sem] theorem assocV_hit (k:Nat) (v:Value) (l:List (Nat×Value)):assocV ((k,v)::l) k=v:=by simp [assocV]
@[go_sem] theorem assocV_miss {k t:Nat} (v:Value) (l:List (Nat×Value)) (h:k≠t):assocV ((k,v)::l) t=assocV l t:=by simp [assocV,h]
def lookV (m:List (Nat×Value)):Operand→Value
 | .tmp t=>assocV m t
 | .const v=>v
 | .global g=>.pointer (some ⟨g,0,none⟩)
 | .func f=>.func (.func f) #[] #[]
@[go_sem] theorem lookV_tmp (m:List (Nat×Value)) (t:Nat):lookV m (.tmp t)=assocV m t:=rfl
@[go_sem] theorem lookV_const (m:List (Nat×Value)) (v:Value):lookV m (.const v)=v:=rfl
@[go_sem] theorem lookV_global (m:List (Nat×Value)) (g:Nat):lookV m (.global g)=.pointer (some ⟨g,0,none⟩):=rfl
@[go_sem] theorem lookV_func (m:List (Nat×Value)) (f:Nat):lookV m (.func f)=.func (.func f) #[] #[]:=rfl
theorem map_at {α β:Type} {f g:α→β}:∀ {l:List α},l.map f=l.map g→∀ x∈l,f x=g x
 | [],_,_,h=>by cases h
 | a::l,e,x,h=>by
  simp only [List.map_cons,List.cons.injEq] at e
  rcases List.mem_cons.1 h with rfl | h
  ·exact e.1
  ·exact map_at e.2 x h
def noSel:Op→Bool
 | .select ..=>false
 | _=>true
section
variable {P:Program} {Q:Exit→Act→World→Prop} {md:Region.Mode} {S:World→Prop}
/-- an operation that yields its value in every world that meets S is taken first -/
theorem takeD {l:List Oper} {i d:Nat} {oi:Oper} {v:Value} {fuel:Nat} {listed:List Bool} {t:List Value} {ds:List Deferred} {w:World}
  (hi:nthOp l i=some oi) (hd:oi.dst=some d) (hs:Region.noSelect l.toArray=true) (hf:Region.free md l.toArray listed.toArray i=true) (hr:(Region.ready md l.toArray listed.toArray).contains i=true)
  (hQ:∀ c a w,Q (.panic c) (a.put oi.dst v) w→Q (.panic c) a w) (hy:YieldsIf P l.toArray S oi v ⟨t.toArray,ds⟩) (hS:S w)
  (h:wpAnyH P md l.toArray Q S fuel (listed.set i true).toArray ⟨(t.set d v).toArray,ds⟩ w):wpAnyH P md l.toArray Q S (fuel+1) listed.toArray ⟨t.toArray,ds⟩ w:=by
 refine wpAnyH_take (oi:=oi) (by rw [nthOp_eq];exact hi) hs hf hr hQ hy hS ?_
 rw [hd,put_lit,List.setIfInBounds_toArray]
 exact h
theorem startD {id:Nat} {l:List Oper} {a:Act} {w:World} (hm:P.follows .mixedOrders=true) (hS:S w.drew)
  (h:S w.drew→wpAnyH P .any l.toArray Q S l.length (List.replicate l.length false).toArray a w.drew):(Code.region id l.toArray true).wp P Q a w:=by
 refine wp_region_held_drew hm hS (fun hs=>?_)
 have:=h hs
 rwa [List.size_toArray,←List.toArray_replicate]
/-- what an operation yields, from its operands alone -/
theorem yldV {l:Array Oper} {oi:Oper} {v:Value} {a:Act} (m:List (Nat×Value)) (hw:Region.wanted oi (yielded l a.tmps)=true) (hsel:noSel oi.op=true)
  (hm:oi.op.operands.toList.map a.eval=oi.op.operands.toList.map (lookV m)) (h:∀ w,S w→(execOp (lookV m) oi).run P w=.ok (.value v) w):YieldsIf P l S oi v a:=by
 refine .inl ⟨hw,fun w hS=>?_⟩
 rw [execOp_congr (ρ':=lookV m) oi (fun cs b e=>by rw [e] at hsel;cases hsel) (fun x hx=>map_at hm x (by simpa using hx))]
 exact h w hS
theorem tE {l:List Oper} {oi:Oper} {fuel:Nat} {listed:List Bool} {t:List Value} {ds:List Deferred} {w:World} (i d:Nat) (v:Value) (hi:nthOp l i=some oi) (hd:oi.dst=some d) (m:List (Nat×Value)) (hS:S w)
  (hy:∀ w,S w→(execOp (lookV m) oi).run P w=.ok (.value v) w) (h:wpAnyH P md l.toArray Q S fuel (listed.set i true).toArray ⟨(t.set d v).toArray,ds⟩ w)
  (hs:Region.noSelect l.toArray=true:=by kernel_rfl) (hf:Region.free md l.toArray listed.toArray i=true:=by kernel_rfl) (hr:(Region.ready md l.toArray listed.toArray).contains i=true:=by kernel_rfl)
  (hQ:∀ c a w,Q (.panic c) (a.put oi.dst v) w→Q (.panic c) a w:=by exact fun _ _ _ h=>h) (hw:Region.wanted oi (yielded l.toArray t.toArray)=true:=by kernel_rfl) (hn:noSel oi.op=true:=by rfl)
  (hm:oi.op.operands.toList.map (Act.eval ⟨t.toArray,ds⟩)=oi.op.operands.toList.map (lookV m):=by kernel_rfl):wpAnyH P md l.toArray Q S (fuel+1) listed.toArray ⟨t.toArray,ds⟩ w :=
 takeD hi hd hs hf hr hQ (yldV m hw hn hm hy) hS h
theorem tD {l:List Oper} {oi:Oper} {fuel:Nat} {listed:List Bool} {t:List Value} {ds:List Deferred} {w:World} (i d:Nat) (v:Value) (hi:nthOp l i=some oi) (hd:oi.dst=some d) (m:List (Nat×Value)) (hS:S w)
  (h:wpAnyH P md l.toArray Q S fuel (listed.set i true).toArray ⟨(t.set d v).toArray,ds⟩ w)
  (hy:∀ w,S w→(execOp (lookV m) oi).run P w=.ok (.value v) w:=by intro w hSw;go_simp)
  (hs:Region.noSelect l.toArray=true:=by kernel_rfl) (hf:Region.free md l.toArray listed.toArray i=true:=by kernel_rfl) (hr:(Region.ready md l.toArray listed.toArray).contains i=true:=by kernel_rfl)
  (hQ:∀ c a w,Q (.panic c) (a.put oi.dst v) w→Q (.panic c) a w:=by exact fun _ _ _ h=>h) (hw:Region.wanted oi (yielded l.toArray t.toArray)=true:=by kernel_rfl) (hn:noSel oi.op=true:=by rfl)
  (hm:oi.op.operands.toList.map (Act.eval ⟨t.toArray,ds⟩)=oi.op.operands.toList.map (lookV m):=by kernel_rfl):wpAnyH P md l.toArray Q S (fuel+1) listed.toArray ⟨t.toArray,ds⟩ w :=
 takeD hi hd hs hf hr hQ (yldV m hw hn hm hy) hS h
end
end Go.Proofs.YtaodldbgikiekaaGreatDoor

namespace Go.Proofs.YtaodldbgikiekaaGreatDoor
open Go.RowKit

theorem setCells_fr (b:Nat):∀ (vs:List Value) (o:Nat) (w:World),Fr (fun k=>k=b) w (w.setCells b o vs)
 | [],_,w=>Fr.refl _ _
 | v::r,o,w=>(fr_set w b o v).trans (setCells_fr b r (o+1) _) (fun _ h=>.inl h)
theorem setCell_block {w:World} {b o e:Nat} {cur:Array Value} {fz:Nat×Nat} (v:Value) (h:w.heap[b]?=some (.cells cur e fz)):(w.setCell ⟨b,o,none⟩ v).heap[b]?=some (.cells (cur.setIfInBounds o v) e fz):=by
 have hb:=(Array.getElem?_eq_some_iff.1 h).1
 unfold World.setCell
 simp only [Array.getElem?_modify,h,if_true,Option.map_some]
 rfl
theorem list_set_mid {α:Type} (l:List α) (o:Nat) (v:α) (r:List α) (h:o+(r.length+1)≤l.length) :
  (l.set o v).take (o+1)++r++(l.set o v).drop (o+1+r.length)=l.take o++(v::r)++l.drop (o+(r.length+1)):=by
 have ho:o<l.length:=by omega
 have h1:(l.set o v).take (o+1)=l.take o++[v]:=by
  rw [List.take_succ_eq_append_getElem (by simpa using ho),List.take_set_of_le (Nat.le_refl _)]
  simp
 have h2:(l.set o v).drop (o+1+r.length)=l.drop (o+(r.length+1)):=by
  rw [List.drop_set_of_lt (by omega),show o+1+r.length=o+(r.length+1) by omega]
 rw [h1,h2]
 simp
theorem setCells_block (b:Nat) {e:Nat} {fz:Nat×Nat}:∀ (vs:List Value) (o:Nat) (w:World) (cur:Array Value),w.heap[b]?=some (.cells cur e fz)→o+vs.length≤cur.size →
  ∃ cur',(w.setCells b o vs).heap[b]?=some (.cells cur' e fz)∧cur'.size=cur.size∧cur'.toList=cur.toList.take o++vs++cur.toList.drop (o+vs.length)
 | [],o,w,cur,h,_=>⟨cur,h,rfl,by simp⟩
 | v::r,o,w,cur,h,hl=>by
  obtain ⟨cur',h1,h2,h3⟩:=setCells_block b r (o+1) (w.setCell ⟨b,o,none⟩ v) (cur.setIfInBounds o v) (setCell_block v h) (by simp at hl ⊢;omega)
  refine ⟨cur',h1,by simpa using h2,?_⟩
  rw [h3,Array.toList_setIfInBounds]
  exact list_set_mid cur.toList o v r (by simpa using hl)
theorem list_take_mid {α:Type} (l vs:List α) (o m:Nat) (hm:m≤l.length) (h:o+vs.length≤m) :
  (l.take o++vs++l.drop (o+vs.length)).take m=(l.take m).take o++vs++(l.take m).drop (o+vs.length):=by
 have h1:(l.take o++vs).length=o+vs.length:=by simp;omega
 rw [List.take_append,h1,List.take_of_length_le (by omega),List.take_take,Nat.min_eq_left (by omega),List.drop_take]
theorem own_setCells {w:World} {base e size n g c:Nat} {xs:List Value} (h:w.ownsRow base e size (.slice (some ⟨g,0,none⟩) n c) n xs) (o:Nat) (vs:List Value) (ho:o+vs.length≤n*size) :
  (w.setCells g o vs).ownsRow base e size (.slice (some ⟨g,0,none⟩) n c) n (xs.take o++vs++xs.drop (o+vs.length)):=by
 obtain ⟨h1,h2⟩:=h
 refine ⟨by simp [h1];omega,.inr ?_⟩
 rcases h2 with ⟨hv,hn⟩ | ⟨g',cap,cur,hv,hg,hh,h3,h4,h5,h6⟩
 ·simp at hv
 ·simp only [Value.slice.injEq,Option.some.injEq,Addr.mk.injEq] at hv
  obtain ⟨⟨rfl,_⟩,_,rfl⟩:=hv
  have hcs:n*size≤c*size:=Nat.mul_le_mul_right _ h3
  obtain ⟨cur',k1,k2,k3⟩:=setCells_block g vs o w cur hh (by omega)
  refine ⟨g,c,cur',rfl,hg,k1,h3,h4,by rw [k2];exact h5,?_⟩
  have hl:cur.toList.length=c*size:=by simpa using h5
  rw [k3,←h6]
  exact list_take_mid cur.toList vs o (n*size) (by omega) ho
theorem own_head {w:World} {base e size n c:Nat} {a:Option Addr} {xs:List Value} (h:w.ownsRow base e size (.slice a n c) n xs) (hn:0<n):∃ g,a=some ⟨g,0,none⟩:=by
 rcases h.2 with ⟨hv,_⟩ | ⟨g,cap,cur,hv,_⟩
 ·simp only [Value.slice.injEq] at hv;omega
 ·simp only [Value.slice.injEq] at hv;exact ⟨g,hv.1⟩
theorem Sep.storeRow {w0 w:World} {F:Nat→Prop} {L:List Asn} (H:Sep w0 F L w) (i:Nat) {e size n g c:Nat} {xs:List Value} (hi:L[i]?=some (.row e size (.slice (some ⟨g,0,none⟩) n c) n xs)) (o:Nat) (vs:List Value) (ho:o+vs.length≤n*size) :
  Sep w0 F (.row e size (.slice (some ⟨g,0,none⟩) n c) n (xs.take o++vs++xs.drop (o+vs.length))::L.eraseIdx i) (w.setCells g o vs) :=
 (H.focus i hi).fr1 ((setCells_fr g vs o w).mono (fun k hk=>by subst hk;rfl)) (own_setCells (H.row i hi) o vs ho) (fun b hb=>.inr hb)

@[go_sem] theorem eql_errV (n:Nat) (w:World):(binOp .eql 40 (errV n) .nilIface).run Tryz.prog w=.ok (.bool (n==0)) w:=by
 by_cases h:n=0
 ·subst h;rw [errV_0,eql_nil];rfl
 ·rw [errV_pos h,eql_held];simp [h]
@[go_sem] theorem neq_errV (n:Nat) (w:World):(binOp .neq 40 (errV n) .nilIface).run Tryz.prog w=.ok (.bool (n != 0)) w:=by
 by_cases h:n=0
 ·subst h;rw [errV_0,neq_nil];rfl
 ·rw [errV_pos h,neq_held];simp [h]
@[go_sem] theorem guard_eql (t n:Nat) (x:Operand) (v:Value) (w:World):(eqGuard .eql t x (.const v) (errV n) .nilIface).run Tryz.prog w=.ok () w:=by
 by_cases h:n=0
 ·subst h;rw [errV_0];simp [eqGuard]
 ·rw [errV_pos h];simp [eqGuard]
@[go_sem] theorem guard_neq (t n:Nat) (x:Operand) (v:Value) (w:World):(eqGuard .neq t x (.const v) (errV n) .nilIface).run Tryz.prog w=.ok () w:=by
 by_cases h:n=0
 ·subst h;rw [errV_0];simp [eqGuard]
 ·rw [errV_pos h];simp [eqGuard]
end Go.Proofs.YtaodldbgikiekaaGreatDoor
