/- Proved here: a part of the proof (1 of 35). -/
import Derived.WalkKit
import Derived.WalkSpells
import Derived.WalkLawsBesides
import Derived.Laws.AppendOwnNone
import Derived.KernelRfl
import Derived.Deep.AppendLies
import Derived.Deep.RegionHeldLaw
import Derived.Maps.RangeRun
import Derived.Maps.RangeWalk
import Derived.Maps.OwnSet
import Derived.Deep.Slices
import Derived.OpenShut
import Derived.Maps.AppendAt
import Derived.Deep.RegionHeld
set_option linter.unusedSimpArgs false
set_option linter.unusedVariables false
set_option maxRecDepth 20000
namespace Go.Proofs.YtaodldbgikiekaaGreatDoor
open Go
theorem gA {α:Type} {xs:List α} {i:Nat} (h:i<xs.toArray.size):xs.toArray[i]=xs[i]:=rfl
theorem gZ {α:Type} {a:α} {as:List α} (h:0<(a::as).length):(a::as)[0]=a:=rfl
theorem gS {α:Type} {a:α} {as:List α} {i:Nat} (h:i+1<(a::as).length):(a::as)[i+1]=as[i]'(Nat.lt_of_succ_lt_succ h):=rfl
theorem sA {α:Type} {l:List α} {i:Nat} {a:α}:l.toArray.setIfInBounds i a=(l.set i a).toArray:=List.setIfInBounds_toArray ..
theorem sZ {α:Type} {x a:α} {xs:List α}:(x::xs).set 0 a=a::xs:=rfl
theorem sS {α:Type} {x a:α} {xs:List α} {n:Nat}:(x::xs).set (n+1) a=x::xs.set n a:=rfl
section
variable {P:Program} {ops:Array Oper} {Q:Exit→Act→World→Prop} {md:Region.Mode} {S:World→Prop}
theorem tA {oi:Oper} {fuel:Nat} {listed:Array Bool} {a:Act} {w:World} (i:Nat) (v:Value) (hi:ops[i]?=some oi) (hS:S w)
  (hy:∀ w,S w→(execOp a.eval oi).run P w=.ok (.value v) w) (h:wpAnyH P md ops Q S fuel (listed.setIfInBounds i true) (a.put oi.dst v) w)
  (hs:Region.noSelect ops=true:=by kernel_rfl) (hf:Region.free md ops listed i=true:=by kernel_rfl) (hr:(Region.ready md ops listed).contains i=true:=by kernel_rfl)
  (hQ:∀ c a w,Q (.panic c) (a.put oi.dst v) w→Q (.panic c) a w:=by exact fun _ _ _ h=>h) (hw:Region.wanted oi (yielded ops a.tmps)=true:=by rfl):wpAnyH P md ops Q S (fuel+1) listed a w :=
 wpAnyH_take hi hs hf hr hQ (Or.inl ⟨hw,hy⟩) hS h
theorem tU {oi:Oper} {fuel:Nat} {listed:Array Bool} {a:Act} {w:World} (i:Nat) (hi:ops[i]?=some oi) (hS:S w) (h:wpAnyH P md ops Q S fuel (listed.setIfInBounds i true) (a.put oi.dst undef) w)
  (hs:Region.noSelect ops=true:=by kernel_rfl) (hf:Region.free md ops listed i=true:=by kernel_rfl) (hr:(Region.ready md ops listed).contains i=true:=by kernel_rfl)
  (hQ:∀ c a w,Q (.panic c) (a.put oi.dst undef) w→Q (.panic c) a w:=by exact fun _ _ _ h=>h) (hw:Region.wanted oi (yielded ops a.tmps)=false:=by kernel_rfl):wpAnyH P md ops Q S (fuel+1) listed a w :=
 wpAnyH_take hi hs hf hr hQ (Or.inr ⟨hw,rfl⟩) hS h
theorem rD {fuel:Nat} {listed:Array Bool} {a:Act} {w:World} {o:Oper} (i:Nat) (ho:ops[i]?=some o)
  (h:∀ K':Act→World→Prop,Shut (∀ a w,S w→(S w→wpAnyH P md ops Q S fuel (listed.setIfInBounds i true) a w)→K' a w)→if Region.wanted o (yielded ops a.tmps)=true then Oper.wp P o a w K' Q else K' (a.put o.dst undef) w)
  (hr:Region.ready md ops listed=[i]:=by kernel_rfl):wpAnyH P md ops Q S (fuel+1) listed a w:=wpAnyH_ready hr (by simp) (AllReadyH.cons ho h AllReadyH.nil)
end
end Go.Proofs.YtaodldbgikiekaaGreatDoor
namespace Go.Proofs.YtaodldbgikiekaaGreatDoor
open Go.RowKit

theorem Lib.hid' {p:Prop} (h:p):Hid p:=h
theorem Zh {p:Prop} (h:p):Hid p:=Lib.hid' h

@[simp,go_sem] theorem lt_add2 (n:Nat):(n<n+1+1)=True:=eq_true (by omega)
@[simp,go_sem] theorem lt_add3 (n:Nat):(n<n+1+1+1)=True:=eq_true (by omega)
@[simp,go_sem] theorem lt_add4 (n:Nat):(n<n+1+1+1+1)=True:=eq_true (by omega)
@[simp,go_sem] theorem lt_add5 (n:Nat):(n<n+1+1+1+1+1)=True:=eq_true (by omega)

/-- The slice value v has n elements, whose cells read cs. -/
def SlV (w:World) (v:Value) (n:Nat) (cs:List Value):Prop :=
 ∃ a cap,v=.slice a n cap∧n≤cap∧cap≤maxLen∧(a=none→cap=0)∧∀ j u,cs[j]?=some u→∃ p,a=some p∧w.cell? (p.add j)=some u

/-- All old blocks outside F are as they were. -/
structure Fr (F:Nat→Prop) (w w':World):Prop where
 os:w'.os=w.os
 tape:w'.tape=w.tape
 output:w'.output=w.output
 size:w.heap.size≤w'.heap.size
 block:∀ k,k<w.heap.size→¬F k→w'.heap[k]?=w.heap[k]?

theorem Fr.refl (F:Nat→Prop) (w:World):Fr F w w:=⟨rfl,rfl,rfl,Nat.le_refl _,fun _ _ _=>rfl⟩
theorem Fr.of_below {F:Nat→Prop} {w w':World} (h:Below w.heap.size w w'):Fr F w w':=⟨h.os,h.tape,h.output,h.size,fun k hk _=>h.block k hk⟩
theorem Fr.below {F:Nat→Prop} {B:Nat} {w w':World} (h:Fr F w w') (hB:B≤w.heap.size) (hF:∀ k,F k→B≤k):Below B w w' :=
 ⟨h.os,h.tape,h.output,h.size,fun k hk=>h.block k (by omega) (fun hf=>by have:=hF k hf;omega)⟩
theorem Fr.trans {F F':Nat→Prop} {a b c:World} (h:Fr F a b) (k:Fr F' b c) (hF:∀ i,F' i→F i∨a.heap.size≤i):Fr F a c :=
 ⟨k.os.trans h.os,k.tape.trans h.tape,k.output.trans h.output,Nat.le_trans h.size k.size,fun i hi hn=>by
  have hk:¬F' i:=fun hf=>by rcases hF i hf with h1 | h1;exact hn h1;omega
  exact (k.block i (Nat.lt_of_lt_of_le hi h.size) hk).trans (h.block i hi hn)⟩
theorem Fr.mono {F F':Nat→Prop} {a b:World} (h:Fr F a b) (hF:∀ i,F i→F' i):Fr F' a b :=
 ⟨h.os,h.tape,h.output,h.size,fun i hi hn=>h.block i hi (fun hf=>hn (hF i hf))⟩
theorem Fr.trans_below {F:Nat→Prop} {a b c:World} (h:Fr F a b) (k:Below b.heap.size b c):Fr F a c :=
 h.trans (Fr.of_below (F:=fun _=>False) k) (fun _ hf=>hf.elim)

theorem cell_lt {w:World} {p:Addr} {v:Value} (h:w.cell? p=some v):p.block<w.heap.size:=World.block_lt_of_cell? w p h

theorem Fr.cell {F:Nat→Prop} {w w':World} (h:Fr F w w') {p:Addr} {v:Value} (hp:w.cell? p=some v) (hF:¬F p.block):w'.cell? p=some v:=by
 rw [←hp];exact World.cell?_of_block (w:=w) (h.block _ (cell_lt hp) hF)

/-- .. lies in the blocks of D alone -/
def SlIn (D:Nat→Prop) (v:Value):Prop:=∀ p n c,v=.slice (some p) n c→D p.block

theorem add_block (p:Addr) (j:Nat):(p.add j).block=p.block:=by unfold Addr.add;split<;>rfl

theorem SlV.fr {F:Nat→Prop} {w w':World} {v:Value} {n:Nat} {cs:List Value} (h:SlV w v n cs) (hf:Fr F w w') (hD:SlIn (fun k=>¬F k) v):SlV w' v n cs:=by
 obtain ⟨a,cap,rfl,h1,h2,h0,h3⟩:=h
 refine ⟨a,cap,rfl,h1,h2,h0,fun j u hu=>?_⟩
 obtain ⟨p,rfl,hc⟩:=h3 j u hu
 exact ⟨p,rfl,hf.cell hc (by rw [add_block];exact hD p n cap rfl)⟩

theorem SlV.below {w w':World} {v:Value} {n:Nat} {cs:List Value} (h:SlV w v n cs) {B:Nat} (hB:w.heap.size≤B) (hf:Below B w w'):SlV w' v n cs :=
 h.fr (Fr.of_below (F:=fun _=>False) (hf.mono hB)) (fun _ _ _ _ h=>h)

theorem SlV.empty (w:World) (a:Option Addr) (c:Nat) (hc:c≤maxLen) (h0:a=none→c=0):SlV w (.slice a 0 c) 0 []:=⟨a,c,rfl,Nat.zero_le _,hc,h0,fun j u hu=>by simp at hu⟩

theorem SlV.of_own {w:World} {base e size:Nat} {v:Value} {n:Nat} {xs:List Value} (h:w.ownsRow base e size v n xs):SlV w v n xs:=by
 obtain ⟨hl,h⟩:=h
 rcases h with ⟨rfl,rfl⟩ | ⟨g,cap,cur,rfl,hg,hh,h1,h2,h3,h4⟩
 ·have:xs=[]:=List.eq_nil_of_length_eq_zero (by simpa using hl)
  subst this;exact SlV.empty w _ _ (Nat.zero_le _) (fun _=>rfl)
 ·refine ⟨_,_,rfl,h1,h2,by simp,fun j u hu=>⟨_,rfl,?_⟩⟩
  have hlt:j<xs.length:=(List.getElem?_eq_some_iff.1 hu).1
  have e1:(Addr.add ⟨g,0,none⟩ j)=⟨g,j,none⟩:=by unfold Addr.add;split<;>simp_all
  rw [e1]
  subst h4
  rw [List.getElem?_take,if_pos (by simpa [hl] using hlt)] at hu
  simp only [World.cell?,hh,Option.isSome_none,Bool.false_eq_true,if_false]
  simpa using hu

theorem own_shape {w:World} {base e size:Nat} {v:Value} {n:Nat} {xs:List Value} (h:w.ownsRow base e size v n xs):∃ a c,v=.slice a n c:=by
 obtain ⟨_,h⟩:=h
 rcases h with ⟨rfl,rfl⟩ | ⟨g,cap,cur,rfl,_⟩
 ·exact ⟨_,_,rfl⟩
 ·exact ⟨_,_,rfl⟩

theorem own_in {w:World} {base e size:Nat} {v:Value} {n:Nat} {xs:List Value} (h:w.ownsRow base e size v n xs):SlIn (fun k=>base≤k∧k<w.heap.size) v:=by
 intro p n' c hv
 obtain ⟨hl,h⟩:=h
 rcases h with ⟨rfl,rfl⟩ | ⟨g,cap,cur,rfl,hg,hh,_⟩
 ·simp at hv
 ·simp only [Value.slice.injEq,Option.some.injEq] at hv
  obtain ⟨rfl,_,_⟩:=hv
  exact ⟨hg,(Array.getElem?_eq_some_iff.1 hh).1⟩

theorem SlIn.mono {D D':Nat→Prop} {v:Value} (h:SlIn D v) (hD:∀ k,D k→D' k):SlIn D' v:=fun p n c hv=>hD _ (h p n c hv)

/-- the bytes of a slice value -/
def byteV (b:UInt8):Value:=.int .u8 b.toNat
def byteVs (l:List UInt8):List Value:=l.map byteV
def Bytes (w:World) (v:Value) (l:List UInt8):Prop:=SlV w v l.length (byteVs l)
theorem byteVs_one (l:List UInt8):∀ u∈byteVs l,u.oneCell'=true:=by
 intro u hu;obtain ⟨b,_,rfl⟩:=List.mem_map.1 hu;rfl
theorem byteVs_append (a b:List UInt8):byteVs (a++b)=byteVs a++byteVs b:=by simp [byteVs]

/-- A slice type's element type, as the program's table has it. -/
structure ElemT (P:Program) (t e size bytes:Nat):Prop where
 under:P.underlying t=some (.slice e)
 info:∃ i z,P.info? e=some i∧i.zero=some z∧i.size=size∧i.bytes=bytes∧z.cells.size=size
 pos:0<size
 posb:0<bytes

theorem ElemT.mk' {P:Program} {t e size bytes:Nat} {z:Value} (h1:P.underlying t=some (.slice e)) (h2:(P.info? e).map (fun i=>(i.zero,i.size,i.bytes))=some (some z,size,bytes)) (h3:z.cells.size=size) (h4:0<size) (h5:0<bytes):ElemT P t e size bytes:=by
 obtain ⟨i,a,b,c,d⟩:=info_parts h2
 exact ⟨h1,⟨i,z,a,b,c,d,h3⟩,h4,h5⟩

/-- append of any slice that reads cells, onto a row of the call's own. -/
theorem append_sl {P:Program} {t e size bytes:Nat} (T:ElemT P t e size bytes) {w:World} {ops:Array Oper} {rest:List Oper} {o:Oper} {a:Act} {Q:Exit→Act→World→Prop} (hgd:o.guard=none) (s x:Operand)
  (ho:o.op=.call { callee:=.builtin .append,args:=#[s,x],argTypes:=#[t,t]})
  (base n:Nat) (xs:List Value) (v:Value) (hs:a.eval s=v) (hown:w.ownsRow base e size v n xs)
  (m:Nat) (news:List Value) (y:Value) (hx:a.eval x=y) (hsrc:SlV w y m news) (hl:news.length=m*size) (h1:∀ u∈news,u.oneCell'=true)
  (hbytes:(n+m)*bytes≤140737488355328) (hbase:base≤w.heap.size)
  (h:∀ a' c' w',w'.ownsRow base e size (.slice a' (n+m) c') (n+m) (xs++news)→Fr (fun k=>v.ownBlock=some k) w w'→wpList P ops Q rest (a.put o.dst (.slice a' (n+m) c')) w'):wpList P ops Q (o::rest) a w:=by
 obtain ⟨i,z,a1,a2,a3,a4,a5⟩:=T.info
 have hpos:=T.posb
 have hml:n+m≤maxLen:=by
  have:(n+m)*1≤(n+m)*bytes:=Nat.mul_le_mul_left _ hpos
  unfold maxLen;omega
 obtain ⟨ao,c,rfl,k1,k2,k0,k3⟩:=hsrc
 have hne:∀ {u u':World} {row:Option Nat},u.grownBy u' row→Fr (fun k=>row=some k) u u':=fun hg=>⟨hg.os,hg.tape,hg.output,hg.size,fun k hk hn=>hg.block k hk (fun e=>hn e.symm)⟩
 cases ao with
 | some ad =>
  exact wpList_append_own w hgd s x t ho base e i z size bytes T.under a1 a2 a3 a4 a5 T.pos v n xs hs hown ad m c news hx hl
   (fun j u hu=>by obtain ⟨p,hp,hc⟩:=k3 j u hu;cases hp;exact hc) h1 hml hbytes hbase (fun v' w' r1 r2 _=>by obtain ⟨a',c',rfl⟩:=own_shape r1;exact h a' c' w' r1 (hne r2))
 | none =>
  have hnil:news=[]:=by
   cases news with
   | nil=>rfl
   | cons u l=>obtain ⟨p,hp,_⟩:=k3 0 u rfl;cases hp
  subst hnil
  have hm:m=0:=by
   have hp:=T.pos
   have:m*size=0:=by simpa using hl.symm
   rcases Nat.mul_eq_zero.1 this with h | h<;>omega
  subst hm
  obtain rfl:c=0:=k0 rfl
  exact wpList_append_own_none hgd s x t ho base e i size T.under a1 v n xs hs hown hx (by obtain ⟨a',c',rfl⟩:=own_shape hown;simpa using h a' c' w (by simpa using hown) (Fr.refl _ _))

theorem SlV.new (w:World) (cs:List Value) (n e:Nat) (hn:n≤maxLen):SlV (w.alloc (.cells cs.toArray e)) (.slice (some ⟨w.heap.size,0,none⟩) n n) n cs:=by
 refine ⟨_,_,rfl,Nat.le_refl _,hn,by simp,fun j u hu=>⟨_,rfl,?_⟩⟩
 have e1:(Addr.add ⟨w.heap.size,0,none⟩ j)=⟨w.heap.size,j,none⟩:=by unfold Addr.add;split<;>simp_all
 rw [e1]
 have e2:(w.alloc (.cells cs.toArray e)).heap[w.heap.size]?=some (.cells cs.toArray e (0,0)):=by show (w.heap.push _)[w.heap.size]?=_;simp
 simp only [World.cell?,e2,Option.isSome_none,Bool.false_eq_true,if_false]
 simpa using hu

/-- 'append(out, x)': one element, which lies in a new block of its own. -/
theorem append_one {P:Program} {t e size bytes:Nat} (T:ElemT P t e size bytes) {w:World} {ops:Array Oper} {rest:List Oper} {o:Oper} {a:Act} {Q:Exit→Act→World→Prop} (hgd:o.guard=none) (s x:Operand)
  (ho:o.op=.call { callee:=.builtin .append,args:=#[s,x],argTypes:=#[t,t]})
  (cs:List Value) (hx:a.eval x=.slice (some ⟨w.heap.size,0,none⟩) 1 1) (base n:Nat) (xs:List Value) (v:Value) (hs:a.eval s=v) (hown:w.ownsRow base e size v n xs)
  (hl:cs.length=size) (h1:∀ u∈cs,u.oneCell'=true)
  (hbytes:(n+1)*bytes≤140737488355328) (hbase:base≤w.heap.size)
  (h:∀ a' c' w',w'.ownsRow base e size (.slice a' (n+1) c') (n+1) (xs++cs)→Fr (fun k=>v.ownBlock=some k) w w'→wpList P ops Q rest (a.put o.dst (.slice a' (n+1) c')) w'):wpList P ops Q (o::rest) a (w.alloc (.cells cs.toArray e)) :=
 append_sl T hgd s x ho base n xs v hs (hown.alloc _) 1 cs _ hx (SlV.new w cs 1 e (by unfold maxLen;omega)) (by omega) h1 hbytes (by simp;omega)
  (fun a' c' w' r1 r2=>h a' c' w' r1 ((Fr.of_below (F:=fun k=>v.ownBlock=some k) ((Below.refl w.heap.size w).alloc (Nat.le_refl _) _)).trans r2 (fun i hi=>.inl hi)))

/-- what an append leaves, said of what was there ahead of a block number -/
theorem Fr.row {base e size n B:Nat} {v:Value} {xs:List Value} {W w w':World} (h:Fr (fun k=>v.ownBlock=some k) w w') (hown:w.ownsRow base e size v n xs) (hB:B≤base) (hs:B≤w.heap.size) (hb:Below B W w):Below B W w':=by
 refine hb.trans (h.below hs (fun k hk=>?_))
 obtain ⟨_,h⟩:=hown
 rcases h with ⟨rfl,rfl⟩ | ⟨g,cap,cur,rfl,hg,_⟩
 ·simp [Value.ownBlock] at hk
 ·simp [Value.ownBlock] at hk;omega

theorem bcell {W w1:World} {B:Nat} (hb:Below B W w1):(∀ b o,b<B→w1.cell? ⟨b,o,none⟩=W.cell? ⟨b,o,none⟩)∧(∀ b o,b<B→w1.frozen? ⟨b,o,none⟩=W.frozen? ⟨b,o,none⟩) :=
 ⟨fun b o h=>hb.cell (p:=⟨b,o,none⟩) h,fun b o h=>hb.frozen (p:=⟨b,o,none⟩) h⟩

theorem own_base {w:World} {B B' e size n:Nat} {v:Value} {xs:List Value} (h:w.ownsRow B e size v n xs) (hB:B'≤B):w.ownsRow B' e size v n xs:=by
 obtain ⟨h1,h2⟩:=h
 refine ⟨h1,?_⟩
 rcases h2 with h2 | ⟨g,cap,cur,hv,hg,r⟩
 ·exact Or.inl h2
 ·exact Or.inr ⟨g,cap,cur,hv,Nat.le_trans hB hg,r⟩
theorem below_call {B:Nat} {w W w':World} (h:Below B w W) (hB:B≤W.heap.size) (hb:Below W.heap.size W w'):Below B w w':=h.trans (hb.mono hB)
theorem own_below {w w':World} {B C e size n:Nat} {v:Value} {xs:List Value} (h:w.ownsRow B e size v n xs) (hC:w.heap.size≤C) (hb:Below C w w'):w'.ownsRow B e size v n xs:=by
 obtain ⟨h1,h2⟩:=h
 refine ⟨h1,?_⟩
 rcases h2 with h2 | ⟨g,cap,cur,hv,hg,hh,r⟩
 ·exact Or.inl h2
 ·exact Or.inr ⟨g,cap,cur,hv,hg,by rw [hb.block g (Nat.lt_of_lt_of_le (Array.getElem?_eq_some_iff.1 hh).1 hC)];exact hh,r⟩

/-- a new empty row -/
theorem own_empty (w:World) (e size:Nat):(w.alloc (.cells #[] e)).ownsRow w.heap.size e size (.slice (some ⟨w.heap.size,0,none⟩) 0 0) 0 [] :=
 ⟨by simp,Or.inr ⟨w.heap.size,0,#[],rfl,Nat.le_refl _,by show (w.heap.push _)[w.heap.size]?=_;simp,Nat.zero_le _,Nat.zero_le _,by simp,by simp⟩⟩

/-- a new row of the call's own is handed back -/
def OwnR (B e size n:Nat) (xs:List Value) (w:World) (en:Ending) (w':World):Prop:=∃ a c,en=.returned (.slice a n c)∧w'.ownsRow B e size (.slice a n c) n xs∧Below B w w'

/-- a byte list as Go's text -/
def strOf (l:List UInt8):ByteArray:=⟨l.toArray⟩

theorem run_string_of {P:Program} (src e dst:TypeId) (hs:P.underlying src=some (.slice e)) (he:P.underlying e=some (.int .u8)) (hd:P.underlying dst=some .string) {w:World} {v:Value} {l:List UInt8} (h:Bytes w v l) :
  (convert src dst v).run P w=.ok (.string (strOf l)) w:=by
 obtain ⟨a,cap,rfl,h1,h2,h0,h3⟩:=h
 cases a with
 | none =>
  obtain rfl:cap=0:=h0 rfl
  have hl0:l=[]:=List.eq_nil_of_length_eq_zero (by omega)
  subst hl0
  rw [run_convert_bytes_nil w src e hs he _ _ dst hd];rfl
 | some p =>
  rw [run_convert_bytes_string w src dst e _ _ _ hs he hd]
  have hl:(loadCells p l.length).run P w=.ok ((l.map fun b=>(b.toNat:Int)).map (Value.int .u8)).toArray w:=by
   have:=run_loadCells_list (P:=P) w p ((l.map fun b=>(b.toNat:Int)).map (Value.int .u8)) (fun j v hj=>by
    have hj':(byteVs l)[j]?=some v:=by simpa [byteVs,byteV] using hj
    obtain ⟨q,hq,hc⟩:=h3 j v hj'
    cases hq;exact hc)
   simpa using this
  rw [run_bytesToString w p _ _ _ hl,foldl_push_bytes]
  simp [strOf,List.map_map,Function.comp_def]

end Go.Proofs.YtaodldbgikiekaaGreatDoor

namespace Go.Proofs.YtaodldbgikiekaaGreatDoor

inductive F2 {α β:Type} (R:α→β→Prop):List α→List β→Prop
 | nil:F2 R [] []
 | cons {a:α} {b:β} {l:List α} {m:List β} (h:R a b) (t:F2 R l m):F2 R (a::l) (b::m)

namespace F2
variable {α β:Type} {R S:α→β→Prop}
theorem length {l:List α} {m:List β} (h:F2 R l m):l.length=m.length:=by
 induction h with
 | nil=>rfl
 | cons _ _ ih=>simp [ih]
theorem mono {l:List α} {m:List β} (h:F2 R l m) (hRS:∀ a b,a∈l→b∈m→R a b→S a b):F2 S l m:=by
 induction h with
 | nil=>exact .nil
 | cons h t ih=>exact .cons (hRS _ _ List.mem_cons_self List.mem_cons_self h) (ih fun a b ha hb=>hRS a b (List.mem_cons_of_mem _ ha) (List.mem_cons_of_mem _ hb))
theorem append {l l':List α} {m m':List β} (h:F2 R l m) (h':F2 R l' m'):F2 R (l++l') (m++m'):=by
 induction h with
 | nil=>exact h'
 | cons h t ih=>exact .cons h ih
theorem one {a:α} {b:β} (h:R a b):F2 R [a] [b]:=.cons h .nil
theorem filter {l:List α} {m:List β} (h:F2 R l m) {f:α→Bool} {g:β→Bool} (hfg:∀ a b,R a b→f a=g b):F2 R (l.filter f) (m.filter g):=by
 induction h with
 | nil=>exact .nil
 | cons h t ih =>
  simp only [List.filter_cons,hfg _ _ h]
  split
  ·exact .cons h ih
  ·exact ih
theorem map {γ δ:Type} {T:γ→δ→Prop} {l:List α} {m:List β} (h:F2 R l m) {f:α→γ} {g:β→δ} (hfg:∀ a b,R a b→T (f a) (g b)):F2 T (l.map f) (m.map g):=by
 induction h with
 | nil=>exact .nil
 | cons h t ih=>exact .cons (hfg _ _ h) ih
theorem map_eq {γ:Type} {l:List α} {m:List β} (h:F2 R l m) {f:α→γ} {g:β→γ} (hfg:∀ a b,R a b→f a=g b):l.map f=m.map g:=by
 induction h with
 | nil=>rfl
 | cons h t ih=>simp [hfg _ _ h,ih]
theorem any {l:List α} {m:List β} (h:F2 R l m) {f:α→Bool} {g:β→Bool} (hfg:∀ a b,R a b→f a=g b):l.any f=m.any g:=by
 induction h with
 | nil=>rfl
 | cons h t ih=>simp [hfg _ _ h,ih]
theorem find {l:List α} {m:List β} (h:F2 R l m) {f:α→Bool} {g:β→Bool} (hfg:∀ a b,R a b→f a=g b):(l.find? f=none∧m.find? g=none)∨∃ a b,l.find? f=some a∧m.find? g=some b∧R a b:=by
 induction h with
 | nil=>exact .inl ⟨rfl,rfl⟩
 | @cons a b l m h t ih =>
  simp only [List.find?_cons,hfg _ _ h]
  cases g b with
  | true=>exact .inr ⟨a,b,rfl,rfl,h⟩
  | false=>exact ih
theorem get_left {l:List α} {m:List β} (h:F2 R l m) {i:Nat} {a:α} (ha:l[i]?=some a):∃ b,m[i]?=some b∧R a b:=by
 induction h generalizing i with
 | nil=>simp at ha
 | cons h t ih=>cases i with
  | zero=>simp at ha;subst ha;exact ⟨_,rfl,h⟩
  | succ i=>simpa using ih (by simpa using ha)
theorem mem_left {l:List α} {m:List β} (h:F2 R l m) {a:α} (ha:a∈l):∃ b,b∈m∧R a b:=by
 obtain ⟨i,hi⟩:=List.getElem?_of_mem ha
 obtain ⟨b,hb,hr⟩:=h.get_left hi
 exact ⟨b,List.mem_of_getElem? hb,hr⟩
end F2

end Go.Proofs.YtaodldbgikiekaaGreatDoor

namespace Go.Proofs.YtaodldbgikiekaaGreatDoor
open Go.RowKit

theorem fr_set (w:World) (b o:Nat) (v:Value):Fr (fun k=>k=b) w (w.setCell ⟨b,o,none⟩ v):=⟨rfl,rfl,rfl,by simp,fun k _ hk=>heap_setCell_other _ _ _ _ hk⟩
theorem own_fr {F:Nat→Prop} {w w':World} {B e size n:Nat} {v:Value} {xs:List Value} (h:w.ownsRow B e size v n xs) (hf:Fr F w w') (hD:SlIn (fun k=>¬F k) v):w'.ownsRow B e size v n xs:=by
 obtain ⟨h1,h2⟩:=h
 refine ⟨h1,?_⟩
 rcases h2 with h2 | ⟨g,cap,cur,hv,hg,hh,r⟩
 ·exact Or.inl h2
 ·exact Or.inr ⟨g,cap,cur,hv,hg,by rw [hf.block g (Array.getElem?_eq_some_iff.1 hh).1 (hD _ _ _ hv)];exact hh,r⟩
/-- rows of unlike types lie in unlike blocks -/
theorem own_apart {w:World} {B e size n B' e' size' n':Nat} {v v':Value} {xs xs':List Value} (h:w.ownsRow B e size v n xs) (h':w.ownsRow B' e' size' v' n' xs') (he:e≠e'):SlIn (fun k=>¬v'.ownBlock=some k) v:=by
 obtain ⟨_,h⟩:=h
 obtain ⟨_,h'⟩:=h'
 intro p n c hv
 rcases h with ⟨rfl,rfl⟩ | ⟨g,cap,cur,rfl,hg,hh,_⟩
 ·simp at hv
 ·simp only [Value.slice.injEq,Option.some.injEq] at hv
  obtain ⟨rfl,_,_⟩:=hv
  rcases h' with ⟨rfl,rfl⟩ | ⟨g',cap',cur',rfl,hg',hh',_⟩
  ·simp [Value.ownBlock]
  ·intro hk
   simp [Value.ownBlock] at hk
   subst hk
   rw [hh] at hh'
   simp at hh'
   exact he hh'.2

theorem own_nil (w:World) (B e size:Nat):w.ownsRow B e size (.slice none 0 0) 0 []:=⟨by simp,Or.inl ⟨rfl,rfl⟩⟩
/-- a box of the call's own -/
def Box1 (N:Nat) (R:List Value) (w:World):Prop :=
 (∀ j v,R[j]?=some v→w.cell? ⟨N,j,none⟩=some v)∧(∀ j,w.frozen? ⟨N,j,none⟩=false)∧N<w.heap.size
/-- a block that is known whole -/
def BoxW (N:Nat) (R:List Value) (t:Nat) (w:World):Prop:=w.heap[N]?=some (.cells R.toArray t (0,0))
theorem BoxW.lt {N t:Nat} {R:List Value} {w:World} (h:BoxW N R t w):N<w.heap.size:=(Array.getElem?_eq_some_iff.1 h).1
theorem BoxW.fr {F:Nat→Prop} {N t:Nat} {R:List Value} {w w':World} (h:BoxW N R t w) (hf:Fr F w w') (hN:¬F N):BoxW N R t w':=(hf.block N h.lt hN).trans h
theorem BoxW.below {N t:Nat} {R:List Value} {w w':World} (h:BoxW N R t w) {B:Nat} (hB:w.heap.size≤B) (hb:Below B w w'):BoxW N R t w':=(hb.block N (Nat.lt_of_lt_of_le h.lt hB)).trans h
theorem BoxW.start (w:World) (R:List Value) (t:Nat):BoxW w.heap.size R t (w.alloc (.cells R.toArray t)):=by show (w.heap.push _)[w.heap.size]?=_;simp
theorem BoxW.box {N t:Nat} {R:List Value} {w:World} (h:BoxW N R t w):Box1 N R w:=by
 refine ⟨fun j v hj=>?_,fun j=>frozen_of_row _ _ _ _ _ h,h.lt⟩
 rw [cell_of_row _ _ _ _ _ _ h];simpa using hj
theorem own_slin {w:World} {B e size n:Nat} {v:Value} {xs:List Value} (h:w.ownsRow B e size v n xs) {F:Nat→Prop} (hF:∀ b,v.ownBlock=some b→¬F b):SlIn (fun k=>¬F k) v:=by
 obtain ⟨_,h⟩:=h
 intro p n' c hv
 rcases h with ⟨rfl,rfl⟩ | ⟨g,cap,cur,rfl,_⟩
 ·simp at hv
 ·simp only [Value.slice.injEq,Option.some.injEq] at hv
  obtain ⟨rfl,_,_⟩:=hv
  exact hF g rfl
theorem own_blk {w:World} {B e size n:Nat} {v:Value} {xs:List Value} (h:w.ownsRow B e size v n xs) {b:Nat} (hb:v.ownBlock=some b):B≤b∧b<w.heap.size:=by
 obtain ⟨_,h⟩:=h
 rcases h with ⟨rfl,rfl⟩ | ⟨g,cap,cur,rfl,hg,hh,_⟩
 ·simp [Value.ownBlock] at hb
 ·simp only [Value.ownBlock,Option.some.injEq] at hb
  subst hb
  exact ⟨hg,(Array.getElem?_eq_some_iff.1 hh).1⟩

theorem BoxW.no_byte {N t:Nat} {R:List Value} {w:World} (h:BoxW N R t w) (hR:∀ b,byteV b∉R) {p:Addr} {b:UInt8} (hp:w.cell? p=some (byteV b)):p.block≠N:=by
 obtain ⟨blk,off,row⟩:=p
 rintro rfl
 unfold World.cell? at hp
 rw [show w.heap[blk]?=_ from h] at hp
 simp only at hp
 split at hp
 ·cases hp
 ·have:R[off]?=some (byteV b):=by simpa using hp
  exact hR b (List.mem_of_getElem? this)
theorem BoxW.bytes {N t:Nat} {R:List Value} {w w':World} (h:BoxW N R t w) (hR:∀ b,byteV b∉R) {v:Value} {d:List UInt8} (hd:Bytes w v d) (hf:Fr (fun k=>k=N) w w'):Bytes w' v d:=by
 obtain ⟨a,cap,rfl,h1,h2,h3,h4⟩:=hd
 refine ⟨a,cap,rfl,h1,h2,h3,fun j x hx=>?_⟩
 obtain ⟨p,hp,hc⟩:=h4 j x hx
 refine ⟨p,hp,hf.cell hc ?_⟩
 have hx':∃ b,x=byteV b:=by
  simp only [byteVs,List.getElem?_map] at hx
  cases hq:d[j]? with
  | none=>rw [hq] at hx;simp at hx
  | some b=>rw [hq] at hx;simp at hx;exact ⟨b,hx.symm⟩
 obtain ⟨b,rfl⟩:=hx'
 exact h.no_byte hR hc

/-- 'append(out, x)' as one step of a region that draws its order -/
theorem step_one {P:Program} {t e size bytes:Nat} (T:ElemT P t e size bytes) {w:World} {ops:Array Oper} {o:Oper} {a:Act} {K:Act→World→Prop} {Q:Exit→Act→World→Prop} {Z:Prop} (hgd:o.guard=none) (s x:Operand)
  (ho:o.op=.call { callee:=.builtin .append,args:=#[s,x],argTypes:=#[t,t]})
  (cs:List Value) (hx:a.eval x=.slice (some ⟨w.heap.size,0,none⟩) 1 1) (base n:Nat) (xs:List Value) (v:Value) (hs:a.eval s=v) (hown:w.ownsRow base e size v n xs)
  (hl:cs.length=size) (h1:∀ u∈cs,u.oneCell'=true)
  (hbytes:(n+1)*bytes≤140737488355328) (hbase:base≤w.heap.size)
  (h:∀ a' c' w',w'.ownsRow base e size (.slice a' (n+1) c') (n+1) (xs++cs)→Fr (fun k=>v.ownBlock=some k) w w'→K (a.put o.dst (.slice a' (n+1) c')) w') :
  if Region.wanted o (yielded ops a.tmps)=true then Oper.wp P o a (w.alloc (.cells cs.toArray e)) K Q else Z:=by
 obtain ⟨i,z,a1,a2,a3,a4,a5⟩:=T.info
 have hpos:=T.posb
 have hml:n+1≤maxLen:=by
  have:(n+1)*1≤(n+1)*bytes:=Nat.mul_le_mul_left _ hpos
  unfold maxLen;omega
 have hne:∀ {u u':World} {row:Option Nat},u.grownBy u' row→Fr (fun k=>row=some k) u u':=fun hg=>⟨hg.os,hg.tape,hg.output,hg.size,fun k hk hn=>hg.block k hk (fun e=>hn e.symm)⟩
 obtain ⟨_,_,he,_,_,_,k3⟩:=SlV.new w cs 1 e (by unfold maxLen;omega)
 cases he
 refine step_append_lies _ hgd s x t ho base e i z size bytes T.under a1 a2 a3 a4 a5 T.pos v n xs hs (hown.alloc _) _ 1 1 cs hx (by omega) (fun j u hu=>by obtain ⟨p,hp,hc⟩:=k3 j u hu;cases hp;exact hc) h1 (by omega) hml hbytes (by simp;omega) _ rfl ?_
 intro g cap w' r1 r2 _ _
 exact h _ _ w' r1 ((Fr.of_below (F:=fun k=>v.ownBlock=some k) ((Below.refl w.heap.size w).alloc (Nat.le_refl _) _)).trans (hne r2) (fun i hi=>.inl hi))

theorem BoxW.set {N t:Nat} {R:List Value} {w:World} (h:BoxW N R t w) (i:Nat) (v:Value):BoxW N (R.set i v) t (w.setCell ⟨N,i,none⟩ v):=by
 have:=heap_setCell_same w N i _ t v h
 unfold BoxW
 rw [this];simp
theorem BoxW.drew {N t:Nat} {R:List Value} {w:World} (h:BoxW N R t w):BoxW N R t w.drew:=h

structure MapT (P:Program) (t k e:Nat) (z:Value):Prop where
 under:P.underlying t=some (.map k e)
 key:P.underlying k=some (.int .i64)
 zero:∀ w,(zeroValue e).run P w=.ok z w

def kv (e:MapEntry):Value×Value:=(e.key,e.val)
def vk (p:Int×Value):Value×Value:=(.int .i64 p.1,p.2)

/-- the entries es show the association list L -/
structure Shows (es:List MapEntry) (clock:Nat) (L:List (Int×Value)):Prop where
 eq:es.map kv=L.map vk
 nodup:(L.map (·.1)).Nodup
 rise:es.Pairwise (fun x y=>x.born<y.born)
 old:∀ e∈es,e.born<clock

def MapAt (w:World) (b:Nat) (L:List (Int×Value)):Prop:=∃ es clock,w.heap[b]?=some (.map es clock)∧Shows es.toList clock L

theorem MapAt.block {w w':World} {b:Nat} {L:List (Int×Value)} (h:MapAt w b L) (hb:w'.heap[b]?=w.heap[b]?):MapAt w' b L:=by
 obtain ⟨es,clock,h1,h2⟩:=h
 exact ⟨es,clock,hb.trans h1,h2⟩
theorem MapAt.lt {w:World} {b:Nat} {L:List (Int×Value)} (h:MapAt w b L):b<w.heap.size:=by
 obtain ⟨es,clock,h1,_⟩:=h
 exact (Array.getElem?_eq_some_iff.1 h1).1
theorem MapAt.nodup {w:World} {b:Nat} {L:List (Int×Value)} (h:MapAt w b L):(L.map (·.1)).Nodup:=by
 obtain ⟨_,_,_,h2⟩:=h;exact h2.nodup

theorem MapAt.made (w:World):MapAt (w.alloc (.map #[] 0)) w.heap.size [] :=
 ⟨#[],0,by show (w.heap.push _)[w.heap.size]?=_;simp,⟨rfl,by simp,by simp,by simp⟩⟩

theorem findNow_int {a:Int}:∀ (es:List MapEntry) (L:List (Int×Value)) (i:Nat),es.map kv=L.map vk →
  Instr.findNow (.int .i64) (.int .i64 a) es i=some ((L.findIdx? (·.1==a)).bind fun j=>(L[j]?).map fun p=>(i+j,p.2))
 | [],L,i,h=>by
  have:L=[]:=by simpa using h.symm
  subst this;simp [Instr.findNow]
 | e::es,[],i,h=>by simp at h
 | e::es,p::L,i,h=>by
  simp only [List.map_cons,List.cons.injEq] at h
  obtain ⟨h1,h2⟩:=h
  have hk:e.key=.int .i64 p.1:=congrArg Prod.fst h1
  have hv:e.val=p.2:=congrArg Prod.snd h1
  unfold Instr.findNow
  rw [hk]
  simp only [Instr.sameNow,if_true]
  by_cases hpa:p.1=a
  ·subst hpa;simp [List.findIdx?_cons,hv]
  ·have e1:(a==p.1)=false:=by simp;exact fun h=>hpa h.symm
   have e2:(p.1==a)=false:=by simp [hpa]
   rw [e1]
   simp only [List.findIdx?_cons,e2]
   rw [findNow_int es L (i+1) h2]
   cases hf:L.findIdx? (fun x=>x.1==a) with
   | none=>simp
   | some j=>simp [Nat.add_assoc,Nat.add_comm 1 j]

theorem run_checkKey' {P:Program} {t k e:Nat} {z:Value} (T:MapT P t k e z) (w:World) (b:Bool) (n:Nat) (a:Int):(Instr.checkKey b (n+1) k (.int .i64 a)).run P w=.ok () w:=by
 simp [Instr.checkKey,run_underlying T.key,go_sem]
theorem run_checkKey {P:Program} {t k e:Nat} {z:Value} (T:MapT P t k e z) (w:World) (b:Bool) (a:Int):(Instr.checkKey b 10000 k (.int .i64 a)).run P w=.ok () w:=run_checkKey' T w b 9999 a
theorem run_findKey {P:Program} {t k e:Nat} {z:Value} (T:MapT P t k e z) (w:World) {es:List MapEntry} {L:List (Int×Value)} (h:es.map kv=L.map vk) (a:Int) :
  (Instr.findKey k (.int .i64 a) es).run P w=.ok ((L.findIdx? (·.1==a)).bind fun j=>(L[j]?).map fun p=>(j,p.2)) w:=by
 have hf:=findNow_int (a:=a) es L 0 h
 simp [Instr.findKey,run_underlying T.key,go_sem,hf]

def lookE (L:List (Int×Value)) (a:Int):Option Value:=(L.find? (·.1==a)).map (·.2)
theorem find_idx {α:Type} (p:α→Bool):∀ L:List α,L.find? p=(L.findIdx? p).bind fun j=>L[j]?
 | []=>rfl
 | x::L=>by
  by_cases h:p x=true
  ·simp [List.find?_cons,List.findIdx?_cons,h]
  ·have h':p x=false:=by simpa using h
   simp only [List.find?_cons,List.findIdx?_cons,h',find_idx p L]
   cases L.findIdx? p<;>simp

theorem run_look {P:Program} {t k e:Nat} {z:Value} (T:MapT P t k e z) {w:World} {b:Nat} {L:List (Int×Value)} (h:MapAt w b L) (a:Int) :
  (Instr.lookup t (.map (some b)) (.int .i64 a) false).run P w=.ok ((lookE L a).getD z) w:=by
 obtain ⟨es,clock,hb,hs⟩:=h
 have hz:=T.zero w
 have hf:=fun w=>run_findKey T w hs.eq a
 have hck:=run_checkKey T
 have hk:=T.key
 simp only [Instr.lookup]
 simp [run_underlying T.under,getObj,Sem.run,hb,go_sem,hck,hf,lookE,find_idx]
 cases hj:L.findIdx? (fun x=>x.1==a) with
 | none=>simp [hz,go_sem]
 | some j =>
  have hlt:j<L.length:=(List.findIdx?_eq_some_iff_getElem.1 hj).1
  simp [List.getElem?_eq_getElem hlt,go_sem]

def setBlk (w:World) (b:Nat) (o:Obj):World:={ w with heap:=w.heap.setIfInBounds b o }
theorem setBlk_size (w:World) (b:Nat) (o:Obj):(setBlk w b o).heap.size=w.heap.size:=by simp [setBlk]
theorem setBlk_at {w:World} {b:Nat} (o:Obj) (h:b<w.heap.size):(setBlk w b o).heap[b]?=some o:=by simp [setBlk,h]
theorem setBlk_ne {w:World} {b k:Nat} (o:Obj) (h:k≠b):(setBlk w b o).heap[k]?=w.heap[k]?:=by
 simp only [setBlk];rw [Array.getElem?_setIfInBounds_ne (by omega)]
theorem setBlk_fr (w:World) (b:Nat) (o:Obj):Fr (·=b) w (setBlk w b o):=⟨rfl,rfl,rfl,by simp [setBlk_size],fun _ _ hn=>setBlk_ne o hn⟩

def putE (L:List (Int×Value)) (a:Int) (v:Value):List (Int×Value):=if L.any (·.1==a) then L.map (fun p=>if p.1=a then (a,v) else p) else L++[(a,v)]

theorem modify_map {es:List MapEntry} {L:List (Int×Value)} {a:Int} {v:Value} {j:Nat} (h:es.map kv=L.map vk) (hn:(L.map (·.1)).Nodup) (hj:L.findIdx? (fun x=>x.1==a)=some j) :
  (es.modify j (fun e=>{ e with key:=.int .i64 a,val:=v })).map kv=(L.map (fun p=>if p.1=a then (a,v) else p)).map vk:=by
 induction es generalizing L j with
 | nil =>
  have:L=[]:=by simpa using h.symm
  subst this;simp at hj
 | cons e es ih =>
  cases L with
  | nil=>simp at h
  | cons p L =>
   simp only [List.map_cons,List.cons.injEq] at h
   simp only [List.map_cons,List.nodup_cons] at hn
   by_cases hpa:p.1=a
   ·simp [List.findIdx?_cons,hpa] at hj
    subst hj
    have hrest:L.map (fun p=>if p.1=a then (a,v) else p)=L:=by
     conv=>rhs;rw [←List.map_id L]
     refine List.map_congr_left fun q hq=>?_
     have:q.1≠a:=fun hqa=>hn.1 (by rw [hpa,←hqa];exact List.mem_map_of_mem (f:=(·.1)) hq)
     simp [this]
    simp [hpa,hrest,h.2,kv,vk]
   ·have e2:(p.1==a)=false:=by simp [hpa]
    simp only [List.findIdx?_cons,e2] at hj
    obtain ⟨j',hj',rfl⟩:∃ j',L.findIdx? (fun x=>x.1==a)=some j'∧j'+1=j:=by
     cases hq:L.findIdx? (fun x=>x.1==a) with
     | none=>simp [hq] at hj
     | some j'=>simp [hq] at hj;exact ⟨j',rfl,hj⟩
    simp only [List.modify_succ_cons,List.map_cons,hpa,if_false,h.1,List.cons.injEq,true_and]
    exact ih h.2 hn.2 hj'

theorem modify_born {es:List MapEntry} {f:MapEntry→MapEntry} (hf:∀ e,(f e).born=e.born) (j:Nat):(es.modify j f).map (·.born)=es.map (·.born):=by
 induction es generalizing j with
 | nil=>simp
 | cons e es ih=>cases j with
  | zero=>simp [hf]
  | succ j=>simp [ih]

theorem rise_iff (es:List MapEntry):es.Pairwise (fun x y=>x.born<y.born)↔(es.map (·.born)).Pairwise (·<·):=by rw [List.pairwise_map]
theorem old_iff (es:List MapEntry) (c:Nat):(∀ e∈es,e.born<c)↔∀ n∈es.map (·.born),n<c:=by simp

theorem putE_keys (L:List (Int×Value)) (a:Int) (v:Value) (h:(L.map (·.1)).Nodup):((putE L a v).map (·.1)).Nodup:=by
 unfold putE
 split
 ·have:(L.map (fun p=>if p.1=a then (a,v) else p)).map (·.1)=L.map (·.1):=by
   rw [List.map_map];refine List.map_congr_left fun p _=>?_
   by_cases hp:p.1=a<;>simp [hp]
  rw [this];exact h
 ·rename_i hn
  rw [List.map_append,List.nodup_append]
  refine ⟨h,by simp,?_⟩
  intro x hx y hy
  simp at hy;subst hy
  intro hxa;subst hxa
  apply hn
  simp only [List.any_eq_true,beq_iff_eq]
  obtain ⟨p,hp,hpx⟩:=List.mem_map.1 hx
  exact ⟨p,hp,hpx⟩

theorem run_store {P:Program} {t k e:Nat} {z:Value} (T:MapT P t k e z) {w:World} {b:Nat} {L:List (Int×Value)} (h:MapAt w b L) (a:Int) (v:Value) :
  ∃ o,(Instr.mapUpdate t (.map (some b)) (.int .i64 a) v).run P w=.ok () (setBlk w b o)∧MapAt (setBlk w b o) b (putE L a v):=by
 have hlt:=h.lt
 obtain ⟨es,clock,hb,hs⟩:=h
 have hf:=fun w=>run_findKey T w hs.eq a
 have hck:=run_checkKey T
 have hset:∀ o,(setObj b o).run P w=.ok () (setBlk w b o):=fun o=>by simp [setObj,Sem.run,hb,setBlk]
 cases hj:L.findIdx? (fun x=>x.1==a) with
 | none =>
  refine ⟨.map (es.push { key:=.int .i64 a,val:=v,born:=clock }) (clock+1),?_,?_⟩
  ·simp only [Instr.mapUpdate]
   simp [run_underlying T.under,getObj,Sem.run,hb,go_sem,hck,hf,hj,hset]
  ·refine ⟨_,_,setBlk_at _ hlt,⟨?_,putE_keys L a v hs.nodup,?_,?_⟩⟩
   ·have hany:(L.any (·.1==a))=false:=by
     rw [List.findIdx?_eq_none_iff] at hj
     rw [List.any_eq_false];intro x hx;simpa using hj x hx
    simp only [putE,hany,Array.toList_push,List.map_append,hs.eq,Bool.false_eq_true,if_false]
    simp [kv,vk]
   ·simp only [Array.toList_push,List.pairwise_append]
    exact ⟨hs.rise,by simp,fun x hx y hy=>by simp at hy;subst hy;exact hs.old x hx⟩
   ·intro x hx
    simp only [Array.toList_push,List.mem_append,List.mem_singleton] at hx
    rcases hx with hx | rfl
    ·exact Nat.lt_succ_of_lt (hs.old x hx)
    ·exact Nat.lt_succ_self _
 | some j =>
  obtain ⟨hjl,hjp,_⟩:=List.findIdx?_eq_some_iff_getElem.1 hj
  have hla:(L[j]).1=a:=by simpa using hjp
  have hel:j<es.size:=by
   have:es.toList.length=L.length:=by have:=congrArg List.length hs.eq;simpa using this
   simp at this;omega
  have hkey:(es[j]).key=.int .i64 a:=by
   have h1:(es.toList.map kv)[j]?=(L.map vk)[j]?:=by rw [hs.eq]
   simp [hjl,hel,kv,vk] at h1
   rw [h1.1,hla]
  refine ⟨.map (es.modify j fun e=>{ e with key:=.int .i64 a,val:=v }) clock,?_,?_⟩
  ·simp only [Instr.mapUpdate]
   simp [run_underlying T.under,getObj,Sem.run,hb,go_sem,hck,hf,hj,List.getElem?_eq_getElem hjl,hset,Instr.keyThatStays,hel,hkey,Instr.sameBits]
  ·have hany:(L.any (·.1==a))=true:=by
    rw [List.any_eq_true];exact ⟨L[j],List.getElem_mem _,by simpa using hjp⟩
   have hb':((es.modify j fun e=>{ e with key:=.int .i64 a,val:=v }).toList).map (·.born)=es.toList.map (·.born):=by
    rw [Array.toList_modify];exact modify_born (f:=fun e=>{ e with key:=.int .i64 a,val:=v }) (fun _=>rfl) j
   refine ⟨_,_,setBlk_at _ hlt,⟨?_,putE_keys L a v hs.nodup,?_,?_⟩⟩
   ·simp only [putE,hany,if_true,Array.toList_modify]
    exact modify_map hs.eq hs.nodup hj
   ·rw [rise_iff,hb',←rise_iff];exact hs.rise
   ·rw [old_iff,hb',←old_iff];exact hs.old


/-- Block r ranges over the map at block b, which shows L; 'left' are still to come; 'last' was met last and is still there. -/
def IterAt (w:World) (r b:Nat) (L left:List (Int×Value)) (last:Option (Int×Value)):Prop :=
 ∃ es clock seen,w.heap[b]?=some (.map es clock)∧Shows es.toList clock L∧w.heap[r]?=some (.mapIter (some b) clock seen clock) ∧
  (es.toList.filter (fun e=>!seen.contains e.born)).map kv=left.map vk ∧
  (∀ p,last=some p→∃ e,e∈es.toList∧kv e=vk p∧seen.back?=some e.born)

def iterLeft (w:World) (r:Nat):Nat :=
 match w.heap[r]? with
 | some (.mapIter (some m) _ seen _)=>match w.heap[m]? with
  | some (.map es _)=>(es.toList.filter (fun e=>!seen.contains e.born)).length
  | _=>0
 | _=>0

theorem IterAt.left_eq {w:World} {r b:Nat} {L left:List (Int×Value)} {last:Option (Int×Value)} (h:IterAt w r b L left last):iterLeft w r=left.length:=by
 obtain ⟨es,clock,seen,h1,h2,h3,h4,_⟩:=h
 have:=congrArg List.length h4
 simp only [List.length_map] at this
 simp only [iterLeft,h3,h1];exact this
theorem IterAt.map {w:World} {r b:Nat} {L left:List (Int×Value)} {last:Option (Int×Value)} (h:IterAt w r b L left last):MapAt w b L:=by
 obtain ⟨es,clock,seen,h1,h2,_⟩:=h
 exact ⟨es,clock,h1,h2⟩
theorem IterAt.ne {w:World} {r b:Nat} {L left:List (Int×Value)} {last:Option (Int×Value)} (h:IterAt w r b L left last):r≠b:=by
 obtain ⟨es,clock,seen,h1,h2,h3,_⟩:=h
 intro e;subst e;rw [h1] at h3;simp at h3
theorem IterAt.blocks {w w':World} {r b:Nat} {L left:List (Int×Value)} {last:Option (Int×Value)} (h:IterAt w r b L left last) (h1:w'.heap[b]?=w.heap[b]?) (h2:w'.heap[r]?=w.heap[r]?):IterAt w' r b L left last:=by
 obtain ⟨es,clock,seen,a1,a2,a3,a4,a5⟩:=h
 exact ⟨es,clock,seen,h1.trans a1,a2,h2.trans a3,a4,a5⟩
theorem IterAt.lt {w:World} {r b:Nat} {L left:List (Int×Value)} {last:Option (Int×Value)} (h:IterAt w r b L left last):r<w.heap.size:=by
 obtain ⟨_,_,_,_,_,h1,_⟩:=h
 exact (Array.getElem?_eq_some_iff.1 h1).1
theorem run_range_map {P:Program} {t k e:Nat} {z:Value} (T:MapT P t k e z) {w:World} {b:Nat} {L:List (Int×Value)} (h:MapAt w b L) :
  ∃ o,(Instr.range t (.map (some b))).run P w=.ok (.pointer (some ⟨w.heap.size,0,none⟩)) (w.alloc o)∧IterAt (w.alloc o) w.heap.size b L L none:=by
 have hlt:=h.lt
 obtain ⟨es,clock,hb,hs⟩:=h
 refine ⟨.mapIter (some b) clock #[] clock,?_,es,clock,#[],?_,hs,?_,?_,by simp⟩
 ·simp only [Instr.range]
  simp [run_underlying T.under,getObj,newObj,Sem.run,hb,go_sem]
 ·show (w.heap.push _)[b]?=_;rw [Array.getElem?_push,if_neg (by omega)];exact hb
 ·show (w.heap.push _)[w.heap.size]?=_;simp
 ·rw [List.filter_eq_self.2 (by simp)];exact hs.eq

/-- what a step of the range leaves -/
inductive Stepped (w:World) (r b:Nat) (L left:List (Int×Value)):Value→World→Prop
 | over (w':World) (hl:left=[]) (hw:Below w.heap.size w w') (hh:w'.heap=w.heap):Stepped w r b L left (.tuple #[.bool false]) w'
 | one (w':World) (a:Int) (v:Value) (pre post:List (Int×Value)) (hl:left=pre++(a,v)::post) (hi:IterAt w' r b L (pre++post) (some (a,v))) (hf:Fr (·=r) w w'):Stepped w r b L left (.tuple #[.bool true,.int .i64 a,v]) w'

theorem filter_push {es:List MapEntry} {seen:Array Nat} {pre post:List MapEntry} {e:MapEntry} (hr:es.Pairwise (fun x y=>x.born<y.born)) (h:es.filter (fun x=>!seen.contains x.born)=pre++e::post) :
  es.filter (fun x=>!(seen.push e.born).contains x.born)=pre++post:=by
 have h1:es.filter (fun x=>!(seen.push e.born).contains x.born)=(es.filter (fun x=>!seen.contains x.born)).filter (fun x=>x.born != e.born):=by
  rw [List.filter_filter]
  refine List.filter_congr fun x _=>?_
  simp only [Array.contains_push,Bool.not_or]
  cases h:(seen.contains x.born)<;>simp [bne,BEq.comm]
 have h2:(pre++e::post).Pairwise (fun x y=>x.born<y.born):=by rw [←h];exact hr.filter _
 rw [h1,h,List.filter_append,List.filter_cons]
 rw [List.pairwise_append] at h2
 obtain ⟨_,h3,h4⟩:=h2
 rw [List.pairwise_cons] at h3
 have e1:pre.filter (fun x=>x.born != e.born)=pre:=List.filter_eq_self.2 fun x hx=>by have:=h4 x hx e List.mem_cons_self;simp;omega
 have e2:post.filter (fun x=>x.born != e.born)=post:=List.filter_eq_self.2 fun x hx=>by have:=h3.1 x hx;simp;omega
 rw [e1,e2];simp

theorem split_map {es:List MapEntry} {left:List (Int×Value)} {i:Nat} {e:MapEntry} (h:es.map kv=left.map vk) (hi:es[i]?=some e) :
  ∃ a pre post epre epost,left=pre++(a,e.val)::post∧e.key=.int .i64 a∧es=epre++e::epost∧epre.map kv=pre.map vk∧epost.map kv=post.map vk:=by
 have hlen:es.length=left.length:=by have:=congrArg List.length h;simpa using this
 obtain ⟨hlt,he⟩:=List.getElem?_eq_some_iff.1 hi
 have hlt':i<left.length:=by omega
 have hkv:kv e=vk left[i]:=by
  have h1:(es.map kv)[i]?=(left.map vk)[i]?:=by rw [h]
  simpa [hlt,hlt',he] using h1
 refine ⟨left[i].1,left.take i,left.drop (i+1),es.take i,es.drop (i+1),?_,congrArg Prod.fst hkv,?_,?_,?_⟩
 ·have h2:e.val=left[i].2:=congrArg Prod.snd hkv
  have:(left[i].1,e.val)=left[i]:=by rw [h2]
  rw [this];simp
 ·rw [←he];simp
 ·rw [List.map_take,h,List.map_take]
 ·rw [List.map_drop,h,List.map_drop]

theorem setBlock_eq (w:World) (r:Nat) (o:Obj):ChangeMaps.setBlock w r o=setBlk w r o:=rfl

theorem run_next {P:Program} {w:World} {r b:Nat} {L left:List (Int×Value)} {last:Option (Int×Value)} (h:IterAt w r b L left last) (ty:TypeId) :
  ∃ v w',(Instr.next (.pointer (some ⟨r,0,none⟩)) false ty).run P w=.ok v w'∧Stepped w r b L left v w':=by
 have hne:=h.ne
 have hrl:=h.lt
 obtain ⟨es,clock,seen,hb,hs,hr,hleft,hlast⟩:=h
 have hfl:(leftOf es seen).toList=es.toList.filter fun e=>!seen.contains e.born:=by simp [leftOf]
 rcases run_next_at (P:=P) w ty r b clock clock seen es clock hr hb hs.old (Nat.le_refl _) with ⟨h0,hrun⟩ | ⟨e,he,w1,hw1,hrun⟩
 ·refine ⟨_,w,hrun,.over w ?_ (Below.refl _ _) rfl⟩
  have hn:(leftOf es seen).toList=[]:=by
   have:(leftOf es seen)=#[]:=Array.eq_empty_of_size_eq_zero h0
   rw [this]
  rw [hfl] at hn
  rw [hn] at hleft
  simpa using hleft.symm
 ·rw [hfl] at he
  obtain ⟨i,hi⟩:=List.getElem?_of_mem he
  obtain ⟨a,pre,post,epre,epost,hl,hk,hes,hp1,hp2⟩:=split_map hleft hi
  have q1:w1.heap=w.heap:=by rcases hw1 with rfl | rfl<;>rfl
  have hrl1:r<w1.heap.size:=by rw [q1];exact hrl
  rw [hk,setBlock_eq] at hrun
  refine ⟨_,_,hrun,.one _ a e.val pre post hl ?_ ?_⟩
  ·refine ⟨es,clock,seen.push e.born,?_,hs,setBlk_at _ hrl1,?_,?_⟩
   ·rw [setBlk_ne _ (fun h=>hne h.symm),q1];exact hb
   ·rw [filter_push hs.rise hes,List.map_append,hp1,hp2,List.map_append]
   ·intro p hp
    cases hp
    exact ⟨e,(List.mem_filter.1 he).1,by simp [kv,vk,hk],by simp⟩
  ·refine ⟨?_,?_,?_,by simp [setBlk_size,q1],fun k _ hn=>by rw [setBlk_ne _ hn,q1]⟩<;>rcases hw1 with rfl | rfl<;>rfl

theorem born_inj {es:List MapEntry} (h:es.Pairwise (fun x y=>x.born<y.born)) {x y:MapEntry} (hx:x∈es) (hy:y∈es) (hb:x.born=y.born):x=y:=by
 induction es with
 | nil=>cases hx
 | cons e es ih =>
  rw [List.pairwise_cons] at h
  rcases List.mem_cons.1 hx with h1 | h1<;>rcases List.mem_cons.1 hy with h2 | h2
  ·rw [h1,h2]
  ·have:=h.1 y h2;rw [h1] at hb;omega
  ·have:=h.1 x h1;rw [h2] at hb;omega
  ·exact ih h.2 h1 h2

theorem run_entry {P:Program} {w:World} {r b:Nat} {L left:List (Int×Value)} {a:Int} {v:Value} (h:IterAt w r b L left (some (a,v))) :
  (Instr.entry (.pointer (some ⟨r,0,none⟩))).run P w=.ok (.tuple #[.int .i64 a,v]) w:=by
 obtain ⟨es,clock,seen,hb,hs,hr,hleft,hlast⟩:=h
 obtain ⟨e,he,hkv,hback⟩:=hlast _ rfl
 have hfind:es.find? (fun x=>x.born==e.born)=some e:=by
  rw [←Array.find?_toList]
  cases hq:es.toList.find? (fun x=>x.born==e.born) with
  | none=>rw [List.find?_eq_none] at hq;have:=hq e he;simp at this
  | some x =>
   have h1:=List.mem_of_find?_eq_some hq
   have h2:=List.find?_some hq
   simp at h2
   rw [born_inj hs.rise h1 he h2]
 have h1:e.key=.int .i64 a:=congrArg Prod.fst hkv
 have h2:e.val=v:=congrArg Prod.snd hkv
 simp only [Instr.entry]
 simp [getObj,Sem.run,hr,hb,go_sem,hback,hfind,h1,h2]

def delE (L:List (Int×Value)) (a:Int):List (Int×Value):=L.filter (fun p=>p.1 != a)

theorem erase_map {α β:Type} (f:α→β):∀ (l:List α) (j:Nat),(l.eraseIdx j).map f=(l.map f).eraseIdx j
 | [],_=>rfl
 | _::l,0=>rfl
 | x::l,j+1=>by simp [erase_map f l j]

theorem erase_shows {es:List MapEntry} {clock:Nat} {L:List (Int×Value)} {a:Int} {j:Nat} (h:Shows es clock L) (hj:L.findIdx? (fun x=>x.1==a)=some j):Shows (es.eraseIdx j) clock (delE L a):=by
 obtain ⟨h1,h2,h3,h4⟩:=h
 have hd:delE L a=L.eraseIdx j:=by
  clear h1 h3 h4
  induction L generalizing j with
  | nil=>simp at hj
  | cons p L ih =>
   simp only [List.map_cons,List.nodup_cons] at h2
   by_cases hpa:p.1=a
   ·simp [List.findIdx?_cons,hpa] at hj
    subst hj
    have:∀ q∈L,q.1≠a:=fun q hq hqa=>h2.1 (by rw [hpa,←hqa];exact List.mem_map_of_mem (f:=(·.1)) hq)
    simp only [delE,List.filter_cons,hpa,bne_self_eq_false,Bool.false_eq_true,if_false,List.eraseIdx_zero,List.tail_cons]
    exact List.filter_eq_self.2 fun q hq=>by simpa using this q hq
   ·have e2:(p.1==a)=false:=by simp [hpa]
    simp only [List.findIdx?_cons,e2] at hj
    cases hq:L.findIdx? (fun x=>x.1==a) with
    | none=>simp [hq] at hj
    | some j' =>
     simp [hq] at hj;subst hj
     simp only [delE,List.filter_cons,List.eraseIdx_cons_succ]
     rw [if_pos (by simpa using hpa)]
     have:=ih hq h2.2
     simp only [delE] at this
     rw [this]
 rw [hd]
 refine ⟨?_,?_,h3.sublist (List.eraseIdx_sublist ..),fun e he=>h4 e ((List.eraseIdx_sublist ..).mem he)⟩
 ·rw [erase_map,h1,erase_map]
 ·rw [erase_map];exact h2.sublist (List.eraseIdx_sublist ..)

/-- delete of a key that is there: its entry goes; whatever ranges over the map has the same still to come, if the key isn't among them. -/
theorem run_del {P:Program} {t k e:Nat} {z:Value} (T:MapT P t k e z) {w:World} {r b:Nat} {L left:List (Int×Value)} {a:Int} {v:Value} (h:IterAt w r b L left (some (a,v))) (hl:∀ p∈left,p.1≠a) (ty:TypeId) :
  ∃ o,(Builtin.delete_ #[t,k] ty #[.map (some b),.int .i64 a]).run P w=.ok (.tuple #[]) (setBlk w b o)∧IterAt (setBlk w b o) r b (delE L a) left none:=by
 have hne:=h.ne
 have hlt:=h.map.lt
 obtain ⟨es,clock,seen,hb,hs,hr,hleft,hlast⟩:=h
 obtain ⟨e0,he0,hkv0,_⟩:=hlast _ rfl
 have hf:=fun w=>run_findKey T w hs.eq a
 have hck:=run_checkKey T
 have hset:∀ o,(setObj b o).run P w=.ok () (setBlk w b o):=fun o=>by simp [setObj,Sem.run,hb,setBlk]
 have hmem:(a,v)∈L:=by
  have:kv e0∈es.toList.map kv:=List.mem_map_of_mem he0
  rw [hs.eq,hkv0] at this
  obtain ⟨q,hq,hqe⟩:=List.mem_map.1 this
  simp only [vk,Prod.mk.injEq,Value.int.injEq,true_and] at hqe
  have:q=(a,v):=Prod.ext hqe.1 hqe.2
  rw [←this];exact hq
 cases hj:L.findIdx? (fun x=>x.1==a) with
 | none=>rw [List.findIdx?_eq_none_iff] at hj;have:=hj _ hmem;simp at this
 | some j =>
  have hjl:j<L.length:=(List.findIdx?_eq_some_iff_getElem.1 hj).1
  refine ⟨.map (es.eraseIdxIfInBounds j) clock,?_,es.eraseIdxIfInBounds j,clock,seen,setBlk_at _ hlt,?_,?_,?_,by simp⟩
  ·simp only [Builtin.delete_]
   simp [run_underlying T.under,getObj,Sem.run,hb,go_sem,hck,hf,hj,List.getElem?_eq_getElem hjl,hset]
  ·rw [Array.toList_eraseIdxIfInBounds];exact erase_shows hs hj
  ·rw [setBlk_ne _ hne];exact hr
  ·rw [Array.toList_eraseIdxIfInBounds]
   have hel:j<es.toList.length:=by have:=congrArg List.length hs.eq;simp at this;simp;omega
   have hkey:(es.toList[j]).key=.int .i64 a:=by
    obtain ⟨_,hjp,_⟩:=List.findIdx?_eq_some_iff_getElem.1 hj
    have h1:(es.toList.map kv)[j]?=(L.map vk)[j]?:=by rw [hs.eq]
    rw [List.getElem?_map,List.getElem?_map,List.getElem?_eq_getElem hel,List.getElem?_eq_getElem hjl] at h1
    simp only [Option.map_some,Option.some.injEq,kv,vk,Prod.mk.injEq] at h1
    rw [h1.1];simp at hjp;rw [hjp]
   rw [←hleft]
   congr 1
   -- the erased entry isn't among those still to come
   have hsplit:es.toList=es.toList.take j++es.toList[j]::es.toList.drop (j+1):=by
    rw [←List.drop_eq_getElem_cons hel,List.take_append_drop]
   rw [List.eraseIdx_eq_take_drop_succ]
   conv=>rhs;rw [hsplit]
   rw [List.filter_append,List.filter_append,List.filter_cons]
   rw [if_neg]
   intro hc
   have hin:es.toList[j]∈es.toList.filter (fun e=>!seen.contains e.born):=List.mem_filter.2 ⟨List.getElem_mem _,hc⟩
   have hin2:kv es.toList[j]∈left.map vk:=by rw [←hleft];exact List.mem_map_of_mem hin
   obtain ⟨q,hq,hqe⟩:=List.mem_map.1 hin2
   simp only [vk,kv,hkey,Prod.mk.injEq,Value.int.injEq,true_and] at hqe
   exact hl q hq hqe.1

theorem run_len_map {P:Program} {t k e:Nat} {z:Value} (T:MapT P t k e z) {w:World} {b:Nat} {L:List (Int×Value)} (h:MapAt w b L) (ty:TypeId) :
  (Builtin.len_ #[t] ty #[.map (some b)]).run P w=.ok (.int .i64 L.length) w:=by
 obtain ⟨es,clock,hb,hs⟩:=h
 have:es.size=L.length:=by have:=congrArg List.length hs.eq;simpa using this
 simp only [Builtin.len_]
 simp [run_underlying T.under,getObj,Sem.run,hb,go_sem,goInt,this]

section
variable {P:Program} {t k e:Nat} {z:Value} {w:World} {ops:Array Oper} {rest:List Oper} {o:Oper} {a:Act} {Q:Exit→Act→World→Prop}

theorem wp_look (T:MapT P t k e z) (hgd:o.guard=none) (m x:Operand) (ho:o.op=.lookup t m x false) {b:Nat} {L:List (Int×Value)} (hm:a.eval m=.map (some b)) (x0:Int) (hx:a.eval x=.int .i64 x0) (h:MapAt w b L)
  (hk:wpList P ops Q rest (a.put o.dst ((lookE L x0).getD z)) w):wpList P ops Q (o::rest) a w:=by
 refine wpList_plain hgd fun K hK=>?_
 have hrun:=run_look T h x0
 unfold Oper.wp
 simp [execOp,ho,hm,hx,hrun,Result.andThen]
 exact hK _ _ hk

theorem wp_store (T:MapT P t k e z) (hgd:o.guard=none) (m x y:Operand) (ho:o.op=.mapUpdate t m x y) {b:Nat} {L:List (Int×Value)} (hm:a.eval m=.map (some b)) (x0:Int) (hx:a.eval x=.int .i64 x0) (v:Value) (hy:a.eval y=v) (h:MapAt w b L)
  (hk:∀ w',MapAt w' b (putE L x0 v)→Fr (·=b) w w'→w'.heap.size=w.heap.size→wpList P ops Q rest (a.put o.dst undef) w'):wpList P ops Q (o::rest) a w:=by
 refine wpList_plain hgd fun K hK=>?_
 obtain ⟨ob,hrun,hm'⟩:=run_store T h x0 v
 unfold Oper.wp
 simp [execOp,ho,hm,hx,hy,hrun,Result.andThen]
 exact hK _ _ (hk _ hm' (setBlk_fr _ _ _) (setBlk_size _ _ _))

theorem wp_range (T:MapT P t k e z) (hgd:o.guard=none) (m:Operand) (ho:o.op=.range t m) {b:Nat} {L:List (Int×Value)} (hm:a.eval m=.map (some b)) (h:MapAt w b L)
  (hk:∀ w',IterAt w' w.heap.size b L L none→Below w.heap.size w w'→w'.heap.size=w.heap.size+1→wpList P ops Q rest (a.put o.dst (.pointer (some ⟨w.heap.size,0,none⟩))) w'):wpList P ops Q (o::rest) a w:=by
 refine wpList_plain hgd fun K hK=>?_
 obtain ⟨ob,hrun,hi⟩:=run_range_map T h
 unfold Oper.wp
 simp [execOp,ho,hm,hrun,Result.andThen]
 exact hK _ _ (hk _ hi ((Below.refl _ _).alloc (Nat.le_refl _) _) (by simp))

theorem wp_next (hgd:o.guard=none) (it:Operand) (ho:o.op=.next it false) {r b:Nat} {L left:List (Int×Value)} {last:Option (Int×Value)} (hm:a.eval it=.pointer (some ⟨r,0,none⟩)) (h:IterAt w r b L left last)
  (hover:left=[]→∀ w',Below w.heap.size w w'→w'.heap=w.heap→wpList P ops Q rest (a.put o.dst (.tuple #[.bool false])) w')
  (hone:∀ w' x v pre post,left=pre++(x,v)::post→IterAt w' r b L (pre++post) (some (x,v))→Fr (·=r) w w'→wpList P ops Q rest (a.put o.dst (.tuple #[.bool true,.int .i64 x,v])) w'):wpList P ops Q (o::rest) a w:=by
 refine wpList_plain hgd fun K hK=>?_
 obtain ⟨v,w',hrun,hs⟩:=run_next (P:=P) h o.type
 unfold Oper.wp
 simp [execOp,ho,hm,hrun,Result.andThen]
 cases hs with
 | over _ hl hw hh=>exact hK _ _ (hover hl _ hw hh)
 | one _ x v pre post hl hi hf=>exact hK _ _ (hone _ _ _ _ _ hl hi hf)

theorem wp_entry (hgd:o.guard=none) (it:Operand) (ho:o.op=.entry it) {r b:Nat} {L left:List (Int×Value)} {x:Int} {v:Value} (hm:a.eval it=.pointer (some ⟨r,0,none⟩)) (h:IterAt w r b L left (some (x,v)))
  (hk:wpList P ops Q rest (a.put o.dst (.tuple #[.int .i64 x,v])) w):wpList P ops Q (o::rest) a w:=by
 refine wpList_plain hgd fun K hK=>?_
 have hrun:=run_entry (P:=P) h
 unfold Oper.wp
 simp [execOp,ho,hm,hrun,Result.andThen]
 exact hK _ _ hk

theorem wp_len (T:MapT P t k e z) (hgd:o.guard=none) (m:Operand) (ho:o.op=.call { callee:=.builtin .len,args:=#[m],argTypes:=#[t]}) {b:Nat} {L:List (Int×Value)} (hm:a.eval m=.map (some b)) (h:MapAt w b L)
  (hk:wpList P ops Q rest (a.put o.dst (.int .i64 L.length)) w):wpList P ops Q (o::rest) a w:=by
 refine wpList_plain hgd fun K hK=>?_
 have hrun:=run_len_map T h o.type
 unfold Oper.wp
 simp [execOp,ho,resolve,invoke,builtin,hm,hrun,Result.andThen]
 exact hK _ _ hk

theorem wp_del (T:MapT P t k e z) (hgd:o.guard=none) (m x:Operand) (ho:o.op=.call { callee:=.builtin .delete,args:=#[m,x],argTypes:=#[t,k]}) {r b:Nat} {L left:List (Int×Value)} {x0:Int} {v:Value} (hm:a.eval m=.map (some b)) (hx:a.eval x=.int .i64 x0)
  (h:IterAt w r b L left (some (x0,v))) (hl:∀ p∈left,p.1≠x0)
  (hk:∀ w',IterAt w' r b (delE L x0) left none→Fr (·=b) w w'→w'.heap.size=w.heap.size→wpList P ops Q rest (a.put o.dst (.tuple #[])) w'):wpList P ops Q (o::rest) a w:=by
 refine wpList_plain hgd fun K hK=>?_
 obtain ⟨ob,hrun,hi⟩:=run_del T h hl o.type
 unfold Oper.wp
 simp [execOp,ho,resolve,invoke,builtin,hm,hx,hrun,Result.andThen]
 exact hK _ _ (hk _ hi (setBlk_fr _ _ _) (setBlk_size _ _ _))
end


section
variable {H:Type} {enc:TypeId×Value→H} {P:Program} {w:World}

/-- these cells, of that type, can be read as data -/
def Rd (enc:TypeId×Value→H) (P:Program) (w:World) (t:TypeId) (cs:List Value):Prop:=∃ fuel x,DataW.trod enc P w 0 (fun _=>true) true fuel t cs=some x

theorem Rd.of_trod {t:TypeId} {v:Value} {d:DataW H} {p:List MemPlace} (h:DataW.Trod enc P w 0 (fun _=>true) true t v d p):Rd enc P w t v.cells.toList:=by
 obtain ⟨fuel,h⟩:=h
 exact ⟨fuel,_,h⟩
theorem Rd.int {t:TypeId} {k:IntKind} {cs:List Value} (ht:P.underlying t=some (.int k)) (h:Rd enc P w t cs):∃ n,cs=[.int k n]∧(Lit.int k n).wf=true:=by
 obtain ⟨f,x,h⟩:=h
 obtain ⟨n,h1,_,h2⟩:=DataW.trod_int ht h
 exact ⟨n,h1,h2⟩
theorem Rd.bool {t:TypeId} {cs:List Value} (ht:P.underlying t=some .bool) (h:Rd enc P w t cs):∃ b,cs=[.bool b]:=by
 obtain ⟨f,x,h⟩:=h
 obtain ⟨n,h1,_⟩:=DataW.trod_bool ht h
 exact ⟨n,h1⟩
theorem Rd.struct {t:TypeId} {fs:Array Field} {cs:List Value} (ht:P.underlying t=some (.struct fs)) (h:Rd enc P w t cs) :
  cs.length=P.cellsOf t∧∀ (i:Nat) (f:Field),fs[i]?=some f→Rd enc P w f.type ((cs.drop f.offset).take (P.cellsOf f.type)):=by
 obtain ⟨f,x,h⟩:=h
 obtain ⟨xs,n,_,_,h1,h2,h3⟩:=DataW.trod_struct ht h
 refine ⟨h1,fun i f hf=>⟨n,xs[i]'?_,?_⟩⟩
 ·rw [h2];exact (Array.getElem?_eq_some_iff.1 hf).1
 ·rw [h3 i f hf];exact List.getElem?_eq_getElem _
theorem add_add' (a:Addr) (i j:Nat):(a.add i).add j=a.add (i+j):=Go.Deep.add_add a i j

theorem flat_len {α:Type} {f:α→List Value} {s:Nat} (hf:∀ x,(f x).length=s) (X:List α):(X.flatMap f).length=X.length*s:=by
 induction X with
 | nil=>simp
 | cons x X ih=>rw [List.flatMap_cons,List.length_append,hf,ih,List.length_cons,Nat.add_mul];omega
theorem flat_get {α:Type} {f:α→List Value} {s:Nat} (hf:∀ x,(f x).length=s) (X:List α) (k:Nat) (hk:k<X.length) (j:Nat) (hj:j<s):(X.flatMap f)[k*s+j]?=(f X[k])[j]?:=by
 induction X generalizing k with
 | nil=>simp at hk
 | cons x X ih =>
  rw [List.flatMap_cons]
  cases k with
  | zero=>rw [List.getElem?_append_left (by rw [hf];omega)];simp
  | succ k =>
   rw [List.getElem?_append_right (by rw [hf,Nat.add_mul];omega),hf]
   have:=ih k (by simpa using hk)
   simp only [List.getElem_cons_succ]
   rw [←this]
   congr 1
   rw [Nat.add_mul];omega
/-- the other way: a cell of all is a cell of one -/
theorem flat_at {α:Type} {f:α→List Value} {s:Nat} (hf:∀ x,(f x).length=s) (hs:0<s) (X:List α) (i:Nat) (u:Value) (hu:(X.flatMap f)[i]?=some u) :
  ∃ k j,∃ hk:k<X.length,j<s∧i=k*s+j∧(f X[k])[j]?=some u:=by
 have hi:i<X.length*s:=by rw [←flat_len hf X];exact (List.getElem?_eq_some_iff.1 hu).1
 have hk:i / s<X.length:=Nat.div_lt_of_lt_mul (by rw [Nat.mul_comm];exact hi)
 have hj:i % s<s:=Nat.mod_lt _ hs
 have he:i=i / s*s+i % s:=by rw [Nat.mul_comm];exact (Nat.div_add_mod i s).symm
 refine ⟨i / s,i % s,hk,hj,he,?_⟩
 rw [←flat_get hf X _ hk _ hj,←he];exact hu

/-- a slice, its elements by their cells -/
theorem Rd.slice {t e:TypeId} {cs:List Value} (ht:P.underlying t=some (.slice e)) (hpos:0<P.cellsOf e) (h:Rd enc P w t cs) :
  ∃ (a:Option Addr) (n c:Nat) (R:List (List Value)),cs=[.slice a n c]∧R.length=n∧SlV w (.slice a n c) n R.flatten∧∀ r∈R,r.length=P.cellsOf e∧Rd enc P w e r:=by
 obtain ⟨f,x,h⟩:=h
 rcases Go.Deep.open_slice ht h with ⟨rfl,_⟩ | ⟨a,len,cap,m,n,D,Pl,rfl,_,hl,hm,hmm,_,hx⟩
 ·exact ⟨none,0,0,[],rfl,rfl,SlV.empty _ _ _ (Nat.zero_le _) (fun _=>rfl),by simp⟩
 ·have hmm':m=cap:=by rw [hmm];simp
  obtain ⟨R,hR⟩:=Go.Deep.choose_lt (α:=List Value) (p:=fun i cs'=>w.cells? 0 (a.add (i*P.cellsOf e)) (P.cellsOf e)=some cs'∧DataW.trod enc P w 0 (fun _=>true) true n e cs'=some (D i,Pl i)) hx
  refine ⟨some a,len,cap,(List.range len).map R,rfl,by simp,⟨_,_,rfl,hl,hm,by simp,fun j u hu=>⟨a,rfl,?_⟩⟩,?_⟩
  ·rw [←List.flatMap_def] at hu
   have hlen:∀ i,i<len→(R i).length=P.cellsOf e:=fun i hi=>(World.cells?_some (hR i (by omega)).1).2.1
   -- the cells of the whole row
   have hf:∀ i:Fin len,(R i.1).length=P.cellsOf e:=fun i=>hlen i.1 i.2
   have hfm:(List.range len).flatMap R=(List.finRange len).flatMap (fun i:Fin len=>R i.1):=by
    rw [List.flatMap_def,List.flatMap_def];congr 1
    apply List.ext_getElem<;>simp
   rw [hfm] at hu
   obtain ⟨k,jj,hk,hj,he,hg⟩:=flat_at (f:=fun i:Fin len=>R i.1) hf hpos _ _ _ hu
   have hk':k<len:=by simpa using hk
   obtain ⟨_,h1,h2⟩:=World.cells?_some (hR k (by omega)).1
   rw [he,←add_add',h2 jj hj]
   simpa using hg
  ·intro r hr
   obtain ⟨i,hi,rfl⟩:=List.mem_map.1 hr
   have hi':i<len:=by simpa using hi
   exact ⟨(World.cells?_some (hR i (by omega)).1).2.1,n,_,(hR i (by omega)).2⟩

/-- from 'each one is of this form' to one list -/
theorem rows_of {α:Type} {f:α→List Value} {p:α→Prop} {R:List (List Value)} (h:∀ r∈R,∃ x,r=f x∧p x):∃ X:List α,R=X.map f∧∀ x∈X,p x:=by
 induction R with
 | nil=>exact ⟨[],rfl,by simp⟩
 | cons r R ih =>
  obtain ⟨x,hx,hp⟩:=h r List.mem_cons_self
  obtain ⟨X,hX,hP⟩:=ih fun r hr=>h r (List.mem_cons_of_mem _ hr)
  exact ⟨x::X,by rw [hx,hX];rfl,fun y hy=>by rcases List.mem_cons.1 hy with rfl | hy;exact hp;exact hP y hy⟩
/-- .. : the slice's cells as rows -/
theorem Rd.rows {α:Type} {f:α→List Value} {p:α→Prop} {t e:TypeId} {cs:List Value} (ht:P.underlying t=some (.slice e)) (hpos:0<P.cellsOf e) (h:Rd enc P w t cs)
  (hf:∀ r,r.length=P.cellsOf e→Rd enc P w e r→∃ x,r=f x∧p x):∃ (a:Option Addr) (c:Nat) (X:List α),cs=[.slice a X.length c]∧SlV w (.slice a X.length c) X.length (X.flatMap f)∧∀ x∈X,p x:=by
 obtain ⟨a,n,c,R,h1,h2,h3,h4⟩:=Rd.slice ht hpos h
 obtain ⟨X,hX,hP⟩:=rows_of fun r hr=>hf r (h4 r hr).1 (h4 r hr).2
 subst hX
 have hn:n=X.length:=by rw [←h2];simp
 subst hn
 exact ⟨a,c,X,h1,by rw [List.flatMap_def];exact h3,hP⟩
theorem map_one:∀ X:List UInt8,X.map byteV=X.flatMap (fun b=>[byteV b])
 | []=>rfl
 | x::X=>by rw [List.map_cons,List.flatMap_cons,map_one X];rfl
theorem Rd.bytes {t e:TypeId} {cs:List Value} (ht:P.underlying t=some (.slice e)) (he:P.underlying e=some (.int .u8)) (hc:P.cellsOf e=1) (h:Rd enc P w t cs) :
  ∃ (a:Option Addr) (c:Nat) (l:List UInt8),cs=[.slice a l.length c]∧Bytes w (.slice a l.length c) l:=by
 obtain ⟨a,c,X,h1,h2,_⟩:=Rd.rows (f:=fun b:UInt8=>[byteV b]) (p:=fun _=>True) ht (by rw [hc];decide) h (fun r _ hr=>by
  obtain ⟨n,rfl,hw⟩:=Rd.int he hr
  have hb:=bounds_u8 hw
  refine ⟨UInt8.ofNat n.toNat,?_,trivial⟩
  simp only [byteV,List.cons.injEq,and_true,Value.int.injEq,true_and]
  rw [UInt8.toNat_ofNat']
  omega)
 exact ⟨a,c,X,h1,by unfold Bytes byteVs;rw [show X.map byteV=X.flatMap (fun b=>[byteV b]) from map_one X];exact h2⟩
end

/-- one of the rows of a slice -/
theorem SlV.row {α:Type} {f:α→List Value} {s:Nat} (hf:∀ x,(f x).length=s) (hs:0<s) {w:World} {a:Option Addr} {n c:Nat} {X:List α} (h:SlV w (.slice a n c) n (X.flatMap f)) {k:Nat} (hk:k<X.length) :
  ∃ b off,a=some ⟨b,off,none⟩∧b<w.heap.size∧∀ j u,(f X[k])[j]?=some u→w.cell? ⟨b,off+k*s+j,none⟩=some u:=by
 obtain ⟨a',c',he,h1,h2,h0,h3⟩:=h
 cases he
 have h00:0<X.length:=by omega
 have hl:0<(f X[0]).length:=by rw [hf];exact hs
 obtain ⟨p,hp,hc⟩:=h3 0 _ (by have:=flat_get hf X 0 h00 0 hs;rw [Nat.zero_mul] at this;rw [this];exact List.getElem?_eq_getElem hl)
 have hb:=cell_lt hc
 rw [add_block] at hb
 obtain ⟨b,off,sp⟩:=p
 have hadd:∀ b o j:Nat,(⟨b,o,none⟩:Addr).add j=⟨b,o+j,none⟩:=fun b o j=>by unfold Addr.add;split<;>simp_all
 have hsp:sp=none:=by
  cases sp with
  | none=>rfl
  | some x=>simp [World.cell?,Addr.add] at hc;split at hc<;>simp at hc
 subst hsp
 refine ⟨b,off,hp,hb,fun j u hu=>?_⟩
 have hj:j<s:=by rw [←hf X[k]];exact (List.getElem?_eq_some_iff.1 hu).1
 obtain ⟨q,hq,hcq⟩:=h3 (k*s+j) u (by rw [flat_get hf X k hk j hj];exact hu)
 rw [hp] at hq;cases hq
 rw [hadd] at hcq
 rw [Nat.add_assoc];exact hcq

/-- what is told of some blocks -/
structure Asn where
 holds:World→Prop
 foot:Nat→Prop
 lt:∀ w,holds w→∀ b,foot b→b<w.heap.size
 keep:∀ w w',holds w→(∀ b,foot b→w'.heap[b]?=w.heap[b]?)→holds w'

def Asn.box (N:Nat) (R:List Value) (t:Nat):Asn where
 holds:=BoxW N R t
 foot:=fun b=>b=N
 lt:=fun _ h b e=>by subst e;exact h.lt
 keep:=fun _ _ h k=>(k N rfl).trans h

def Asn.row (e size:Nat) (v:Value) (n:Nat) (xs:List Value):Asn where
 holds:=fun w=>w.ownsRow 0 e size v n xs
 foot:=fun b=>v.ownBlock=some b
 lt:=fun _ h b e=>(own_blk h e).2
 keep:=fun w w' h k=>by
  obtain ⟨h1,h2⟩:=h
  refine ⟨h1,?_⟩
  rcases h2 with h2 | ⟨g,cap,cur,hv,hg,hh,r⟩
  ·exact Or.inl h2
  ·exact Or.inr ⟨g,cap,cur,hv,hg,by rw [k g (by rw [hv];rfl)];exact hh,r⟩

def Asn.emp:Asn where
 holds:=fun _=>True
 foot:=fun _=>False
 lt:=fun _ _ _ h=>h.elim
 keep:=fun _ _ _ _=>trivial

/-- two parts that lie apart -/
def Asn.sep (A B:Asn):Asn where
 holds:=fun w=>A.holds w∧B.holds w∧∀ b,A.foot b→¬B.foot b
 foot:=fun b=>A.foot b∨B.foot b
 lt:=fun w h b e=>e.elim (A.lt w h.1 b) (B.lt w h.2.1 b)
 keep:=fun w w' h k=>⟨A.keep w w' h.1 (fun b hb=>k b (.inl hb)),B.keep w w' h.2.1 (fun b hb=>k b (.inr hb)),h.2.2⟩

def Asn.all:List Asn→Asn
 | []=>Asn.emp
 | A::L=>A.sep (Asn.all L)

theorem Asn.all_foot {L:List Asn} {b:Nat}:(Asn.all L).foot b↔∃ A∈L,A.foot b:=by
 induction L with
 | nil=>simp [Asn.all,Asn.emp]
 | cons A L ih=>simp [Asn.all,Asn.sep,ih]
theorem Asn.all_holds {L:List Asn} {w:World}:(Asn.all L).holds w↔(∀ A∈L,A.holds w)∧L.Pairwise (fun A B=>∀ b,A.foot b→¬B.foot b):=by
 induction L with
 | nil=>simp [Asn.all,Asn.emp]
 | cons A L ih =>
  simp only [Asn.all,Asn.sep,ih,Asn.all_foot,List.mem_cons,List.pairwise_cons,forall_eq_or_imp]
  constructor
  ·rintro ⟨h1,⟨h2,h3⟩,h4⟩
   exact ⟨⟨h1,h2⟩,fun B hB b hb hc=>h4 b hb ⟨B,hB,hc⟩,h3⟩
  ·rintro ⟨⟨h1,h2⟩,h3,h4⟩
   exact ⟨h1,⟨h2,h4⟩,fun b hb ⟨B,hB,hc⟩=>h3 B hB b hb hc⟩

/-- The world w, come of w0: of w0's blocks but those of F may have been written; the parts L hold, lie apart, and lie in new blocks, or in F. -/
structure Sep (w0:World) (F:Nat→Prop) (L:List Asn) (w:World):Prop where
 fr:Fr F w0 w
 each:∀ A∈L,A.holds w
 apart:L.Pairwise (fun A B=>∀ b,A.foot b→¬B.foot b)
 new:∀ A∈L,∀ b,A.foot b→w0.heap.size≤b∨F b

/-- no old block is written -/
def NoF:Nat→Prop:=fun _=>False

theorem Sep.start (w:World):Sep w NoF [] w:=⟨Fr.refl _ _,by simp,List.Pairwise.nil,by simp⟩
theorem Sep.start1 {w:World} (A:Asn) (h:A.holds w):Sep w A.foot [A] w :=
 ⟨Fr.refl _ _,by simpa using h,List.pairwise_singleton _ _,by simp only [List.mem_singleton];rintro B rfl b hb;exact .inr hb⟩
theorem Sep.start2 {w:World} (A B:Asn) (h:(A.sep B).holds w):Sep w (A.sep B).foot [A,B] w :=
 ⟨Fr.refl _ _,by simp only [List.mem_cons,List.not_mem_nil,or_false];rintro C (rfl | rfl);exact h.1;exact h.2.1,by simp [List.pairwise_cons];exact h.2.2,by simp only [List.mem_cons,List.not_mem_nil,or_false];rintro C (rfl | rfl) b hb;exact .inr (.inl hb);exact .inr (.inr hb)⟩

theorem Sep.perm {w0 w:World} {F:Nat→Prop} {L L':List Asn} (h:Sep w0 F L w) (p:L.Perm L'):Sep w0 F L' w :=
 ⟨h.fr,fun A hA=>h.each A (p.mem_iff.2 hA),(p.pairwise_iff (fun {x y} hxy b hb hc=>hxy b hc hb)).1 h.apart,fun A hA=>h.new A (p.mem_iff.2 hA)⟩

theorem perm_get {α:Type}:∀ {L:List α} {i:Nat} {A:α},L[i]?=some A→L.Perm (A::L.eraseIdx i)
 | [],i,A,h=>by simp at h
 | B::L,0,A,h=>by simp at h;subst h;exact List.Perm.refl _
 | B::L,i+1,A,h=>by
  have h':L[i]?=some A:=by simpa using h
  exact ((perm_get h').cons B).trans (List.Perm.swap A B _)

/-- the part at i goes to the head -/
theorem Sep.focus {w0 w:World} {F:Nat→Prop} {L:List Asn} (h:Sep w0 F L w) (i:Nat) {A:Asn} (hi:L[i]?=some A):Sep w0 F (A::L.eraseIdx i) w:=h.perm (perm_get hi)

theorem Sep.at {w0 w:World} {F:Nat→Prop} {L:List Asn} (h:Sep w0 F L w) (i:Nat) {A:Asn} (hi:L[i]?=some A):A.holds w:=h.each A (List.mem_of_getElem? hi)
theorem Sep.box {w0 w:World} {F:Nat→Prop} {L:List Asn} (h:Sep w0 F L w) (i:Nat) {N:Nat} {R:List Value} {t:Nat} (hi:L[i]?=some (.box N R t)):BoxW N R t w:=h.at i hi
theorem Sep.cell {w0 w:World} {F:Nat→Prop} {L:List Asn} (h:Sep w0 F L w) (i:Nat) {N:Nat} {R:List Value} {t:Nat} (hi:L[i]?=some (.box N R t)) (j:Nat) {v:Value} (hj:R[j]?=some v):w.cell? ⟨N,j,none⟩=some v:=(h.box i hi).box.1 j v hj
theorem Sep.free {w0 w:World} {F:Nat→Prop} {L:List Asn} (h:Sep w0 F L w) (i:Nat) {N:Nat} {R:List Value} {t:Nat} (hi:L[i]?=some (.box N R t)) (j:Nat):w.frozen? ⟨N,j,none⟩=false:=(h.box i hi).box.2.1 j
theorem Sep.lt {w0 w:World} {F:Nat→Prop} {L:List Asn} (h:Sep w0 F L w) (i:Nat) {N:Nat} {R:List Value} {t:Nat} (hi:L[i]?=some (.box N R t)):N<w.heap.size:=(h.box i hi).lt
theorem Sep.lt' {w0 w:World} {F:Nat→Prop} {L:List Asn} (h:Sep w0 F L w) (i:Nat) {A:Asn} (hi:L[i]?=some A) {b:Nat} (hb:A.foot b):b<w.heap.size:=A.lt w (h.at i hi) b hb
theorem Sep.row {w0 w:World} {F:Nat→Prop} {L:List Asn} (h:Sep w0 F L w) (i:Nat) {e size n:Nat} {v:Value} {xs:List Value} (hi:L[i]?=some (.row e size v n xs)):w.ownsRow 0 e size v n xs:=h.at i hi

/-- two parts lie apart -/
theorem Sep.off {w0 w:World} {F:Nat→Prop} {L:List Asn} (h:Sep w0 F L w) (i j:Nat) {A B:Asn} (hi:L[i]?=some A) (hj:L[j]?=some B) (hij:i≠j):∀ b,A.foot b→¬B.foot b:=by
 obtain ⟨hi',rfl⟩:=List.getElem?_eq_some_iff.1 hi
 obtain ⟨hj',rfl⟩:=List.getElem?_eq_some_iff.1 hj
 have hp:=List.pairwise_iff_getElem.1 h.apart
 rcases Nat.lt_or_gt_of_ne hij with h1 | h1
 ·exact hp i j hi' hj' h1
 ·exact fun b hb hc=>hp j i hj' hi' h1 b hc hb
/-- parts that nobody asks for any more -/
theorem Sep.keepOnly {w0 w:World} {F:Nat→Prop} {L L':List Asn} (h:Sep w0 F L w) (hs:L'.Sublist L):Sep w0 F L' w :=
 ⟨h.fr,fun A hA=>h.each A (hs.mem hA),h.apart.sublist hs,fun A hA=>h.new A (hs.mem hA)⟩
theorem Sep.drop {w0 w:World} {F:Nat→Prop} {L:List Asn} (h:Sep w0 F L w) (i:Nat):Sep w0 F (L.eraseIdx i) w:=h.keepOnly (List.eraseIdx_sublist ..)
theorem Sep.tail {w0 w:World} {F:Nat→Prop} {A:Asn} {L:List Asn} (h:Sep w0 F (A::L) w):Sep w0 F L w:=h.keepOnly (List.sublist_cons_self _ _)

/-- the head is told of in other words -/
theorem Sep.turn {w0 w:World} {F:Nat→Prop} {A B:Asn} {L:List Asn} (h:Sep w0 F (A::L) w) (hB:B.holds w) (hf:∀ b,B.foot b→A.foot b):Sep w0 F (B::L) w:=by
 obtain ⟨h1,h2⟩:=List.pairwise_cons.1 h.apart
 refine ⟨h.fr,?_,List.pairwise_cons.2 ⟨fun C hC b hb=>h1 C hC b (hf b hb),h2⟩,?_⟩
 ·intro C hC
  rcases List.mem_cons.1 hC with rfl | hC
  ·exact hB
  ·exact h.each C (List.mem_cons_of_mem _ hC)
 ·intro C hC b hb
  rcases List.mem_cons.1 hC with rfl | hC
  ·exact h.new A List.mem_cons_self b (hf b hb)
  ·exact h.new C (List.mem_cons_of_mem _ hC) b hb
/-- two parts as one -/
theorem Sep.join {w0 w:World} {F:Nat→Prop} {A B:Asn} {L:List Asn} (h:Sep w0 F (A::B::L) w):Sep w0 F (A.sep B::L) w:=by
 obtain ⟨h1,h2⟩:=List.pairwise_cons.1 h.apart
 obtain ⟨h3,h4⟩:=List.pairwise_cons.1 h2
 refine ⟨h.fr,?_,List.pairwise_cons.2 ⟨?_,h4⟩,?_⟩
 ·intro C hC
  rcases List.mem_cons.1 hC with rfl | hC
  ·exact ⟨h.each A List.mem_cons_self,h.each B (List.mem_cons_of_mem _ List.mem_cons_self),h1 B List.mem_cons_self⟩
  ·exact h.each C (List.mem_cons_of_mem _ (List.mem_cons_of_mem _ hC))
 ·rintro C hC b (hb | hb)
  ·exact h1 C (List.mem_cons_of_mem _ hC) b hb
  ·exact h3 C hC b hb
 ·intro C hC b hb
  rcases List.mem_cons.1 hC with rfl | hC
  ·rcases hb with hb | hb
   ·exact h.new A List.mem_cons_self b hb
   ·exact h.new B (List.mem_cons_of_mem _ List.mem_cons_self) b hb
  ·exact h.new C (List.mem_cons_of_mem _ (List.mem_cons_of_mem _ hC)) b hb
/-- one part as two -/
theorem Sep.part {w0 w:World} {F:Nat→Prop} {A B:Asn} {L:List Asn} (h:Sep w0 F (A.sep B::L) w):Sep w0 F (A::B::L) w:=by
 obtain ⟨h1,h2⟩:=List.pairwise_cons.1 h.apart
 obtain ⟨a,b,c⟩:=h.each _ List.mem_cons_self
 refine ⟨h.fr,?_,List.pairwise_cons.2 ⟨?_,List.pairwise_cons.2 ⟨fun C hC b hb=>h1 C hC b (.inr hb),h2⟩⟩,?_⟩
 ·intro C hC
  rcases List.mem_cons.1 hC with rfl | hC
  ·exact a
  ·rcases List.mem_cons.1 hC with rfl | hC
   ·exact b
   ·exact h.each C (List.mem_cons_of_mem _ hC)
 ·intro C hC k hk
  rcases List.mem_cons.1 hC with rfl | hC
  ·exact c k hk
  ·exact h1 C hC k (.inl hk)
 ·intro C hC k hk
  rcases List.mem_cons.1 hC with rfl | hC
  ·exact h.new _ List.mem_cons_self k (.inl hk)
  ·rcases List.mem_cons.1 hC with rfl | hC
   ·exact h.new _ List.mem_cons_self k (.inr hk)
   ·exact h.new C (List.mem_cons_of_mem _ hC) k hk

/-- what is told of no block -/
theorem Sep.addEmp {w0 w:World} {F:Nat→Prop} {A:Asn} {L:List Asn} (h:Sep w0 F L w) (hA:A.holds w) (hf:∀ b,¬A.foot b):Sep w0 F (A::L) w:=by
 refine ⟨h.fr,?_,List.pairwise_cons.2 ⟨fun C hC b hb=>absurd hb (hf b),h.apart⟩,?_⟩
 ·intro C hC
  rcases List.mem_cons.1 hC with rfl | hC
  ·exact hA
  ·exact h.each C hC
 ·intro C hC b hb
  rcases List.mem_cons.1 hC with rfl | hC
  ·exact absurd hb (hf b)
  ·exact h.new C hC b hb

/-- a call that takes the head, and leaves the parts K -/
theorem Sep.call {w0 w w':World} {F:Nat→Prop} {A:Asn} {L K:List Asn} (h:Sep w0 F (A::L) w) (k:Sep w A.foot K w'):Sep w0 F (K++L) w':=by
 obtain ⟨h1,h2⟩:=List.pairwise_cons.1 h.apart
 have hlt:∀ C∈L,∀ b,C.foot b→b<w.heap.size:=fun C hC b hb=>C.lt w (h.each C (List.mem_cons_of_mem _ hC)) b hb
 have hkeep:∀ C∈L,C.holds w':=fun C hC=>C.keep w w' (h.each C (List.mem_cons_of_mem _ hC)) (fun b hb=>k.fr.block b (hlt C hC b hb) (fun hA=>h1 C hC b hA hb))
 refine ⟨h.fr.trans k.fr (fun i hi=>(h.new A List.mem_cons_self i hi).symm),?_,List.pairwise_append.2 ⟨k.apart,h2,?_⟩,?_⟩
 ·intro C hC
  rcases List.mem_append.1 hC with hC | hC
  ·exact k.each C hC
  ·exact hkeep C hC
 ·intro B hB C hC b hb hc
  rcases k.new B hB b hb with h5 | h5
  ·have:=hlt C hC b hc;omega
  ·exact h1 C hC b h5 hc
 ·intro C hC b hb
  rcases List.mem_append.1 hC with hC | hC
  ·rcases k.new C hC b hb with h5 | h5
   ·have:=h.fr.size;exact .inl (by omega)
   ·exact h.new A List.mem_cons_self b h5
  ·exact h.new C (List.mem_cons_of_mem _ hC) b hb
/-- a call that writes no old block -/
theorem Sep.call0 {w0 w w':World} {F:Nat→Prop} {L K:List Asn} (h:Sep w0 F L w) (k:Sep w NoF K w'):Sep w0 F (K++L) w' :=
 Sep.call (A:=Asn.emp) (h.addEmp trivial (fun _ h=>h)) k
theorem Sep.nof {w w':World} (hb:Below w.heap.size w w'):Sep w NoF [] w':=⟨Fr.of_below hb,by simp,List.Pairwise.nil,by simp⟩
theorem Sep.below {w0 w w':World} {F:Nat→Prop} {L:List Asn} (h:Sep w0 F L w) (hb:Below w.heap.size w w'):Sep w0 F L w':=h.call0 (Sep.nof hb)
theorem Sep.toBelow {w w':World} {L:List Asn} (h:Sep w NoF L w'):Below w.heap.size w w':=h.fr.below (Nat.le_refl _) (fun _ h=>h.elim)
/-- a new part that a call left -/
theorem Sep.below1 {w0 w w':World} {F:Nat→Prop} {A:Asn} {L:List Asn} (h:Sep w0 F L w) (hb:Below w.heap.size w w') (hA:A.holds w') (hf:∀ b,A.foot b→w.heap.size≤b):Sep w0 F (A::L) w' :=
 h.call0 (K:=[A]) ⟨Fr.of_below hb,by simpa using hA,List.pairwise_singleton _ _,by simp only [List.mem_singleton];rintro C rfl b hb;exact .inl (hf b hb)⟩
/-- .. where the head was written -/
theorem Sep.fr1 {w0 w w':World} {F:Nat→Prop} {A B:Asn} {L:List Asn} (h:Sep w0 F (A::L) w) (hf:Fr A.foot w w') (hB:B.holds w') (hn:∀ b,B.foot b→w.heap.size≤b∨A.foot b):Sep w0 F (B::L) w' :=
 h.call (K:=[B]) ⟨hf,by simpa using hB,List.pairwise_singleton _ _,by simp only [List.mem_singleton];rintro C rfl b hb;exact hn b hb⟩

theorem Sep.drew {w0 w:World} {F:Nat→Prop} {L:List Asn} (h:Sep w0 F L w):Sep w0 F L w.drew:=h.below ((Below.refl _ w).drew)
theorem Sep.alloc {w0 w:World} {F:Nat→Prop} {L:List Asn} (h:Sep w0 F L w) (R:List Value) (t:Nat):Sep w0 F (.box w.heap.size R t::L) (w.alloc (.cells R.toArray t)) :=
 h.below1 ((Below.refl _ w).alloc (Nat.le_refl _) _) (BoxW.start w R t) (fun b hb=>by have hb:b=w.heap.size:=hb;omega)
/-- a block that nobody asks for -/
theorem Sep.allocX {w0 w:World} {F:Nat→Prop} {L:List Asn} (h:Sep w0 F L w) (o:Obj):Sep w0 F L (w.alloc o):=h.below ((Below.refl _ w).alloc (Nat.le_refl _) _)
theorem Sep.set {w0 w:World} {F:Nat→Prop} {L:List Asn} (h:Sep w0 F L w) (i:Nat) {N:Nat} {R:List Value} {t:Nat} (hi:L[i]?=some (.box N R t)) (j:Nat) (v:Value):Sep w0 F (.box N (R.set j v) t::L.eraseIdx i) (w.setCell ⟨N,j,none⟩ v) :=
 (h.focus i hi).fr1 (fr_set w N j v) (((h.focus i hi).box 0 rfl).set j v) (fun b hb=>.inr hb)
theorem Sep.nilRow {w0 w:World} {F:Nat→Prop} {L:List Asn} (h:Sep w0 F L w) (e size:Nat):Sep w0 F (.row e size (.slice none 0 0) 0 []::L) w :=
 h.addEmp (own_nil _ _ _ _) (fun b hb=>by have hb:(none:Option Nat)=some b:=hb;simp at hb)
theorem Sep.allocAt {w0 w:World} {F:Nat→Prop} {L:List Asn} (h:Sep w0 F L w) (N:Nat) (R:List Value) (t:Nat) (hN:w.heap.size=N):Sep w0 F (.box N R t::L) (w.alloc (.cells R.toArray t)):=by subst hN;exact h.alloc R t
/-- a row, at a base -/
theorem Sep.own {w0 w:World} {L:List Asn} (h:Sep w0 NoF L w) (i:Nat) {e size n:Nat} {v:Value} {xs:List Value} (hi:L[i]?=some (.row e size v n xs)):w.ownsRow w0.heap.size e size v n xs:=by
 have h1:=h.row i hi
 refine ⟨h1.1,?_⟩
 rcases h1.2 with h2 | ⟨g,cap,cur,hv,hg,r⟩
 ·exact Or.inl h2
 ·refine Or.inr ⟨g,cap,cur,hv,?_,r⟩
  have:=h.new _ (List.mem_of_getElem? hi) g (by show v.ownBlock=some g;rw [hv];rfl)
  rcases this with this | this
  ·exact this
  ·exact this.elim
/-- a row that a call made -/
theorem Sep.belowRow {w0 w w':World} {F:Nat→Prop} {L:List Asn} (h:Sep w0 F L w) (hb:Below w.heap.size w w') {e size n:Nat} {v:Value} {xs:List Value} (hr:w'.ownsRow w.heap.size e size v n xs):Sep w0 F (.row e size v n xs::L) w' :=
 h.below1 hb (own_base hr (Nat.zero_le _)) (fun b hb=>(own_blk hr hb).1)
theorem Sep.old0 {w0 w:World} {L:List Asn} (h:Sep w0 NoF L w) {v:Value} {n:Nat} {cs:List Value} (hv:SlV w0 v n cs):SlV w v n cs:=hv.fr h.fr (fun _ _ _ _ h=>h)
theorem Sep.oldBytes {w0 w:World} {L:List Asn} (h:Sep w0 NoF L w) {v:Value} {d:List UInt8} (hv:Bytes w0 v d):Bytes w v d:=h.old0 hv

/-- append, whatever is appended, the row being a part -/
theorem wp_append_sepF {P:Program} {t e size bytes:Nat} (T:ElemT P t e size bytes) {w0 w:World} {F:Nat→Prop} {L:List Asn} {o:Oper} {a:Act} {K:Act→World→Prop} {Q:Exit→Act→World→Prop} (s x:Operand)
  (ho:o.op=.call { callee:=.builtin .append,args:=#[s,x],argTypes:=#[t,t]})
  (H:Sep w0 F L w) (i:Nat) {v:Value} {n:Nat} {xs:List Value} (hi:L[i]?=some (.row e size v n xs)) (hs:a.eval s=v)
  (m:Nat) (news:List Value) (y:Value) (hx:a.eval x=y) (hsrc:SlV w y m news) (hl:news.length=m*size) (h1:∀ u∈news,u.oneCell'=true) (hbytes:(n+m)*bytes≤140737488355328)
  (h:∀ a' c' w',Sep w0 F (.row e size (.slice a' (n+m) c') (n+m) (xs++news)::L.eraseIdx i) w'→Fr (fun k=>v.ownBlock=some k) w w'→K (a.put o.dst (.slice a' (n+m) c')) w'):o.wp P a w K Q:=by
 obtain ⟨ii,z,a1,a2,a3,a4,a5⟩:=T.info
 have hpos:=T.posb
 have hml:n+m≤maxLen:=by
  have:(n+m)*1≤(n+m)*bytes:=Nat.mul_le_mul_left _ hpos
  unfold maxLen;omega
 obtain ⟨ao,c,rfl,k1,k2,k0,k3⟩:=hsrc
 have hne:∀ {u u':World} {row:Option Nat},u.grownBy u' row→Fr (fun k=>row=some k) u u':=fun hg=>⟨hg.os,hg.tape,hg.output,hg.size,fun k hk hn=>hg.block k hk (fun e=>hn e.symm)⟩
 have hown:=H.row i hi
 cases ao with
 | some ad =>
  obtain ⟨v',w',hr,h2,h3,_,h5⟩:=run_append_own_at (P:=P) w 0 t o.type e ii z size bytes T.under a1 a2 a3 a4 a5 T.pos v n xs hown ad m c news hl (fun j u hu=>by obtain ⟨p,hp,hc⟩:=k3 j u hu;cases hp;exact hc) h1 hml hbytes (Nat.zero_le _)
  unfold Oper.wp execOp
  simp only [ho,resolve,invoke,builtin,Sem.run_bind,Sem.run_pure,Result.andThen_ok,List.map_toArray,List.map_cons,List.map_nil,hs,hx,hr]
  obtain ⟨a',c',rfl⟩:=own_shape h2
  refine h a' c' w' ((H.focus i hi).fr1 (hne h3) h2 (fun b hb=>?_)) (hne h3)
  have hb:(Value.slice a' (n+m) c').ownBlock=some b:=hb
  rcases h5 with h5 | h5
  ·right;show v.ownBlock=some b;rw [←h5];exact hb
  ·left;rw [h5] at hb;simp at hb;omega
 | none =>
  have hnil:news=[]:=by
   cases news with
   | nil=>rfl
   | cons u l=>obtain ⟨p,hp,_⟩:=k3 0 u rfl;cases hp
  subst hnil
  have hm:m=0:=by
   have hp:=T.pos
   have:m*size=0:=by simpa using hl.symm
   rcases Nat.mul_eq_zero.1 this with h | h<;>omega
  subst hm
  obtain rfl:c=0:=k0 rfl
  have hrun:=run_append_owned_none (P:=P) (w:=w) 0 t o.type e ii size T.under a1 v n xs hown
  unfold Oper.wp
  simp [execOp,ho,resolve,invoke,builtin,hs,hx,hrun,Result.andThen]
  obtain ⟨a',c',rfl⟩:=own_shape hown
  have:=h a' c' w (by rw [List.append_nil];exact H.focus i hi) (Fr.refl _ _)
  exact this
theorem wp_append_sep {P:Program} {t e size bytes:Nat} (T:ElemT P t e size bytes) {w0 w:World} {F:Nat→Prop} {L:List Asn} {o:Oper} {a:Act} {K:Act→World→Prop} {Q:Exit→Act→World→Prop} (s x:Operand)
  (ho:o.op=.call { callee:=.builtin .append,args:=#[s,x],argTypes:=#[t,t]})
  (H:Sep w0 F L w) (i:Nat) {v:Value} {n:Nat} {xs:List Value} (hi:L[i]?=some (.row e size v n xs)) (hs:a.eval s=v)
  (m:Nat) (news:List Value) (y:Value) (hx:a.eval x=y) (hsrc:SlV w y m news) (hl:news.length=m*size) (h1:∀ u∈news,u.oneCell'=true) (hbytes:(n+m)*bytes≤140737488355328)
  (h:∀ a' c' w',Sep w0 F (.row e size (.slice a' (n+m) c') (n+m) (xs++news)::L.eraseIdx i) w'→K (a.put o.dst (.slice a' (n+m) c')) w'):o.wp P a w K Q :=
 wp_append_sepF T s x ho H i hi hs m news y hx hsrc hl h1 hbytes (fun a' c' w' h' _=>h a' c' w' h')
/-- .. as an operation of the walk -/
theorem Sep.appendSl {P:Program} {t e size bytes:Nat} (T:ElemT P t e size bytes) {w0 w:World} {F:Nat→Prop} {L:List Asn} {ops:Array Oper} {rest:List Oper} {o:Oper} {a:Act} {Q:Exit→Act→World→Prop} (hgd:o.guard=none) (s x:Operand)
  (ho:o.op=.call { callee:=.builtin .append,args:=#[s,x],argTypes:=#[t,t]})
  (H:Sep w0 F L w) (i:Nat) {v:Value} {n:Nat} {xs:List Value} (hi:L[i]?=some (.row e size v n xs)) (hs:a.eval s=v)
  (m:Nat) (news:List Value) (y:Value) (hx:a.eval x=y) (hsrc:SlV w y m news) (hl:news.length=m*size) (h1:∀ u∈news,u.oneCell'=true) (hbytes:(n+m)*bytes≤140737488355328)
  (h:∀ a' c' w',Sep w0 F (.row e size (.slice a' (n+m) c') (n+m) (xs++news)::L.eraseIdx i) w'→wpList P ops Q rest (a.put o.dst (.slice a' (n+m) c')) w'):wpList P ops Q (o::rest) a w :=
 wpList_plain hgd fun _ hK=>wp_append_sep T s x ho H i hi hs m news y hx hsrc hl h1 hbytes (fun a' c' w' h'=>hK _ _ (h a' c' w' h'))
/-- 'append(out, x)': one element, laid into a block of its own -/
theorem Sep.append {P:Program} {t e size bytes:Nat} (T:ElemT P t e size bytes) {w0 w:World} {F:Nat→Prop} {L:List Asn} {ops:Array Oper} {rest:List Oper} {o:Oper} {a:Act} {Q:Exit→Act→World→Prop} (hgd:o.guard=none) (s x:Operand)
  (ho:o.op=.call { callee:=.builtin .append,args:=#[s,x],argTypes:=#[t,t]})
  (cs:List Value) (hx:a.eval x=.slice (some ⟨w.heap.size,0,none⟩) 1 1) (H:Sep w0 F L w) (i:Nat) {v:Value} {n:Nat} {xs:List Value} (hi:L[i]?=some (.row e size v n xs)) (hs:a.eval s=v)
  (hl:cs.length=size) (h1:∀ u∈cs,u.oneCell'=true) (hbytes:(n+1)*bytes≤140737488355328)
  (h:∀ a' c' w',Sep w0 F (.row e size (.slice a' (n+1) c') (n+1) (xs++cs)::L.eraseIdx i) w'→wpList P ops Q rest (a.put o.dst (.slice a' (n+1) c')) w'):wpList P ops Q (o::rest) a (w.alloc (.cells cs.toArray e)) :=
 Sep.appendSl T hgd s x ho (H.allocX _) i hi hs 1 cs _ hx (SlV.new w cs 1 e (by unfold maxLen;omega)) (by omega) h1 hbytes h
/-- .. as one step of a region that draws its order -/
theorem Sep.appendStep {P:Program} {t e size bytes:Nat} (T:ElemT P t e size bytes) {w0 w:World} {F:Nat→Prop} {L:List Asn} {ops:Array Oper} {o:Oper} {a:Act} {K:Act→World→Prop} {Q:Exit→Act→World→Prop} {Z:Prop} (hgd:o.guard=none) (s x:Operand)
  (ho:o.op=.call { callee:=.builtin .append,args:=#[s,x],argTypes:=#[t,t]})
  (cs:List Value) (hx:a.eval x=.slice (some ⟨w.heap.size,0,none⟩) 1 1) (H:Sep w0 F L w) (i:Nat) {v:Value} {n:Nat} {xs:List Value} (hi:L[i]?=some (.row e size v n xs)) (hs:a.eval s=v)
  (hl:cs.length=size) (h1:∀ u∈cs,u.oneCell'=true) (hbytes:(n+1)*bytes≤140737488355328)
  (h:∀ a' c' w',Sep w0 F (.row e size (.slice a' (n+1) c') (n+1) (xs++cs)::L.eraseIdx i) w'→K (a.put o.dst (.slice a' (n+1) c')) w') :
  if Region.wanted o (yielded ops a.tmps)=true then Oper.wp P o a (w.alloc (.cells cs.toArray e)) K Q else Z:=by
 have hw:Region.wanted o (yielded ops a.tmps)=true:=by simp [Region.wanted,hgd]
 rw [if_pos hw]
 exact wp_append_sep T s x ho (H.allocX _) i hi hs 1 cs _ hx (SlV.new w cs 1 e (by unfold maxLen;omega)) (by omega) h1 hbytes h
theorem Sep.appendSlStep {P:Program} {t e size bytes:Nat} (T:ElemT P t e size bytes) {w0 w:World} {F:Nat→Prop} {L:List Asn} {ops:Array Oper} {o:Oper} {a:Act} {K:Act→World→Prop} {Q:Exit→Act→World→Prop} {Z:Prop} (hgd:o.guard=none) (s x:Operand)
  (ho:o.op=.call { callee:=.builtin .append,args:=#[s,x],argTypes:=#[t,t]})
  (H:Sep w0 F L w) (i:Nat) {v:Value} {n:Nat} {xs:List Value} (hi:L[i]?=some (.row e size v n xs)) (hs:a.eval s=v)
  (m:Nat) (news:List Value) (y:Value) (hx:a.eval x=y) (hsrc:SlV w y m news) (hl:news.length=m*size) (h1:∀ u∈news,u.oneCell'=true) (hbytes:(n+m)*bytes≤140737488355328)
  (h:∀ a' c' w',Sep w0 F (.row e size (.slice a' (n+m) c') (n+m) (xs++news)::L.eraseIdx i) w'→K (a.put o.dst (.slice a' (n+m) c')) w') :
  if Region.wanted o (yielded ops a.tmps)=true then Oper.wp P o a w K Q else Z:=by
 have hw:Region.wanted o (yielded ops a.tmps)=true:=by simp [Region.wanted,hgd]
 rw [if_pos hw]
 exact wp_append_sep T s x ho H i hi hs m news y hx hsrc hl h1 hbytes h
end Go.Proofs.YtaodldbgikiekaaGreatDoor

namespace Go.Proofs.YtaodldbgikiekaaGreatDoor

/-- what stands at an address -/
structure C where
 k:Int
 d:List UInt8
deriving DecidableEq

def C.check (c:C):Nat:=if c.k<0∨3<c.k then 1 else if 64<c.d.length then 3 else if 0<c.d.length∧c.k≠1 then 2 else 0
def C.may (a b:C):Bool:=if a.check≠0∨b.check≠0 then false else if a.k=0∨a=b then true else b.k==3

/-- a unit: epoch, low mark, cells in whatever order, each address once -/
structure U where
 e:Int
 l:Int
 cells:List (Int×C)

structure U.ok (u:U):Prop where
 e0:0≤u.e
 e1:u.e≤1099511627776
 l0:0≤u.l
 l1:u.l≤1048576
 addr:∀ p∈u.cells,u.l≤p.1∧p.1<1048576
 kind:∀ p∈u.cells,(p.2.k=1∨p.2.k=2∧p.2.d=[])∧p.2.d.length≤64
 nodup:(u.cells.map (·.1)).Nodup

def inR (x m:Int):Bool:=decide (0≤x)&&decide (x≤m)
def U.new:U:=⟨0,0,[]⟩
def lookC (L:List (Int×C)) (a:Int):C:=((L.find? (·.1==a)).map (·.2)).getD ⟨0,[]⟩
def U.at (u:U) (a:Int):C:=if a<u.l then ⟨3,[]⟩ else lookC u.cells a
def tailF (m:Int) (p:Int×C):Int:=max m (p.1+1)
def U.tail (u:U):Int:=u.cells.foldl tailF u.l
def U.cur (u:U) (e:Int):Nat:=if e<u.e then 6 else if u.e<e then 7 else 0
def U.asks (u:U) (e:Int) (fits:Bool):Nat:=if fits then u.cur e else 1
def putC (L:List (Int×C)) (a:Int) (c:C):List (Int×C):=if L.any (·.1==a) then L.map (fun p=>if p.1=a then (a,c) else p) else L++[(a,c)]

def U.sealE (u:U) (e:Int):Nat×Int×U:=if !inR e 1099511627776 then (1,0,u) else if e≤u.e then (6,0,u) else (0,u.tail,{ u with e:=e })
def U.write (u:U) (e a:Int) (d:List UInt8):Nat×U :=
 if !inR a 1048575 then (1,u) else if 64<d.length then (3,u) else if u.cur e≠0 then (u.cur e,u) else if (u.at a).k=3 then (9,u) else if (u.at a).k=0 then (0,{ u with cells:=putC u.cells a ⟨1,d⟩}) else (8,u)
def U.fill (u:U) (e a:Int):Nat×U :=
 if u.asks e (inR a 1048575)≠0 then (u.asks e (inR a 1048575),u) else if (u.at a).k=3 then (9,u) else if (u.at a).k=1 then (8,u) else (0,{ u with cells:=putC u.cells a ⟨2,[]⟩})
def U.read (u:U) (e a:Int):Nat×C:=if u.asks e (inR a 1048575)≠0 then (u.asks e (inR a 1048575),⟨0,[]⟩) else (0,u.at a)
def U.trim (u:U) (e b:Int):Nat×U :=
 if u.asks e (inR b 1048576)≠0 then (u.asks e (inR b 1048576),u) else (0,{ u with l:=max u.l b,cells:=u.cells.filter (fun p=>!decide (p.1<max u.l b))})
def U.cut (u:U) (e f:Int):Nat×Int×U :=
 if u.asks e (inR f 1048576)≠0 then (u.asks e (inR f 1048576),0,u) else if f<u.l then (9,0,u) else
  (0,(u.cells.length:Int) - (u.cells.filter (fun p=>!decide (f≤p.1))).length,{ u with cells:=u.cells.filter (fun p=>!decide (f≤p.1))})
theorem tailF_comm (m:Int) (p q:Int×C):tailF (tailF m p) q=tailF (tailF m q) p:=by unfold tailF;omega
def tailK (m a:Int):Int:=max m (a+1)
theorem tail_keys (u:U):u.tail=(u.cells.map (·.1)).foldl tailK u.l:=by simp only [U.tail,List.foldl_map];rfl
theorem tailK_pick (x:Int):∀ (pre post:List Int) (m:Int),(pre++x::post).foldl tailK m=(pre++post).foldl tailK (tailK m x)
 | [],post,m=>rfl
 | p::pre,post,m=>by
  simp only [List.cons_append,List.foldl_cons]
  rw [tailK_pick x pre post,show tailK (tailK m p) x=tailK (tailK m x) p from by unfold tailK;omega]

theorem lookC_mem {L:List (Int×C)} {a:Int} (h:L.any (·.1==a)=true):(a,lookC L a)∈L:=by
 unfold lookC
 cases hf:L.find? (·.1==a) with
 | none=>rw [List.find?_eq_none] at hf;rw [List.any_eq_true] at h;obtain ⟨x,hx,hxa⟩:=h;exact absurd hxa (by simpa using hf x hx)
 | some p =>
  have h1:=List.mem_of_find?_eq_some hf
  have h2:=List.find?_some hf
  simp at h2
  simp only [Option.map_some,Option.getD_some]
  rw [←h2];exact h1
theorem lookC_none {L:List (Int×C)} {a:Int} (h:L.any (·.1==a)=false):lookC L a=⟨0,[]⟩:=by
 unfold lookC
 have:L.find? (·.1==a)=none:=by rw [List.find?_eq_none];rw [List.any_eq_false] at h;exact fun x hx=>by simpa using h x hx
 simp [this]

theorem putC_keys (L:List (Int×C)) (a:Int) (c:C) (h:(L.map (·.1)).Nodup):((putC L a c).map (·.1)).Nodup:=by
 unfold putC
 split
 ·have:(L.map (fun p=>if p.1=a then (a,c) else p)).map (·.1)=L.map (·.1):=by
   rw [List.map_map];refine List.map_congr_left fun p _=>?_
   by_cases hp:p.1=a<;>simp [hp]
  rw [this];exact h
 ·rename_i hn
  rw [List.map_append,List.nodup_append]
  refine ⟨h,by simp,?_⟩
  intro x hx y hy
  simp at hy;subst hy
  intro hxa;subst hxa
  apply hn
  simp only [List.any_eq_true,beq_iff_eq]
  obtain ⟨p,hp,hpx⟩:=List.mem_map.1 hx
  exact ⟨p,hp,hpx⟩
theorem mem_putC {L:List (Int×C)} {a:Int} {c:C} {p:Int×C} (h:p∈putC L a c):p=(a,c)∨p∈L:=by
 unfold putC at h
 split at h
 ·obtain ⟨q,hq,hqp⟩:=List.mem_map.1 h
  split at hqp
  ·exact .inl hqp.symm
  ·exact .inr (hqp▸hq)
 ·rcases List.mem_append.1 h with h | h
  ·exact .inr h
  ·exact .inl (by simpa using h)

theorem U.ok_new:U.new.ok:=⟨by decide,by decide,by decide,by decide,by simp [U.new],by simp [U.new],by simp [U.new]⟩
theorem U.ok_put {u:U} (h:u.ok) {a:Int} {c:C} (h1:u.l≤a) (h2:a<1048576) (h3:(c.k=1∨c.k=2∧c.d=[])∧c.d.length≤64):U.ok { u with cells:=putC u.cells a c } :=
 ⟨h.e0,h.e1,h.l0,h.l1,fun p hp=>by rcases mem_putC hp with rfl | hp;exact ⟨h1,h2⟩;exact h.addr p hp,
  fun p hp=>by rcases mem_putC hp with rfl | hp;exact h3;exact h.kind p hp,putC_keys _ _ _ h.nodup⟩
theorem U.ok_filter {u:U} (h:u.ok) {f:Int×C→Bool} {l:Int} (hl:u.l≤l) (h1:l≤1048576) (hf:∀ p∈u.cells,f p=true→l≤p.1):U.ok { u with l:=l,cells:=u.cells.filter f } :=
 ⟨h.e0,h.e1,Int.le_trans h.l0 hl,h1,fun p hp=>⟨hf p (List.mem_filter.1 hp).1 (List.mem_filter.1 hp).2,(h.addr p (List.mem_filter.1 hp).1).2⟩,
  fun p hp=>h.kind p (List.mem_filter.1 hp).1,h.nodup.sublist ((List.filter_sublist).map _)⟩

theorem U.ok_write {u:U} (h:u.ok) (e a:Int) (d:List UInt8):(u.write e a d).2.ok:=by
 unfold U.write
 split;· exact h
 rename_i h1
 split;· exact h
 split;· exact h
 split;· exact h
 rename_i h4
 split
 ·simp [inR] at h1
  refine U.ok_put h ?_ (by omega) ⟨.inl rfl,by simp;omega⟩
  unfold U.at at h4
  by_cases hl:a<u.l
  ·simp [hl] at h4
  ·omega
 ·exact h
theorem U.ok_fill {u:U} (h:u.ok) (e a:Int):(u.fill e a).2.ok:=by
 unfold U.fill
 split;· exact h
 rename_i h1
 split;· exact h
 rename_i h4
 split;· exact h
 have hin:inR a 1048575=true:=by
  cases hq:inR a 1048575 with
  | true=>rfl
  | false=>simp [U.asks,hq] at h1
 simp [inR] at hin
 refine U.ok_put h ?_ (by omega) ⟨.inr ⟨rfl,rfl⟩,by simp⟩
 unfold U.at at h4
 by_cases hl:a<u.l
 ·simp [hl] at h4
 ·omega
theorem asks_in {u:U} {e:Int} {f:Bool} (h:¬u.asks e f≠0):f=true:=by
 cases f with
 | true=>rfl
 | false=>simp [U.asks] at h
theorem U.ok_trim {u:U} (h:u.ok) (e b:Int):(u.trim e b).2.ok:=by
 unfold U.trim
 split;· exact h
 rename_i h1
 have hin:=asks_in h1
 simp [inR] at hin
 have:=h.l1
 exact U.ok_filter h (by omega) (by omega) fun p hp hf=>by simpa using hf
theorem U.ok_cut {u:U} (h:u.ok) (e f:Int):(u.cut e f).2.2.ok:=by
 unfold U.cut
 split;· exact h
 split;· exact h
 exact U.ok_filter (l:=u.l) h (Int.le_refl _) h.l1 fun p hp _=>(h.addr p hp).1
theorem U.ok_sealE {u:U} (h:u.ok) (e:Int):(u.sealE e).2.2.ok:=by
 unfold U.sealE
 split;· exact h
 rename_i h1
 split;· exact h
 simp [inR] at h1
 exact ⟨by simp;omega,by simp;omega,h.l0,h.l1,h.addr,h.kind,h.nodup⟩



end Go.Proofs.YtaodldbgikiekaaGreatDoor
