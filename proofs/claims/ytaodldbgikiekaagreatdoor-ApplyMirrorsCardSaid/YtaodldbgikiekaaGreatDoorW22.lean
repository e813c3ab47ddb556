/- Proved here: a part of the proof (22 of 35). -/
import Derived.Test.YtaodldbgikiekaaGreatDoorW21
import Derived.Test.YtaodldbgikiekaaGreatDoorW14
import Derived.Test.YtaodldbgikiekaaGreatDoorW11
import Derived.Lib.IfaceEq
import Derived.LaidEql
import Derived.Test.YtaodldbgikiekaaGreatDoorW12
import Derived.Test.YtaodldbgikiekaaGreatDoorW13
import Derived.Test.YtaodldbgikiekaaGreatDoorW2
import Derived.Deep.DeepCutAuto
import Derived.Deep.CutBlock
set_option linter.unusedSimpArgs false
set_option linter.unusedVariables false
set_option maxRecDepth 100000
namespace Go.Proofs.YtaodldbgikiekaaGreatDoor
open Go.RowKit
/-- some parts, by their numbers, in this order -/
theorem Sep.pick {w0 w:World} {F:Nat→Prop} {L L':List Asn} (h:Sep w0 F L w) (is:List Nat) (hn:is.Nodup) (hL:is.map (fun i=>L[i]?)=L'.map some):Sep w0 F L' w:=by
 have key:∀ A∈L',∃ i:Nat,L[i]?=some A:=fun A hA=>by
  have h1:some A∈L'.map some:=List.mem_map_of_mem hA
  rw [←hL] at h1
  obtain ⟨i,_,hi⟩:=List.mem_map.1 h1
  exact ⟨i,hi⟩
 refine ⟨h.fr,fun A hA=>?_,?_,fun A hA b hb=>?_⟩
 ·obtain ⟨i,hi⟩:=key A hA
  exact h.at i hi
 ·have h2:(L'.map some).Pairwise (fun x y:Option Asn=>∀ A B,x=some A→y=some B→∀ b,A.foot b→¬B.foot b):=by
   rw [←hL,List.pairwise_map]
   rw [List.nodup_iff_pairwise_ne] at hn
   exact hn.imp (fun {i j} hij A B hi hj=>h.off i j hi hj hij)
  rw [List.pairwise_map] at h2
  exact h2.imp (fun {A B} hAB=>hAB A B rfl rfl)
 ·obtain ⟨i,hi⟩:=key A hA
  exact h.new A (List.mem_of_getElem? hi) b hb
namespace SH
open DK
@[go_sem] theorem eql_err (w:World) (a b:Int):(binOp .eql 40 (.iface 70 (.int .i64 a)) (.iface 70 (.int .i64 b))).run Tryz.prog w=.ok (.bool (a==b)) w:=Go.Lib.run_eql_iface_int w a b undErr (by kernel_rfl) Tryz.underlying70
@[go_sem] theorem eql_nilerr (w:World) (u:TypeId) (x:Value):(binOp .eql 40 .nilIface (.iface u x)).run Tryz.prog w=.ok (.bool false) w:=run_eql_iface_nil_left w u x undErr
/-- a shelf's box, its store's, its unit's -/
def shelfI (q N:Nat) (S:Sf) (vs:PoolL) (K:List Asn):Prop:=∃ p bu bm,K=[.box q [ptrV p,ptrV bu,.int .i64 (S.n:Nat),.bool S.br] 200,.box p [ptrV N] 248,.unit bu bm S.u vs]
abbrev _root_.Go.Proofs.YtaodldbgikiekaaGreatDoor.Asn.shelf (q N:Nat) (S:Sf) (vs:PoolL) (G:Nat→Prop):Asn:=Asn.ex (shelfI q N S vs) G
theorem shelf_more {q N:Nat} {S:Sf} {vs us:PoolL} {G:Nat→Prop} {w w0:World} {F:Nat→Prop} {L:List Asn} (h:Sep w0 F (Asn.shelf q N S vs G::L) w) (hs:∀ x∈vs,x∈us):∃ G',Sep w0 F (Asn.shelf q N S us G'::L) w:=by
 obtain ⟨K,⟨p,bu,bm,rfl⟩,H⟩:=h.unpack
 have h1:=(H.focus 2 rfl).turn (B:=.unit bu bm S.u us) (Asn.unit_more (H.at 2 rfl) hs) (fun _ h=>h)
 exact Sep.pack _ ((h1.focus 2 rfl).focus 2 rfl) ⟨p,bu,bm,rfl⟩
/-- a shelf with its disk and its pool; L: what lies beside -/
def ShAt (q N:Nat) (S:Sf) (D:Dk) (vs:PoolL) (L:List Asn) (F:Nat→Prop) (w0 w:World):Prop:=∃ G1 G2 Z,Sep w0 F (Asn.disk N D G1::Asn.shelf q N S vs G2::Asn.pool Z vs::L) w
/-- what a method leaves -/
def ShR (q N:Nat) (S:Sf) (D:Dk) (vs:PoolL) (F:Nat→Prop) (w0 w:World):Prop:=∃ us,(∀ x∈vs,x∈us)∧ShAt q N S D us [] F w0 w
theorem ShAt.below {q N:Nat} {S:Sf} {D:Dk} {vs:PoolL} {L:List Asn} {F:Nat→Prop} {w0 w w':World} (h:ShAt q N S D vs L F w0 w) (hb:Below w.heap.size w w'):ShAt q N S D vs L F w0 w':=by
 obtain ⟨G1,G2,Z,H⟩:=h
 exact ⟨G1,G2,Z,H.below hb⟩
theorem ShR.trans {q N:Nat} {S2:Sf} {D2:Dk} {vs us:PoolL} {F:Nat→Prop} {w0 w':World} (hs:∀ x∈vs,x∈us) (h2:ShR q N S2 D2 us F w0 w'):ShR q N S2 D2 vs F w0 w':=by
 obtain ⟨ts,q1,q2⟩:=h2
 exact ⟨ts,fun x hx=>q1 x (hs x hx),q2⟩
/-- a call with the shelf by itself -/
theorem ShAt.enter {q N:Nat} {S:Sf} {D:Dk} {vs:PoolL} {L:List Asn} {F:Nat→Prop} {w0 w:World} (h:ShAt q N S D vs L F w0 w) :
  ∃ F',ShAt q N S D vs [] F' w w∧∀ (S':Sf) (D':Dk) (us:PoolL) (M:List Asn) (w':World),ShAt q N S' D' us M F' w w'→ShAt q N S' D' us (M++L) F w0 w':=by
 obtain ⟨G1,G2,Z,H⟩:=h
 have H1:Sep w0 F ([Asn.disk N D G1,Asn.shelf q N S vs G2,Asn.pool Z vs]++L) w:=H
 have H2:=(Sep.start1 _ (H1.merge.at 0 rfl)).split
 refine ⟨_,⟨G1,G2,Z,H2⟩,fun S' D' us M w' k=>?_⟩
 obtain ⟨G1',G2',Z',k'⟩:=k
 exact ⟨G1',G2',Z',H1.callN k'⟩
/-- the parts of a shelf, opened to be read -/
structure ShIn (q p bu bm N:Nat) (S:Sf) (w:World):Prop where
 c0:w.cell? ⟨q,0,none⟩=some (ptrV p)
 c1:w.cell? ⟨q,1,none⟩=some (ptrV bu)
 c2:w.cell? ⟨q,2,none⟩=some (.int .i64 (S.n:Nat))
 c3:w.cell? ⟨q,3,none⟩=some (.bool S.br)
 d0:w.cell? ⟨p,0,none⟩=some (ptrV N)
 lq:q<w.heap.size
 lp:p<w.heap.size
theorem ShIn.below {q p bu bm N:Nat} {S:Sf} {w w':World} (h:ShIn q p bu bm N S w) (hb:Below w.heap.size w w'):ShIn q p bu bm N S w' :=
 ⟨(hb.cell (p:=⟨q,0,none⟩) h.lq).trans h.c0,(hb.cell (p:=⟨q,1,none⟩) h.lq).trans h.c1,(hb.cell (p:=⟨q,2,none⟩) h.lq).trans h.c2,(hb.cell (p:=⟨q,3,none⟩) h.lq).trans h.c3,(hb.cell (p:=⟨p,0,none⟩) h.lp).trans h.d0,Nat.lt_of_lt_of_le h.lq hb.size,Nat.lt_of_lt_of_le h.lp hb.size⟩
/-- the parts, in the order in which they are worked with -/
abbrev shL (q p bu bm N:Nat) (S:Sf) (D:Dk) (vs:PoolL) (Z G1:Nat→Prop) (L:List Asn):List Asn:=.unit bu bm S.u vs::.pool Z vs::.box q [ptrV p,ptrV bu,.int .i64 (S.n:Nat),.bool S.br] 200::.box p [ptrV N] 248::Asn.disk N D G1::L
theorem sh_in {q p bu bm N:Nat} {S:Sf} {D:Dk} {vs:PoolL} {L:List Asn} {F Z G1:Nat→Prop} {w0 w:World} (h:Sep w0 F (shL q p bu bm N S D vs Z G1 L) w):ShIn q p bu bm N S w :=
 ⟨h.cell 2 rfl 0 rfl,h.cell 2 rfl 1 rfl,h.cell 2 rfl 2 rfl,h.cell 2 rfl 3 rfl,h.cell 3 rfl 0 rfl,h.lt 2 rfl,h.lt 3 rfl⟩
theorem sh_open {q N:Nat} {S:Sf} {D:Dk} {vs:PoolL} {L:List Asn} {F:Nat→Prop} {w0 w:World} (h:ShAt q N S D vs L F w0 w) :
  ∃ p bu bm G1 Z,Sep w0 F (shL q p bu bm N S D vs Z G1 L) w:=by
 obtain ⟨G1,G2,Z,H⟩:=h
 obtain ⟨K,⟨p,bu,bm,rfl⟩,H1⟩:=(H.swap1).unpack
 have H2:Sep w0 F (.box q [ptrV p,ptrV bu,.int .i64 (S.n:Nat),.bool S.br] 200::.box p [ptrV N] 248::.unit bu bm S.u vs::Asn.disk N D G1::.pool Z vs::L) w:=H1
 exact ⟨p,bu,bm,G1,Z,((((H2.focus 3 rfl).focus 2 rfl).focus 2 rfl).focus 4 rfl).focus 4 rfl⟩
theorem sh_close {q p bu bm N:Nat} {S:Sf} {D:Dk} {vs:PoolL} {L:List Asn} {F Z G1:Nat→Prop} {w0 w:World} (h:Sep w0 F (shL q p bu bm N S D vs Z G1 L) w):ShAt q N S D vs L F w0 w:=by
 have h1:Sep w0 F ([.box q [ptrV p,ptrV bu,.int .i64 (S.n:Nat),.bool S.br] 200,.box p [ptrV N] 248,.unit bu bm S.u vs]++(.pool Z vs::Asn.disk N D G1::L)) w:=((((h.focus 4 rfl).focus 2 rfl).focus 2 rfl).focus 4 rfl).focus 4 rfl
 obtain ⟨G2,h2⟩:=Sep.pack (I:=shelfI q N S vs) _ h1 ⟨p,bu,bm,rfl⟩
 exact ⟨G1,G2,Z,h2.focus 2 rfl⟩
theorem sh_disk {q p bu bm N:Nat} {S:Sf} {D:Dk} {vs:PoolL} {L:List Asn} {F Z G1:Nat→Prop} {w0 w:World} (h:Sep w0 F (shL q p bu bm N S D vs Z G1 L) w):(Asn.disk N D G1).holds w∧StoAt p N G1 w :=
 ⟨h.at 4 rfl,h.cell 3 rfl 0 rfl,h.lt 3 rfl,fun hg=>h.off 3 4 rfl rfl (by decide) p rfl hg⟩
theorem swork_any (q:Nat) (b:Bool) (w:World) (h:w.cell? ⟨q,3,none⟩=some (.bool b)) (hq:q<w.heap.size):Calls Tryz.prog 117 #[ptrV q] w fun e w'=>e=.returned (errV (if b=true then 14 else 0))∧w=w':=by
 cases b with
 | true =>
  go_enter Tryz.func117, Tryz.ntmps117
  go_wp2
  go_ret
  exact ⟨rfl,rfl⟩
 | false =>
  go_enter Tryz.func117, Tryz.ntmps117
  go_wp2
  go_ret
  exact ⟨rfl,rfl⟩
theorem sdisk_any7 (p N:Nat) (w:World) (h:w.cell? ⟨p,0,none⟩=some (ptrV N)) (hp:p<w.heap.size):Calls Tryz.prog 191 #[ptrV p] w fun e w'=>e=.returned (ptrV N)∧w=w':=by
 go_enter Tryz.func191, Tryz.ntmps191
 go_wp2
 go_ret
 exact ⟨rfl,rfl⟩
theorem slooks_any {q p bu bm N:Nat} {S:Sf} {D:Dk} {G1:Nat→Prop} (w:World) (h:ShIn q p bu bm N S w) (hD:(Asn.disk N D G1).holds w):Calls Tryz.prog 148 #[ptrV q] w fun e w'=>e=.returned (errV (looksS S D))∧w=w':=by
 obtain ⟨c0,c1,c2,c3,d0,lq,lp⟩:=h
 have HD:=Zh (sdisk_any7 p N w d0 lp)
 have HDn:=Zh (Down_any w hD)
 have HW:=Zh (swork_any q S.br w c3 lq)
 clear c1 c2 c3 d0 hD
 cases hb:S.br with
 | true =>
  have HF:=Zh (show looksS S D=14 by unfold looksS;rw [if_pos (.inl hb)])
  rw [hb] at HW
  go_enter Tryz.func148, Tryz.ntmps148
  go_wp2_with (go_at_call 117;refine HW.out.mono ?_;rintro e w1 ⟨rfl,rfl⟩)
  go_ret
  rw [HF.out]
  exact ⟨rfl,rfl⟩
 | false =>
  rw [hb] at HW
  cases hd:D.down with
  | true =>
   have HF:=Zh (show looksS S D=14 by unfold looksS;rw [if_pos (.inr hd)])
   rw [hd] at HDn
   go_enter Tryz.func148, Tryz.ntmps148
   go_wp2_with (first | (go_at_call 117;refine HW.out.mono ?_;rintro e w1 ⟨rfl,rfl⟩) | (go_at_call 191;refine HD.out.mono ?_;rintro e w1 ⟨rfl,rfl⟩) | (go_at_call 192;refine HDn.out.mono ?_;rintro e w1 ⟨rfl,rfl⟩))
   go_ret
   rw [HF.out]
   exact ⟨rfl,rfl⟩
  | false =>
   have HF:=Zh (show looksS S D=0 by unfold looksS;rw [if_neg (by rw [hb,hd];simp)])
   rw [hd] at HDn
   go_enter Tryz.func148, Tryz.ntmps148
   go_wp2_with (first | (go_at_call 117;refine HW.out.mono ?_;rintro e w1 ⟨rfl,rfl⟩) | (go_at_call 191;refine HD.out.mono ?_;rintro e w1 ⟨rfl,rfl⟩) | (go_at_call 192;refine HDn.out.mono ?_;rintro e w1 ⟨rfl,rfl⟩))
   go_ret
   rw [HF.out]
   exact ⟨rfl,rfl⟩
/-- a unit apart: the copy's bytes are the pool's -/
def UnitOut (q N:Nat) (S:Sf) (D:Dk) (vs:PoolL) (F:Nat→Prop) (w:World) (e:Ending) (w':World):Prop :=
 ∃ bu bm us,e=.returned (ptrV bu)∧(∀ x∈vs,x∈us)∧ShAt q N S D us [.unit bu bm S.u us] F w w'
theorem sunit_any {q N:Nat} {S:Sf} {D:Dk} {vs:PoolL} {F:Nat→Prop} (w:World) (h:ShAt q N S D vs [] F w w):Calls Tryz.prog 125 #[ptrV q] w (UnitOut q N S D vs F w):=by
 obtain ⟨p,bu,bm,G1,Z,H⟩:=sh_open h
 have c1:=(sh_in H).c1
 have lq:=(sh_in H).lq
 have HC:=Zh (ucopy_any w (Sep.unitAt H))
 have HH:=Lib.hid' H
 clear h H
 go_enter Tryz.func125, Tryz.ntmps125
 go_wp2_with (go_at_call 118;refine HC.out.mono ?_;rintro e w1 ⟨rfl,hb,hz,hu⟩)
 go_ret
 have hU:=hu (fun k=>Off w Z k∨k=w.heap.size+1∨k=w.heap.size) (fun k hk=>by rcases hk with hk | hk | hk;exact .inl hk;exact .inr (by omega);exact .inr (by omega)) (.inr (.inr rfl)) (.inr (.inl rfl))
 obtain ⟨Z',us,q1,H1⟩:=Sep.unitNew (HH.out.focus 1 rfl) hb (by omega) (by omega) hU
 have H2:=(H1.focus 2 rfl).turn (B:=.unit bu bm S.u us) (Asn.unit_more (H1.at 2 rfl) q1) (fun _ h=>h)
 have H3:Sep w F (shL q p bu bm N S D us Z' G1 [.unit (w.heap.size+1) w.heap.size S.u us]) w1:=(((((H2.focus 1 rfl).focus 5 rfl).focus 5 rfl).focus 5 rfl).focus 5 rfl).focus 5 rfl
 exact ⟨w.heap.size+1,w.heap.size,us,rfl,q1,sh_close H3⟩
theorem fall_any {q p bu bm N:Nat} {S:Sf} {D:Dk} {vs:PoolL} {L:List Asn} {F Z G1:Nat→Prop} {w0:World} (e:Nat) (w:World) (h:Sep w0 F (shL q p bu bm N S D vs Z G1 L) w) :
  Calls Tryz.prog 123 #[ptrV q,errV e] w fun en w'=>en=.returned (errV e)∧Sep w0 F (shL q p bu bm N (fallS S e) D vs Z G1 L) w':=by
 have c3:=(sh_in h).c3
 have lq:=(sh_in h).lq
 have f3:=h.free 2 rfl 3
 have HH:=Lib.hid' h
 clear h
 by_cases h0:e=0
 ·subst h0
  have HF:=Zh (show fallS S 0=S from rfl)
  rw [errV_0]
  go_enter Tryz.func123, Tryz.ntmps123
  go_wp2
  go_ret
  rw [HF.out]
  exact ⟨rfl,HH.out⟩
 ·by_cases h14:e=14
  ·subst h14
   have HF:=Zh (show fallS S 14={ S with br:=true } from rfl)
   rw [errV_pos (by decide)]
   go_enter Tryz.func123, Tryz.ntmps123
   go_wp2
   go_ret
   rw [HF.out]
   refine ⟨rfl,?_⟩
   have h1:=HH.out.set 2 rfl 3 (.bool true)
   exact (h1.focus 2 rfl).focus 2 rfl
  ·have HF:=Zh (show fallS S e=S by unfold fallS;rw [if_neg h14])
   have g14:¬(e:Int)=14:=by omega
   rw [errV_pos h0]
   go_enter Tryz.func123, Tryz.ntmps123
   go_wp2
   go_ret
   rw [HF.out]
   exact ⟨rfl,HH.out⟩
end SH
end Go.Proofs.YtaodldbgikiekaaGreatDoor

namespace Go.Proofs.YtaodldbgikiekaaGreatDoor
open Go.RowKit
namespace SH
open DK
def SDoR (q N:Nat) (S:Sf) (D:Dk) (x:Ac) (vs:PoolL) (F:Nat→Prop) (w:World) (e:Ending) (w':World):Prop :=
 e=.returned (.tuple #[.int .i64 (doS S D x).2.1,errV (doS S D x).1])∧ShR q N (doS S D x).2.2.1 (doS S D x).2.2.2 vs F w w'
theorem SDoR.of {q N:Nat} {S S':Sf} {D D':Dk} {x:Ac} {vs us:PoolL} {F:Nat→Prop} {w w':World} {e:Nat} {k:Int} (hd:doS S D x=(e,k,S',D')) (hs:∀ y∈vs,y∈us) (h:ShAt q N S' D' us [] F w w'):SDoR q N S D x vs F w (.returned (.tuple #[.int .i64 k,errV e])) w':=by
 unfold SDoR
 rw [hd]
 exact ⟨rfl,us,hs,h⟩
theorem nodup_lt:∀ (m:Nat) (l:List Nat),l.Nodup→(∀ n∈l,n<m)→l.length≤m
 | 0,l,_,h=>by
  cases l with
  | nil=>simp
  | cons a t=>exact absurd (h a List.mem_cons_self) (by omega)
 | m+1,l,hn,h=>by
  have h1:=nodup_lt m (l.erase m) (hn.erase m) (fun n hq=>by
   have h2:=(hn.mem_erase_iff).1 hq
   have h3:=h n h2.2
   omega)
  rw [List.length_erase] at h1
  split at h1<;>omega
theorem ok_cells {u:U} (h:u.ok):u.cells.length≤1048576:=by
 have h1:((u.cells.map (·.1)).map Int.toNat).Nodup:=by
  rw [List.nodup_iff_pairwise_ne,List.pairwise_map]
  have hn:=h.nodup
  rw [List.nodup_iff_pairwise_ne] at hn
  refine hn.imp_of_mem (fun {a b} ha hb hab e=>hab ?_)
  obtain ⟨p,hp,rfl⟩:=List.mem_map.1 ha
  obtain ⟨q,hq,rfl⟩:=List.mem_map.1 hb
  have h1:=h.addr p hp
  have h2:=h.addr q hq
  have h3:=h.l0
  omega
 have h2:∀ n∈(u.cells.map (·.1)).map Int.toNat,n<1048576:=by
  intro n hn
  obtain ⟨a,ha,rfl⟩:=List.mem_map.1 hn
  obtain ⟨p,hp,rfl⟩:=List.mem_map.1 ha
  have h1:=h.addr p hp
  have h3:=h.l0
  omega
 have:=nodup_lt 1048576 _ h1 h2
 simpa using this
theorem check_of_ap {u:U} {x:Ac} (h:(apU u x).1=0):x.check=0:=by
 unfold apU at h
 split at h
 ·rename_i hc;exact absurd h hc
 ·rename_i hc;simpa using hc
set_option maxHeartbeats 16000000 in
theorem sdo_any {m q N:Nat} {S:Sf} {D:Dk} {vs:PoolL} {F:Nat→Prop} (x:Ac) (a:Option Addr) (c:Nat) (w:World) (h:ShAt q N S D vs [] F w w) (hp:Pow w) (ho:Ok m D) (hm:m≤1073741824) (hpd:D.pend.length≤1073741000) (hB:Bytes w (.slice a x.d.length c) x.d) :
  Calls Tryz.prog 73 #[ptrV q,ac9V x a c] w (SDoR q N S D x vs F w):=by
 obtain ⟨p,bu,bm,G1,Z,H⟩:=sh_open h
 obtain ⟨u,n,br⟩:=S
 have hok:u.ok:=(H.at 0 rfl).2.2
 have hcl:=ok_cells hok
 have HH:=Lib.hid' H
 have HP:=Lib.hid' hp
 have HBY:=Zh (fun (wq:World) (hb:Below w.heap.size w wq)=>show Bytes wq (.slice a x.d.length c) x.d from SlV.below hB (Nat.le_refl _) hb)
 obtain ⟨xk,xe,xa,xd⟩:=x
 clear h H hp hB hok
 rw [show ac9V ⟨xk,xe,xa,xd⟩ a c=.agg #[.int .i64 xk,.int .i64 xe,.int .i64 xa,.slice a xd.length c] from rfl]
 go_enter Tryz.func73, Tryz.ntmps73
 go_upto_region 1 with fail
 have H1:=HH.out.allocAt w.heap.size [.int .i64 xk,.int .i64 xe,.int .i64 xa,.slice a xd.length c] 154 rfl
 have hb1:Below w.heap.size w (w.alloc (.cells #[.int .i64 xk,.int .i64 xe,.int .i64 xa,.slice a xd.length c] 154)):=(Below.refl _ _).alloc (Nat.le_refl _) _
 have H1:Sep w F (.box w.heap.size [.int .i64 xk,.int .i64 xe,.int .i64 xa,.slice a xd.length c] 154::shL q p bu bm N ⟨u,n,br⟩ D vs Z G1 []) (w.alloc (.cells #[.int .i64 xk,.int .i64 xe,.int .i64 xa,.slice a xd.length c] 154)):=H1
 generalize w.alloc (.cells #[.int .i64 xk,.int .i64 xe,.int .i64 xa,.slice a xd.length c] 154)=w1 at *

 have hin:=sh_in H1.tail
 have c3:=hin.c3
 have lq:=hin.lq
 have lB:=H1.lt 0 rfl
 have HW:=Zh (swork_any q br w1 c3 lq)
 cases br with
 | true =>
  have HF:=Zh (show doS ⟨u,n,true⟩ D ⟨xk,xe,xa,xd⟩=(14,0,⟨u,n,true⟩,D) from rfl)
  have HX:=Zh (sh_close H1.tail)
  clear hin
  go_wp2_with (go_at_call 117;refine HW.out.mono ?_;rintro e w2 ⟨rfl,rfl⟩)
  go_ret2
  exact SDoR.of HF.out (fun _ h=>h) HX.out
 | false =>
 have c1:=hin.c1
 have HC:=Zh (ucopy_any w1 (Sep.unitAt H1.tail))
 have HX:=Lib.hid' H1
 have hbu:=Zh (H1.tail.lt' 0 rfl (b:=bu) (.inl rfl))
 clear hin H1 HH
 go_upto_region 4 with (first | (go_at_call 117;refine HW.out.mono ?_;rintro e w2 ⟨rfl,rfl⟩;rw [show errV (if false=true then 14 else 0)=.nilIface from rfl]))
 go_upto_region 5 with (go_at_call 118;refine HC.out.mono ?_;rintro e w2 ⟨rfl,hb2,hz2,hu2⟩)
 have hU2:=hu2 (fun k=>Off w1 Z k∨k=w1.heap.size+1∨k=w1.heap.size) (fun k hk=>by rcases hk with hk | hk | hk;exact .inl hk;exact .inr (by omega);exact .inr (by omega)) (.inr (.inr rfl)) (.inr (.inl rfl))
 obtain ⟨Z2,us,s2,H2⟩:=Sep.unitNew (HX.out.focus 2 rfl) hb2 (by omega) (by omega) hU2
 have hb02:Below w.heap.size w w2:=hb1.trans (hb2.mono hb1.size)
 have hNB:w.heap.size≤w1.heap.size:=hb1.size
 obtain ⟨b2,hb2e⟩:∃ b,w1.heap.size+1=b:=⟨_,rfl⟩
 obtain ⟨m2,hm2e⟩:∃ b,w1.heap.size=b:=⟨_,rfl⟩
 have hbm2:w.heap.size≤b2∧w.heap.size≤m2:=by omega
 rw [hb2e,hm2e] at H2
 rw [hb2e]
 have H3:=(H2.focus 3 rfl).turn (B:=.unit bu bm u us) (Asn.unit_more (H2.at 3 rfl) s2) (fun _ h=>h)
 have H3:Sep w F [.unit b2 m2 u us,.pool Z2 us,.unit bu bm u us,.box w.heap.size [.int .i64 xk,.int .i64 xe,.int .i64 xa,.slice a xd.length c] 154,.box q [ptrV p,ptrV bu,.int .i64 (n:Nat),.bool false] 200,.box p [ptrV N] 248,Asn.disk N D G1] w2:=H3.pick [1,2,0,3,4,5,6] (by decide) rfl
 have HAP:=Zh (rapply_any ⟨xk,xe,xa,xd⟩ a c w2 (Sep.unitAt H3) (fun k hk=>hk.1) hcl (HBY.out w2 hb02))
 have x0:=H3.cell 3 rfl 0 rfl
 have x1:=H3.cell 3 rfl 1 rfl
 have x2:=H3.cell 3 rfl 2 rfl
 have x3:=H3.cell 3 rfl 3 rfl
 have lB2:=H3.lt 3 rfl
 have HX3:=Lib.hid' H3
 have HPW:=Zh (fun (wq:World) (hb:Below w.heap.size w wq)=>HP.out.below hb)
 clear c1 c3 lq lB HW HC HX H2 hU2 hu2 hb2 hz2 H3 hb1 hNB hb2e hm2e HP
 obtain ⟨r,hr⟩:∃ r,apU u ⟨xk,xe,xa,xd⟩=r:=⟨_,rfl⟩
 rw [hr] at HAP
 obtain ⟨e3,n3,u3⟩:=r
 simp only at HAP
 by_cases h3:e3=0
 rotate_left
 ·have HF:=Zh (show doS ⟨u,n,false⟩ D ⟨xk,xe,xa,xd⟩=(e3,0,⟨u,n,false⟩,D) by
   unfold doS;rw [if_neg (by simp)];simp only;rw [hr,if_pos h3])
  have HE:=Lib.hid' h3
  clear h3 hr
  go_wp2_with (go_at_call 119;refine HAP.out.mono ?_;rintro e w3 ⟨rfl,hU3,hf3⟩;rw [errV_pos HE.out])
  go_ret2
  obtain ⟨Z3,us3,s3,H4⟩:=HX3.out.unitCall hU3 hf3
  have H5:=(H4.focus 2 rfl).turn (B:=.unit bu bm u us3) (Asn.unit_more (H4.at 2 rfl) s3) (fun _ h=>h)
  rw [←errV_pos HE.out]
  exact SDoR.of HF.out (fun y hy=>s3 y (s2 y hy)) (sh_close (show Sep w F (shL q p bu bm N ⟨u,n,false⟩ D us3 Z3 G1 []) w3 from H5.pick [0,2,4,5,6] (by decide) rfl))
 subst h3
 have hck:=check_of_ap (u:=u) (x:=⟨xk,xe,xa,xd⟩) (by rw [hr])
 go_upto_region 6 with (go_at_call 119;refine HAP.out.mono ?_;rintro e w3 ⟨rfl,hU3,hf3⟩;rw [errV_0])
 obtain ⟨Z3,us3,s3,H4⟩:=HX3.out.unitCall hU3 hf3
 have hb03:Below w.heap.size w w3:=hb02.trans (hf3.below hb02.size (fun k hk=>by rcases hk with rfl | rfl;exact hbm2.1;exact hbm2.2))
 have H5:=(H4.focus 2 rfl).turn (B:=.unit bu bm u us3) (Asn.unit_more (H4.at 2 rfl) s3) (fun _ h=>h)
 have H5:Sep w F [.unit b2 m2 u3 us3,.pool Z3 us3,.unit bu bm u us3,.box w.heap.size [.int .i64 xk,.int .i64 xe,.int .i64 xa,.slice a xd.length c] 154,.box q [ptrV p,ptrV bu,.int .i64 (n:Nat),.bool false] 200,.box p [ptrV N] 248,Asn.disk N D G1] w3:=H5.pick [1,2,0,3,4,5,6] (by decide) rfl
 have c2:=H5.cell 4 rfl 2 rfl
 have lq:=H5.lt 4 rfl
 clear x0 x1 x2 x3 lB2 HAP HX3 hU3 hf3 H4
 have HS3:=Zh (fun y (hy:y∈vs)=>s3 y (s2 y hy))
 clear s2 s3
 by_cases h99:99999999<n
 ·have h99':(99999999:Int)<(n:Int):=by omega
  have HF:=Zh (show doS ⟨u,n,false⟩ D ⟨xk,xe,xa,xd⟩=(5,0,⟨u,n,false⟩,D) by
   unfold doS;rw [if_neg (by simp)];simp only;rw [hr,if_neg (by simp),if_pos h99])
  have HX5:=Zh (sh_close (show Sep w F (shL q p bu bm N ⟨u,n,false⟩ D us3 Z3 G1 []) w3 from H5.pick [2,1,4,5,6] (by decide) rfl))
  clear h99 hr H5
  go_wp2_with fail
  go_ret2
  exact SDoR.of HF.out HS3.out HX5.out
 have h99':¬(99999999:Int)<(n:Int):=by omega
 have hn9:n≤99999999:=by omega
 have HF0:=Zh (show doS ⟨u,n,false⟩ D ⟨xk,xe,xa,xd⟩=(if (putD D (nameN 114 n) (Ac.put ⟨xk,xe,xa,xd⟩)).1≠0 then ((putD D (nameN 114 n) (Ac.put ⟨xk,xe,xa,xd⟩)).1,0,fallS ⟨u,n,false⟩ (putD D (nameN 114 n) (Ac.put ⟨xk,xe,xa,xd⟩)).1,(putD D (nameN 114 n) (Ac.put ⟨xk,xe,xa,xd⟩)).2) else (0,n3,⟨u3,n+1,false⟩,(putD D (nameN 114 n) (Ac.put ⟨xk,xe,xa,xd⟩)).2)) by
   unfold doS;rw [if_neg (by simp)];simp only;rw [hr,if_neg (by simp),if_neg h99])
 have HPU:=Zh (rput9_any ⟨xk,xe,xa,xd⟩ a c w3 (HBY.out w3 hb03))
 have hpb:Ac.putB ⟨xk,xe,xa,xd⟩=Ac.put ⟨xk,xe,xa,xd⟩:=by unfold Ac.putB;rw [if_neg (by rw [hck];simp)]
 have x0:=H5.cell 3 rfl 0 rfl
 have x1:=H5.cell 3 rfl 1 rfl
 have x2:=H5.cell 3 rfl 2 rfl
 have x3:=H5.cell 3 rfl 3 rfl
 have lB3:=H5.lt 3 rfl
 have HX5:=Lib.hid' H5
 clear h99 hr H5 hb02
 go_upto_region 11 with (go_at_call 120;refine HPU.out.mono ?_;rintro e w4 ⟨ra,rc,rfl,hrow,hb4⟩;rw [hck,errV_0])
 rw [hpb] at hrow
 have H6:=HX5.out.belowRow hb4 hrow
 have hb04:Below w.heap.size w w4:=hb03.trans (hb4.mono hb03.size)
 generalize Ac.put ⟨xk,xe,xa,xd⟩=pb at *
 clear c2 lq x0 x1 x2 x3 lB3 HX5 HPU hrow hb4 hb03 hpb hck
 have H6:Sep w F [.row 5 1 (.slice ra pb.length rc) pb.length (byteVs pb),.unit b2 m2 u3 us3,.pool Z3 us3,.unit bu bm u us3,.box w.heap.size [.int .i64 xk,.int .i64 xe,.int .i64 xa,.slice a xd.length c] 154,.box q [ptrV p,ptrV bu,.int .i64 (n:Nat),.bool false] 200,.box p [ptrV N] 248,Asn.disk N D G1] w4:=H6
 go_wp2_with fail
 have H7:=Lib.hid' H6.drew
 have hb07:=hb04.drew
 have c0:=H7.out.cell 5 rfl 0 rfl
 have c2:=H7.out.cell 5 rfl 2 rfl
 have lq:=H7.out.lt 5 rfl
 have HNA:=Zh (name_any 114 n w4.drew (HPW.out _ hb07) hn9)

 refine startD (S:=(fun w'=>w'.cell? ⟨q,0,none⟩=some (ptrV p)∧w'.cell? ⟨q,2,none⟩=some (.int .i64 (n:Nat))∧q<w'.heap.size)) (by kernel_rfl) ⟨c0,c2,lq⟩ (fun hH0=>?_)
 simp only [List.length_cons,List.length_nil,Nat.reduceAdd,List.replicate_succ,List.replicate_zero]
 refine tD 0 45 (.pointer (some ⟨q,0,none⟩)) rfl rfl [(0,.pointer (some ⟨q,0,none⟩))] hH0 ?_
 dsimp only [sZ,sS]
 refine tD 1 46 (.pointer (some ⟨q,0,none⟩)) rfl rfl [(45,.pointer (some ⟨q,0,none⟩))] hH0 ?_
 dsimp only [sZ,sS]
 refine tD 2 47 (.pointer (some ⟨q,0,none⟩)) rfl rfl [(46,.pointer (some ⟨q,0,none⟩))] hH0 ?_
 dsimp only [sZ,sS]
 refine tD 3 48 (ptrV p) rfl rfl [(47,.pointer (some ⟨q,0,none⟩))] hH0 ?_
 dsimp only [sZ,sS]
 refine tD 4 49 (.pointer (some ⟨q,0,none⟩)) rfl rfl [(0,.pointer (some ⟨q,0,none⟩))] hH0 ?_
 dsimp only [sZ,sS]
 refine tD 5 50 (.pointer (some ⟨q,0,none⟩)) rfl rfl [(49,.pointer (some ⟨q,0,none⟩))] hH0 ?_
 dsimp only [sZ,sS]
 refine tD 6 51 (.pointer (some ⟨q,2,none⟩)) rfl rfl [(50,.pointer (some ⟨q,0,none⟩))] hH0 ?_
 dsimp only [sZ,sS]
 refine tD 7 52 (.int .i64 (n:Nat)) rfl rfl [(51,.pointer (some ⟨q,2,none⟩))] hH0 ?_
 dsimp only [sZ,sS]
 refine tD 9 54 (.slice ra pb.length rc) rfl rfl [(10,.slice ra pb.length rc)] hH0 ?_
 dsimp only [sZ,sS]
 refine rD 8 rfl (fun K hK=>?_)
 go_simp
 refine HNA.out.mono ?_
 rintro en w5 ⟨rfl,hb5⟩
 have H8:=Zh (H7.out.below hb5)
 refine hK.out _ _ ?_ (fun hH1=>?_)
 ·exact ⟨H8.out.cell 5 rfl 0 rfl,H8.out.cell 5 rfl 2 rfl,H8.out.lt 5 rfl⟩
 clear hK K
 try simp only [Act.put,gA,gZ,gS,sA,sZ,sS]
 refine rD 10 rfl (fun K hK=>?_)
 go_simp
 refine (put_any7 (m:=m) (nameN 114 n) ra rc pb w5 (H8.out.at 7 rfl) ⟨H8.out.cell 6 rfl 0 rfl,H8.out.lt 6 rfl,fun hg=>H8.out.off 6 7 rfl rfl (by decide) p rfl hg⟩ ho hm hpd (SlV.of_own (H8.out.row 0 rfl)) (own_slin (H8.out.row 0 rfl) (fun b hb hg=>H8.out.off 0 7 rfl rfl (by decide) b hb hg))).mono ?_
 rintro en w6 ⟨rfl,G6,hk6⟩
 have H9:=Zh ((H8.out.focus 7 rfl).call hk6)
 refine hK.out _ _ ?_ (fun hH2=>?_)
 ·exact ⟨H9.out.cell 6 rfl 0 rfl,H9.out.cell 6 rfl 2 rfl,H9.out.lt 6 rfl⟩
 clear hK K
 try simp only [Act.put,gA,gZ,gS,sA,sZ,sS]
 refine tD 11 11 (errV (putD D (nameN 114 n) pb).1) rfl rfl [(55,errV (putD D (nameN 114 n) pb).1)] hH2 ?_
 dsimp only [sZ,sS]
 refine wpAnyH_done (by kernel_rfl) ?_ _
 clear c0 c2 lq HNA hb07 hb5 hk6 H7 H8 H6
 have H9b:Hid (Sep w F [Asn.disk N (putD D (nameN 114 n) pb).2 G6,.unit b2 m2 u3 us3,.pool Z3 us3,.unit bu bm u us3,.box q [ptrV p,ptrV bu,.int .i64 (n:Nat),.bool false] 200,.box p [ptrV N] 248] w6):=Zh (H9.out.pick [0,2,3,4,6,7] (by decide) rfl)
 clear H9
 generalize putD D (nameN 114 n) pb=r at *
 obtain ⟨e9,D9⟩:=r
 simp only at H9b HF0
 by_cases h9:e9=0
 ·subst h9
  have HF:=Zh (show doS ⟨u,n,false⟩ D ⟨xk,xe,xa,xd⟩=(0,n3,⟨u3,n+1,false⟩,D9) by rw [HF0.out,if_neg (by simp)])
  have c1:=H9b.out.cell 4 rfl 1 rfl
  have c2:=H9b.out.cell 4 rfl 2 rfl
  have f1:=H9b.out.free 4 rfl 1
  have f2:=H9b.out.free 4 rfl 2
  have lq:=H9b.out.lt 4 rfl
  rw [errV_0]
  go_wp2_with fail
  go_ret2
  have H10:=((H9b.out.set 4 rfl 1 (ptrV b2)).set 0 rfl 2 (.int .i64 ((n+1:Nat):Int)))
  have H11:Sep w F (shL q p b2 m2 N ⟨u3,n+1,false⟩ D9 us3 Z3 G6 []) _:=H10.pick [2,3,0,5,1] (by decide) rfl
  first | exact SDoR.of HF.out HS3.out (sh_close H11) | (go_num;exact SDoR.of HF.out HS3.out (sh_close H11))
 ·have HF:=Zh (show doS ⟨u,n,false⟩ D ⟨xk,xe,xa,xd⟩=(e9,0,fallS ⟨u,n,false⟩ e9,D9) by rw [HF0.out,if_pos h9])
  have HE:=Lib.hid' h9
  have HFA:=Zh (fall_any e9 w6 (show Sep w F (shL q p bu bm N ⟨u,n,false⟩ D9 us3 Z3 G6 []) w6 from H9b.out.pick [3,2,4,5,0] (by decide) rfl))
  rw [errV_pos h9] at HFA ⊢
  clear h9
  go_wp2_with (go_at_call 123;refine HFA.out.mono ?_;rintro e wz ⟨rfl,hz⟩)
  go_ret2
  rw [←errV_pos HE.out]
  exact SDoR.of HF.out HS3.out (sh_close hz)

theorem names_new (r:Int):namesOf (newD r).shown=[]:=by
 show namesOf []=[]
 unfold namesOf
 simp
theorem open_new (r:Int):openD (namesOf (newD r).shown) (newD r)=(0,newD r):=by rw [names_new];rfl
theorem objs_new (r:Int) (b:Nm):objs (newD r) b=[]:=by unfold objs;rw [names_new];rfl
theorem get_new (r:Int):(getD (newD r) (nameN 114 0)).1=4:=by
 unfold getD
 have ho:objNamed (nameN 114 0)=true:=by kernel_rfl
 rw [if_neg (by rw [ho];decide)]
 rfl
theorem weak2 {A A':Nat→Prop} {w:World} {bu bm:Nat} {u:U} (h:UnitAt A w bu bm u) (hA:∀ k,A' k→A k) (h1:A' bu) (h2:A' bm):UnitAt A' w bu bm u:=by
 obtain ⟨L,q1,q2⟩:=h.map
 exact ⟨h.blk,⟨L,q1,q2.mono (fun x y _ _ ⟨r1,a,c,r2,r3,r4⟩=>⟨r1,a,c,r2,r3,fun p hp=>⟨fun hk=>(r4 p hp).1 (hA _ hk),(r4 p hp).2⟩⟩)⟩,h.ok,h1,h2⟩
set_option maxHeartbeats 8000000 in
theorem base_new {m p N:Nat} {D:Dk} {G:Nat→Prop} (w:World) (h:(Asn.disk N D G).holds w) (hs:StoAt p N G w) (ho:Ok m D) (hm:m≤1073741824) (hd:D.down=false) (hob:objs D bName=[]) :
  Calls Tryz.prog 115 #[ptrV p] w (fun e w'=>∃ bu bm,e=.returned (.tuple #[ptrV bu,.int .i64 0,.nilIface])∧w.heap.size≤bu∧w.heap.size≤bm∧UnitAt (fun k=>k=bu∨k=bm∨k<w.heap.size) w' bu bm U.new∧Below w.heap.size w w'):=by
 have HL:=Zh (slist_any bName w h hs ho hm)
 have hsl:slistD D bName=(0,objs D bName):=by unfold slistD objs;rw [if_neg (by rw [hd];decide)]
 rw [hob] at hsl
 rw [hsl] at HL
 clear h hs ho hsl hd hob
 go_enter Tryz.func115, Tryz.ntmps115
 go_upto_region 2 with (go_at_call 165;refine HL.out.mono ?_;rintro e w1 ⟨a,c,rfl,hrow,hb⟩;simp only [errV_0])
 have H:=Zh ((Sep.start w).belowRow hb hrow)
 clear hrow hb HL
 go_upto_region 5 with fail
 go_loopw [7] (fun v7 wr=>v7=.int .i64 (-1)∧Hid (Below w.heap.size w wr)) (fun _ _=>0)
 case atStart=>exact ⟨by first | rfl | exact IntWalk.i64_in _ (by decide),Lib.hid' H.out.toBelow⟩
 case round =>
  clear H
  obtain ⟨rfl,HS⟩:=hrel
  go_wp2_with (go_at_call 169;refine (new_any _).mono ?_;rintro e w2 ⟨rfl,hb2,hz2,hu2⟩)
  go_ret3
  have hs:=HS.out
  exact ⟨wr.heap.size+1,wr.heap.size,rfl,by have:=hs.size;omega,hs.size,hu2 _ (.inr (.inl rfl)) (.inl rfl),hs.trans (hb2.mono hs.size)⟩
set_option maxHeartbeats 16000000 in
theorem again_new {m q N:Nat} {u:U} {n:Nat} {D:Dk} {vs:PoolL} {F:Nat→Prop} (w:World) (h:ShAt q N ⟨u,n,false⟩ D vs [] F w w) (hp:Pow w) (ho:Ok m D) (hn9:n≤99999999) (hg4:(getD D (nameN 114 n)).1=4):Calls Tryz.prog 116 #[ptrV q] w (fun e w'=>e=.returned (.tuple #[.bool false,.nilIface])∧ShR q N ⟨u,n,false⟩ D vs F w w'):=by
 have HG4:=Lib.hid' hg4
 clear hg4
 obtain ⟨p,bu,bm,G1,Z,H⟩:=sh_open h
 have hok:u.ok:=(H.at 0 rfl).2.2
 have hcl:=ok_cells hok
 have hin:=sh_in H
 have HH:=Lib.hid' H
 have c2:=hin.c2
 have lq:=hin.lq
 clear h hok
 have h99':¬(99999999:Int)<(n:Int):=by omega
 have HGE:=Zh (fun (wq:World) (hb:Below w.heap.size w wq)=>get_any7 (nameN 114 n) wq (((H.below hb).at 4 rfl)) (sh_disk (H.below hb)).2 ho)
 have HNA:=Zh (name_any 114 n w.drew (hp.below ((Below.refl _ w).drew)) hn9)
 have c0:=hin.c0
 have c0d:=(H.drew).cell 2 rfl 0 rfl
 have c2d:=(H.drew).cell 2 rfl 2 rfl
 have HIN:=Lib.hid' hin
 clear H hin hp ho hn9
 go_enter Tryz.func116, Tryz.ntmps116
 go_upto_region 3 with fail

 refine startD (S:=(fun w'=>w'.cell? ⟨q,0,none⟩=some (ptrV p)∧w'.cell? ⟨q,2,none⟩=some (.int .i64 (n:Nat))∧q<w'.heap.size)) (by kernel_rfl) ⟨c0d,c2d,by simpa using lq⟩ (fun hH0=>?_)
 simp only [List.length_cons,List.length_nil,Nat.reduceAdd,List.replicate_succ,List.replicate_zero]
 refine tD 0 15 (.pointer (some ⟨q,0,none⟩)) rfl rfl [(0,.pointer (some ⟨q,0,none⟩))] hH0 ?_
 dsimp only [sZ,sS]
 refine tD 1 16 (.pointer (some ⟨q,0,none⟩)) rfl rfl [(15,.pointer (some ⟨q,0,none⟩))] hH0 ?_
 dsimp only [sZ,sS]
 refine tD 2 17 (.pointer (some ⟨q,0,none⟩)) rfl rfl [(16,.pointer (some ⟨q,0,none⟩))] hH0 ?_
 dsimp only [sZ,sS]
 refine tD 3 18 (ptrV p) rfl rfl [(17,.pointer (some ⟨q,0,none⟩))] hH0 ?_
 dsimp only [sZ,sS]
 refine tD 4 19 (.pointer (some ⟨q,0,none⟩)) rfl rfl [(0,.pointer (some ⟨q,0,none⟩))] hH0 ?_
 dsimp only [sZ,sS]
 refine tD 5 20 (.pointer (some ⟨q,0,none⟩)) rfl rfl [(19,.pointer (some ⟨q,0,none⟩))] hH0 ?_
 dsimp only [sZ,sS]
 refine tD 6 21 (.pointer (some ⟨q,2,none⟩)) rfl rfl [(20,.pointer (some ⟨q,0,none⟩))] hH0 ?_
 dsimp only [sZ,sS]
 refine tD 7 22 (.int .i64 (n:Nat)) rfl rfl [(21,.pointer (some ⟨q,2,none⟩))] hH0 ?_
 dsimp only [sZ,sS]
 refine rD 8 rfl (fun K hK=>?_)
 go_simp
 refine HNA.out.mono ?_
 rintro en w1 ⟨rfl,hb1⟩
 have hb01:Below w.heap.size w w1:=((Below.refl _ w).drew).trans (hb1.mono (by simp))
 have hi1:=HIN.out.below hb01
 have HG1:=Zh (HGE.out w1 hb01)
 refine hK.out _ _ ?_ (fun hH1=>?_)
 ·exact ⟨hi1.c0,hi1.c2,hi1.lq⟩
 clear hK K
 try simp only [Act.put,gA,gZ,gS,sA,sZ,sS]
 refine rD 9 rfl (fun K hK=>?_)
 go_simp
 refine HG1.out.mono ?_
 rintro en w2 ⟨ga,gc,rfl,hgr,hb2⟩
 have hb02:=hb01.trans (hb2.mono hb01.size)
 have hi2:=HIN.out.below hb02
 refine hK.out _ _ ?_ (fun hH2=>?_)
 ·exact ⟨hi2.c0,hi2.c2,hi2.lq⟩
 clear hK K
 try simp only [Act.put,gA,gZ,gS,sA,sZ,sS]
 refine tD 10 14 (.tuple #[.slice ga (getD D (nameN 114 n)).2.length gc,errV (getD D (nameN 114 n)).1]) rfl rfl [(24,.tuple #[.slice ga (getD D (nameN 114 n)).2.length gc,errV (getD D (nameN 114 n)).1])] hH2 ?_
 dsimp only [sZ,sS]
 refine tD 11 25 (.slice ga (getD D (nameN 114 n)).2.length gc) rfl rfl [(14,.tuple #[.slice ga (getD D (nameN 114 n)).2.length gc,errV (getD D (nameN 114 n)).1])] hH2 ?_
 dsimp only [sZ,sS]
 refine tD 12 26 (errV (getD D (nameN 114 n)).1) rfl rfl [(14,.tuple #[.slice ga (getD D (nameN 114 n)).2.length gc,errV (getD D (nameN 114 n)).1])] hH2 ?_
 dsimp only [sZ,sS]
 refine tD 13 4 (.slice ga (getD D (nameN 114 n)).2.length gc) rfl rfl [(25,.slice ga (getD D (nameN 114 n)).2.length gc)] hH2 ?_
 dsimp only [sZ,sS]
 refine tD 14 5 (errV (getD D (nameN 114 n)).1) rfl rfl [(26,errV (getD D (nameN 114 n)).1)] hH2 ?_
 dsimp only [sZ,sS]
 refine wpAnyH_done (by kernel_rfl) ?_ _
 clear c0 c2 lq c0d c2d HNA HGE HG1 hb1 hb01 hi1 hi2 hb2 HIN

 have hgb:Bytes w2 (.slice ga (getD D (nameN 114 n)).2.length gc) (getD D (nameN 114 n)).2:=SlV.of_own hgr
 generalize getD D (nameN 114 n)=g at *
 obtain ⟨ge,gd⟩:=g
 simp only at hgb HG4 hgr
 clear hgr hH0 hH1 hH2
 obtain rfl:ge=4:=HG4.out
 have HX:=Zh (HH.out.below hb02)
 rw [errV_pos (n:=4) (by decide)]
 clear HH hgb hb02
 go_wp2_with fail
 go_ret2
 exact ⟨rfl,_,fun _ h=>h,sh_close HX.out⟩
set_option maxHeartbeats 16000000 in
theorem shopen_new {m N:Nat} {D:Dk} {G:Nat→Prop} (w:World) (h:(Asn.disk N D G).holds w) (hp:Pow w) (ho:Ok m D) (hm:m≤536870912) (hpd:D.pend.length≤536870912) (hG:∀ wq,(∃ L,Sep w G L wq)→Pow wq) (hop:openD (namesOf D.shown) D=(0,D)) (hdn:D.down=false) (hob:objs D bName=[]) (hg4:(getD D (nameN 114 0)).1=4) :
  Calls Tryz.prog 72 #[ptrV N] w (fun e w'=>∃ q us,e=.returned (.tuple #[ptrV q,.nilIface])∧ShAt q N ⟨U.new,0,false⟩ D us [] G w w'):=by
 have HSO:=Zh (sopen_any w h ho hm hpd)
 have HPW:=Lib.hid' hG
 have HOO:=Lib.hid' ho
 have HG4:=Lib.hid' hg4
 rw [hop] at HSO
 clear h hp hpd hG hop hg4
 go_enter Tryz.func72, Tryz.ntmps72
 go_upto_region 2 with (go_at_call 114;refine HSO.out.mono ?_;rintro e w1 (⟨hz,_⟩ | ⟨_,p,G1,rfl,hk1⟩);(exact absurd rfl hz))
 have HK1:=Lib.hid' hk1
 have HBA:=Zh (base_new w1 (hk1.at 1 rfl) ⟨hk1.cell 0 rfl 0 rfl,hk1.lt 0 rfl,fun hg=>hk1.off 0 1 rfl rfl (by decide) p rfl hg⟩ ho (by omega) hdn hob)
 clear hk1 HSO ho hob hdn
 go_upto_region 5 with (go_at_call 115;refine HBA.out.mono ?_;rintro e w2 ⟨bu,bm,rfl,g1,g2,hu2,hb2⟩)
 obtain ⟨Z2,us,_,H2⟩:=Sep.unitNew (HK1.out.pool0) hb2 g1 g2 (weak2 hu2 (fun k hk=>by rcases hk with h | h | h;exact .inr (.inr h.1);exact .inl h;exact .inr (.inl h)) (.inr (.inl rfl)) (.inr (.inr rfl)))
 have H3:=H2.allocAt w2.heap.size [ptrV p,ptrV bu,.int .i64 0,.bool false] 200 rfl
 have H4:Sep w G (shL w2.heap.size p bu bm N ⟨U.new,0,false⟩ D us Z2 G1 []) (w2.alloc (.cells #[ptrV p,ptrV bu,.int .i64 0,.bool false] 200)):=H3.pick [1,2,0,3,4] (by decide) rfl
 have HX:=Zh (sh_close H4)
 clear H2 H3 H4 HK1 HBA hu2 hb2 g1 g2
 go_wp2_with fail
 generalize w2.heap.size=q at *
 generalize w2.alloc (.cells #[ptrV p,ptrV bu,.int .i64 0,.bool false] 200)=w3 at *
 go_loopw [] (fun wr=>Hid (ShAt q N ⟨U.new,0,false⟩ D us [] G w wr)) (fun _=>0)
 case atStart=>exact HX
 case round =>
  clear HX
  have HS:=hrel
  obtain ⟨F',hF,hk⟩:=HS.out.enter
  obtain ⟨p',bu',bm',Ga,Za,Ha⟩:=sh_open HS.out
  have hpw:Pow wr:=HPW.out wr ⟨_,Ha⟩
  have HAG:=Zh (again_new wr hF hpw HOO.out (by decide) HG4.out)
  clear Ha hF hpw
  go_wp2_with (go_at_call 116;refine HAG.out.mono ?_;rintro e w5 ⟨rfl,us5,_,h5⟩)
  go_ret2
  exact ⟨q,us5,rfl,hk _ _ _ [] _ h5⟩
end SH
end Go.Proofs.YtaodldbgikiekaaGreatDoor
