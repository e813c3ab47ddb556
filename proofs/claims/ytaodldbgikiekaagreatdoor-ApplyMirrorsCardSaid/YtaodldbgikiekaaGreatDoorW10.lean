/- Proved here: a part of the proof (10 of 35). -/
import Derived.Test.YtaodldbgikiekaaGreatDoorW2
import Derived.StillTailTactics
import Derived.Test.YtaodldbgikiekaaGreatDoorW1
import Derived.Laws.Externs
import Derived.MapKept
import Derived.Maps.OwnOps
import Derived.Maps.RangeWalk
set_option linter.unusedSimpArgs false
set_option linter.unusedVariables false
set_option maxRecDepth 20000
namespace Go.Proofs.YtaodldbgikiekaaGreatDoor
open Go.RowKit

theorem take_succ {α:Type} (L:List α) (k:Nat) (hk:k<L.length):L.take (k+1)=L.take k++[L[k]]:=by
 rw [List.take_succ_eq_append_getElem hk]

def zCell:Value:=.agg #[.int .i64 0,.slice none 0 0]
theorem mtCells:MapT Tryz.prog 209 3 28 zCell:=⟨Tryz.underlying209,Tryz.underlying3,fun w=>by kernel_rfl⟩

/-- an entry of a map of cells reads as this one; its bytes lie outside A -/
def EntIs (A:Nat→Prop) (w:World) (p:Int×Value) (q:Int×C):Prop :=
 p.1=q.1∧∃ a cap,p.2=.agg #[.int .i64 q.2.k,.slice a q.2.d.length cap]∧Bytes w (.slice a q.2.d.length cap) q.2.d∧∀ x,a=some x→¬A x.block∧x.block<w.heap.size

def CellsAt (A:Nat→Prop) (w:World) (bm:Nat) (M:List (Int×C)):Prop:=∃ L,MapAt w bm L∧F2 (EntIs A w) L M

structure UnitAt (A:Nat→Prop) (w:World) (bu bm:Nat) (u:U):Prop where
 blk:w.heap[bu]?=some (.cells #[.int .i64 u.e,.int .i64 u.l,.map (some bm)] 211 (0,0))
 map:CellsAt A w bm u.cells
 ok:u.ok
 abu:A bu
 abm:A bm

theorem EntIs.fr {A F:Nat→Prop} {w w':World} {p:Int×Value} {q:Int×C} (h:EntIs A w p q) (hf:Fr F w w') (hF:∀ k,F k→A k):EntIs A w' p q:=by
 obtain ⟨h1,a,cap,h2,h3,h4⟩:=h
 refine ⟨h1,a,cap,h2,SlV.fr h3 hf ?_,fun x hx=>⟨(h4 x hx).1,Nat.lt_of_lt_of_le (h4 x hx).2 hf.size⟩⟩
 intro x n c hv
 simp only [Value.slice.injEq] at hv
 exact fun hk=>(h4 x hv.1).1 (hF _ hk)

theorem CellsAt.fr {A F:Nat→Prop} {w w':World} {bm:Nat} {M:List (Int×C)} (h:CellsAt A w bm M) (hf:Fr F w w') (hb:w'.heap[bm]?=w.heap[bm]?) (hF:∀ k,F k→A k):CellsAt A w' bm M:=by
 obtain ⟨L,h1,h2⟩:=h
 exact ⟨L,h1.block hb,h2.mono fun _ _ _ _ h=>h.fr hf hF⟩

theorem UnitAt.lt {A:Nat→Prop} {w:World} {bu bm:Nat} {u:U} (h:UnitAt A w bu bm u):bu<w.heap.size∧bm<w.heap.size:=by
 obtain ⟨L,h1,_⟩:=h.map
 exact ⟨(Array.getElem?_eq_some_iff.1 h.blk).1,h1.lt⟩
theorem UnitAt.ne {A:Nat→Prop} {w:World} {bu bm:Nat} {u:U} (h:UnitAt A w bu bm u):bu≠bm:=by
 obtain ⟨L,⟨es,clock,h1,_⟩,_⟩:=h.map
 intro e;have:=h.blk;rw [e,h1] at this;simp at this

theorem UnitAt.fr {A F:Nat→Prop} {w w':World} {bu bm:Nat} {u:U} (h:UnitAt A w bu bm u) (hf:Fr F w w') (h1:¬F bu) (h2:¬F bm) (hF:∀ k,F k→A k):UnitAt A w' bu bm u :=
 ⟨(hf.block _ h.lt.1 h1).trans h.blk,h.map.fr hf (hf.block _ h.lt.2 h2) hF,h.ok,h.abu,h.abm⟩
theorem UnitAt.below {A:Nat→Prop} {w w':World} {bu bm:Nat} {u:U} (h:UnitAt A w bu bm u) {B:Nat} (hB:w.heap.size≤B) (hb:Below B w w'):UnitAt A w' bu bm u :=
 h.fr (Fr.of_below (F:=fun _=>False) (hb.mono hB)) (fun h=>h) (fun h=>h) (fun _ h=>h.elim)
theorem UnitAt.cell {A:Nat→Prop} {w:World} {bu bm:Nat} {u:U} (h:UnitAt A w bu bm u) :
  w.cell? ⟨bu,0,none⟩=some (.int .i64 u.e)∧w.cell? ⟨bu,1,none⟩=some (.int .i64 u.l)∧w.cell? ⟨bu,2,none⟩=some (.map (some bm)):=by
 refine ⟨?_,?_,?_⟩<;>simp [World.cell?,h.blk]
theorem UnitAt.free {A:Nat→Prop} {w:World} {bu bm:Nat} {u:U} (h:UnitAt A w bu bm u) (o:Nat):w.frozen? ⟨bu,o,none⟩=false:=by
 simp [World.frozen?,h.blk]
/-- what an entry's look-up gives -/
theorem CellsAt.look {A:Nat→Prop} {w:World} {bm:Nat} {M:List (Int×C)} (h:CellsAt A w bm M) (a:Int):∃ L ad cap,MapAt w bm L∧(lookE L a).getD zCell=.agg #[.int .i64 (lookC M a).k,.slice ad (lookC M a).d.length cap]∧Bytes w (.slice ad (lookC M a).d.length cap) (lookC M a).d:=by
 obtain ⟨L,h1,h2⟩:=h
 rcases h2.find (f:=fun p=>p.1==a) (g:=fun p=>p.1==a) (fun p q h=>by rw [h.1]) with ⟨e1,e2⟩ | ⟨p,q,e1,e2,hr⟩
 ·refine ⟨L,none,0,h1,?_,?_⟩
  ·simp [lookE,lookC,e1,e2,zCell]
  ·simp only [lookC,e2];exact SlV.empty _ _ _ (Nat.zero_le _) (fun _=>rfl)
 ·obtain ⟨_,ad,cap,hv,hb,_⟩:=hr
  refine ⟨L,ad,cap,h1,?_,?_⟩
  ·simp [lookE,lookC,e1,e2,hv]
  ·simp only [lookC,e2];exact hb

theorem in_any (x m:Int) (w:World):Calls Tryz.prog 194 #[.int .i64 x,.int .i64 m] w fun e w'=>e=.returned (.bool (inR x m))∧w=w':=by
 go_enter Tryz.func194, Tryz.ntmps194
 go_wp2
 all_goals go_ret
 all_goals refine ⟨ret_eq ?_,rfl⟩
 ·have h:(0:Int)≤x:=by assumption
  simp [inR,h]
 ·have h:x<0:=by assumption
  have h':¬(0:Int)≤x:=by omega
  simp [inR,h']

theorem cur_any {A:Nat→Prop} {bu bm:Nat} {u:U} (e:Int) (w:World) (h:UnitAt A w bu bm u):Calls Tryz.prog 225 #[.pointer (some ⟨bu,0,none⟩),.int .i64 e] w fun en w'=>en=.returned (errV (u.cur e))∧w=w':=by
 obtain ⟨c0,_,_⟩:=h.cell
 clear h
 go_enter Tryz.func225, Tryz.ntmps225
 go_wp2
 all_goals go_ret
 all_goals refine ⟨ret_eq ?_,rfl⟩
 all_goals (unfold U.cur;(repeat' split)<;>first | rfl | (exfalso;omega))

theorem asks_any {A:Nat→Prop} {bu bm:Nat} {u:U} (e:Int) (f:Bool) (w:World) (h:UnitAt A w bu bm u):Calls Tryz.prog 193 #[.pointer (some ⟨bu,0,none⟩),.int .i64 e,.bool f] w fun en w'=>en=.returned (errV (u.asks e f))∧w=w':=by
 have H:=Lib.hid' h
 clear h
 cases f
 ·go_enter Tryz.func193, Tryz.ntmps193
  go_wp2
  go_ret
  exact ⟨rfl,rfl⟩
 ·go_enter Tryz.func193, Tryz.ntmps193
  go_wp2_with (go_at_call 225;refine (cur_any _ _ H.out).mono ?_;rintro en w' ⟨rfl,rfl⟩)
  go_ret
  exact ⟨rfl,rfl⟩
def NewR (w:World) (en:Ending) (w':World):Prop:=en=.returned (.pointer (some ⟨w.heap.size+1,0,none⟩))∧Below w.heap.size w w'∧w'.heap.size=w.heap.size+2∧∀ A:Nat→Prop,A w.heap.size→A (w.heap.size+1)→UnitAt A w' (w.heap.size+1) w.heap.size U.new

theorem new_any (w:World):Calls Tryz.prog 169 #[] w (NewR w):=by
 have hmm:=@run_makeMap Tryz.prog
 go_enter Tryz.func169, Tryz.ntmps169
 go_wp2
 go_ret
 refine ⟨rfl,by go_grown,by simp,fun A h1 h2=>⟨?_,⟨[],?_,.nil⟩,U.ok_new,h2,h1⟩⟩
 ·exact heap_alloc2_new w _ _
 ·exact (MapAt.made w).block (Below.heap_alloc _ _ _ (by simp))

theorem low_any {A:Nat→Prop} {bu bm:Nat} {u:U} (w:World) (h:UnitAt A w bu bm u):Calls Tryz.prog 84 #[.pointer (some ⟨bu,0,none⟩)] w fun en w'=>en=.returned (.int .i64 u.l)∧w=w':=by
 obtain ⟨_,c1,_⟩:=h.cell
 clear h
 go_enter Tryz.func84, Tryz.ntmps84
 go_wp2
 go_ret
 exact ⟨rfl,rfl⟩
def AtR (c:C) (w:World) (en:Ending) (w':World):Prop:=∃ a cap,en=.returned (.agg #[.int .i64 c.k,.slice a c.d.length cap])∧Bytes w' (.slice a c.d.length cap) c.d∧Below w.heap.size w w'

theorem at_any {A:Nat→Prop} {bu bm:Nat} {u:U} (a:Int) (w:World) (h:UnitAt A w bu bm u):Calls Tryz.prog 196 #[.pointer (some ⟨bu,0,none⟩),.int .i64 a] w (AtR (u.at a) w):=by
 obtain ⟨_,c1,c2⟩:=h.cell
 have hlt:=h.lt.1
 by_cases hl:a<u.l
 ·have e1:=Zh (show u.at a=⟨3,[]⟩ by simp [U.at,hl])
  clear h
  go_enter Tryz.func196, Tryz.ntmps196
  go_wp2
  refine bodyPost_ret (v:=.agg #[.int .i64 3,.slice none 0 0]) (by simp [results,Tryz.results196,go_sem]) rfl ?_
  rw [e1.out]
  exact ⟨_,_,rfl,SlV.empty _ _ _ (Nat.zero_le _) (fun _=>rfl),by go_grown⟩
 ·have e1:=Zh (show u.at a=lookC u.cells a by simp [U.at,hl])
  obtain ⟨L,ad,cap,hm,hv,hb⟩:=h.map.look a
  have HM:=Lib.hid' hm
  have HV:=Lib.hid' hv
  have HB:=Lib.hid' hb
  clear h hm hv hb
  go_enter Tryz.func196, Tryz.ntmps196
  go_wp2_with (at_lookup;refine wp_look (b:=bm) (L:=L) mtCells rfl (.tmp 15) (.tmp 16) rfl rfl a rfl (HM.out.block (Below.heap_alloc _ _ _ HM.out.lt)) ?_;rw [HV.out])
  refine bodyPost_ret (v:=.agg #[.int .i64 (lookC u.cells a).k,.slice ad (lookC u.cells a).d.length cap]) (by simp [results,Tryz.results196,go_sem]) rfl ?_
  rw [e1.out]
  exact ⟨_,_,rfl,SlV.below HB.out (Nat.le_refl _) (by go_grown),by go_grown⟩

theorem F2.keys {A:Nat→Prop} {w:World} {L:List (Int×Value)} {M:List (Int×C)} (h:F2 (EntIs A w) L M):L.map (·.1)=M.map (·.1):=h.map_eq fun _ _ h=>h.1

set_option maxHeartbeats 400000 in
theorem tail_any {A:Nat→Prop} {bu bm:Nat} {u:U} (w:World) (h:UnitAt A w bu bm u):Calls Tryz.prog 224 #[.pointer (some ⟨bu,0,none⟩)] w fun en w'=>en=.returned (.int .i64 u.tail)∧Below w.heap.size w w':=by
 obtain ⟨_,c1,c2⟩:=h.cell
 obtain ⟨L,hm,h2⟩:=h.map
 have hk:=h2.keys
 have hok:=h.ok
 have hbd:∀ a v,(a,v)∈L→0≤a∧a<1048576:=fun a v hav=>by
  obtain ⟨q,hq,hr⟩:=h2.mem_left hav
  have h1:=hok.addr q hq
  have h2:=hok.l0
  have h3:a=q.1:=hr.1
  omega
 have ht:=tail_keys u
 rw [←hk] at ht
 have hl0:=hok.l0
 have hl1:=hok.l1
 have HM:=Lib.hid' hm
 have HB:=Lib.hid' hbd
 have HT:=Lib.hid' ht
 clear h h2 hk hok hm hbd ht
 go_enter Tryz.func224, Tryz.ntmps224
 go_wp2_with (at_range;refine wp_range mtCells rfl (.tmp 12) rfl rfl HM.out ?_;intro w1 hi hb1 hz1)
 have Hi:=Lib.hid' hi
 have Hb1:=Lib.hid' hb1
 clear hi hb1 hz1 c1 c2
 go_frame
 go_loopw [3,4] (fun v3 _ wr=>∃ m left last,v3=.int .i64 m∧IterAt wr w.heap.size bm L left last∧left.Sublist L∧(left.map (·.1)).foldl tailK m=u.tail∧0≤m∧m≤1048576∧Below w.heap.size w wr) (fun _ _ wr=>iterLeft wr w.heap.size)
 case atStart=>exact ⟨u.l,L,none,rfl,Hi.out,List.Sublist.refl _,HT.out.symm,by omega,by omega,Hb1.out⟩
 case round =>
  obtain ⟨m,left,last,rfl,hit,hsub,hfold,hm0,hm1,hbw⟩:=hrel
  have Hsub:=Lib.hid' hsub
  have Hfold:=Lib.hid' hfold
  have Hbw:=Lib.hid' hbw
  have Hcnt:=Lib.hid' hit.left_eq
  have hlt:=hit.lt
  clear hsub hfold hbw
  go_wp2_with (refine wp_next rfl (.tmp 13) rfl rfl hit ?_ ?_)
  ·intro hl w' hb hh
   have Hl:=Lib.hid' hl
   have Hbb:=Lib.hid' hb
   clear hl hb hh hlt hit
   go_wp2
   go_ret
   refine ⟨ret_eq ?_,(Hbw.out.trans (Hbb.out.mono Hbw.out.size))⟩
   have:=Hfold.out
   rw [Hl.out] at this
   simp at this
   show Value.int .i64 m=_
   rw [this]
  ·intro w2 x v pre post hl hit2 hf2
   have Hl:=Lib.hid' hl
   have hx:=HB.out x v (Hsub.out.mem (by rw [hl];simp))
   have Hf2:=Lib.hid' hf2
   clear hl hf2 hit
   go_wp2_with (refine wp_entry rfl (.tmp 13) rfl rfl hit2 ?_)
   go_roundw
   case rel =>
    refine ⟨tailK m x,pre++post,some (x,v),?_,hit2,?_,?_,?_,?_,?_⟩
    ·unfold tailK;go_num
    ·exact List.Sublist.trans (by rw [Hl.out];simp) Hsub.out
    ·have:=Hfold.out
     rw [Hl.out,List.map_append,List.map_cons,tailK_pick] at this
     rw [List.map_append];exact this
    ·unfold tailK;omega
    ·unfold tailK;omega
    ·exact Hbw.out.trans (Hf2.out.below (by omega) (by intro k hk;omega))
   case measure=>rw [Hcnt.out,hit2.left_eq,Hl.out];simp


def IsCell (v:Value):Prop:=∃ k a n c,v=.agg #[.int .i64 k,.slice a n c]

def DelR (p:Int→Bool) (b:Nat) (L:List (Int×Value)) (w:World) (e:Ending) (w':World):Prop :=
 e=.returned (.tuple #[])∧MapAt w' b (L.filter (fun q=>!p q.1))∧Fr (·=b) w w'

theorem del_step {L left pre post:List (Int×Value)} {p:Int→Bool} {x:Int} {v:Value} {k:Bool} (hp:p x=k) (hl:left=pre++(x,v)::post) (hn:(left.map (·.1)).Nodup) :
  (if k then delE (L.filter (fun q=>!p q.1||left.any (·.1==q.1))) x else L.filter (fun q=>!p q.1||left.any (·.1==q.1)))=L.filter (fun q=>!p q.1||(pre++post).any (·.1==q.1)):=by
 subst hl
 simp only [List.map_append,List.map_cons,List.nodup_append,List.nodup_cons] at hn
 have hx:∀ q∈pre++post,q.1≠x:=fun q hq he=>by
  rcases List.mem_append.1 hq with hq | hq
  ·exact hn.2.2 _ (List.mem_map_of_mem hq) _ List.mem_cons_self he
  ·exact hn.2.1.1 (by rw [←he];exact List.mem_map_of_mem hq)
 have hany:(pre++post).any (fun q=>q.1==x)=false:=by
  rw [List.any_eq_false];intro q hq;simpa using hx q hq
 cases k with
 | true =>
  simp only [if_true,delE,List.filter_filter]
  refine List.filter_congr fun q hq=>?_
  by_cases hqx:q.1=x
  ·rw [hqx,hp,hany];simp
  ·have e1:(x==q.1)=false:=by simp;exact fun h=>hqx h.symm
   simp [hqx,e1,List.any_append,List.any_cons]
 | false =>
  simp only [Bool.false_eq_true,if_false]
  refine List.filter_congr fun q hq=>?_
  by_cases hqx:q.1=x
  ·rw [hqx,hp];simp
  ·have e1:(x==q.1)=false:=by simp;exact fun h=>hqx h.symm
   simp [e1,List.any_append,List.any_cons]

set_option maxHeartbeats 1000000 in
theorem deleteFunc_any (fid:Nat) (caps:Array Value) (p:Int→Bool) (b:Nat) (L:List (Int×Value)) (w:World) (h:MapAt w b L) (hL:∀ q∈L,IsCell q.2)
  (hcf:∀ args w,(callFunc fid args).run Tryz.prog w=.ok (.enter fid args) w) (hcall:Hid (∀ w2 x v,Fr (·=b) w w2→IsCell v→Calls Tryz.prog fid (#[.int .i64 x,v]++caps) w2 (fun e w'=>e=.returned (.bool (p x))∧Below w2.heap.size w2 w'))) :
  Calls Tryz.prog 226 #[.map (some b),.func (.func fid) #[] caps] w (DelR p b L w):=by
 have HL:=h
 go_enter Tryz.func226, Tryz.ntmps226
 go_wp2_with (refine wp_range mtCells rfl _ rfl rfl HL ?_;intro w1 hi hb1 hz1)
 go_frame
 go_loopw [5] (fun _ wr=>∃ left last,IterAt wr w.heap.size b (L.filter (fun q=>!p q.1||left.any (·.1==q.1))) left last∧left.Sublist L∧Fr (·=b) w wr) (fun _ wr=>iterLeft wr w.heap.size)
 case atStart =>
  refine ⟨L,none,?_,List.Sublist.refl _,Fr.of_below hb1⟩
  rw [List.filter_eq_self.2];exact hi
  intro q hq;simp;right;exact ⟨_,hq⟩
 case round =>
  obtain ⟨left,last,hit,hsub,hfr⟩:=hrel
  have hlt:=hit.lt
  have hm:=hit.left_eq
  clear hi hb1 hz1
  go_wp2_with (refine wp_next rfl _ rfl rfl hit ?_ ?_)
  ·intro hl w' hbw hh
   have HH:Hid (w'.heap=wr.heap):=hh
   subst hl
   clear hh hm hlt hcf
   go_wp2
   go_end0
   refine ⟨rfl,?_,hfr.trans_below hbw⟩
   have h3:=hit.map.block (w':=w') (by rw [HH.out])
   simpa using h3
  ·intro w2 x v pre post hl hit2 hf2
   have hv:IsCell v:=hL (x,v) (hsub.mem (by rw [hl];simp))
   have hv':=hv
   obtain ⟨k,a,n,c,rfl⟩:=hv
   have HL2:Hid (left=pre++(x,.agg #[.int .i64 k,.slice a n c])::post):=hl
   clear hl hlt hL HL
   have hlt2:=hit2.lt
   go_wp2_with (refine wp_entry rfl _ rfl rfl hit2 ?_)
   have hfr2:Fr (·=b) w w2:=hfr.trans hf2 (fun i hi=>Or.inr (by omega))
   refine (hcall.out _ _ _ (hfr2.trans_below ((Below.refl _ _).alloc (Nat.le_refl _) _)) hv').mono ?_
   rintro e w3 ⟨rfl,hb3⟩
   have hb23:Below w2.heap.size w2 w3:=below_call ((Below.refl _ _).alloc (Nat.le_refl _) _) (by simp) hb3
   have hfr3:Fr (·=b) w w3:=hfr2.trans_below hb23
   have hit3:IterAt w3 w.heap.size b (L.filter (fun q=>!p q.1||left.any (·.1==q.1))) (pre++post) (some (x,.agg #[.int .i64 k,.slice a n c])) :=
    hit2.blocks (hb23.block _ hit2.map.lt) (hb23.block _ hlt2)
   have hnd:(left.map (·.1)).Nodup:=h.nodup.sublist (hsub.map _)
   clear hb3 hit2 hf2 hfr2 hfr hlt2 hv' hcf hb23
   cases hp:p x with
   | true =>
    go_wp2_with (at_delete;refine wp_del (b:=b) (x0:=x) mtCells rfl (.tmp 17) (.tmp 18) rfl rfl rfl hit3 ?hl ?_)
    case hl =>
     intro q hq he
     have h1:=HL2.out
     rw [h1] at hnd
     simp only [List.map_append,List.map_cons,List.nodup_append,List.nodup_cons] at hnd
     rcases List.mem_append.1 hq with hq | hq
     ·exact hnd.2.2 _ (List.mem_map_of_mem hq) _ List.mem_cons_self he
     ·exact hnd.2.1.1 (by rw [←he];exact List.mem_map_of_mem hq)
    intro w4 hit4 hf4 hz4
    go_wp2
    go_roundw
    case rel =>
     refine ⟨pre++post,none,?_,?_,?_⟩
     ·rw [←del_step (k:=true) hp HL2.out hnd];exact hit4
     ·exact List.Sublist.trans (by rw [HL2.out];simp) hsub
     ·exact hfr3.trans hf4 (fun i hi=>Or.inl hi)
    case measure =>
     rw [hm,hit4.left_eq,HL2.out];simp
   | false =>
    go_wp2
    go_roundw
    case rel =>
     refine ⟨pre++post,some (x,.agg #[.int .i64 k,.slice a n c]),?_,?_,hfr3⟩
     ·rw [←del_step (k:=false) hp HL2.out hnd];exact hit3
     ·exact List.Sublist.trans (by rw [HL2.out];simp) hsub
    case measure =>
     rw [hm,hit3.left_eq,HL2.out];simp

/-- the unit then: what was there stays, but for its own two blocks -/
def UnitR (v:Value) (A:Nat→Prop) (bu bm:Nat) (u:U) (w:World) (en:Ending) (w':World):Prop :=
 en=.returned v∧UnitAt A w' bu bm u∧Fr (fun k=>k=bu∨k=bm) w w'
theorem UnitR.same {v:Value} {A:Nat→Prop} {bu bm:Nat} {u:U} {w:World} {en:Ending} {w':World} (h:UnitAt A w bu bm u) (he:en=.returned v) (hb:Below w.heap.size w w'):UnitR v A bu bm u w en w' :=
 ⟨he,h.below (Nat.le_refl _) hb,Fr.of_below hb⟩

theorem UnitAt.set0 {A:Nat→Prop} {w:World} {bu bm:Nat} {u:U} (h:UnitAt A w bu bm u) {e:Int} (hok:U.ok { u with e:=e }):UnitAt A (w.setCell ⟨bu,0,none⟩ (.int .i64 e)) bu bm { u with e:=e }:=by
 have hne:=h.ne
 have hf:Fr (·=bu) w (w.setCell ⟨bu,0,none⟩ (.int .i64 e)):=⟨rfl,rfl,rfl,by simp,fun k _ hk=>heap_setCell_other _ _ _ _ hk⟩
 exact ⟨heap_setCell_same w bu 0 _ _ _ h.blk,h.map.fr hf (heap_setCell_other _ _ _ _ (fun e=>hne e.symm)) (fun k hk=>by rw [hk];exact h.abu),hok,h.abu,h.abm⟩
theorem fr_setCell (w:World) (b o:Nat) (v:Value):Fr (·=b) w (w.setCell ⟨b,o,none⟩ v):=⟨rfl,rfl,rfl,by simp,fun k _ hk=>heap_setCell_other _ _ _ _ hk⟩

theorem seal_any {A:Nat→Prop} {bu bm:Nat} {u:U} (e:Int) (w:World) (h:UnitAt A w bu bm u) :
  Calls Tryz.prog 173 #[.pointer (some ⟨bu,0,none⟩),.int .i64 e] w (UnitR (.tuple #[.int .i64 (u.sealE e).2.1,errV (u.sealE e).1]) A bu bm (u.sealE e).2.2 w):=by
 have H:=Lib.hid' h
 obtain ⟨c0,_,_⟩:=h.cell
 have f0:=h.free 0
 have hok:=Zh (U.ok_sealE h.ok e)
 have hlt:=h.lt.1
 clear h
 cases hin:inR e 1099511627776 with
 | false =>
  have Hf:=Zh (show u.sealE e=(1,0,u) by simp [U.sealE,hin])
  go_enter Tryz.func173, Tryz.ntmps173
  go_wp2_with (go_at_call 194;refine (in_any _ _ _).mono ?_;rintro en w' ⟨rfl,rfl⟩;rw [hin])
  go_ret2
  rw [Hf.out]
  exact UnitR.same H.out rfl (Below.refl _ _)
 | true =>
  by_cases hle:e≤u.e
  ·have Hf:=Zh (show u.sealE e=(6,0,u) by simp [U.sealE,hin,hle])
   go_enter Tryz.func173, Tryz.ntmps173
   go_wp2_with (go_at_call 194;refine (in_any _ _ _).mono ?_;rintro en w' ⟨rfl,rfl⟩;rw [hin])
   go_ret2
   rw [Hf.out]
   exact UnitR.same H.out rfl (Below.refl _ _)
  ·have Hf:=Zh (show u.sealE e=(0,u.tail,{ u with e:=e }) by simp [U.sealE,hin,hle])
   have hset:=H.out.set0 (e:=e) (by have:=hok.out;rw [Hf.out] at this;exact this)
   have Hset:=Lib.hid' hset
   clear hset
   go_enter Tryz.func173, Tryz.ntmps173
   go_wp2_with (go_at_call 194;refine (in_any _ _ _).mono ?_;rintro en w' ⟨rfl,rfl⟩;rw [hin])
   refine (tail_any _ Hset.out).mono ?_
   rintro en w1 ⟨rfl,hb⟩
   go_wp2
   go_ret2
   rw [Hf.out]
   exact ⟨rfl,Hset.out.below (Nat.le_refl _) hb,((fr_setCell _ _ _ _).mono (fun _ h=>Or.inl h)).trans_below hb⟩


theorem F2.put {A:Nat→Prop} {w:World} {L:List (Int×Value)} {M:List (Int×C)} (h:F2 (EntIs A w) L M) {a:Int} {v:Value} {c:C} (hv:EntIs A w (a,v) (a,c)):F2 (EntIs A w) (putE L a v) (putC M a c):=by
 have hany:=h.any (f:=fun p=>p.1==a) (g:=fun p=>p.1==a) (fun p q h=>by rw [h.1])
 unfold putE putC
 rw [hany]
 split
 ·refine h.map fun p q hpq=>?_
  rw [hpq.1]
  split
  ·exact hv
  ·exact hpq
 ·exact h.append (.one hv)

theorem Bytes.in_own {w:World} {B e n:Nat} {a:Option Addr} {cap:Nat} {d:List UInt8} (h:w.ownsRow B e 1 (.slice a n cap) n (byteVs d)):∀ x,a=some x→B≤x.block∧x.block<w.heap.size:=fun x hx=>own_in h x n cap (by rw [hx])

theorem UnitAt.put {A:Nat→Prop} {w w2 w3:World} {bu bm:Nat} {u:U} (h:UnitAt A w bu bm u) (hA:∀ k,A k→k<w.heap.size) {L:List (Int×Value)} {a:Int} {c:C} {ad:Option Addr} {cap:Nat}
  (hm:MapAt w2 bm L) (hL:F2 (EntIs A w2) L u.cells) (hb:Below w.heap.size w w2) (hv:Bytes w2 (.slice ad c.d.length cap) c.d) (hin:∀ x,ad=some x→w.heap.size≤x.block∧x.block<w2.heap.size)
  (hm3:MapAt w3 bm (putE L a (.agg #[.int .i64 c.k,.slice ad c.d.length cap]))) (hf3:Fr (·=bm) w2 w3) (hok:U.ok { u with cells:=putC u.cells a c }):UnitAt A w3 bu bm { u with cells:=putC u.cells a c }:=by
 have h2:=h.below (Nat.le_refl _) hb
 have hne:=h.ne
 refine ⟨(hf3.block _ h2.lt.1 hne).trans h2.blk,⟨_,hm3,?_⟩,hok,h.abu,h.abm⟩
 refine F2.put (hL.mono fun p q _ _ hpq=>hpq.fr hf3 (fun k hk=>by rw [hk];exact h.abm)) ⟨rfl,ad,cap,rfl,?_,?_⟩
 ·refine SlV.fr hv hf3 ?_
  intro x n c' hx
  simp only [Value.slice.injEq] at hx
  have h5:=(hin x hx.1).1
  have h6:=h.lt.2
  show ¬x.block=bm;omega
 ·intro x hx
  have h5:=hin x hx
  exact ⟨fun hk=>by have:=hA _ hk;omega,Nat.lt_of_lt_of_le h5.2 hf3.size⟩

set_option maxHeartbeats 1000000 in
theorem write_any {A:Nat→Prop} {bu bm:Nat} {u:U} (e a:Int) (v:Value) (d:List UInt8) (w:World) (h:UnitAt A w bu bm u) (hA:∀ k,A k→k<w.heap.size) (hd:Bytes w v d) :
  Calls Tryz.prog 174 #[.pointer (some ⟨bu,0,none⟩),.int .i64 e,.int .i64 a,v] w (UnitR (errV (u.write e a d).1) A bu bm (u.write e a d).2 w):=by
 have H:=Lib.hid' h
 have HD:=Lib.hid' hd
 obtain ⟨ad,cp,rfl,_⟩:=hd
 obtain ⟨_,_,c2⟩:=h.cell
 have hok:=Zh (U.ok_write h.ok e a d)
 have hlt:=h.lt.1
 have hltm:=h.lt.2
 have HNE:=Lib.hid' h.ne
 have HA:=Lib.hid' hA
 clear h hA
 cases hin:inR a 1048575 with
 | false =>
  have Hf:=Zh (show u.write e a d=(1,u) by simp [U.write,hin])
  go_enter Tryz.func174, Tryz.ntmps174
  go_wp2_with (go_at_call 194;refine (in_any _ _ _).mono ?_;rintro en w' ⟨rfl,rfl⟩;rw [hin])
  go_ret
  rw [Hf.out]
  exact UnitR.same H.out rfl (Below.refl _ _)
 | true =>
 by_cases hlen:64<d.length
 ·have Hf:=Zh (show u.write e a d=(3,u) by simp [U.write,hin,hlen])
  go_enter Tryz.func174, Tryz.ntmps174
  go_wp2_with (go_at_call 194;refine (in_any _ _ _).mono ?_;rintro en w' ⟨rfl,rfl⟩;rw [hin])
  go_ret
  rw [Hf.out]
  exact UnitR.same H.out rfl (Below.refl _ _)
 by_cases hc:u.cur e=0
 rotate_left
 ·have Hf:=Zh (show u.write e a d=(u.cur e,u) by simp [U.write,hin,hlen,hc])
  have HC:=Lib.hid' hc
  clear hc
  go_enter Tryz.func174, Tryz.ntmps174
  go_wp2_with (go_at_call 194;refine (in_any _ _ _).mono ?_;rintro en w' ⟨rfl,rfl⟩;rw [hin])
  refine (cur_any _ _ H.out).mono ?_
  rintro en w1 ⟨rfl,rfl⟩
  rw [errV_pos HC.out]
  go_wp2
  go_ret
  rw [Hf.out,errV_pos HC.out]
  exact UnitR.same H.out rfl (Below.refl _ _)
 have HC:=Lib.hid' hc
 have Hlen:=Lib.hid' hlen
 have hlen':¬(64:Int)<d.length:=by omega
 have hd1:d.length≤1099511627776:=by omega
 by_cases h3:(u.at a).k=3
 ·have Hf:=Zh (show u.write e a d=(9,u) by simp [U.write,hin,hlen,hc,h3])
  have h3':((u.at a).k==3)=true:=by simpa using h3
  clear hc h3
  go_enter Tryz.func174, Tryz.ntmps174
  go_wp2_with (go_at_call 194;refine (in_any _ _ _).mono ?_;rintro en w' ⟨rfl,rfl⟩;rw [hin])
  refine (cur_any _ _ H.out).mono ?_
  rintro en w1 ⟨rfl,rfl⟩
  rw [HC.out,errV_0]
  go_wp2_with fail
  refine (at_any _ _ H.out).mono ?_
  rintro en w1 ⟨a1,cp1,rfl,hb1,hbw⟩
  have HB1:=Lib.hid' hb1
  clear hb1
  go_wp2
  go_ret
  rw [Hf.out]
  exact UnitR.same H.out rfl hbw
 have h3':((u.at a).k==3)=false:=by simpa using h3
 by_cases h0:(u.at a).k=0
 rotate_left
 ·have Hf:=Zh (show u.write e a d=(8,u) by simp [U.write,hin,hlen,hc,h3,h0])
  have h0':((u.at a).k==0)=false:=by simpa using h0
  clear hc h3 h0
  go_enter Tryz.func174, Tryz.ntmps174
  go_wp2_with (go_at_call 194;refine (in_any _ _ _).mono ?_;rintro en w' ⟨rfl,rfl⟩;rw [hin])
  refine (cur_any _ _ H.out).mono ?_
  rintro en w1 ⟨rfl,rfl⟩
  rw [HC.out,errV_0]
  go_wp2_with fail
  refine (at_any _ _ H.out).mono ?_
  rintro en w1 ⟨a1,cp1,rfl,hb1,hbw⟩
  have HB1:=Lib.hid' hb1
  clear hb1
  go_wp2
  go_ret
  rw [Hf.out]
  exact UnitR.same H.out rfl hbw
 have Hf:=Zh (show u.write e a d=(0,{ u with cells:=putC u.cells a ⟨1,d⟩}) by simp [U.write,hin,hlen,hc,h0])
 have h0':((u.at a).k==0)=true:=by simpa using h0
 clear hc h3 h0
 go_enter Tryz.func174, Tryz.ntmps174
 go_wp2_with (go_at_call 194;refine (in_any _ _ _).mono ?_;rintro en w' ⟨rfl,rfl⟩;rw [hin])
 refine (cur_any _ _ H.out).mono ?_
 rintro en w1 ⟨rfl,rfl⟩
 rw [HC.out,errV_0]
 go_wp2_with fail
 refine (at_any _ _ H.out).mono ?_
 rintro en w1 ⟨a1,cp1,rfl,hb1,hbw⟩
 have HW1:=Zh (H.out.below (Nat.le_refl _) hbw)
 have c3:w1.cell? ⟨bu,2,none⟩=some (.map (some bm)):=HW1.out.cell.2.2
 have hlt1:=HW1.out.lt.1
 have hltm1:=HW1.out.lt.2
 have hz1:=hbw.size
 have HBW:=Lib.hid' hbw
 have HD1:=Zh (SlV.below HD.out (Nat.le_refl _) hbw)
 obtain ⟨L,hm,hL⟩:=HW1.out.map
 have HM:=Lib.hid' hm
 have HL:=Lib.hid' hL
 clear hb1 c2 hm hL hbw
 go_wp2_with fail
 go_region_held3 (fun w'=>w'.cell? ⟨bu,2,none⟩=some (.map (some bm))) (go_keep) (first | (go_at_call 49;refine (clone_any _ d _ ?_ hd1).mono ?_;(exact SlV.below HD1.out (Nat.le_refl _) (by go_grown));rintro e w2 ⟨a',c',rfl,ho,hb2⟩;have hb2':=below_call (Below.drew (Below.refl w1.heap.size w1)) (Nat.le_refl _) hb2;have hc2:=(bcell hb2').1 bu 2 hlt1;have hst:=run_store mtCells (HM.out.block (hb2'.block _ HM.out.lt)) a (.agg #[.int .i64 1,.slice a' d.length c']);obtain ⟨ob,hrun,hm3⟩:=hst;have hc3:=(setBlk_fr w2 bm ob).cell (hc2.trans c3) HNE.out))
 go_wp2
 go_ret
 rw [Hf.out]
 have hbb:=HBW.out.trans (hb2'.mono hz1)
 have hsz:=hb2'.size
 refine ⟨rfl,?_,?_⟩
 ·have hin:=Bytes.in_own ho
  exact H.out.put (c:=⟨1,d⟩) HA.out (HM.out.block (hb2'.block _ HM.out.lt)) (HL.out.mono fun p q _ _ hpq=>hpq.fr (Fr.of_below (F:=fun _=>False) hb2') (fun _ h=>h.elim)) hbb (SlV.of_own ho) (fun x hx=>⟨by have:=(hin x hx).1;simp at this;omega,(hin x hx).2⟩) hm3 (setBlk_fr _ _ _) (by have:=hok.out;rw [Hf.out] at this;exact this)
 ·exact (Fr.of_below hbb).trans ((setBlk_fr w2 bm ob).mono (F':=fun k=>k=bu∨k=bm) (fun k h=>Or.inr h)) (fun k h=>Or.inl h)


set_option maxHeartbeats 1000000 in
theorem fill_any {A:Nat→Prop} {bu bm:Nat} {u:U} (e a:Int) (w:World) (h:UnitAt A w bu bm u) (hA:∀ k,A k→k<w.heap.size) :
  Calls Tryz.prog 175 #[.pointer (some ⟨bu,0,none⟩),.int .i64 e,.int .i64 a] w (UnitR (errV (u.fill e a).1) A bu bm (u.fill e a).2 w):=by
 have H:=Lib.hid' h
 have hok:=Zh (U.ok_fill h.ok e a)
 have HNE:=Lib.hid' h.ne
 have HA:=Lib.hid' hA
 clear h hA
 by_cases hq:u.asks e (inR a 1048575)=0
 rotate_left
 ·have Hf:=Zh (show u.fill e a=(u.asks e (inR a 1048575),u) by simp [U.fill,hq])
  have HQ:=Lib.hid' hq
  clear hq
  go_enter Tryz.func175, Tryz.ntmps175
  go_wp2_with (go_at_call 194;refine (in_any _ _ _).mono ?_;rintro en w' ⟨rfl,rfl⟩)
  refine (asks_any _ _ _ H.out).mono ?_
  rintro en w1 ⟨rfl,rfl⟩
  rw [errV_pos HQ.out]
  go_wp2
  go_ret
  rw [Hf.out,errV_pos HQ.out]
  exact UnitR.same H.out rfl (Below.refl _ _)
 have HQ:=Lib.hid' hq
 by_cases h3:(u.at a).k=3
 ·have Hf:=Zh (show u.fill e a=(9,u) by simp [U.fill,hq,h3])
  have h3':((u.at a).k==3)=true:=by simpa using h3
  clear hq h3
  go_enter Tryz.func175, Tryz.ntmps175
  go_wp2_with (go_at_call 194;refine (in_any _ _ _).mono ?_;rintro en w' ⟨rfl,rfl⟩)
  refine (asks_any _ _ _ H.out).mono ?_
  rintro en w1 ⟨rfl,rfl⟩
  rw [HQ.out,errV_0]
  go_wp2_with fail
  refine (at_any _ _ H.out).mono ?_
  rintro en w1 ⟨a1,cp1,rfl,hb1,hbw⟩
  have HB1:=Lib.hid' hb1
  clear hb1
  go_wp2
  go_ret
  rw [Hf.out]
  exact UnitR.same H.out rfl hbw
 have h3':((u.at a).k==3)=false:=by simpa using h3
 by_cases h1:(u.at a).k=1
 ·have Hf:=Zh (show u.fill e a=(8,u) by simp [U.fill,hq,h1])
  have h1':((u.at a).k==1)=true:=by simpa using h1
  clear hq h3 h1
  go_enter Tryz.func175, Tryz.ntmps175
  go_wp2_with (go_at_call 194;refine (in_any _ _ _).mono ?_;rintro en w' ⟨rfl,rfl⟩)
  refine (asks_any _ _ _ H.out).mono ?_
  rintro en w1 ⟨rfl,rfl⟩
  rw [HQ.out,errV_0]
  go_wp2_with fail
  refine (at_any _ _ H.out).mono ?_
  rintro en w1 ⟨a1,cp1,rfl,hb1,hbw⟩
  have HB1:=Lib.hid' hb1
  clear hb1
  go_wp2
  go_ret
  rw [Hf.out]
  exact UnitR.same H.out rfl hbw
 have h1':((u.at a).k==1)=false:=by simpa using h1
 have Hf:=Zh (show u.fill e a=(0,{ u with cells:=putC u.cells a ⟨2,[]⟩}) by simp [U.fill,hq,h3,h1])
 clear hq h3 h1
 go_enter Tryz.func175, Tryz.ntmps175
 go_wp2_with (go_at_call 194;refine (in_any _ _ _).mono ?_;rintro en w' ⟨rfl,rfl⟩)
 refine (asks_any _ _ _ H.out).mono ?_
 rintro en w1 ⟨rfl,rfl⟩
 rw [HQ.out,errV_0]
 go_wp2_with fail
 refine (at_any _ _ H.out).mono ?_
 rintro en w1 ⟨a1,cp1,rfl,hb1,hbw⟩
 have HW1:=Zh (H.out.below (Nat.le_refl _) hbw)
 have c3:w1.cell? ⟨bu,2,none⟩=some (.map (some bm)):=HW1.out.cell.2.2
 have HBW:=Lib.hid' hbw
 obtain ⟨L,hm,hL⟩:=HW1.out.map
 have HM:=Lib.hid' hm
 have HL:=Lib.hid' hL
 clear hb1 hm hL hbw
 go_wp2_with (at_mapUpdate;refine wp_store (b:=bm) (L:=L) mtCells rfl (.tmp 29) (.tmp 30) (.tmp 31) rfl rfl a rfl (.agg #[.int .i64 2,.slice none 0 0]) rfl HM.out ?_;intro w3 hm3 hf3 hz3;have Hm3:=Lib.hid' hm3;have Hf3:=Lib.hid' hf3;clear hm3 hf3)
 go_ret
 rw [Hf.out]
 refine ⟨rfl,?_,(Fr.of_below HBW.out).trans (Hf3.out.mono (F':=fun k=>k=bu∨k=bm) (fun k h=>Or.inr h)) (fun k h=>Or.inl h)⟩
 exact H.out.put (c:=⟨2,[]⟩) (ad:=none) (cap:=0) HA.out HM.out HL.out HBW.out (SlV.empty _ _ _ (Nat.zero_le _) (fun _=>rfl)) (by simp) Hm3.out Hf3.out (by have:=hok.out;rw [Hf.out] at this;exact this)

def ReadR (n:Nat) (c:C) (w:World) (en:Ending) (w':World):Prop :=
 ∃ a cap,en=.returned (.tuple #[.agg #[.int .i64 c.k,.slice a c.d.length cap],errV n])∧w'.ownsRow w.heap.size 5 1 (.slice a c.d.length cap) c.d.length (byteVs c.d)∧Below w.heap.size w w'

theorem U.at_len {u:U} (h:u.ok) (a:Int):(u.at a).d.length≤64:=by
 unfold U.at
 split
 ·simp
 ·cases hq:u.cells.any (·.1==a) with
  | true=>exact (h.kind _ (lookC_mem hq)).2
  | false=>rw [lookC_none hq];simp

set_option maxHeartbeats 1000000 in
theorem read_any {A:Nat→Prop} {bu bm:Nat} {u:U} (e a:Int) (w:World) (h:UnitAt A w bu bm u) :
  Calls Tryz.prog 149 #[.pointer (some ⟨bu,0,none⟩),.int .i64 e,.int .i64 a] w (ReadR (u.read e a).1 (u.read e a).2 w):=by
 have H:=Lib.hid' h
 have Hlen:=Zh (U.at_len h.ok a)
 clear h
 by_cases hq:u.asks e (inR a 1048575)=0
 rotate_left
 ·have Hf:=Zh (show u.read e a=(u.asks e (inR a 1048575),⟨0,[]⟩) by simp [U.read,hq])
  have HQ:=Lib.hid' hq
  clear hq
  go_enter Tryz.func149, Tryz.ntmps149
  go_wp2_with (go_at_call 194;refine (in_any _ _ _).mono ?_;rintro en w' ⟨rfl,rfl⟩)
  refine (asks_any _ _ _ (H.out.below (Nat.le_refl _) (by go_grown))).mono ?_
  rintro en w1 ⟨rfl,rfl⟩
  rw [errV_pos HQ.out]
  go_wp2
  refine bodyPost_ret (v:=.tuple #[.agg #[.int .i64 0,.slice none 0 0],.iface 70 (.int .i64 (u.asks e (inR a 1048575)))]) (by simp [results,Tryz.results149,go_sem]) rfl ?_
  rw [Hf.out]
  exact ⟨none,0,by rw [errV_pos HQ.out];rfl,World.ownsRow_nil _ _ _ _,by go_grown⟩
 have Hf:=Zh (show u.read e a=(0,u.at a) by simp [U.read,hq])
 have HQ:=Lib.hid' hq
 clear hq
 go_enter Tryz.func149, Tryz.ntmps149
 go_wp2_with (go_at_call 194;refine (in_any _ _ _).mono ?_;rintro en w' ⟨rfl,rfl⟩)
 refine (asks_any _ _ _ (H.out.below (Nat.le_refl _) (by go_grown))).mono ?_
 rintro en w1 ⟨rfl,rfl⟩
 rw [HQ.out,errV_0]
 go_wp2_with fail
 refine (at_any _ _ (H.out.below (Nat.le_refl _) (by go_grown))).mono ?_
 rintro en w1 ⟨a1,cp1,rfl,hb1,hbw⟩
 have HB1:=Lib.hid' hb1
 have hc1:=(bcell hbw).1
 have hz1:=hbw.size
 clear hb1
 go_wp2_with fail
 refine (copy_any _ (u.at a) _ ⟨_,_,rfl,HB1.out⟩ (by have:=Hlen.out;omega)).mono ?_
 rintro en w2 ⟨a2,cp2,rfl,ho,hb2⟩
 have HO:=Lib.hid' ho
 have hc2:=(bcell hb2).1
 have lt1:w.heap.size<w1.heap.size:=by simp at hz1;omega
 have c0:w2.cell? ⟨w.heap.size,0,none⟩=some (.int .i64 0):=(hc2 _ _ lt1).trans ((hc1 _ _ (by simp)).trans (by simp [go_sem]))
 have c1:w2.cell? ⟨w.heap.size,1,none⟩=some (.slice none 0 0):=(hc2 _ _ lt1).trans ((hc1 _ _ (by simp)).trans (by simp [go_sem]))
 have f0:w2.frozen? ⟨w.heap.size,0,none⟩=false:=((bcell hb2).2 _ _ lt1).trans (((bcell hbw).2 _ _ (by simp)).trans (by simp [go_sem]))
 have f1:w2.frozen? ⟨w.heap.size,1,none⟩=false:=((bcell hb2).2 _ _ lt1).trans (((bcell hbw).2 _ _ (by simp)).trans (by simp [go_sem]))
 clear ho hc1 hc2
 go_wp2
 refine bodyPost_ret (v:=.tuple #[.agg #[.int .i64 (u.at a).k,.slice a2 (u.at a).d.length cp2],.nilIface]) (by simp [results,Tryz.results149,go_sem,c0,c1]) rfl ?_
 rw [Hf.out]
 refine ⟨_,_,rfl,own_base (ownsRow_setCell_below (ownsRow_setCell_below HO.out lt1 _) lt1 _) (by omega),?_⟩
 refine Below.setCell (Below.setCell ?_ (by simp) _) (by simp) _
 exact below_call (below_call (B:=w.heap.size) (w:=w) (by go_grown) (by go_size) hbw) (by omega) hb2


theorem F2.cells {A:Nat→Prop} {w:World} {L:List (Int×Value)} {M:List (Int×C)} (h:F2 (EntIs A w) L M):∀ q∈L,IsCell q.2:=fun q hq=>by
 obtain ⟨r,_,_,a,cap,hv,_⟩:=h.mem_left hq
 exact ⟨_,_,_,_,hv⟩

theorem UnitAt.filt {A:Nat→Prop} {w w4:World} {bu bm:Nat} {u:U} (h:UnitAt A w bu bm u) {L:List (Int×Value)} (hL:F2 (EntIs A w) L u.cells) (hf:Fr (fun k=>k=bu∨k=bm) w w4) {p:Int→Bool} {l:Int}
  (hblk:w4.heap[bu]?=some (.cells #[.int .i64 u.e,.int .i64 l,.map (some bm)] 211 (0,0))) (hm:MapAt w4 bm (L.filter (fun q=>!p q.1))) (hok:U.ok { u with l:=l,cells:=u.cells.filter (fun q=>!p q.1)}) :
  UnitAt A w4 bu bm { u with l:=l,cells:=u.cells.filter (fun q=>!p q.1)} :=
 ⟨hblk,⟨_,hm,(hL.mono fun q r _ _ hqr=>hqr.fr hf (fun k hk=>by rcases hk with rfl | rfl;exact h.abu;exact h.abm)).filter fun q r hqr=>by rw [hqr.1]⟩,hok,h.abu,h.abm⟩

theorem trimF_any (b1 b2:Nat) (x l:Int) (v:Value) (w:World) (hv:IsCell v) (h1:w.cell? ⟨b1,0,none⟩=some (.pointer (some ⟨b2,0,none⟩))) (h2:w.cell? ⟨b2,1,none⟩=some (.int .i64 l)) :
  Calls Tryz.prog 227 #[.int .i64 x,v,.pointer (some ⟨b1,0,none⟩)] w fun en w'=>en=.returned (.bool (decide (x<l)))∧Below w.heap.size w w':=by
 obtain ⟨k,a,n,c,rfl⟩:=hv
 have l1:=World.block_lt_of_cell? w _ h1
 have l2:=World.block_lt_of_cell? w _ h2
 simp only at l1 l2
 go_enter Tryz.func227, Tryz.ntmps227
 go_wp2
 go_ret
 exact ⟨rfl,by go_grown⟩
theorem cutF_any (b1:Nat) (x f:Int) (v:Value) (w:World) (hv:IsCell v) (h1:w.cell? ⟨b1,0,none⟩=some (.int .i64 f)) :
  Calls Tryz.prog 228 #[.int .i64 x,v,.pointer (some ⟨b1,0,none⟩)] w fun en w'=>en=.returned (.bool (decide (f≤x)))∧Below w.heap.size w w':=by
 obtain ⟨k,a,n,c,rfl⟩:=hv
 have l1:=World.block_lt_of_cell? w _ h1
 simp only at l1
 go_enter Tryz.func228, Tryz.ntmps228
 go_wp2
 go_ret
 exact ⟨rfl,by go_grown⟩

theorem cf_trim (args:Array Value) (w:World):(callFunc 227 args).run Tryz.prog w=.ok (.enter 227 args) w:=by kernel_rfl
theorem cf_cut (args:Array Value) (w:World):(callFunc 228 args).run Tryz.prog w=.ok (.enter 228 args) w:=by kernel_rfl

set_option maxHeartbeats 1000000 in
theorem trim_any {A:Nat→Prop} {bu bm:Nat} {u:U} (e b:Int) (w:World) (h:UnitAt A w bu bm u) (hA:∀ k,A k→k<w.heap.size) :
  Calls Tryz.prog 176 #[.pointer (some ⟨bu,0,none⟩),.int .i64 e,.int .i64 b] w (UnitR (errV (u.trim e b).1) A bu bm (u.trim e b).2 w):=by
 have H:=Lib.hid' h
 have hok:=Zh (U.ok_trim h.ok e b)
 have HNE:=Lib.hid' h.ne
 have hlt:=h.lt.1
 have hltm:=h.lt.2
 have c1:=h.cell.2.1
 have c2:=h.cell.2.2
 have f1:=h.free 1
 clear h hA
 by_cases hq:u.asks e (inR b 1048576)=0
 rotate_left
 ·have Hf:=Zh (show u.trim e b=(u.asks e (inR b 1048576),u) by simp [U.trim,hq])
  have HQ:=Lib.hid' hq
  clear hq
  go_enter Tryz.func176, Tryz.ntmps176
  go_wp2_with fail
  go_region_held3 (fun w'=>w'.cell? ⟨w.heap.size,0,none⟩=some (.pointer (some ⟨bu,0,none⟩))) (go_keep) (first | (go_at_call 194;refine (in_any _ _ _).mono ?_;rintro en w' ⟨rfl,rfl⟩) | (go_at_call 193;refine (asks_any _ _ _ (H.out.below (Nat.le_refl _) (by go_grown))).mono ?_;rintro en w' ⟨rfl,rfl⟩;rw [errV_pos HQ.out]))
  go_wp2
  go_ret
  rw [Hf.out,errV_pos HQ.out]
  exact UnitR.same H.out rfl (by go_grown)
 have HQ:=Lib.hid' hq
 have hin:=asks_in (show ¬u.asks e (inR b 1048576)≠0 by simp [hq])
 simp [inR] at hin
 have Hf:=Zh (show u.trim e b=(0,{ u with l:=max u.l b,cells:=u.cells.filter (fun p=>!decide (p.1<max u.l b))}) by simp [U.trim,hq])
 obtain ⟨L,hm,hL⟩:=H.out.map
 have HM:=Lib.hid' hm
 have HL:=Lib.hid' hL
 clear hq hm hL
 go_enter Tryz.func176, Tryz.ntmps176
 go_wp2_with fail
 go_region_held3 (fun w'=>w'.cell? ⟨w.heap.size,0,none⟩=some (.pointer (some ⟨bu,0,none⟩))) (go_keep) (first | (go_at_call 194;refine (in_any _ _ _).mono ?_;rintro en w' ⟨rfl,rfl⟩) | (go_at_call 193;refine (asks_any _ _ _ (H.out.below (Nat.le_refl _) (by go_grown))).mono ?_;rintro en w' ⟨rfl,rfl⟩;rw [HQ.out,errV_0]))
 go_wp2_with fail
 have k1:(w.alloc (.cells #[.pointer (some ⟨bu,0,none⟩)] 161)).drew.cell? ⟨w.heap.size,0,none⟩=some (.pointer (some ⟨bu,0,none⟩)):=by simp [go_sem]
 have k2:(w.alloc (.cells #[.pointer (some ⟨bu,0,none⟩)] 161)).drew.cell? ⟨bu,1,none⟩=some (.int .i64 u.l):=by simp [go_sem,c1,hlt]
 have k3:(w.alloc (.cells #[.pointer (some ⟨bu,0,none⟩)] 161)).drew.frozen? ⟨bu,1,none⟩=false:=by simp [go_sem,f1,hlt]
 have k4:=Zh (show Below w.heap.size w (w.alloc (.cells #[.pointer (some ⟨bu,0,none⟩)] 161)).drew by go_grown)
 have k5:w.heap.size<(w.alloc (.cells #[.pointer (some ⟨bu,0,none⟩)] 161)).drew.heap.size:=by simp
 generalize (w.alloc (.cells #[.pointer (some ⟨bu,0,none⟩)] 161)).drew=w1 at *
 go_region
 have hmx:(if u.l<b then b else u.l)=max u.l b:=by split<;>omega
 rw [hmx]
 have HW1:=Zh (H.out.below (Nat.le_refl _) k4.out)
 have q1:(w1.setCell ⟨bu,1,none⟩ (.int .i64 (max u.l b))).drew.cell? ⟨w.heap.size,0,none⟩=some (.pointer (some ⟨bu,0,none⟩)):=by
  rw [←k1];exact World.cell?_of_block (w:=w1) (heap_setCell_other _ _ _ _ (by simp;omega))
 have q2:(w1.setCell ⟨bu,1,none⟩ (.int .i64 (max u.l b))).drew.cell? ⟨bu,1,none⟩=some (.int .i64 (max u.l b)):=by
  show (w1.setCell ⟨bu,1,none⟩ (.int .i64 (max u.l b))).cell? ⟨bu,1,none⟩=_
  rw [cell_of_row _ bu 1 _ _ _ (heap_setCell_same w1 bu 1 _ _ _ HW1.out.blk)];rfl
 have q3:(w1.setCell ⟨bu,1,none⟩ (.int .i64 (max u.l b))).drew.cell? ⟨bu,2,none⟩=some (.map (some bm)):=by
  show (w1.setCell ⟨bu,1,none⟩ (.int .i64 (max u.l b))).cell? ⟨bu,2,none⟩=_
  rw [cell_of_row _ bu 2 _ _ _ (heap_setCell_same w1 bu 1 _ _ _ HW1.out.blk)];rfl
 have q4:=Zh (show (w1.setCell ⟨bu,1,none⟩ (.int .i64 (max u.l b))).drew.heap[bu]?=_ from heap_setCell_same w1 bu 1 _ _ (.int .i64 (max u.l b)) HW1.out.blk)
 have q5:=Zh (show Fr (fun k=>k=bu∨k=bm) w (w1.setCell ⟨bu,1,none⟩ (.int .i64 (max u.l b))).drew from ((Fr.of_below k4.out).trans (fr_setCell w1 bu 1 _) (fun k hk=>Or.inl (Or.inl hk))).trans_below (Below.refl _ _).drew)
 have q6:=Zh (show MapAt (w1.setCell ⟨bu,1,none⟩ (.int .i64 (max u.l b))).drew bm L from HM.out.block ((heap_setCell_other _ _ _ _ (fun h=>HNE.out h.symm)).trans (k4.out.block bm hltm)))
 clear hmx k1 k2 k3 k5 f1 c1 c2
 generalize (w1.setCell ⟨bu,1,none⟩ (.int .i64 (max u.l b))).drew=w2 at *
 have lt2:=World.block_lt_of_cell? w2 _ q1
 simp only at lt2
 go_wp2_with fail
 refine (deleteFunc_any 227 #[.pointer (some ⟨w.heap.size,0,none⟩)] (fun x=>decide (x<max u.l b)) bm L _ q6.out HL.out.cells cf_trim (Lib.hid' ?_)).mono ?_
 ·intro w3 x v hf3 hv
  exact trimF_any _ _ _ _ _ _ hv (hf3.cell q1 (by simp;omega)) (hf3.cell q2 HNE.out)
 rintro en w3 ⟨rfl,hm3,hf3⟩
 go_wp2
 go_ret
 rw [Hf.out]
 have hfr:=q5.out.trans hf3 (fun k hk=>Or.inl (Or.inr hk))
 refine ⟨rfl,?_,hfr⟩
 exact H.out.filt (p:=fun x=>decide (x<max u.l b)) HL.out hfr ((hf3.block _ (Nat.lt_trans hlt lt2) HNE.out).trans q4.out) hm3 (by have:=hok.out;rw [Hf.out] at this;exact this)

set_option maxHeartbeats 1000000 in
theorem cut_any {A:Nat→Prop} {bu bm:Nat} {u:U} (e f:Int) (w:World) (h:UnitAt A w bu bm u) (hA:∀ k,A k→k<w.heap.size) (hcount:u.cells.length≤1048576) :
  Calls Tryz.prog 177 #[.pointer (some ⟨bu,0,none⟩),.int .i64 e,.int .i64 f] w (UnitR (.tuple #[.int .i64 (u.cut e f).2.1,errV (u.cut e f).1]) A bu bm (u.cut e f).2.2 w):=by
 have H:=Lib.hid' h
 have hok:=Zh (U.ok_cut h.ok e f)
 have HNE:=Lib.hid' h.ne
 have hlt:=h.lt.1
 have hltm:=h.lt.2
 have c1:=h.cell.2.1
 have c2:=h.cell.2.2
 clear h hA
 by_cases hq:u.asks e (inR f 1048576)=0
 rotate_left
 ·have Hf:=Zh (show u.cut e f=(u.asks e (inR f 1048576),0,u) by simp [U.cut,hq])
  have HQ:=Lib.hid' hq
  clear hq hcount
  go_enter Tryz.func177, Tryz.ntmps177
  go_wp2_with (go_at_call 194;refine (in_any _ _ _).mono ?_;rintro en w' ⟨rfl,rfl⟩)
  refine (asks_any _ _ _ (H.out.below (Nat.le_refl _) (by go_grown))).mono ?_
  rintro en w' ⟨rfl,rfl⟩
  rw [errV_pos HQ.out]
  go_wp2
  go_ret2
  rw [Hf.out,errV_pos HQ.out]
  exact UnitR.same H.out rfl (by go_grown)
 have HQ:=Lib.hid' hq
 by_cases hl:f<u.l
 ·have Hf:=Zh (show u.cut e f=(9,0,u) by simp [U.cut,hq,hl])
  clear hq hcount
  go_enter Tryz.func177, Tryz.ntmps177
  go_wp2_with (go_at_call 194;refine (in_any _ _ _).mono ?_;rintro en w' ⟨rfl,rfl⟩)
  refine (asks_any _ _ _ (H.out.below (Nat.le_refl _) (by go_grown))).mono ?_
  rintro en w' ⟨rfl,rfl⟩
  rw [HQ.out,errV_0]
  go_wp2_with fail
  go_region_held3 (fun w'=>w'.cell? ⟨w.heap.size,0,none⟩=some (.int .i64 f)∧w'.cell? ⟨bu,1,none⟩=some (.int .i64 u.l)) (go_keep) (fail)
  go_wp2
  go_ret2
  rw [Hf.out]
  exact UnitR.same H.out rfl (by go_grown)
 have Hf:=Zh (show u.cut e f=(0,(u.cells.length:Int) - (u.cells.filter (fun p=>!decide (f≤p.1))).length,{ u with cells:=u.cells.filter (fun p=>!decide (f≤p.1))}) by simp [U.cut,hq,hl])
 obtain ⟨L,hm,hL⟩:=H.out.map
 have HM:=Lib.hid' hm
 have HL:=Lib.hid' hL
 have hn1:=Lib.hid' hL.length
 have hn2:=Zh (hL.filter (f:=fun q=>!decide (f≤q.1)) (g:=fun q=>!decide (f≤q.1)) (fun q r hqr=>by rw [hqr.1])).length
 clear hq hm hL
 go_enter Tryz.func177, Tryz.ntmps177
 go_wp2_with (go_at_call 194;refine (in_any _ _ _).mono ?_;rintro en w' ⟨rfl,rfl⟩)
 refine (asks_any _ _ _ (H.out.below (Nat.le_refl _) (by go_grown))).mono ?_
 rintro en w' ⟨rfl,rfl⟩
 rw [HQ.out,errV_0]
 go_wp2_with fail
 go_region_held3 (fun w'=>w'.cell? ⟨w.heap.size,0,none⟩=some (.int .i64 f)∧w'.cell? ⟨bu,1,none⟩=some (.int .i64 u.l)) (go_keep) (fail)
 have k1:(w.alloc (.cells #[.int .i64 f] 3)).drew.cell? ⟨w.heap.size,0,none⟩=some (.int .i64 f):=by simp [go_sem]
 have k2:(w.alloc (.cells #[.int .i64 f] 3)).drew.cell? ⟨bu,2,none⟩=some (.map (some bm)):=by simp [go_sem,c2,hlt]
 have k4:=Zh (show Below w.heap.size w (w.alloc (.cells #[.int .i64 f] 3)).drew by go_grown)
 have k5:w.heap.size<(w.alloc (.cells #[.int .i64 f] 3)).drew.heap.size:=by simp
 generalize (w.alloc (.cells #[.int .i64 f] 3)).drew=w1 at *
 have HM1:=Zh (HM.out.block (k4.out.block bm hltm))
 have hn1':L.length≤1048576:=by have:=hn1.out;omega
 have hn2':(L.filter (fun q=>!decide (f≤q.1))).length≤L.length:=List.length_filter_le _ _
 clear hcount c1 c2
 go_wp2_with (at_len;refine wp_len (b:=bm) (L:=L) mtCells rfl (.tmp 28) rfl rfl HM1.out ?_)
 refine (deleteFunc_any 228 #[.pointer (some ⟨w.heap.size,0,none⟩)] (fun x=>decide (f≤x)) bm L _ HM1.out HL.out.cells cf_cut (Lib.hid' ?_)).mono ?_
 ·intro w3 x v hf3 hv
  exact cutF_any _ _ _ _ _ hv (hf3.cell k1 (by simp;omega))
 rintro en w3 ⟨rfl,hm3,hf3⟩
 have q3:w3.cell? ⟨bu,2,none⟩=some (.map (some bm)):=hf3.cell k2 HNE.out
 have Hm3:=Lib.hid' hm3
 have Hf3:=Lib.hid' hf3
 clear hm3 hf3
 go_wp2_with (at_len;refine wp_len (b:=bm) (L:=L.filter (fun q=>!decide (f≤q.1))) mtCells rfl (.tmp 40) rfl rfl Hm3.out ?_)
 go_ret2
 rw [Hf.out]
 have hfr:=(Fr.of_below (F:=fun k=>k=bu∨k=bm) k4.out).trans Hf3.out (fun k hk=>Or.inl (Or.inr hk))
 refine ⟨ret_eq ?_,?_,hfr⟩
 ·rw [←hn1.out,←hn2.out];rfl
 ·exact H.out.filt (p:=fun x=>decide (f≤x)) (l:=u.l) HL.out hfr (((Hf3.out.block _ (Nat.lt_trans hlt k5) HNE.out).trans (k4.out.block bu hlt)).trans H.out.blk) Hm3.out (by have:=hok.out;rw [Hf.out] at this;exact this)


end Go.Proofs.YtaodldbgikiekaaGreatDoor

namespace Go.Proofs.YtaodldbgikiekaaGreatDoor
open Go.RowKit
namespace DK

def DoFR (b:Nat) (L':List (ByteArray×Value)) (w:World) (en:Ending) (w':World):Prop:=en=.returned (.tuple #[])∧MS.MapAt w' b L'∧Fr (·=b) w w'
theorem fr_alloc_then {b:Nat} {w w':World} {o:Obj} (h:Fr (·=b) (w.alloc o) w'):Fr (·=b) w w':=(Fr.of_below (F:=(·=b)) ((Below.refl w.heap.size w).alloc (Nat.le_refl _) o)).trans h (fun i hi=>.inl hi)
set_option maxHeartbeats 2000000 in
theorem do_any (b:Nat) (L:List (ByteArray×Value)) (k:Nat) (n to:Nm) (v:Value) (w:World) (h:MS.MapAt w b L) (hk:k<3) :
  Calls Tryz.prog 242 #[.map (some b),.agg #[.int .i64 (k:Nat),.string n,.string to,v]] w (DoFR b (doE L k n to v) w):=by
 have hm1:MS.MapAt (w.alloc (.cells #[.int .i64 (k:Nat),.string n,.string to,v] 300)) b L:=h.block (Below.heap_alloc _ _ _ h.lt)
 have HM:=Lib.hid' hm1
 clear hm1
 obtain ⟨r,hr⟩:∃ r,MS.lookE L n=r:=⟨_,rfl⟩
 have HR:=Lib.hid' hr
 have HT:=mtFiles
 have hbl:=h.lt
 clear h
 match k,hk with
 | 0,_ =>
  have HF:=Zh (show doE L 0 n to v=MS.putE L n v from rfl)
  go_enter Tryz.func242, Tryz.ntmps242
  go_wp2_with (first | (at_lookup;refine MS.wp_look_ok HT rfl (.tmp 7) (.tmp 9) rfl rfl n rfl HM.out ?_;rw [HR.out]) | (at_mapUpdate;refine MS.wp_store HT rfl (.tmp 20) (.tmp 22) (.tmp 24) rfl rfl n rfl v rfl HM.out ?_;intro w3 hm3 hf3 hz3))
  go_end0
  exact ⟨rfl,by rw [HF.out];exact hm3,fr_alloc_then hf3⟩
 | 1,_ =>
  cases r with
  | none =>
   have HF:=Zh (show doE L 1 n to v=L by unfold doE;rw [hr];rfl)
   clear hr
   go_enter Tryz.func242, Tryz.ntmps242
   go_wp2_with (first | (at_lookup;refine MS.wp_look_ok HT rfl (.tmp 7) (.tmp 9) rfl rfl n rfl HM.out ?_;rw [HR.out]))
   go_end0
   exact ⟨rfl,by rw [HF.out];exact HM.out,fr_alloc_then (Fr.refl _ _)⟩
  | some x =>
   have HF:=Zh (show doE L 1 n to v=MS.putE (MS.delE L n) to x by unfold doE;rw [hr];rfl)
   clear hr
   go_enter Tryz.func242, Tryz.ntmps242
   go_wp2_with (first | (at_lookup;refine MS.wp_look_ok HT rfl (.tmp 7) (.tmp 9) rfl rfl n rfl HM.out ?_;rw [HR.out]) | (refine MS.wp_delete HT rfl (.tmp 32) (.tmp 34) rfl rfl n rfl HM.out ?_;intro w3 hm3 hf3 hz3;have z2:=hf3.cell ((BoxW.start w [.int .i64 (1:Nat),.string n,.string to,v] 300).box.1 2 _ rfl) (by show ¬w.heap.size=b;omega)) | (at_mapUpdate;refine MS.wp_store HT rfl (.tmp 35) (.tmp 37) (.tmp 38) rfl rfl to rfl x rfl hm3 ?_;intro w4 hm4 hf4 hz4))
   go_end0
   exact ⟨rfl,by rw [HF.out];exact hm4,fr_alloc_then (hf3.trans hf4 (fun i hi=>.inl hi))⟩
 | 2,_ =>
  cases r with
  | none =>
   have HF:=Zh (show doE L 2 n to v=L by unfold doE;rw [hr];rfl)
   clear hr
   go_enter Tryz.func242, Tryz.ntmps242
   go_wp2_with (first | (at_lookup;refine MS.wp_look_ok HT rfl (.tmp 7) (.tmp 9) rfl rfl n rfl HM.out ?_;rw [HR.out]))
   go_end0
   exact ⟨rfl,by rw [HF.out];exact HM.out,fr_alloc_then (Fr.refl _ _)⟩
  | some x =>
   have HF:=Zh (show doE L 2 n to v=MS.delE L n by unfold doE;rw [hr];rfl)
   clear hr
   go_enter Tryz.func242, Tryz.ntmps242
   go_wp2_with (first | (at_lookup;refine MS.wp_look_ok HT rfl (.tmp 7) (.tmp 9) rfl rfl n rfl HM.out ?_;rw [HR.out]) | (refine MS.wp_delete HT rfl (.tmp 13) (.tmp 15) rfl rfl n rfl HM.out ?_;intro w3 hm3 hf3 hz3))
   go_end0
   exact ⟨rfl,by rw [HF.out];exact hm3,fr_alloc_then hf3⟩

theorem sumV_pick (pre post:List (ByteArray×Value)) (x:ByteArray) (v:Value):sumV (pre++(x,v)::post)=lenV v+sumV (pre++post):=by
 unfold sumV
 simp only [List.map_append,List.map_cons,List.sum_append,List.sum_cons];omega
set_option maxHeartbeats 1000000 in
theorem used_any (b:Nat) (L:List (ByteArray×Value)) (w:World) (h:MS.MapAt w b L) (hs:∀ p∈L,IsSl p.2) (hb:sumV L≤4611686018427387904) :
  Calls Tryz.prog 229 #[.map (some b)] w fun e w'=>e=.returned (.int .i64 (sumV L:Nat))∧Below w.heap.size w w':=by
 have HM:=Lib.hid' h
 have HS:=Lib.hid' hs
 have HT:=mtFiles
 obtain ⟨t,ht⟩:∃ t,sumV L=t:=⟨_,rfl⟩
 rw [ht] at hb ⊢
 have HL:=Lib.hid' ht
 clear h hs ht
 go_enter Tryz.func229, Tryz.ntmps229
 go_wp2_with (at_range;refine MS.wp_range HT rfl (.tmp 6) rfl rfl HM.out ?_;intro w1 hi hb1 hz1)
 have Hi:=Lib.hid' hi
 have Hb1:=Lib.hid' hb1
 clear hi hb1 hz1
 go_frame
 go_loopw [3,5] (fun v3 _ wr=>∃ (m:Nat) (left:List (ByteArray×Value)) (last:Option (ByteArray×Value)),v3=.int .i64 (m:Nat)∧MS.IterAt wr w.heap.size b L left last∧left.Sublist L∧m+sumV left=t∧Below w.heap.size w wr) (fun _ _ wr=>MS.iterLeft wr w.heap.size)
 case atStart=>exact ⟨0,L,none,rfl,Hi.out,List.Sublist.refl _,by rw [Nat.zero_add];exact HL.out,Hb1.out⟩
 case round =>
  obtain ⟨m,left,last,rfl,hit,hsub,hsum,hbw⟩:=hrel
  have Hsub:=Lib.hid' hsub
  have Hsum:=Lib.hid' hsum
  have Hbw:=Lib.hid' hbw
  have Hcnt:=Lib.hid' hit.left_eq
  have hlt:=hit.lt
  clear hsub hsum hbw
  go_wp2_with (refine MS.wp_next rfl (.tmp 7) rfl rfl hit ?_ ?_)
  ·intro hl w' hb' hh
   have Hl:=Lib.hid' hl
   have Hbb:=Lib.hid' hb'
   clear hl hb' hh hlt hit
   go_wp2
   go_ret
   refine ⟨ret_eq ?_,(Hbw.out.trans (Hbb.out.mono Hbw.out.size))⟩
   have:=Hsum.out
   rw [Hl.out] at this
   simp [sumV] at this
   show Value.int .i64 (m:Nat)=_
   rw [this]
  ·intro w2 x v pre post hl hit2 hf2
   have Hl:=Lib.hid' hl
   obtain ⟨va,vn,vc,rfl⟩:=HS.out (x,v) (Hsub.out.mem (by rw [hl];simp))
   have Hf2:=Lib.hid' hf2
   have HQ:=Zh (show m+vn+sumV (pre++post)=t by have:=Hsum.out;rw [hl,sumV_pick] at this;simp only [lenV] at this;omega)
   have hmv:m+vn≤4611686018427387904:=by have:=HQ.out;omega
   clear hl hf2 hit
   go_wp2_with (refine MS.wp_entry rfl (.tmp 7) rfl rfl hit2 ?_)
   go_roundw
   case rel =>
    refine ⟨m+vn,pre++post,some (x,.slice va vn vc),?_,hit2,?_,HQ.out,?_⟩
    ·go_num
    ·exact List.Sublist.trans (by rw [Hl.out];simp) Hsub.out
    ·exact Hbw.out.trans (Hf2.out.below (by omega) (by intro k hk;omega))
   case measure=>rw [Hcnt.out,hit2.left_eq,Hl.out];simp

theorem run_equalIn_map_nil' {P:Program} {w:World} (d:Nat) (t k e:TypeId) (p:Option Nat) (h:P.underlying t=some (.map k e)) :
  (Op.equalIn (d+1) t (.map p) (.map none)).run P w=.ok p.isNone w:=by
 cases p<;>simp [Op.equalIn,run_underlying h]
theorem run_eql_map_nil' {P:Program} {w:World} (t k e:TypeId) (p:Option Nat) (h:P.underlying t=some (.map k e)) :
  (binOp .eql t (.map p) (.map none)).run P w=.ok (.bool p.isNone) w:=by
 simp only [binOp]
 simp [show Op.equal t (.map p) (.map none)=Op.equalIn (9999+1) t (.map p) (.map none) from rfl,run_equalIn_map_nil' 9999 t k e p h]
theorem run_typeAssert_map' {P:Program} {w:World} (t xT k e:TypeId) (v:Value) (h:P.underlying t=some (.map k e)):(Instr.typeAssert (.iface t v) xT t false).run P w=.ok v w:=by
 simp [Instr.typeAssert,run_underlying h,go_sem,Result.andThen]
theorem run_maps_clone' {P:Program} {w:World} {r:Nat} {es:Array MapEntry} {clock:Nat} (t:TypeId) (hb:w.heap[r]?=some (.map es clock)) :
  (Extern.MapsClone.clone #[.iface t (.map (some r))]).run P w=.ok (.iface t (.map (some w.heap.size))) (w.alloc (.map es clock)):=by
 have e:Extern.MapsClone.clone #[.iface t (.map (some r))]=(getObj r >>= fun o=>match o with
   | .map entries clock=>(newObj (.map entries clock) >>= fun n=>pure (.iface t (.map (some n))))
   | _ => stuck "maps.clone: a map expected") := rfl
 rw [e]
 simp [MapKept.run_getObj_map hb,Result.andThen,go_sem]

def CloneFR (L:List (ByteArray×Value)) (w:World) (en:Ending) (w':World):Prop :=
 en=.returned (.map (some w.heap.size))∧Below w.heap.size w w'∧w'.heap.size=w.heap.size+1∧MS.MapAt w' w.heap.size L
set_option maxHeartbeats 1000000 in
theorem fclone_any (bm:Nat) (L:List (ByteArray×Value)) (w:World) (h:MS.MapAt w bm L):Calls Tryz.prog 210 #[.map (some bm)] w (CloneFR L w):=by
 obtain ⟨es,clock,hb,hs⟩:=h
 have hq:=fun w=>run_eql_map_nil' (P:=Tryz.prog) (w:=w) 190 _ _ (some bm) Tryz.underlying190
 go_enter Tryz.func210, Tryz.ntmps210
 go_wp2
 rw [run_callFunc_extern Tryz.func221 (by kernel_rfl) (by kernel_rfl) (by kernel_rfl) (e:=Extern.MapsClone.clone) (by kernel_rfl),run_maps_clone' (w:=w) 190 hb]
 simp only [Result.andThen]
 rw [Oper.upon_value]
 go_wp2
 rw [run_typeAssert_map' 190 _ _ _ _ Tryz.underlying190]
 simp only [Result.andThen]
 rw [Oper.upon_value]
 go_wp2
 go_ret
 exact ⟨rfl,by go_grown,by simp,⟨es,clock,by show (w.heap.push _)[w.heap.size]?=_;simp,hs⟩⟩
end DK
end Go.Proofs.YtaodldbgikiekaaGreatDoor
