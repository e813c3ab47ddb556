/- Proved here: a part of the proof (11 of 37). -/
import Derived.Test.YtimbeeiihbmofaaGreatDoorW10
import Derived.Test.YtimbeeiihbmofaaGreatDoorKeysL
import Derived.Test.YtimbeeiihbmofaaGreatDoorW1
import Derived.Test.YtimbeeiihbmofaaGreatDoorW3
import Derived.Laws.Externs
import Derived.MapKept
import Derived.Test.YtimbeeiihbmofaaGreatDoorW8
import Derived.StillTailTactics
set_option linter.unusedSimpArgs false
set_option linter.unusedVariables false
set_option maxRecDepth 20000
namespace Go.Proofs
open Go.RowKit Go.Maps Go.Sort Go.Shelf


/-- slices.Sort's two contracts at this dump, at the fence that asks nothing. -/
theorem Tryz.sortsA (m:Nat):AnyZI.SortsIn Tryz.prog Tryz.sortedA_ren Fence.wide m :=
 ⟨fun blk off cap ss W hH hblk hsz=>callsIn_wide.2 (AnyM.slices_Sort_int Tryz.sortA blk off cap ss W hH hblk hsz),
  fun p cap W=>callsIn_wide.2 (AnyM.slices_Sort_int_none Tryz.sortA p cap W)⟩
end Go.Proofs

namespace Go.Proofs.YtimbeeiihbmofaaGreatDoor
open Go.RowKit Go.Maps Go.Sort Go.Shelf

def trivR (_:Value):Option (DataW Unit×List MemPlace):=some (.lit (.bool true),[])

theorem own_of_map {w:World} {b:Nat} {L:List (Int×Value)} (h:MapAt w b L) (hw:∀ p∈L,(Lit.int .i64 p.1).wf=true) (hlen:L.length≤maxLen) :
  ∃ D0:DataW Unit,w.ownsMap Tryz.prog 3 trivR b L.length D0∧(intKeys D0).Perm (L.map (·.1)):=by
 obtain ⟨es,clock,hb,hs⟩:=h
 have hkeys:es.toList.map (·.key)=L.map (fun p=>Value.int .i64 p.1):=by
  have:=congrArg (List.map Prod.fst) hs.eq
  simpa [List.map_map,kv,vk,Function.comp_def] using this
 have hsz:es.size=L.length:=by have:=congrArg List.length hs.eq;simpa using this
 have hin:∀ x∈es.toList,∃ p∈L,x.key=.int .i64 p.1:=by
  intro x hx
  have:x.key∈es.toList.map (·.key):=List.mem_map_of_mem hx
  rw [hkeys] at this
  obtain ⟨p,hp,he⟩:=List.mem_map.1 this
  exact ⟨p,hp,he.symm⟩
 have hrd:∀ x∈es.toList,∃ a,x.key=.int .i64 a∧Go.WideElems.rd Tryz.prog 3 trivR x=some (.int .i64 a,.lit (.bool true)):=by
  intro x hx
  obtain ⟨p,hp,he⟩:=hin x hx
  refine ⟨p.1,he,?_⟩
  unfold Go.WideElems.rd
  rw [he,Maps.keyOf_int_mk Tryz.underlying3 (hw p hp)]
  rfl
 have hst:Go.MapKept.Stamped es clock:=by
  refine ⟨hs.old,?_,?_⟩
  ·exact List.pairwise_map.2 (hs.rise.imp (fun h=>Nat.ne_of_lt h))
  ·rw [hkeys]
   refine List.pairwise_map.2 ((List.pairwise_map.1 hs.nodup).imp (fun h e=>h (by simpa using e)))
 refine ⟨.map ((es.toList.map (Go.WideElems.rg Tryz.prog 3 trivR)).foldr DataW.insert []),⟨es,clock,hb,⟨by omega,hst,fun x hx=>?_⟩,by omega,rfl⟩,?_⟩
 ·obtain ⟨a,_,h⟩:=hrd x hx;exact ⟨_,h⟩
 ·show (List.map (fun p:Lit×DataW Unit=>Go.intOf p.1) _).Perm _
  refine ((WideShapes.sorted_perm _).map _).trans ?_
  rw [List.map_map]
  have:es.toList.map ((fun p:Lit×DataW Unit=>Go.intOf p.1)∘Go.WideElems.rg Tryz.prog 3 trivR)=L.map (·.1):=by
   have h1:es.toList.map ((fun p:Lit×DataW Unit=>Go.intOf p.1)∘Go.WideElems.rg Tryz.prog 3 trivR)=(es.toList.map (·.key)).map (fun v=>match v with | .int _ a=>a | _=>0):=by
    rw [List.map_map]
    refine List.map_congr_left fun x hx=>?_
    obtain ⟨a,ha,h⟩:=hrd x hx
    simp [Go.WideElems.rg,h,ha,Go.intOf]
   rw [h1,hkeys,List.map_map];simp [Function.comp_def]
  rw [this]

def kfun (W:World):Value:=.func (.func 95) #[] #[.pointer (some ⟨W.heap.size,0,none⟩)]
def kmap (W:World) (mb:Option Nat):World:=W.alloc (.cells #[.map mb] 67)
def sortK (L:List (Int×Value)):List Int:=(L.map (·.1)).mergeSort (fun x y=>decide (x≤y))

theorem keys_any (mb:Option Nat) (W:World):Calls Tryz.prog 49 #[.map mb] W fun e w'=>e=.returned (kfun W)∧w'=kmap W mb :=
 (callsIn_wide (n:=5)).1 (AnyZI.keys_in Tryz.keysA Fence.wide 5 trivial rfl mb W)

theorem sorted_any (b:Nat) (L:List (Int×Value)) (w:World) (h:MapAt w b L) (hw:∀ p∈L,(Lit.int .i64 p.1).wf=true) (hlen:L.length≤1048576) :
  Calls Tryz.prog 221 #[kfun w] (kmap w (some b)) fun e w'=>∃ v:Value,e=.returned v∧w'.ownsRow (w.heap.size+1) 3 1 v L.length ((sortK L).map encZ)∧(v=.slice none 0 0↔L=[])∧Below (w.heap.size+1) (kmap w (some b)) w':=by
 obtain ⟨D0,hown,hperm⟩:=own_of_map h hw (by unfold maxLen;omega)
 have hlenD:Maps.size D0=L.length:=by
  have:=hperm.length_eq
  obtain ⟨es,clock,hb,Ft,hs,rfl⟩:=hown
  simpa [intKeys,Maps.size] using this
 have hbl:=hown.lt
 have hseq:SeqGives Fence.wide 2 Tryz.prog 95 #[.pointer (some ⟨w.heap.size,0,none⟩)] encZ (fun ss=>ss.Perm (intKeys D0)) (Maps.size D0) (w.alloc (.cells #[.map (some b)] 67)) :=
  AnyZI.keys_gives (ρ:=Tryz.keysA_ren) { Tryz.keysA with } Fence.wide _ trivial rfl (by omega) w.heap.size b L.length D0 _ (by simp) (by simp) (by
   obtain ⟨es,clock,hb,Ft,hs,hD⟩:=hown
   exact ⟨es,clock,(Below.heap_alloc _ _ b hbl).trans hb,Ft,hs,hD⟩)
 have cS:=AnyZI.sorted_in Tryz.sortedA Fence.wide 5 trivial trivial trivial trivial rfl (by omega) (Tryz.sortsA _) (enters_of Tryz.func50 (by kernel_rfl) rfl) 95 #[.pointer (some ⟨w.heap.size,0,none⟩)] trivial (enters_of Tryz.func95 (by kernel_rfl) rfl) _ _ (by rw [hlenD];unfold maxLen;omega) (by rw [hlenD];omega) _ hseq
 change CallsIn _ _ Tryz.prog 221 _ _ _ at cS
 refine ((callsIn_wide (n:=5)).1 cS).mono ?_
 rintro e w' ⟨v,ss,rfl,hS,hrow,hnil,hb⟩
 have hp:=hS.trans hperm
 have hl:ss.length=L.length:=by simpa using hp.length_eq
 have hz:(w.alloc (.cells #[.map (some b)] 67)).heap.size=w.heap.size+1:=by simp
 refine ⟨v,rfl,?_,?_,?_⟩
 ·have:=hrow
  rw [show ss.mergeSort _=sortK L from mergeSort_of_perm_i hp,hl] at this
  first | exact this | (rw [hz] at this;exact this)
 ·rw [hnil]
  constructor
  ·rintro rfl;exact List.length_eq_zero_iff.1 hl.symm
  ·rintro rfl;exact List.length_eq_zero_iff.1 hl
 ·have:=hb;rw [hz] at this;exact this

end Go.Proofs.YtimbeeiihbmofaaGreatDoor

namespace Go.Proofs.YtimbeeiihbmofaaGreatDoor
open Go.RowKit

abbrev Ent:=Int×C×Option Addr×Nat
def entV (x:Ent):List Value:=[.int .i64 x.1,.int .i64 x.2.1.k,.slice x.2.2.1 x.2.1.d.length x.2.2.2]
def ents (E:List Ent):List Value:=E.flatMap entV
theorem ents_append (L M:List Ent):ents (L++M)=ents L++ents M:=by simp [ents]
def noAd (x:Ent):Int×C:=(x.1,x.2.1)


theorem etEnt:ElemT Tryz.prog 212 215 3 40:=ElemT.mk' (z:=.agg #[.int .i64 0,.int .i64 0,.slice none 0 0]) Tryz.underlying212 (by kernel_rfl) rfl (by decide) (by decide)
def sortA (M:List (Int×C)):List Int:=(M.map (·.1)).mergeSort (fun x y=>decide (x≤y))
def sortC (M:List (Int×C)):List (Int×C):=(sortA M).map (fun a=>(a,lookC M a))

theorem one3s (a b:Int) (p:Option Addr) (n c:Nat):∀ u∈[Value.int .i64 a,.int .i64 b,.slice p n c],u.oneCell'=true:=by intro u hu;simp at hu;rcases hu with rfl | rfl | rfl<;>rfl

/-- all cells, by their addresses, as a row of the call's own, with data of its own -/
theorem sortC_len (M:List (Int×C)):(sortC M).length=M.length:=by simp [sortC,sortA]
def EntsR (M:List (Int×C)) (w:World) (en:Ending) (w':World):Prop :=
 ∃ (E:List Ent) (a:Option Addr) (c:Nat),en=.returned (.slice a E.length c)∧E.map noAd=sortC M∧w'.ownsRow w.heap.size 215 3 (.slice a E.length c) E.length (ents E) ∧
  (∀ x∈E,w'.ownsRow w.heap.size 5 1 (.slice x.2.2.1 x.2.1.d.length x.2.2.2) x.2.1.d.length (byteVs x.2.1.d))∧Below w.heap.size w w'

theorem HLW {A:Nat→Prop} {w:World} {bu bm:Nat} {u:U} (h:UnitAt A w bu bm u) {L:List (Int×Value)} (hr:F2 (EntIs A w) L u.cells):∀ p∈L,(Lit.int .i64 p.1).wf=true:=by
 intro p hp
 obtain ⟨q,hq,hr⟩:=F2.mem_left hr hp
 have h1:=h.ok.addr q hq
 have h2:=h.ok.l0
 rw [hr.1]
 show (decide _&&decide _)=true
 rw [Bool.and_eq_true]
 exact ⟨decide_eq_true (by show (-9223372036854775808:Int)≤_;omega),decide_eq_true (by show _≤(9223372036854775807:Int);omega)⟩

theorem look_len {u:U} (h:u.ok) (a:Int):(lookC u.cells a).d.length≤64:=by
 cases ha:u.cells.any (·.1==a) with
 | true=>exact (h.kind _ (lookC_mem ha)).2
 | false=>rw [lookC_none ha];exact Nat.zero_le _

theorem entries_any {A:Nat→Prop} {bu bm:Nat} {u:U} (w:World) (h:UnitAt A w bu bm u) (hlen:u.cells.length≤1048576):Calls Tryz.prog 170 #[.pointer (some ⟨bu,0,none⟩)] w (EntsR u.cells w):=by
 obtain ⟨c0,c1,c2⟩:=h.cell
 have HU:=Lib.hid' h
 obtain ⟨L,hm,hrel⟩:=h.map
 have HM:=Lib.hid' hm
 have HR:=Lib.hid' hrel
 clear h hm hrel
 go_enter Tryz.func170, Tryz.ntmps170
 go_wp2_with fail
 refine (keys_any (some bm) w).mono ?_
 rintro en w1 ⟨rfl,rfl⟩
 go_wp2_with fail
 have hlen2:L.length≤1048576:=by rw [HR.out.length];exact hlen
 refine (sorted_any bm L w HM.out (HLW HU.out HR.out) hlen2).mono ?_
 rintro en w2 ⟨ks,rfl,hks,hnil,hb⟩
 have HKS:=Lib.hid' hks
 have HB:=Lib.hid' hb
 obtain ⟨ka,kc,rfl⟩:=own_shape hks
 clear hks hb hnil
 go_wp2
 have HKL:=Zh (show (sortK L)=sortA u.cells by unfold sortK sortA;rw [HR.out.map_eq (f:=(·.1)) (g:=(·.1)) (fun p q h=>h.1)])
 go_loopw [3,15] (fun vo vi wr=>∃ (k:Nat) (E:List Ent) (a':Option Addr) (c':Nat),vo=.slice a' E.length c'∧vi=.int .i64 k∧k≤L.length∧E.map noAd=(sortC u.cells).take k∧wr.ownsRow w2.heap.size 215 3 (.slice a' E.length c') E.length (ents E)∧(∀ x∈E,wr.ownsRow w2.heap.size 5 1 (.slice x.2.2.1 x.2.1.d.length x.2.2.2) x.2.1.d.length (byteVs x.2.1.d))∧Below w2.heap.size w2 wr) (fun _ vi _=>L.length - (intOf vi).toNat)
 case atStart=>exact ⟨0,[],none,0,rfl,rfl,Nat.zero_le _,by simp,own_nil _ _ _ _,by simp,Below.refl _ _⟩
 case round =>
  obtain ⟨k,E,a',c',rfl,rfl,hk,hE,ho,hx,hbr⟩:=hrel
  have HE:=Lib.hid' hE
  have HO:=Lib.hid' ho
  have HX:=Lib.hid' hx
  have HBW:=Zh (show Below w.heap.size w wr from ((Below.refl w.heap.size w).alloc (Nat.le_refl _) _ |>.trans (HB.out.mono (by omega))).trans (hbr.mono (by have:=HB.out.size;simp [kmap] at this;omega)))
  have HBR:=Lib.hid' hbr
  clear hE ho hx
  have hKn:(sortK L).length=L.length:=by simp [sortK]
  have hKm:(sortA u.cells).length=L.length:=by rw [←HKL.out];exact hKn
  have HEl:=Zh (show E.length=k by have:=congrArg List.length HE.out;rw [List.length_map,List.length_take,sortC,List.length_map,hKm] at this;omega)
  have hEb:E.length≤1048576:=by have:=HEl.out;omega
  by_cases hlt:k<L.length
  ·have hkr:SlV wr (.slice ka L.length kc) L.length ((sortK L).map encZ):=SlV.below (SlV.of_own HKS.out) (Nat.le_refl _) hbr
   obtain ⟨kb,ko,rfl,hkb,hkc⟩:=SlV.addr hkr (by intro h0;have:=congrArg List.length h0;rw [List.length_map,hKn] at this;simp only [List.length_nil] at this;omega)
   have ck:wr.cell? ⟨kb,ko+k,none⟩=some (.int .i64 ((sortK L)[k]'(by omega))):=hkc k _ (by rw [List.getElem?_map,List.getElem?_eq_getElem (by omega:k<(sortK L).length)];rfl)
   have HKe:=Zh (show (sortK L)[k]'(by omega)=(sortA u.cells)[k]'(by omega) by simp only [HKL.out])
   have hkk:k<(sortK L).length:=by omega
   generalize (sortK L)[k]'hkk=a at ck HKe
   have HNX:=Zh (show (sortC u.cells).take (k+1)=(sortC u.cells).take k++[(a,lookC u.cells a)] by
    rw [take_succ _ k (by simp [sortC,←HKL.out];omega)];simp [sortC,HKe.out])
   clear hkr hkc
   have HUr:=Zh (HU.out.below (Nat.le_refl _) HBW.out)
   obtain ⟨g0,g1,g2⟩:=HUr.out.cell
   obtain ⟨L2,ad,cap,hM2,hv,hB2⟩:=HUr.out.map.look a
   have HM2:=Lib.hid' hM2
   have Hlen:=Zh (look_len HU.out.ok a)
   have HV2:=Lib.hid' hv
   have HB2:=Lib.hid' hB2
   clear hM2 hv hB2 hbr
   go_wp2_with (first
    | (at_lookup;refine wp_look (b:=bm) (L:=L2) mtCells rfl (.tmp 24) (.tmp 25) rfl rfl a rfl HM2.out ?_;rw [HV2.out])
    | (at_builtin;go_loud (refine append_one etEnt rfl (.tmp 19) (.tmp 29) rfl [.int .i64 a,.int .i64 (lookC u.cells a).k,.slice ad2 (lookC u.cells a).d.length cap2] rfl w2.heap.size _ _ _ rfl HOq.out rfl (one3s _ _ _ _ _) (by omega) hwsq ?_);intro a9 c9 w9 ho9 hf9;have HO9:=Lib.hid' ho9;have HF9:=Lib.hid' hf9;clear ho9 hf9)
    | (go_at_call 98;refine (copy_any _ (lookC u.cells a) _ ⟨_,_,rfl,HB2.out⟩ (by have:=Hlen.out;omega)).mono ?_;rintro en w5 ⟨ad2,cap2,rfl,ho5,hb5⟩;have HO5:=Lib.hid' ho5;have HB5:=Lib.hid' hb5;have HOq:=Zh (own_below HO.out (Nat.le_refl _) hb5);have hwsq:w2.heap.size≤w5.heap.size:=Nat.le_trans HBR.out.size hb5.size;clear ho5 hb5))
   refine ⟨⟨k+1,E++[(a,lookC u.cells a,ad2,cap2)],a9,c9,by simp,by go_num,by omega,?_,?_,?_,?_⟩,?_⟩
   ·rw [List.map_append,HE.out,HNX.out];rfl
   ·rw [ents_append,List.length_append];exact HO9.out
   ·intro x hx
    rcases List.mem_append.1 hx with hx | hx
    ·have h1:=own_below (HX.out x hx) (Nat.le_refl _) HB5.out
     exact own_fr h1 HF9.out (own_apart h1 HOq.out (by decide))
    ·rw [List.mem_singleton] at hx
     subst hx
     exact own_fr (own_base HO5.out HBR.out.size) HF9.out (own_apart HO5.out HOq.out (by decide))
   ·exact HF9.out.row HOq.out (Nat.le_refl _) hwsq (below_call HBR.out HBR.out.size HB5.out)
   ·simp [intOf];omega
  ·go_wp2
   refine bodyPost_ret (v:=.slice a' E.length c') (by simp [results,Tryz.results170,go_sem]) rfl ?_
   have hws:w.heap.size≤w2.heap.size:=by have:=HB.out.size;simp [kmap] at this;omega
   refine ⟨E,a',c',rfl,?_,own_base HO.out hws,fun x hx=>own_base (HX.out x hx) hws,HBW.out⟩
   rw [HE.out,List.take_of_length_le]
   simp only [sortC,List.length_map,hKm];omega
end Go.Proofs.YtimbeeiihbmofaaGreatDoor

namespace Go.Proofs.YtimbeeiihbmofaaGreatDoor

def Rise (S:List (Int×C)):Prop:=S.Pairwise (fun p q=>p.1<q.1)

theorem lookC_of_mem {M:List (Int×C)} (hn:(M.map (·.1)).Nodup) {p:Int×C} (hp:p∈M):lookC M p.1=p.2:=by
 induction M with
 | nil=>cases hp
 | cons q M ih =>
  simp only [List.map_cons,List.nodup_cons] at hn
  unfold lookC
  by_cases hq:q.1=p.1
  ·rcases List.mem_cons.1 hp with rfl | hp
   ·simp
   ·exact absurd (List.mem_map.2 ⟨p,hp,rfl⟩) (hq▸hn.1)
  ·have hpM:p∈M:=by
    rcases List.mem_cons.1 hp with rfl | hp
    ·exact absurd rfl hq
    ·exact hp
   have:=ih hn.2 hpM
   unfold lookC at this
   simp only [List.find?_cons,show (q.1==p.1)=false from by simpa using hq]
   exact this

theorem sortC_map (M:List (Int×C)) (hn:(M.map (·.1)).Nodup):(sortC M).Perm M:=by
 have h1:(sortA M).Perm (M.map (·.1)):=List.mergeSort_perm _ _
 have h2:(sortC M).Perm ((M.map (·.1)).map (fun a=>(a,lookC M a))):=h1.map _
 refine h2.trans (List.Perm.of_eq ?_)
 rw [List.map_map]
 conv=>rhs;rw [←List.map_id M]
 refine List.map_congr_left fun p hp=>?_
 simp [lookC_of_mem hn hp]
theorem sortC_mem (M:List (Int×C)) (hn:(M.map (·.1)).Nodup) (p:Int×C):p∈sortC M↔p∈M:=(sortC_map M hn).mem_iff
theorem putC_same (M:List (Int×C)) (hn:(M.map (·.1)).Nodup) (a:Int) (c:C) (h:M.any (·.1==a)=true) (hc:lookC M a=c):putC M a c=M:=by
 unfold putC
 rw [if_pos h]
 conv=>rhs;rw [←List.map_id M]
 refine List.map_congr_left fun p hp=>?_
 by_cases hpa:p.1=a
 ·have:=lookC_of_mem hn hp
  rw [hpa,hc] at this
  simp only [hpa,if_true,id]
  rw [←hpa,this]
 ·simp [hpa]

theorem putC_len (L:List (Int×C)) (a:Int) (c:C):(putC L a c).length≤L.length+1:=by
 unfold putC;split<;>simp
end Go.Proofs.YtimbeeiihbmofaaGreatDoor

namespace Go.Proofs.YtimbeeiihbmofaaGreatDoor

structure M where
 u:U
 t:Int
structure M.ok (m:M):Prop where
 u:m.u.ok
 e:m.u.e=0
 lt:m.u.l≤m.t
 t1:m.t≤1048576
 below:∀ p∈m.u.cells,p.1<m.t
def M.new:M:=⟨U.new,0⟩
def M.put' (m:M) (a:Int) (c:C):M:=⟨{ m.u with cells:=putC m.u.cells a c },max m.t (a+1)⟩
def M.app (m:M) (d:List UInt8):Nat×Int×M:=if 64<d.length then (3,0,m) else if 1048576≤m.t then (5,0,m) else (0,m.t,m.put' m.t ⟨1,d⟩)
def M.rd (m:M) (a:Int):Nat×C:=if !inR a 1048575 then (1,⟨0,[]⟩) else (0,m.u.at a)
def M.fil (m:M) (a:Int):Nat×M:=if !inR a 1048575 then (1,m) else if (m.u.at a).k=3 then (9,m) else if (m.u.at a).k=1 then (8,m.put' a (m.u.at a)) else (0,m.put' a ⟨2,[]⟩)
def M.put (m:M) (a:Int) (x:C):Nat×M :=
 if !inR a 1048575 then (1,m) else if x.check≠0 then (x.check,m) else if x.k≠1∧x.k≠2 then (2,m) else if (m.u.at a).k=3 then (9,m) else if !C.may (m.u.at a) x then (8,m) else (0,m.put' a x)
def M.trim' (m:M) (b:Int):M:=⟨{ m.u with l:=max m.u.l b,cells:=m.u.cells.filter (fun p=>!decide (p.1<max m.u.l b))},max m.t b⟩
def M.trim (m:M) (b:Int):Nat×M:=if !inR b 1048576 then (1,m) else (0,m.trim' b)
def M.cut (m:M) (f:Int):Nat×M:=if !inR f 1048576 then (1,m) else if f<m.u.l then (9,m) else (0,⟨{ m.u with cells:=m.u.cells.filter (fun p=>!decide (f≤p.1))},f⟩)

theorem M.ok_new:M.new.ok:=⟨U.ok_new,rfl,Int.le_refl _,by decide,by simp [M.new,U.new]⟩
theorem at_some {u:U} (h:u.ok) {a:Int} (h3:(u.at a).k≠3) (h0:(u.at a).k≠0):u.cells.any (·.1==a)=true∧u.at a=lookC u.cells a∧(a,u.at a)∈u.cells:=by
 have hl:¬a<u.l:=by intro hl;exact h3 (by simp [U.at,hl])
 have hat:u.at a=lookC u.cells a:=by simp [U.at,hl]
 have hany:u.cells.any (·.1==a)=true:=by
  cases hq:u.cells.any (·.1==a) with
  | true=>rfl
  | false=>rw [hat,lookC_none hq] at h0;exact absurd rfl h0
 exact ⟨hany,hat,by rw [hat];exact lookC_mem hany⟩
theorem at_low {u:U} {a:Int} (h3:(u.at a).k≠3):u.l≤a:=by
 by_cases hl:a<u.l
 ·exact absurd (by simp [U.at,hl]) h3
 ·omega
theorem put_same {u:U} (h:u.ok) {a:Int} (h3:(u.at a).k≠3) (h0:(u.at a).k≠0):putC u.cells a (u.at a)=u.cells:=by
 obtain ⟨h1,h2,_⟩:=at_some h h3 h0
 exact putC_same _ h.nodup _ _ h1 h2.symm
theorem M.ok_put {m:M} (h:m.ok) {a:Int} {c:C} (ha:inR a 1048575=true) (h3:(m.u.at a).k≠3) (hc:(c.k=1∨c.k=2∧c.d=[])∧c.d.length≤64):(m.put' a c).ok:=by
 have hl:=at_low h3
 have h1:=h.lt;have h2:=h.t1
 simp [inR] at ha
 refine ⟨U.ok_put h.u hl (by omega) hc,h.e,?_,?_,fun p hp=>?_⟩
 ·show m.u.l≤max m.t (a+1);omega
 ·show max m.t (a+1)≤1048576;omega
 ·show p.1<max m.t (a+1)
  rcases mem_putC hp with rfl | hp
  ·simp only;omega
  ·have:=h.below p hp;omega
theorem M.at_tail {m:M} (h:m.ok):m.u.at m.t=⟨0,[]⟩:=by
 have h1:=h.lt
 have hn:m.u.cells.any (·.1==m.t)=false:=by
  rw [List.any_eq_false]
  intro p hp
  have:=h.below p hp
  simp;omega
 simp only [U.at,if_neg (show ¬m.t<m.u.l by omega),lookC_none hn]
theorem M.ok_app {m:M} (h:m.ok) (d:List UInt8):(m.app d).2.2.ok:=by
 unfold M.app
 split;· exact h
 split;· exact h
 rename_i h1 h2
 have h3:=h.lt;have h4:=h.u.l0
 exact M.ok_put h (by simp [inR];omega) (by rw [M.at_tail h];decide) ⟨.inl rfl,by simp;omega⟩
theorem at_kind {u:U} (h:u.ok) (a:Int):(u.at a).k=3∧(u.at a).d=[]∨(u.at a).k=0∧(u.at a).d=[]∨(((u.at a).k=1∨(u.at a).k=2∧(u.at a).d=[])∧(u.at a).d.length≤64):=by
 by_cases hl:a<u.l
 ·left;simp [U.at,hl]
 ·by_cases hq:u.cells.any (·.1==a)=true
  ·right;right
   have:=h.kind _ (lookC_mem hq)
   simpa [U.at,hl] using this
  ·right;left
   have hq':u.cells.any (·.1==a)=false:=by simpa only [Bool.not_eq_true] using hq
   simp [U.at,hl,lookC_none hq']
theorem M.ok_fil {m:M} (h:m.ok) (a:Int):(m.fil a).2.ok:=by
 unfold M.fil
 split;· exact h
 rename_i h1
 have ha:inR a 1048575=true:=by simpa using h1
 split;· exact h
 rename_i h3
 split
 ·rename_i hk
  refine M.ok_put h ha h3 ?_
  rcases at_kind h.u a with ⟨h5,_⟩ | ⟨h5,_⟩ | h5
  ·exact absurd h5 h3
  ·rw [h5] at hk;cases hk
  ·exact h5
 ·exact M.ok_put h ha h3 ⟨.inr ⟨rfl,rfl⟩,by simp⟩
theorem check_zero {x:C} (h:x.check=0) (hk:¬(x.k≠1∧x.k≠2)):(x.k=1∨x.k=2∧x.d=[])∧x.d.length≤64:=by
 unfold C.check at h
 split at h;· cases h
 split at h;· cases h
 split at h;· cases h
 rename_i h1 h2 h3
 refine ⟨?_,by omega⟩
 by_cases h4:x.k=1
 ·exact .inl h4
 ·right
  have h5:x.k=2:=by omega
  refine ⟨h5,?_⟩
  cases hd:x.d with
  | nil=>rfl
  | cons b l=>rw [hd] at h3;simp at h3;exact absurd h3 h4
theorem M.ok_putx {m:M} (h:m.ok) (a:Int) (x:C):(m.put a x).2.ok:=by
 unfold M.put
 split;· exact h
 rename_i h1
 have ha:inR a 1048575=true:=by simpa using h1
 split;· exact h
 rename_i hc
 split;· exact h
 rename_i hk
 split;· exact h
 rename_i h3
 split;· exact h
 exact M.ok_put h ha h3 (check_zero (by simpa using hc) hk)
theorem M.ok_trim {m:M} (h:m.ok) (b:Int):(m.trim b).2.ok:=by
 unfold M.trim
 split;· exact h
 rename_i h1
 have ha:inR b 1048576=true:=by simpa using h1
 simp [inR] at ha
 have h2:=h.u.l1;have h3:=h.lt;have h4:=h.t1
 refine ⟨U.ok_filter (u:=m.u) h.u (l:=max m.u.l b) (by omega) (by omega) (fun p hp hf=>by simpa using hf),h.e,?_,?_,fun p hp=>?_⟩
 ·show max m.u.l b≤max m.t b;omega
 ·show max m.t b≤1048576;omega
 ·have:=h.below p (List.mem_filter.1 hp).1
  show p.1<max m.t b;omega
theorem M.ok_cut {m:M} (h:m.ok) (f:Int):(m.cut f).2.ok:=by
 unfold M.cut
 split;· exact h
 rename_i h1
 have ha:inR f 1048576=true:=by simpa using h1
 simp [inR] at ha
 split;· exact h
 rename_i h2
 refine ⟨U.ok_filter (u:=m.u) (l:=m.u.l) h.u (Int.le_refl _) h.u.l1 (fun p hp _=>(h.u.addr p hp).1),h.e,?_,ha.2,fun p hp=>?_⟩
 ·show m.u.l≤f;omega
 ·have:=(List.mem_filter.1 hp).2
  simp at this
  exact this

theorem at_check {u:U} (h:u.ok) (a:Int):(u.at a).check=0:=by
 rcases at_kind h a with ⟨h1,h2⟩ | ⟨h1,h2⟩ | ⟨h1,h2⟩
 ·simp [C.check,h1,h2]
 ·simp [C.check,h1,h2]
 ·rcases h1 with h1 | ⟨h1,h3⟩
  ·have:¬64<(u.at a).d.length:=by omega
   simp [C.check,h1,this]
  ·simp [C.check,h1,h3]
end Go.Proofs.YtimbeeiihbmofaaGreatDoor

namespace Go.Proofs.YtimbeeiihbmofaaGreatDoor

theorem look_put (L:List (Int×C)) (a:Int) (c:C) (x:Int) (hx:x≠a):lookC (putC L a c) x=lookC L x:=by
 unfold putC
 split
 ·rename_i hany
  clear hany
  unfold lookC
  congr 2
  induction L with
  | nil=>rfl
  | cons p L ih =>
   by_cases hp:p.1=a
   ·have h1:(a==x)=false:=by rw [beq_eq_false_iff_ne];exact fun h=>hx h.symm
    have h2:(p.1==x)=false:=by rw [hp];exact h1
    simp only [List.map_cons,if_pos hp,List.find?_cons,h1,h2,ih]
   ·simp only [List.map_cons,if_neg hp,List.find?_cons,ih]
 ·unfold lookC
  rw [List.find?_append]
  have h1:(a==x)=false:=by rw [beq_eq_false_iff_ne];exact fun h=>hx h.symm
  simp [h1]
theorem look_filter (L:List (Int×C)) (f:Int×C→Bool) (hn:(L.map (·.1)).Nodup) {p:Int×C} (hp:p∈L) (hf:f p=true):lookC (L.filter f) p.1=p.2 :=
 lookC_of_mem (hn.sublist (List.filter_sublist.map _)) (List.mem_filter.2 ⟨hp,hf⟩)

end Go.Proofs.YtimbeeiihbmofaaGreatDoor

namespace Go.Proofs.YtimbeeiihbmofaaGreatDoor

def noneE (p:Int×C):Bool:=p.2.k==0||p.2.k==3
end Go.Proofs.YtimbeeiihbmofaaGreatDoor

namespace Go.Proofs.YtimbeeiihbmofaaGreatDoor

def cellB (c:C):List UInt8:=vb c.k.toNat++(if c.k=1 then headB c.d else [])
def entsB:Int→List (Int×C)→List UInt8
 | _,[]=>[]
 | f,p::L=>vb (p.1 - f).toNat++(cellB p.2++entsB (p.1+1) L)
def unitB (e l:Int) (L:List (Int×C)):List UInt8:=vb e.toNat++(vb l.toNat++(vb L.length++entsB l L))
def RD.cell (r:RD):C×RD :=
 if (if (r.within 3).1=1 then (r.within 3).2.text 64 else ([],(r.within 3).2)).2.bad≠0 then (⟨0,[]⟩,(if (r.within 3).1=1 then (r.within 3).2.text 64 else ([],(r.within 3).2)).2)
 else (⟨((r.within 3).1:Nat),(if (r.within 3).1=1 then (r.within 3).2.text 64 else ([],(r.within 3).2)).1⟩,(if (r.within 3).1=1 then (r.within 3).2.text 64 else ([],(r.within 3).2)).2)
/-- the reader ahead of an entry's cell -/
def RD.by1 (r:RD) (f:Int):RD:=if (1048576 - f).toNat≤r.num.1 then r.num.2.fail 1 else r.num.2
def RD.ents:Nat→Int→RD→List (Int×C)→List (Int×C)×RD
 | 0,_,r,acc=>(acc,r)
 | n+1,f,r,acc=>if (r.by1 f).cell.2.bad≠0 then ([],(r.by1 f).cell.2) else RD.ents n (f+(r.num.1:Nat)+1) (r.by1 f).cell.2 (acc++[(f+(r.num.1:Nat),(r.by1 f).cell.1)])
def readU (r:RD):U×RD :=
 let e:=r.within 1099511627776
 let l:=e.2.within 1048576
 let m:=l.2.num
 let x:=RD.ents (min m.1 65536) (l.1:Nat) (if 65536<m.1 then m.2.fail 3 else m.2) []
 (⟨(e.1:Nat),(l.1:Nat),x.1⟩,x.2)
def U.zero:U:=⟨0,0,[]⟩
def takeU (b:List UInt8):Nat×U :=
 if (fone b).1≠0 then ((fone b).1,U.zero) else
  if (readU ⟨(fone b).2,0⟩).2.fin≠0 then ((readU ⟨(fone b).2,0⟩).2.fin,U.zero)
  else if (readU ⟨(fone b).2,0⟩).1.cells.any noneE=true then (2,U.zero) else (0,(readU ⟨(fone b).2,0⟩).1)
def putU (e l:Int) (L:List (Int×C)):Nat×List UInt8:=if 65536<(unitB e l L).length then (3,[]) else (0,frameB (unitB e l L))
def RightL (f:Int) (L:List (Int×C)):Prop:=(∀ p∈L,f≤p.1∧p.1<1048576∧p.2.check=0)∧Rise L
theorem RightL.tail {f:Int} {p:Int×C} {L:List (Int×C)} (h:RightL f (p::L)):RightL (p.1+1) L:=by
 obtain ⟨h1,h2⟩:=h
 obtain ⟨h3,h4⟩:=List.pairwise_cons.1 h2
 exact ⟨fun q hq=>⟨by have:=h3 q hq;omega,(h1 q (List.mem_cons_of_mem _ hq)).2⟩,h4⟩
end Go.Proofs.YtimbeeiihbmofaaGreatDoor

namespace Go.Proofs.YtimbeeiihbmofaaGreatDoor
open Go.RowKit

/-- no byte lies in a unit's own two blocks -/
theorem UnitAt.no_byte {A:Nat→Prop} {w:World} {bu bm:Nat} {u:U} (h:UnitAt A w bu bm u) {p:Addr} {b:UInt8} (hp:w.cell? p=some (byteV b)):¬(p.block=bu∨p.block=bm):=by
 obtain ⟨blk,off,row⟩:=p
 obtain ⟨L,⟨es,clock,h1,_⟩,_⟩:=h.map
 rintro (rfl | rfl)
 ·unfold World.cell? at hp
  rw [h.blk] at hp
  simp only at hp
  split at hp
  ·cases hp
  ·match off with
   | 0=>simp [byteV] at hp
   | 1=>simp [byteV] at hp
   | 2=>simp [byteV] at hp
   | n+3=>simp at hp
 ·unfold World.cell? at hp
  rw [h1] at hp
  simp only at hp
  cases hp
theorem UnitAt.bytes {A:Nat→Prop} {w w':World} {bu bm:Nat} {u:U} (h:UnitAt A w bu bm u) {v:Value} {d:List UInt8} (hd:Bytes w v d) (hf:Fr (fun k=>k=bu∨k=bm) w w'):Bytes w' v d:=by
 obtain ⟨a,cap,rfl,h1,h2,h3,h4⟩:=hd
 refine ⟨a,cap,rfl,h1,h2,h3,fun j x hx=>?_⟩
 obtain ⟨p,hp,hc⟩:=h4 j x hx
 refine ⟨p,hp,hf.cell hc ?_⟩
 have hx':∃ b,x=byteV b:=by
  simp only [byteVs,List.getElem?_map] at hx
  cases hq:d[j]? with
  | none=>rw [hq] at hx;simp at hx
  | some b=>rw [hq] at hx;simp at hx;exact ⟨b,hx.symm⟩
 obtain ⟨b,rfl⟩:=hx'
 exact h.no_byte hc

theorem kind8 (k:Int):0≤(IntKind.u64.wrap k).tmod 8∧(IntKind.u64.wrap k).tmod 8<8:=by
 have h:0≤IntKind.u64.wrap k:=by
  have e:IntKind.u64.wrap k=k % 18446744073709551616:=by simp [IntKind.wrap,IntKind.signed,IntKind.bits]
  omega
 rw [Int.tmod_eq_emod_of_nonneg h]
 omega
end Go.Proofs.YtimbeeiihbmofaaGreatDoor

namespace Go.Proofs.YtimbeeiihbmofaaGreatDoor
open Go.RowKit

theorem run_look_ok {P:Program} {t k e:Nat} {z:Value} (T:MapT P t k e z) {w:World} {b:Nat} {L:List (Int×Value)} (h:MapAt w b L) (a:Int) :
  (Instr.lookup t (.map (some b)) (.int .i64 a) true).run P w=.ok (.tuple #[(lookE L a).getD z,.bool (L.any (·.1==a))]) w:=by
 obtain ⟨es,clock,hb,hs⟩:=h
 have hz:=T.zero w
 have hf:=fun w=>run_findKey T w hs.eq a
 have hck:=run_checkKey T
 have hk:=T.key
 simp only [Instr.lookup]
 simp [run_underlying T.under,getObj,Sem.run,hb,go_sem,hck,hf,lookE,find_idx]
 cases hj:L.findIdx? (fun x=>x.1==a) with
 | none =>
  have hn:L.any (fun x=>x.1==a)=false:=by
   rw [List.any_eq_false];intro x hx;have:=List.findIdx?_eq_none_iff.1 hj x hx;simp [this]
  simp [hz,go_sem,hn]
 | some j =>
  have hlt:j<L.length:=(List.findIdx?_eq_some_iff_getElem.1 hj).1
  have hy:L.any (fun x=>x.1==a)=true:=List.any_eq_true.2 ⟨L[j],List.getElem_mem hlt,(List.findIdx?_eq_some_iff_getElem.1 hj).2.1⟩
  simp [List.getElem?_eq_getElem hlt,go_sem]
  have hja:L[j].1=a:=by simpa using (List.findIdx?_eq_some_iff_getElem.1 hj).2.1
  exact ⟨L[j].2,by rw [←hja];exact List.getElem_mem hlt⟩
theorem wp_look_ok {P:Program} {t k e:Nat} {z:Value} {w:World} {ops:Array Oper} {rest:List Oper} {o:Oper} {a:Act} {Q:Exit→Act→World→Prop} (T:MapT P t k e z) (hgd:o.guard=none) (m x:Operand) (ho:o.op=.lookup t m x true) {b:Nat} {L:List (Int×Value)} (hm:a.eval m=.map (some b)) (x0:Int) (hx:a.eval x=.int .i64 x0) (h:MapAt w b L)
  (hk:wpList P ops Q rest (a.put o.dst (.tuple #[(lookE L x0).getD z,.bool (L.any (·.1==x0))])) w):wpList P ops Q (o::rest) a w:=by
 refine wpList_plain hgd fun K hK=>?_
 have hrun:=run_look_ok T h x0
 unfold Oper.wp
 simp [execOp,ho,hm,hx,hrun,Result.andThen]
 exact hK _ _ hk

theorem run_equalIn_map_nil' {P:Program} {w:World} (d:Nat) (t k e:TypeId) (p:Option Nat) (h:P.underlying t=some (.map k e)) :
  (Op.equalIn (d+1) t (.map p) (.map none)).run P w=.ok p.isNone w:=by
 cases p<;>simp [Op.equalIn,run_underlying h]
theorem run_eql_map_nil' {P:Program} {w:World} (t k e:TypeId) (p:Option Nat) (h:P.underlying t=some (.map k e)) :
  (binOp .eql t (.map p) (.map none)).run P w=.ok (.bool p.isNone) w:=by
 simp only [binOp]
 simp [show Op.equal t (.map p) (.map none)=Op.equalIn (9999+1) t (.map p) (.map none) from rfl,run_equalIn_map_nil' 9999 t k e p h]
theorem run_typeAssert_map' {P:Program} {w:World} (t xT k e:TypeId) (v:Value) (h:P.underlying t=some (.map k e)):(Instr.typeAssert (.iface t v) xT t false).run P w=.ok v w:=by
 simp [Instr.typeAssert,run_underlying h,go_sem,Result.andThen]
theorem run_maps_clone' {P:Program} {w:World} {r:Nat} {es:Array MapEntry} {clock:Nat} (t:TypeId) (hb:w.heap[r]?=some (.map es clock)) :
  (Extern.MapsClone.clone #[.iface t (.map (some r))]).run P w=.ok (.iface t (.map (some w.heap.size))) (w.alloc (.map es clock)):=by
 have e:Extern.MapsClone.clone #[.iface t (.map (some r))]=(getObj r >>= fun o=>match o with
   | .map entries clock=>(newObj (.map entries clock) >>= fun n=>pure (.iface t (.map (some n))))
   | _ => stuck "maps.clone: a map expected") := rfl
 rw [e]
 simp [MapKept.run_getObj_map hb,Result.andThen,go_sem]

def CloneR (bm:Nat) (L:List (Int×Value)) (w:World) (en:Ending) (w':World):Prop :=
 en=.returned (.map (some w.heap.size))∧Below w.heap.size w w'∧w'.heap.size=w.heap.size+1∧MapAt w' w.heap.size L
set_option maxHeartbeats 1000000 in
theorem mclone_any (bm:Nat) (L:List (Int×Value)) (w:World) (h:MapAt w bm L):Calls Tryz.prog 122 #[.map (some bm)] w (CloneR bm L w):=by
 obtain ⟨es,clock,hb,hs⟩:=h
 have hq:=fun w=>run_eql_map_nil' (P:=Tryz.prog) (w:=w) 67 _ _ (some bm) Tryz.underlying67
 go_enter Tryz.func122, Tryz.ntmps122
 go_wp2
 rw [run_callFunc_extern Tryz.func168 (by kernel_rfl) (by kernel_rfl) (by kernel_rfl) (e:=Extern.MapsClone.clone) (by kernel_rfl),run_maps_clone' (w:=w) 67 hb]
 simp only [Result.andThen]
 rw [Oper.upon_value]
 go_wp2
 rw [run_typeAssert_map' 67 _ _ _ _ Tryz.underlying67]
 simp only [Result.andThen]
 rw [Oper.upon_value]
 go_wp2
 go_ret
 exact ⟨rfl,by go_grown,by simp,⟨es,clock,by show (w.heap.push _)[w.heap.size]?=_;simp,hs⟩⟩

/-- one apart -/
def CopyUR (A0:Nat→Prop) (u:U) (w:World) (en:Ending) (w':World):Prop :=
 en=.returned (.pointer (some ⟨w.heap.size+1,0,none⟩))∧Below w.heap.size w w'∧w'.heap.size=w.heap.size+2 ∧
  ∀ A:Nat→Prop,(∀ k,A k→A0 k∨w.heap.size≤k)→A w.heap.size→A (w.heap.size+1)→UnitAt A w' (w.heap.size+1) w.heap.size u
theorem EntIs.weak {A A':Nat→Prop} {w:World} {p:Int×Value} {q:Int×C} (h:EntIs A w p q) (hA:∀ k,A' k→A k∨w.heap.size≤k):EntIs A' w p q:=by
 obtain ⟨h1,a,cap,h2,h3,h4⟩:=h
 refine ⟨h1,a,cap,h2,h3,fun x hx=>⟨fun hk=>?_,(h4 x hx).2⟩⟩
 rcases hA _ hk with h5 | h5
 ·exact (h4 x hx).1 h5
 ·have:=(h4 x hx).2;omega
set_option maxHeartbeats 1000000 in
theorem ucopy_any {A:Nat→Prop} {bu bm:Nat} {u:U} (w:World) (h:UnitAt A w bu bm u):Calls Tryz.prog 88 #[.pointer (some ⟨bu,0,none⟩)] w (CopyUR A u w):=by
 obtain ⟨c0,c1,c2⟩:=h.cell
 have hlt:=h.lt.1
 obtain ⟨L,hm,hL⟩:=h.map
 have H:=Lib.hid' h
 have HM:=Lib.hid' hm
 have HL:=Lib.hid' hL
 clear h hm hL
 go_enter Tryz.func88, Tryz.ntmps88
 go_wp2_with fail
 refine wp_region_held_drew (S:=(fun w'=>w'.cell? ⟨bu,0,none⟩=some (.int .i64 u.e)∧w'.cell? ⟨bu,1,none⟩=some (.int .i64 u.l)∧w'.cell? ⟨bu,2,none⟩=some (.map (some bm)))) (by kernel_rfl) ⟨by simpa using c0,by simpa using c1,by simpa using c2⟩ (fun hH0=>?_)
 refine tA 0 (.pointer (some ⟨bu,0,none⟩)) rfl hH0 ?_ ?_
 ·intro w hSw;go_simp
 simp only [Act.put,gA,gZ,gS,sA,sZ,sS]
 refine tA 1 (.pointer (some ⟨bu,0,none⟩)) rfl hH0 ?_ ?_
 ·intro w hSw;go_simp
 simp only [Act.put,gA,gZ,gS,sA,sZ,sS]
 refine tA 2 (.pointer (some ⟨bu,0,none⟩)) rfl hH0 ?_ ?_
 ·intro w hSw;go_simp
 simp only [Act.put,gA,gZ,gS,sA,sZ,sS]
 refine tA 3 (.int .i64 u.e) rfl hH0 ?_ ?_
 ·intro w hSw;go_simp
 simp only [Act.put,gA,gZ,gS,sA,sZ,sS]
 refine tA 4 (.pointer (some ⟨bu,0,none⟩)) rfl hH0 ?_ ?_
 ·intro w hSw;go_simp
 simp only [Act.put,gA,gZ,gS,sA,sZ,sS]
 refine tA 5 (.pointer (some ⟨bu,0,none⟩)) rfl hH0 ?_ ?_
 ·intro w hSw;go_simp
 simp only [Act.put,gA,gZ,gS,sA,sZ,sS]
 refine tA 6 (.pointer (some ⟨bu,1,none⟩)) rfl hH0 ?_ ?_
 ·intro w hSw;go_simp
 simp only [Act.put,gA,gZ,gS,sA,sZ,sS]
 refine tA 7 (.int .i64 u.l) rfl hH0 ?_ ?_
 ·intro w hSw;go_simp
 simp only [Act.put,gA,gZ,gS,sA,sZ,sS]
 refine tA 8 (.pointer (some ⟨bu,0,none⟩)) rfl hH0 ?_ ?_
 ·intro w hSw;go_simp
 simp only [Act.put,gA,gZ,gS,sA,sZ,sS]
 refine tA 9 (.pointer (some ⟨bu,0,none⟩)) rfl hH0 ?_ ?_
 ·intro w hSw;go_simp
 simp only [Act.put,gA,gZ,gS,sA,sZ,sS]
 refine tA 10 (.pointer (some ⟨bu,2,none⟩)) rfl hH0 ?_ ?_
 ·intro w hSw;go_simp
 simp only [Act.put,gA,gZ,gS,sA,sZ,sS]
 refine tA 11 (.map (some bm)) rfl hH0 ?_ ?_
 ·intro w hSw;go_simp
 simp only [Act.put,gA,gZ,gS,sA,sZ,sS]
 refine rD 12 rfl (fun K hK=>?_)
 go_simp
 refine (mclone_any bm L w.drew (HM.out.block rfl)).mono ?_
 rintro en w2 ⟨rfl,hb2,hz2',hm2⟩
 have hz2:w2.heap.size=w.heap.size+1:=hz2'
 clear hz2'
 have HM2:=Zh (show MapAt w2 w.heap.size L from hm2)
 have HB2:=Zh (show Below w.heap.size w w2 from (Below.drew (Below.refl _ _)).trans hb2)
 have z0:=(HB2.out.cell (p:=⟨bu,0,none⟩) hlt).trans c0
 have z1:=(HB2.out.cell (p:=⟨bu,1,none⟩) hlt).trans c1
 have z2:=(HB2.out.cell (p:=⟨bu,2,none⟩) hlt).trans c2
 have hlt2:bu<w2.heap.size:=by omega
 clear hm2 hb2
 refine hK.out _ _ ?_ (fun hH1=>?_)
 ·exact ⟨z0,z1,z2⟩
 clear hK K
 refine tA 13 (.agg #[.int .i64 u.e,.int .i64 u.l,.map (some w.heap.size)]) rfl hH1 ?_ ?_
 ·intro w hSw;go_simp
 simp only [Act.put,gA,gZ,gS,sA,sZ,sS]
 refine rD 14 rfl (fun K hK=>?_)
 go_simp
 refine hK.out _ _ ?_ (fun hH2=>?_)
 ·refine ⟨?_,?_,?_⟩<;>simp [go_sem,z0,z1,z2,hlt2]
 clear hK K
 refine tA 15 (.pointer (some ⟨w2.heap.size,0,none⟩)) rfl hH2 ?_ ?_
 ·intro w hSw;go_simp
 simp only [Act.put,gA,gZ,gS,sA,sZ,sS]
 refine wpAnyH_done (by kernel_rfl) ?_ _
 go_wp2
 go_ret
 rw [hz2]
 refine ⟨rfl,?_,by simp [hz2],fun A' hA h1 h2=>?_⟩
 ·exact HB2.out.trans ((show Below w2.heap.size w2 _ by go_grown).mono (by omega))
 ·have hblk:=heap_alloc2_new
  refine ⟨?_,⟨L,HM2.out.block (Below.heap_alloc _ _ _ (by omega)),?_⟩,H.out.ok,h2,h1⟩
  ·rw [←hz2];show (w2.heap.push _)[w2.heap.size]?=_;simp
  ·refine HL.out.mono fun q r _ _ hqr=>(hqr.weak hA).fr (F:=fun k=>False) (Fr.of_below ?_) (fun _ h=>h.elim)
   exact HB2.out.trans ((show Below w2.heap.size w2 _ by go_grown).mono (by omega))

end Go.Proofs.YtimbeeiihbmofaaGreatDoor

namespace Go.Proofs.YtimbeeiihbmofaaGreatDoor
open Go.RowKit
abbrev PoolL:=List (Value×List UInt8)
/-- an entry of a map of cells, its bytes in the pool -/
def CRel (vs:PoolL) (x:Int×Value) (y:Int×C):Prop:=x.1=y.1∧∃ a c,x.2=.agg #[.int .i64 y.2.k,.slice a y.2.d.length c]∧(Value.slice a y.2.d.length c,y.2.d)∈vs
def Asn.unit (bu bm:Nat) (u:U) (vs:PoolL):Asn where
 holds:=fun w=>w.heap[bu]?=some (.cells #[.int .i64 u.e,.int .i64 u.l,.map (some bm)] 138 (0,0))∧(∃ L,MapAt w bm L∧F2 (CRel vs) L u.cells)∧u.ok
 foot:=fun k=>k=bu∨k=bm
 lt:=fun w h b hb=>by
  obtain ⟨h1,⟨L,h2,_⟩,_⟩:=h
  rcases hb with rfl | rfl
  ·exact (Array.getElem?_eq_some_iff.1 h1).1
  ·exact h2.lt
 keep:=fun w w' h k=>⟨(k bu (.inl rfl)).trans h.1,by
  obtain ⟨L,h2,h3⟩:=h.2.1
  exact ⟨L,h2.block (k bm (.inr rfl)),h3⟩,h.2.2⟩
theorem Asn.unit_more {w:World} {bu bm:Nat} {u:U} {vs us:PoolL} (h:(Asn.unit bu bm u vs).holds w) (hs:∀ x∈vs,x∈us):(Asn.unit bu bm u us).holds w:=by
 obtain ⟨h1,⟨L,h2,h3⟩,h4⟩:=h
 exact ⟨h1,⟨L,h2,h3.mono (fun _ _ _ _ ⟨q1,a,c,q2,q3⟩=>⟨q1,a,c,q2,hs _ q3⟩)⟩,h4⟩
/-- what a call with the unit may not have told of its bytes -/
def Off (w:World) (Z:Nat→Prop):Nat→Prop:=fun k=>k<w.heap.size∧¬Z k
theorem Asn.unitAt {w:World} {bu bm:Nat} {u:U} {vs:PoolL} {Z:Nat→Prop} (h:(Asn.unit bu bm u vs).holds w) (hp:(Asn.pool Z vs).holds w) (h1:¬Z bu) (h2:¬Z bm):UnitAt (Off w Z) w bu bm u:=by
 have hl1:=(Asn.unit bu bm u vs).lt w h bu (.inl rfl)
 have hl2:=(Asn.unit bu bm u vs).lt w h bm (.inr rfl)
 obtain ⟨q1,⟨L,q2,q3⟩,q4⟩:=h
 refine ⟨q1,⟨L,q2,q3.mono (fun x y _ _ ⟨r1,a,c,r2,r3⟩=>⟨r1,a,c,r2,(hp.1 _ r3).1,fun p hpa=>?_⟩)⟩,q4,⟨hl1,h1⟩,⟨hl2,h2⟩⟩
 have hz:Z p.block:=(hp.1 _ r3).2 p _ _ (by rw [hpa])
 exact ⟨fun hk=>hk.2 hz,hp.2 _ hz⟩
theorem Sep.unitAt {w0 w:World} {F Z:Nat→Prop} {bu bm:Nat} {u:U} {vs:PoolL} {L:List Asn} (h:Sep w0 F (Asn.unit bu bm u vs::Asn.pool Z vs::L) w):UnitAt (Off w Z) w bu bm u :=
 Asn.unitAt (h.at 0 rfl) (h.at 1 rfl) (h.off 0 1 rfl rfl (by decide) bu (.inl rfl)) (h.off 0 1 rfl rfl (by decide) bm (.inr rfl))
/-- the bytes of a unit's cells -/
theorem unit_pool {A:Nat→Prop} {w:World} {bu bm:Nat} {u:U} (h:UnitAt A w bu bm u):∃ us:PoolL,(Asn.unit bu bm u us).holds w∧∀ x∈us,Bytes w x.1 x.2∧SlIn (fun k=>¬A k∧k<w.heap.size) x.1:=by
 obtain ⟨L,h1,h2⟩:=h.map
 have key:∀ (L:List (Int×Value)) (M:List (Int×C)),F2 (EntIs A w) L M→∃ us:PoolL,F2 (CRel us) L M∧∀ x∈us,Bytes w x.1 x.2∧SlIn (fun k=>¬A k∧k<w.heap.size) x.1:=by
  intro L M h
  induction h with
  | nil=>exact ⟨[],.nil,by simp⟩
  | cons hab _ ih =>
   obtain ⟨us,q1,q2⟩:=ih
   obtain ⟨r1,a,c,r2,r3,r4⟩:=hab
   refine ⟨(Value.slice a _ c,_)::us,.cons ⟨r1,a,c,r2,List.mem_cons_self⟩ (q1.mono (fun _ _ _ _ ⟨s1,a,c,s2,s3⟩=>⟨s1,a,c,s2,List.mem_cons_of_mem _ s3⟩)),fun x hx=>?_⟩
   rcases List.mem_cons.1 hx with rfl | hx
   ·refine ⟨r3,fun p n cc hv=>?_⟩
    simp only [Value.slice.injEq] at hv
    exact r4 p hv.1
   ·exact q2 x hx
 obtain ⟨us,q1,q2⟩:=key L u.cells h2
 exact ⟨us,⟨h.blk,⟨L,h1,q1⟩,h.ok⟩,q2⟩
/-- behind a call with the unit that told its world anew -/
theorem Sep.unitCall {w0 w w':World} {F Z:Nat→Prop} {bu bm:Nat} {u u':U} {vs:PoolL} {L:List Asn} (h:Sep w0 F (Asn.unit bu bm u vs::Asn.pool Z vs::L) w) (hU:UnitAt (Off w Z) w' bu bm u') (hf:Fr (fun k=>k=bu∨k=bm) w w') :
  ∃ Z' vs',(∀ x∈vs,x∈vs')∧Sep w0 F (Asn.unit bu bm u' vs'::Asn.pool Z' vs'::L) w':=by
 obtain ⟨us,q1,q2⟩:=unit_pool hU
 have hbu:=h.lt' 0 rfl (b:=bu) (.inl rfl)
 have hbm:=h.lt' 0 rfl (b:=bm) (.inr rfl)
 have hzu:¬Z bu:=h.off 0 1 rfl rfl (by decide) bu (.inl rfl)
 have hzm:¬Z bm:=h.off 0 1 rfl rfl (by decide) bm (.inr rfl)
 have hp:=h.at 1 rfl
 have hp':(Asn.pool Z vs).holds w':=(Asn.pool Z vs).keep w w' hp (fun b hb=>hf.block b (hp.2 b hb) (by rintro (rfl | rfl);exact hzu hb;exact hzm hb))
 refine ⟨fun k=>Z k∨(w.heap.size≤k∧k<w'.heap.size),vs++us,fun x hx=>List.mem_append_left _ hx,?_⟩
 have h1:Sep w0 F ((Asn.unit bu bm u vs).sep (Asn.pool Z vs)::L) w:=h.join
 have h2:Sep w0 F ((Asn.unit bu bm u' (vs++us)).sep (Asn.pool (fun k=>Z k∨(w.heap.size≤k∧k<w'.heap.size)) (vs++us))::L) w':=by
  refine h1.fr1 (hf.mono (fun i hi=>.inl hi)) ⟨Asn.unit_more q1 (fun x hx=>List.mem_append_right _ hx),⟨fun x hx=>?_,fun b hb=>?_⟩,fun b hb hc=>?_⟩ (fun b hb=>?_)
  ·rcases List.mem_append.1 hx with hx | hx
   ·exact ⟨(hp'.1 x hx).1,fun p n c hv=>.inl ((hp'.1 x hx).2 p n c hv)⟩
   ·refine ⟨(q2 x hx).1,fun p n c hv=>?_⟩
    obtain ⟨r1,r2⟩:=(q2 x hx).2 p n c hv
    by_cases hz:Z p.block
    ·exact .inl hz
    ·exact .inr ⟨Nat.le_of_not_lt (fun hlt=>r1 ⟨hlt,hz⟩),r2⟩
  ·rcases hb with hb | hb
   ·exact hp'.2 b hb
   ·exact hb.2
  ·rcases hb with rfl | rfl
   ·rcases hc with hc | hc
    ·exact hzu hc
    ·omega
   ·rcases hc with hc | hc
    ·exact hzm hc
    ·omega
  ·rcases hb with hb | hb | hb
   ·exact .inr (.inl hb)
   ·exact .inr (.inr hb)
   ·exact .inl hb.1
 exact h2.part
/-- a new unit, its bytes in the pool, or new -/
theorem Sep.unitNew {w0 w w':World} {F Z:Nat→Prop} {bu bm:Nat} {u:U} {vs:PoolL} {L:List Asn} (h:Sep w0 F (Asn.pool Z vs::L) w) (hb:Below w.heap.size w w') (h1:w.heap.size≤bu) (h2:w.heap.size≤bm) (hU:UnitAt (fun k=>Off w Z k∨k=bu∨k=bm) w' bu bm u) :
  ∃ Z' vs',(∀ x∈vs,x∈vs')∧Sep w0 F (Asn.unit bu bm u vs'::Asn.pool Z' vs'::L) w':=by
 obtain ⟨us,q1,q2⟩:=unit_pool hU
 have hl1:=(Asn.unit bu bm u us).lt w' q1 bu (.inl rfl)
 have hl2:=(Asn.unit bu bm u us).lt w' q1 bm (.inr rfl)
 have hp:=h.at 0 rfl
 have hp':(Asn.pool Z vs).holds w':=(Asn.pool Z vs).keep w w' hp (fun b hb'=>hb.block b (hp.2 b hb'))
 refine ⟨fun k=>Z k∨((w.heap.size≤k∧k<w'.heap.size)∧k≠bu∧k≠bm),vs++us,fun x hx=>List.mem_append_left _ hx,?_⟩
 have h3:Sep w0 F ((Asn.unit bu bm u (vs++us)).sep (Asn.pool (fun k=>Z k∨((w.heap.size≤k∧k<w'.heap.size)∧k≠bu∧k≠bm)) (vs++us))::L) w':=by
  refine h.fr1 (Fr.of_below hb) ⟨Asn.unit_more q1 (fun x hx=>List.mem_append_right _ hx),⟨fun x hx=>?_,fun b hb=>?_⟩,fun b hb hc=>?_⟩ (fun b hb=>?_)
  ·rcases List.mem_append.1 hx with hx | hx
   ·exact ⟨(hp'.1 x hx).1,fun p n c hv=>.inl ((hp'.1 x hx).2 p n c hv)⟩
   ·refine ⟨(q2 x hx).1,fun p n c hv=>?_⟩
    obtain ⟨r1,r2⟩:=(q2 x hx).2 p n c hv
    by_cases hz:Z p.block
    ·exact .inl hz
    ·exact .inr ⟨⟨Nat.le_of_not_lt (fun hlt=>r1 (.inl ⟨hlt,hz⟩)),r2⟩,fun e=>r1 (.inr (.inl e)),fun e=>r1 (.inr (.inr e))⟩
  ·rcases hb with hb | hb
   ·exact hp'.2 b hb
   ·exact hb.1.2
  ·rcases hb with rfl | rfl
   ·rcases hc with hc | hc
    ·have:=hp.2 b hc;omega
    ·exact hc.2.1 rfl
   ·rcases hc with hc | hc
    ·have:=hp.2 b hc;omega
    ·exact hc.2.2 rfl
  ·rcases hb with (rfl | rfl) | hb | hb
   ·exact .inl h1
   ·exact .inl h2
   ·exact .inr hb
   ·exact .inl hb.1.1
 exact h3.part
end Go.Proofs.YtimbeeiihbmofaaGreatDoor

namespace Go.Proofs.YtimbeeiihbmofaaGreatDoor
open Go.RowKit

/-- a list of entries, and where their data lie -/
def EL (w:World) (a:Option Addr) (c:Nat) (E:List Ent):Prop:=SlV w (.slice a E.length c) E.length (E.flatMap entV)∧∀ x∈E,Bytes w (.slice x.2.2.1 x.2.1.d.length x.2.2.2) x.2.1.d
theorem take_any {α:Type} (f:α→Bool) (L:List α) (k:Nat) (hk:k<L.length):(L.take (k+1)).any f=((L.take k).any f||f L[k]):=by
 rw [List.take_succ_eq_append_getElem hk,List.any_append];simp
end Go.Proofs.YtimbeeiihbmofaaGreatDoor

namespace Go.Proofs.YtimbeeiihbmofaaGreatDoor
open Go.RowKit

structure LogAt (A:Nat→Prop) (w:World) (bl bm:Nat) (m:M):Prop where
 blk:w.heap[bl]?=some (.cells #[.map (some bm),.int .i64 m.u.l,.int .i64 m.t] 69 (0,0))
 map:CellsAt A w bm m.u.cells
 ok:m.ok
 abl:A bl
 abm:A bm
theorem LogAt.lt {A:Nat→Prop} {w:World} {bl bm:Nat} {m:M} (h:LogAt A w bl bm m):bl<w.heap.size∧bm<w.heap.size:=by
 obtain ⟨L,h1,_⟩:=h.map
 exact ⟨(Array.getElem?_eq_some_iff.1 h.blk).1,h1.lt⟩
theorem LogAt.ne {A:Nat→Prop} {w:World} {bl bm:Nat} {m:M} (h:LogAt A w bl bm m):bl≠bm:=by
 obtain ⟨L,⟨es,clock,h1,_⟩,_⟩:=h.map
 intro e;have:=h.blk;rw [e,h1] at this;simp at this
theorem LogAt.fr {A F:Nat→Prop} {w w':World} {bl bm:Nat} {m:M} (h:LogAt A w bl bm m) (hf:Fr F w w') (h1:¬F bl) (h2:¬F bm) (hF:∀ k,F k→A k):LogAt A w' bl bm m :=
 ⟨(hf.block _ h.lt.1 h1).trans h.blk,h.map.fr hf (hf.block _ h.lt.2 h2) hF,h.ok,h.abl,h.abm⟩
theorem LogAt.below {A:Nat→Prop} {w w':World} {bl bm:Nat} {m:M} (h:LogAt A w bl bm m) {B:Nat} (hB:w.heap.size≤B) (hb:Below B w w'):LogAt A w' bl bm m :=
 h.fr (Fr.of_below (F:=fun _=>False) (hb.mono hB)) (fun h=>h) (fun h=>h) (fun _ h=>h.elim)
theorem LogAt.cell {A:Nat→Prop} {w:World} {bl bm:Nat} {m:M} (h:LogAt A w bl bm m) :
  w.cell? ⟨bl,0,none⟩=some (.map (some bm))∧w.cell? ⟨bl,1,none⟩=some (.int .i64 m.u.l)∧w.cell? ⟨bl,2,none⟩=some (.int .i64 m.t):=by
 refine ⟨?_,?_,?_⟩<;>simp [World.cell?,h.blk]
theorem LogAt.free {A:Nat→Prop} {w:World} {bl bm:Nat} {m:M} (h:LogAt A w bl bm m) (o:Nat):w.frozen? ⟨bl,o,none⟩=false:=by
 simp [World.frozen?,h.blk]
def LogR (v:Value) (A:Nat→Prop) (bl bm:Nat) (m:M) (w:World) (en:Ending) (w':World):Prop :=
 en=.returned v∧LogAt A w' bl bm m∧Fr (fun k=>k=bl∨k=bm) w w'
theorem LogR.same {v:Value} {A:Nat→Prop} {bl bm:Nat} {m:M} {w:World} {en:Ending} {w':World} (h:LogAt A w bl bm m) (he:en=.returned v) (hb:Below w.heap.size w w'):LogR v A bl bm m w en w' :=
 ⟨he,h.below (Nat.le_refl _) hb,Fr.of_below hb⟩

theorem mnew_any (w:World):Calls Tryz.prog 8 #[] w fun e w'=>e=.returned (.pointer (some ⟨w.heap.size+1,0,none⟩))∧Below w.heap.size w w'∧w'.heap.size=w.heap.size+2∧∀ A:Nat→Prop,A w.heap.size→A (w.heap.size+1)→LogAt A w' (w.heap.size+1) w.heap.size M.new:=by
 have hmm:=@run_makeMap Tryz.prog
 go_enter Tryz.func8, Tryz.ntmps8
 go_wp2
 go_ret
 refine ⟨rfl,by go_grown,by simp,fun A h1 h2=>⟨?_,⟨[],?_,.nil⟩,M.ok_new,h2,h1⟩⟩
 ·exact heap_alloc2_new w _ _
 ·exact (MapAt.made w).block (Below.heap_alloc _ _ _ (by simp))
theorem min_any (x m:Int) (w:World):Calls Tryz.prog 44 #[.int .i64 x,.int .i64 m] w fun e w'=>e=.returned (.bool (inR x m))∧w=w':=by
 go_enter Tryz.func44, Tryz.ntmps44
 go_wp2
 all_goals go_ret
 all_goals refine ⟨ret_eq ?_,rfl⟩
 ·have h:(0:Int)≤x:=by assumption
  simp [inR,h]
 ·have h:x<0:=by assumption
  have h':¬(0:Int)≤x:=by omega
  simp [inR,h']
theorem masks_any (bl:Nat) (f:Bool) (w:World):Calls Tryz.prog 43 #[.pointer (some ⟨bl,0,none⟩),.bool f] w fun en w'=>en=.returned (errV (if f then 0 else 1))∧w=w':=by
 cases f
 ·go_enter Tryz.func43, Tryz.ntmps43
  go_wp2
  go_ret
  exact ⟨rfl,rfl⟩
 ·go_enter Tryz.func43, Tryz.ntmps43
  go_wp2
  go_ret
  exact ⟨rfl,rfl⟩
theorem mtail_any {A:Nat→Prop} {bl bm:Nat} {m:M} (w:World) (h:LogAt A w bl bm m):Calls Tryz.prog 10 #[.pointer (some ⟨bl,0,none⟩)] w fun en w'=>en=.returned (.tuple #[.int .i64 m.t,.nilIface])∧w=w':=by
 obtain ⟨_,_,c2⟩:=h.cell
 clear h
 go_enter Tryz.func10, Tryz.ntmps10
 go_wp2
 go_ret2
 exact ⟨rfl,rfl⟩
set_option maxHeartbeats 1000000 in
theorem mat_any {A:Nat→Prop} {bl bm:Nat} {m:M} (a:Int) (w:World) (h:LogAt A w bl bm m):Calls Tryz.prog 51 #[.pointer (some ⟨bl,0,none⟩),.int .i64 a] w (CopyR (m.u.at a) w):=by
 obtain ⟨c0,c1,_⟩:=h.cell
 have hlt:=h.lt.1
 by_cases hl:a<m.u.l
 ·have e1:=Zh (show m.u.at a=⟨3,[]⟩ by simp [U.at,hl])
  clear h
  go_enter Tryz.func51, Tryz.ntmps51
  go_wp2
  refine bodyPost_ret (v:=.agg #[.int .i64 3,.slice none 0 0]) (by simp [results,Tryz.results51,go_sem]) rfl ?_
  rw [e1.out]
  exact ⟨_,_,rfl,own_nil _ _ _ _,by go_grown⟩
 ·have e1:=Zh (show m.u.at a=lookC m.u.cells a by simp [U.at,hl])
  obtain ⟨L,ad,cap,hm,hv,hb⟩:=h.map.look a
  have HM:=Lib.hid' hm
  have HV:=Lib.hid' hv
  have HB:=Lib.hid' hb
  have Hlen:=Zh (show (lookC m.u.cells a).d.length≤1099511627776 by have:=U.at_len h.ok.u a;rw [e1.out] at this;omega)
  clear h hm hv hb
  go_enter Tryz.func51, Tryz.ntmps51
  go_wp2_with (at_lookup;refine wp_look (b:=bm) (L:=L) mtCells rfl (.tmp 15) (.tmp 16) rfl rfl a rfl (HM.out.block (Below.heap_alloc _ _ _ HM.out.lt)) ?_;rw [HV.out])
  refine (copy_any _ (lookC m.u.cells a) _ ⟨_,_,rfl,SlV.below HB.out (Nat.le_refl _) (by go_grown)⟩ Hlen.out).mono ?_
  rintro en w2 ⟨a2,cp2,rfl,ho,hb2⟩
  have HO:=Lib.hid' ho
  have hc2:=(bcell hb2).1
  have hz2:=hb2.size
  have lt1:w.heap.size<w2.heap.size:=by simp at hz2;omega
  have k0:w2.cell? ⟨w.heap.size,0,none⟩=some (.int .i64 0):=(hc2 _ _ (by simp)).trans (by simp [go_sem])
  have k1:w2.cell? ⟨w.heap.size,1,none⟩=some (.slice none 0 0):=(hc2 _ _ (by simp)).trans (by simp [go_sem])
  have f0:w2.frozen? ⟨w.heap.size,0,none⟩=false:=((bcell hb2).2 _ _ (by simp)).trans (by simp [go_sem])
  have f1:w2.frozen? ⟨w.heap.size,1,none⟩=false:=((bcell hb2).2 _ _ (by simp)).trans (by simp [go_sem])
  clear ho hc2
  go_wp2
  refine bodyPost_ret (v:=.agg #[.int .i64 (lookC m.u.cells a).k,.slice a2 (lookC m.u.cells a).d.length cp2]) (by simp [results,Tryz.results51,go_sem,k0,k1]) rfl ?_
  rw [e1.out]
  refine ⟨_,_,rfl,own_base (ownsRow_setCell_below (ownsRow_setCell_below HO.out (by simp) _) (by simp) _) (by simp<;>omega),?_⟩
  refine Below.setCell (Below.setCell ?_ (by simp) _) (by simp) _
  exact below_call (B:=w.heap.size) (w:=w) (by go_grown) (by go_size) hb2

set_option maxHeartbeats 1000000 in
theorem set_any {A:Nat→Prop} {bl bm:Nat} {m:M} (a:Int) (v:Value) (c:C) (w:World) (h:LogAt A w bl bm m) (hA:∀ k,A k→k<w.heap.size) (hv:CellIs w v c) (hl:c.d.length≤64) (hok:(m.put' a c).ok) (ha:0≤a∧a<1048576) :
  Calls Tryz.prog 52 #[.pointer (some ⟨bl,0,none⟩),.int .i64 a,v] w (LogR (.tuple #[]) A bl bm (m.put' a c) w):=by
 have H:=Lib.hid' h
 obtain ⟨c0,c1,c2⟩:=h.cell
 have f2:=h.free 2
 have hlt:=h.lt.1
 have hltm:=h.lt.2
 have HNE:=Lib.hid' h.ne
 have HA:=Lib.hid' hA
 have HOK:=Lib.hid' hok
 obtain ⟨ad,cp,rfl,hd⟩:=hv
 have HD:=Lib.hid' hd
 have ht:=h.ok.t1
 have ht0:0≤m.t:=Int.le_trans h.ok.u.l0 h.ok.lt
 clear h hA hok hd
 go_enter Tryz.func52, Tryz.ntmps52
 go_wp2_with fail
 refine wp_region_held_drew (S:=(fun w'=>w'.cell? ⟨bl,0,none⟩=some (.map (some bm))∧w'.cell? ⟨w.heap.size,0,none⟩=some (.int .i64 c.k)∧w'.cell? ⟨w.heap.size,1,none⟩=some (.slice ad c.d.length cp))) (by kernel_rfl) ⟨by simp [go_sem,c0,hlt],by simp [go_sem],by simp [go_sem]⟩ (fun hH0=>?_)
 refine tA 0 (.pointer (some ⟨bl,0,none⟩)) rfl hH0 ?_ ?_
 ·intro w hSw;go_simp
 simp only [Act.put,gA,gZ,gS,sA,sZ,sS]
 refine tA 1 (.pointer (some ⟨bl,0,none⟩)) rfl hH0 ?_ ?_
 ·intro w hSw;go_simp
 simp only [Act.put,gA,gZ,gS,sA,sZ,sS]
 refine tA 2 (.pointer (some ⟨bl,0,none⟩)) rfl hH0 ?_ ?_
 ·intro w hSw;go_simp
 simp only [Act.put,gA,gZ,gS,sA,sZ,sS]
 refine tA 3 (.map (some bm)) rfl hH0 ?_ ?_
 ·intro w hSw;go_simp
 simp only [Act.put,gA,gZ,gS,sA,sZ,sS]
 refine tA 4 (.int .i64 a) rfl hH0 ?_ ?_
 ·intro w hSw;go_simp
 simp only [Act.put,gA,gZ,gS,sA,sZ,sS]
 refine tA 5 (.agg #[.int .i64 c.k,.slice ad c.d.length cp]) rfl hH0 ?_ ?_
 ·intro w hSw;go_simp
 simp only [Act.put,gA,gZ,gS,sA,sZ,sS]
 refine rD 6 rfl (fun K hK=>?_)
 go_simp
 refine (copy_any _ c _ ⟨ad,cp,rfl,SlV.below HD.out (Nat.le_refl _) (by go_grown)⟩ (by omega)).mono ?_
 rintro en w2 ⟨a2,cp2,rfl,ho,hb2⟩
 have HO:=Lib.hid' ho
 have HB2:=Zh (show Below w.heap.size w w2 from below_call (B:=w.heap.size) (w:=w) (by go_grown) (by go_size) hb2)
 have HW2:=Zh (H.out.below (Nat.le_refl _) HB2.out)
 have z0:=HW2.out.cell.1
 have z1:w2.cell? ⟨w.heap.size,0,none⟩=some (.int .i64 c.k):=((bcell hb2).1 _ _ (by simp)).trans (by simp [go_sem])
 have z2:w2.cell? ⟨w.heap.size,1,none⟩=some (.slice ad c.d.length cp):=((bcell hb2).1 _ _ (by simp)).trans (by simp [go_sem])
 clear ho hb2
 refine hK.out _ _ ?_ (fun hH1=>?_)
 ·exact ⟨z0,z1,z2⟩
 clear hK K
 obtain ⟨L,hm,hL⟩:=HW2.out.map
 obtain ⟨ob,hrun,hm3⟩:=run_store mtCells hm a (.agg #[.int .i64 c.k,.slice a2 c.d.length cp2])
 have hnw:¬w.heap.size=bm:=by have:=hltm;omega
 refine rD 7 rfl (fun K hK=>?_)
 go_simp
 refine hK.out _ _ ?_ (fun hH2=>?_)
 ·exact ⟨(setBlk_fr _ _ _).cell z0 HNE.out,(setBlk_fr _ _ _).cell z1 hnw,(setBlk_fr _ _ _).cell z2 hnw⟩
 clear hK K
 refine wpAnyH_done (by kernel_rfl) ?_ _
 have HF3:=Zh (show Fr (·=bm) w2 (setBlk w2 bm ob) from setBlk_fr _ _ _)
 have HM3:=Lib.hid' hm3
 have HL:=Lib.hid' hL
 have HM:=Lib.hid' hm
 have y1:(setBlk w2 bm ob).cell? ⟨bl,2,none⟩=some (.int .i64 m.t):=HF3.out.cell HW2.out.cell.2.2 HNE.out
 have y2:(setBlk w2 bm ob).frozen? ⟨bl,2,none⟩=false:=by
  have:=HW2.out.free 2
  rw [←this];simp only [World.frozen?,HF3.out.block bl HW2.out.lt.1 HNE.out]
 have HY:=Zh (show (setBlk w2 bm ob).heap[bl]?=some (.cells #[.map (some bm),.int .i64 m.u.l,.int .i64 m.t] 69 (0,0)) from (HF3.out.block bl HW2.out.lt.1 HNE.out).trans HW2.out.blk)
 clear hrun hm3 hm hL z0 z1 z2 hH0 hH1 hH2 c0 c1 c2 f2
 generalize setBlk w2 bm ob=w3 at *
 go_wp2
 go_end0
 have HF4:=Zh (show Fr (fun k=>k=bl∨k=bm) w2 (w3.setCell ⟨bl,2,none⟩ (.int .i64 (max m.t (a+1)))) from (HF3.out.mono (fun k hk=>Or.inr hk)).trans (fr_set w3 bl 2 _) (fun k hk=>Or.inl (Or.inl hk)))
 refine ⟨rfl,⟨heap_setCell_same w3 bl 2 _ _ _ HY.out,?_,HOK.out,H.out.abl,H.out.abm⟩,(Fr.of_below HB2.out).trans HF4.out (fun k hk=>.inl hk)⟩
 exact CellsAt.put HA.out HL.out (HM3.out.block (heap_setCell_other _ _ _ _ (fun h=>HNE.out h.symm))) HF4.out (fun k hk=>by rcases hk with rfl | rfl;exact H.out.abl;exact H.out.abm) (SlV.of_own HO.out) (fun x hx=>by have:=own_in HO.out x _ _ (by rw [hx]);simp at this;omega)
end Go.Proofs.YtimbeeiihbmofaaGreatDoor

namespace Go.Proofs.YtimbeeiihbmofaaGreatDoor
open Go.RowKit

set_option maxHeartbeats 1000000 in
theorem mapp_any {A:Nat→Prop} {bl bm:Nat} {m:M} (da:Option Addr) (dc:Nat) (d:List UInt8) (w:World) (h:LogAt A w bl bm m) (hA:∀ k,A k→k<w.heap.size) (hd:Bytes w (.slice da d.length dc) d) :
  Calls Tryz.prog 15 #[.pointer (some ⟨bl,0,none⟩),.slice da d.length dc] w (LogR (.tuple #[.int .i64 (m.app d).2.1,errV (m.app d).1]) A bl bm (m.app d).2.2 w):=by
 have H:=Lib.hid' h
 obtain ⟨c0,c1,c2⟩:=h.cell
 have HA:=Lib.hid' hA
 have HD:=Lib.hid' hd
 have HOK:=Zh (M.ok_app h.ok d)
 have hdl:d.length≤9223372036854775807:=by obtain ⟨_,_,he,h1,h2,_⟩:=hd;cases he;unfold maxLen at h2;omega
 have ht0:0≤m.t:=Int.le_trans h.ok.u.l0 h.ok.lt
 have ht1:=h.ok.t1
 clear h hA hd
 by_cases h1:64<d.length
 ·have Hf:=Zh (show m.app d=(3,0,m) by simp [M.app,h1])
  go_enter Tryz.func15, Tryz.ntmps15
  go_wp2
  go_ret2
  rw [Hf.out]
  exact LogR.same H.out rfl (Below.refl _ _)
 by_cases h2:1048576≤m.t
 ·have Hf:=Zh (show m.app d=(5,0,m) by simp [M.app,h1,h2])
  go_enter Tryz.func15, Tryz.ntmps15
  go_wp2
  go_ret2
  rw [Hf.out]
  exact LogR.same H.out rfl (Below.refl _ _)
 have Hf:=Zh (show m.app d=(0,m.t,m.put' m.t ⟨1,d⟩) by simp [M.app,h1,h2])
 go_enter Tryz.func15, Tryz.ntmps15
 go_wp2_with fail
 refine (set_any m.t _ ⟨1,d⟩ _ H.out HA.out ⟨da,dc,rfl,HD.out⟩ (by simp;omega) (by have:=HOK.out;rw [Hf.out] at this;exact this) (by omega)).mono ?_
 rintro en w1 ⟨rfl,hl,hf⟩
 have HL:=Lib.hid' hl
 have HF:=Lib.hid' hf
 clear hl hf c0 c1 c2
 go_wp2
 go_ret2
 rw [Hf.out]
 exact ⟨rfl,HL.out,HF.out⟩

theorem mread_any {A:Nat→Prop} {bl bm:Nat} {m:M} (a:Int) (w:World) (h:LogAt A w bl bm m) :
  Calls Tryz.prog 25 #[.pointer (some ⟨bl,0,none⟩),.int .i64 a] w (ReadR (m.rd a).1 (m.rd a).2 w):=by
 have H:=Lib.hid' h
 clear h
 cases hin:inR a 1048575 with
 | false =>
  have Hf:=Zh (show m.rd a=(1,⟨0,[]⟩) by simp [M.rd,hin])
  go_enter Tryz.func25, Tryz.ntmps25
  go_wp2_with (go_at_call 44;refine (min_any _ _ _).mono ?_;rintro en w' ⟨rfl,rfl⟩;rw [hin])
  refine (masks_any _ _ _).mono ?_
  rintro en w1 ⟨rfl,rfl⟩
  rw [show errV (if false=true then 0 else 1)=.iface 56 (.int .i64 1) from rfl]
  go_wp2
  refine bodyPost_ret (v:=.tuple #[.agg #[.int .i64 0,.slice none 0 0],.iface 56 (.int .i64 1)]) (by simp [results,Tryz.results25,go_sem]) rfl ?_
  rw [Hf.out]
  exact ⟨none,0,rfl,World.ownsRow_nil _ _ _ _,by go_grown⟩
 | true =>
  have Hf:=Zh (show m.rd a=(0,m.u.at a) by simp [M.rd,hin])
  go_enter Tryz.func25, Tryz.ntmps25
  go_wp2_with (go_at_call 44;refine (min_any _ _ _).mono ?_;rintro en w' ⟨rfl,rfl⟩;rw [hin])
  refine (masks_any _ _ _).mono ?_
  rintro en w1 ⟨rfl,rfl⟩
  rw [show errV (if true=true then 0 else 1)=.nilIface from rfl]
  go_wp2_with fail
  refine (mat_any _ _ (H.out.below (Nat.le_refl _) (by go_grown))).mono ?_
  rintro en w2 ⟨a2,cp2,rfl,ho,hb2⟩
  have HO:=Lib.hid' ho
  have hc2:=(bcell hb2).1
  have hz2:=hb2.size
  have lt1:w.heap.size<w2.heap.size:=by simp at hz2;omega
  have c0:w2.cell? ⟨w.heap.size,0,none⟩=some (.int .i64 0):=(hc2 _ _ (by simp)).trans (by simp [go_sem])
  have c1:w2.cell? ⟨w.heap.size,1,none⟩=some (.slice none 0 0):=(hc2 _ _ (by simp)).trans (by simp [go_sem])
  have f0:w2.frozen? ⟨w.heap.size,0,none⟩=false:=((bcell hb2).2 _ _ (by simp)).trans (by simp [go_sem])
  have f1:w2.frozen? ⟨w.heap.size,1,none⟩=false:=((bcell hb2).2 _ _ (by simp)).trans (by simp [go_sem])
  clear ho hc2
  go_wp2
  refine bodyPost_ret (v:=.tuple #[.agg #[.int .i64 (m.u.at a).k,.slice a2 (m.u.at a).d.length cp2],.nilIface]) (by simp [results,Tryz.results25,go_sem,c0,c1]) rfl ?_
  rw [Hf.out]
  refine ⟨_,_,rfl,own_base (ownsRow_setCell_below (ownsRow_setCell_below HO.out (by simp) _) (by simp) _) (by simp<;>omega),?_⟩
  refine Below.setCell (Below.setCell ?_ (by simp) _) (by simp) _
  exact below_call (B:=w.heap.size) (w:=w) (by go_grown) (by go_size) hb2
set_option maxHeartbeats 1000000 in
theorem mfill_any {A:Nat→Prop} {bl bm:Nat} {m:M} (a:Int) (w:World) (h:LogAt A w bl bm m) (hA:∀ k,A k→k<w.heap.size) :
  Calls Tryz.prog 16 #[.pointer (some ⟨bl,0,none⟩),.int .i64 a] w (LogR (errV (m.fil a).1) A bl bm (m.fil a).2 w):=by
 have H:=Lib.hid' h
 have HA:=Lib.hid' hA
 have HOK:=Zh (M.ok_fil h.ok a)
 clear h hA
 cases hin:inR a 1048575 with
 | false =>
  have Hf:=Zh (show m.fil a=(1,m) by simp [M.fil,hin])
  go_enter Tryz.func16, Tryz.ntmps16
  go_wp2_with (go_at_call 44;refine (min_any _ _ _).mono ?_;rintro en w' ⟨rfl,rfl⟩;rw [hin])
  refine (masks_any _ _ _).mono ?_
  rintro en w1 ⟨rfl,rfl⟩
  rw [show errV (if false=true then 0 else 1)=.iface 56 (.int .i64 1) from rfl]
  go_wp2
  go_ret
  rw [Hf.out]
  exact LogR.same H.out rfl (Below.refl _ _)
 | true =>
 have HIN:=Lib.hid' hin
 have ha:0≤a∧a<1048576:=by simp [inR] at hin;omega
 go_enter Tryz.func16, Tryz.ntmps16
 go_wp2_with (go_at_call 44;refine (min_any _ _ _).mono ?_;rintro en w' ⟨rfl,rfl⟩;rw [hin])
 refine (masks_any _ _ _).mono ?_
 rintro en w1 ⟨rfl,rfl⟩
 rw [show errV (if true=true then 0 else 1)=.nilIface from rfl]
 clear hin
 go_wp2_with fail
 refine (mat_any _ _ H.out).mono ?_
 rintro en w1 ⟨a1,cp1,rfl,ho,hb1⟩
 have HO:=Zh (show Bytes w1 _ _ from SlV.of_own ho)
 have HB1:=Lib.hid' hb1
 have HB2:=Zh (show Below w.heap.size w (w1.alloc (.cells #[.int .i64 (m.u.at a).k,.slice a1 (m.u.at a).d.length cp1] 40)) from below_call (B:=w.heap.size) (w:=w) hb1 hb1.size (by go_grown))
 have HB3:=Zh (show Below w1.heap.size w1 (w1.alloc (.cells #[.int .i64 (m.u.at a).k,.slice a1 (m.u.at a).d.length cp1] 40)) by go_grown)
 have Hlen:=Zh (U.at_len H.out.ok.u a)
 clear ho hb1
 by_cases h3:(m.u.at a).k=3
 ·have Hf:=Zh (show m.fil a=(9,m) by simp [M.fil,HIN.out,h3])
  have h3':((m.u.at a).k==3)=true:=by simpa using h3
  clear h3
  go_wp2
  go_ret
  rw [Hf.out]
  exact LogR.same H.out rfl HB2.out
 have h3':((m.u.at a).k==3)=false:=by simpa using h3
 by_cases h1:(m.u.at a).k=1
 ·have Hf:=Zh (show m.fil a=(8,m.put' a (m.u.at a)) by simp [M.fil,HIN.out,h1])
  have h1':((m.u.at a).k==1)=true:=by simpa using h1
  clear h3 h1
  go_wp2_with fail
  refine (set_any a _ (m.u.at a) _ (H.out.below (Nat.le_refl _) HB2.out) (fun k hk=>Nat.lt_of_lt_of_le (HA.out k hk) HB2.out.size) ⟨a1,cp1,rfl,SlV.below HO.out (Nat.le_refl _) HB3.out⟩ Hlen.out (by have:=HOK.out;rw [Hf.out] at this;exact this) ha).mono ?_
  rintro en w3 ⟨rfl,hl,hf⟩
  have HL:=Lib.hid' hl
  have HF:=Zh ((Fr.of_below (F:=fun k=>k=bl∨k=bm) HB2.out).trans hf (fun i hi=>.inl hi))
  clear hl hf
  go_wp2
  go_ret
  rw [Hf.out]
  exact ⟨rfl,HL.out,HF.out⟩
 have h1':((m.u.at a).k==1)=false:=by simpa using h1
 have Hf:=Zh (show m.fil a=(0,m.put' a ⟨2,[]⟩) by simp [M.fil,HIN.out,h3,h1])
 clear h3 h1
 go_wp2_with fail
 refine (set_any a _ ⟨2,[]⟩ _ (H.out.below (Nat.le_refl _) HB2.out) (fun k hk=>Nat.lt_of_lt_of_le (HA.out k hk) HB2.out.size) ⟨none,0,rfl,SlV.empty _ _ _ (Nat.zero_le _) (fun _=>rfl)⟩ (by simp) (by have:=HOK.out;rw [Hf.out] at this;exact this) ha).mono ?_
 rintro en w3 ⟨rfl,hl,hf⟩
 have HL:=Lib.hid' hl
 have HF:=Zh ((Fr.of_below (F:=fun k=>k=bl∨k=bm) HB2.out).trans hf (fun i hi=>.inl hi))
 clear hl hf
 go_wp2
 go_ret
 rw [Hf.out]
 exact ⟨rfl,HL.out,HF.out⟩
end Go.Proofs.YtimbeeiihbmofaaGreatDoor

namespace Go.Proofs.YtimbeeiihbmofaaGreatDoor
open Go.RowKit

set_option maxHeartbeats 4000000 in
theorem mput_any {A:Nat→Prop} {bl bm:Nat} {m:M} (a:Int) (x:C) (xa:Option Addr) (xc:Nat) (w:World) (h:LogAt A w bl bm m) (hA:∀ k,A k→k<w.heap.size) (hd:Bytes w (.slice xa x.d.length xc) x.d) :
  Calls Tryz.prog 28 #[.pointer (some ⟨bl,0,none⟩),.int .i64 a,.agg #[.int .i64 x.k,.slice xa x.d.length xc]] w (LogR (errV (m.put a x).1) A bl bm (m.put a x).2 w):=by
 have H:=Lib.hid' h
 have HA:=Lib.hid' hA
 have HD:=Lib.hid' hd
 have HOK:=Zh (M.ok_putx h.ok a x)
 clear h hA hd
 have HX0:=Zh (show BoxW w.heap.size [.int .i64 x.k,.slice xa x.d.length xc] 40 (w.alloc (.cells #[.int .i64 x.k,.slice xa x.d.length xc] 40)) from BoxW.start w [.int .i64 x.k,.slice xa x.d.length xc] _)
 have HG0:=Zh (show Below w.heap.size w (w.alloc (.cells #[.int .i64 x.k,.slice xa x.d.length xc] 40)) by go_grown)
 cases hin:inR a 1048575 with
 | false =>
  have Hf:=Zh (show m.put a x=(1,m) by simp [M.put,hin])
  go_enter Tryz.func28, Tryz.ntmps28
  go_wp2_with (go_at_call 44;refine (min_any _ _ _).mono ?_;rintro en w' ⟨rfl,rfl⟩;rw [hin])
  refine (masks_any _ _ _).mono ?_
  rintro en w1 ⟨rfl,rfl⟩
  rw [show errV (if false=true then 0 else 1)=.iface 56 (.int .i64 1) from rfl]
  go_wp2
  go_ret
  rw [Hf.out]
  exact LogR.same H.out rfl HG0.out
 | true =>
 have HIN:=Lib.hid' hin
 have ha:0≤a∧a<1048576:=by simp [inR] at hin;omega
 go_enter Tryz.func28, Tryz.ntmps28
 go_wp2_with (go_at_call 44;refine (min_any _ _ _).mono ?_;rintro en w' ⟨rfl,rfl⟩;rw [hin])
 refine (masks_any _ _ _).mono ?_
 rintro en w1 ⟨rfl,rfl⟩
 rw [show errV (if true=true then 0 else 1)=.nilIface from rfl]
 clear hin
 go_wp2_with fail
 generalize w.alloc (.cells #[.int .i64 x.k,.slice xa x.d.length xc] 40)=w1 at *
 refine (check_any _ x _ ⟨xa,xc,rfl,SlV.below HD.out (Nat.le_refl _) HG0.out⟩).mono ?_
 rintro en w2 ⟨rfl,hb2⟩
 have HX2:=Zh (HX0.out.below (Nat.le_refl _) hb2)
 have HG2:=Zh (HG0.out.trans (hb2.mono HG0.out.size))
 clear hb2 HX0 HG0
 by_cases hc:x.check=0
 rotate_left
 ·have Hf:=Zh (show m.put a x=(x.check,m) by simp [M.put,HIN.out,hc])
  have HC:=Lib.hid' hc
  clear hc
  rw [errV_pos HC.out]
  go_wp2
  go_ret
  rw [Hf.out,errV_pos HC.out]
  exact LogR.same H.out rfl HG2.out
 have HC:=Lib.hid' hc
 rw [hc,errV_0]
 clear hc
 go_wp2_with fail
 refine (mat_any _ _ (H.out.below (Nat.le_refl _) HG2.out)).mono ?_
 rintro en w3 ⟨a3,cp3,rfl,ho3,hb3⟩
 have HO3:=Zh (show Bytes w3 (.slice a3 (m.u.at a).d.length cp3) (m.u.at a).d from SlV.of_own ho3)
 have HX3:=Zh (HX2.out.below (Nat.le_refl _) hb3)
 have HG3:=Zh (HG2.out.trans (hb3.mono HG2.out.size))
 clear ho3 hb3 HX2 HG2
 have x0:=HX3.out.box.1 0 _ rfl;have x1:=HX3.out.box.1 1 _ rfl
 have xs:=HX3.out.lt
 by_cases hk:x.k≠1∧x.k≠2
 ·have Hf:=Zh (show m.put a x=(2,m) by simp [M.put,HIN.out,HC.out,hk])
  have k1:(x.k != 1)=true:=by simpa using hk.1
  have k2:(x.k != 2)=true:=by simpa using hk.2
  clear hk
  go_wp2
  go_ret
  rw [Hf.out]
  exact LogR.same H.out rfl (HG3.out.trans ((show Below w3.heap.size w3 _ by go_grown).mono HG3.out.size))
 have HK:=Lib.hid' hk
 have HB4:=Zh (show Below w3.heap.size w3 (w3.alloc (.cells #[.int .i64 (m.u.at a).k,.slice a3 (m.u.at a).d.length cp3] 40)) by go_grown)
 have HG4:=Zh (HG3.out.trans (HB4.out.mono HG3.out.size))
 obtain ⟨bx,hbx⟩:∃ b,(x.k != 1)=b:=⟨_,rfl⟩
 have hb2':bx=true→(x.k != 2)=false:=by
  intro hb;subst hb
  have h1:x.k≠1:=by simpa using hbx
  have h2:x.k=2:=by
   by_cases h2:x.k=2
   ·exact h2
   ·exact absurd ⟨h1,h2⟩ hk
  simp [h2]
 have HKB:bx=false∨(bx=true∧(x.k != 2)=false):=by cases bx;exact .inl rfl;exact .inr ⟨rfl,hb2' rfl⟩
 clear hk hb2'
 rcases HKB with rfl | ⟨rfl,hx2⟩
 all_goals
  by_cases h3:(m.u.at a).k=3
  ·have Hf:=Zh (show m.put a x=(9,m) by simp [M.put,HIN.out,HC.out,HK.out,h3])
   have h3':((m.u.at a).k==3)=true:=by simpa using h3
   clear h3
   go_wp2
   go_ret
   rw [Hf.out]
   exact LogR.same H.out rfl HG4.out
  have h3':((m.u.at a).k==3)=false:=by simpa using h3
  go_wp2_with fail
  have HX4:=Zh (HX3.out.below (Nat.le_refl _) HB4.out)
  have HT4:=Zh (BoxW.start w3 [.int .i64 (m.u.at a).k,.slice a3 (m.u.at a).d.length cp3] 40)
  rw [show w3.alloc (.cells [.int .i64 (m.u.at a).k,.slice a3 (m.u.at a).d.length cp3].toArray 40)=w3.alloc (.cells #[.int .i64 (m.u.at a).k,.slice a3 (m.u.at a).d.length cp3] 40) from rfl] at HT4
  clear x0 x1 xs
  generalize w3.alloc (.cells #[.int .i64 (m.u.at a).k,.slice a3 (m.u.at a).d.length cp3] 40)=w4 at *
  refine (may_any _ _ (m.u.at a) x _ ⟨a3,cp3,rfl,SlV.below HO3.out (Nat.le_refl _) HB4.out⟩ ⟨xa,xc,rfl,SlV.below HD.out (Nat.le_refl _) HG4.out⟩).mono ?_
  rintro en w5 ⟨rfl,hb5⟩
  have HX5:=Zh (HX4.out.below (Nat.le_refl _) hb5)
  have HG5:=Zh (HG4.out.trans (hb5.mono HG4.out.size))
  clear hb5 HX4 HT4
  have x0:=HX5.out.box.1 0 _ rfl;have x1:=HX5.out.box.1 1 _ rfl
  cases hm:C.may (m.u.at a) x
  ·have Hf:=Zh (show m.put a x=(8,m) by simp [M.put,HIN.out,HC.out,HK.out,h3,hm])
   clear h3 hm
   go_wp2
   go_ret
   rw [Hf.out]
   exact LogR.same H.out rfl HG5.out
  ·have Hf:=Zh (show m.put a x=(0,m.put' a x) by simp [M.put,HIN.out,HC.out,HK.out,h3,hm])
   clear h3 hm
   go_wp2_with fail
   refine (set_any a _ x _ (H.out.below (Nat.le_refl _) HG5.out) (fun k hk=>Nat.lt_of_lt_of_le (HA.out k hk) HG5.out.size) ⟨xa,xc,rfl,SlV.below HD.out (Nat.le_refl _) HG5.out⟩ (check_zero HC.out HK.out).2 (by have:=HOK.out;rw [Hf.out] at this;exact this) ha).mono ?_
   rintro en w6 ⟨rfl,hl,hf⟩
   have HL:=Lib.hid' hl
   have HF:=Zh ((Fr.of_below (F:=fun k=>k=bl∨k=bm) HG5.out).trans hf (fun i hi=>.inl hi))
   clear hl hf
   go_wp2
   go_ret
   rw [Hf.out]
   exact ⟨rfl,HL.out,HF.out⟩
end Go.Proofs.YtimbeeiihbmofaaGreatDoor

namespace Go.Proofs.YtimbeeiihbmofaaGreatDoor
open Go.RowKit

theorem mtrimF_any (b1 b2:Nat) (x l:Int) (v:Value) (w:World) (hv:IsCell v) (h1:w.cell? ⟨b1,0,none⟩=some (.pointer (some ⟨b2,0,none⟩))) (h2:w.cell? ⟨b2,1,none⟩=some (.int .i64 l)) :
  Calls Tryz.prog 92 #[.int .i64 x,v,.pointer (some ⟨b1,0,none⟩)] w fun en w'=>en=.returned (.bool (decide (x<l)))∧Below w.heap.size w w':=by
 obtain ⟨k,a,n,c,rfl⟩:=hv
 have l1:=World.block_lt_of_cell? w _ h1
 have l2:=World.block_lt_of_cell? w _ h2
 simp only at l1 l2
 go_enter Tryz.func92, Tryz.ntmps92
 go_wp2
 go_ret
 exact ⟨rfl,by go_grown⟩
theorem mcutF_any (b1:Nat) (x f:Int) (v:Value) (w:World) (hv:IsCell v) (h1:w.cell? ⟨b1,0,none⟩=some (.int .i64 f)) :
  Calls Tryz.prog 46 #[.int .i64 x,v,.pointer (some ⟨b1,0,none⟩)] w fun en w'=>en=.returned (.bool (decide (f≤x)))∧Below w.heap.size w w':=by
 obtain ⟨k,a,n,c,rfl⟩:=hv
 have l1:=World.block_lt_of_cell? w _ h1
 simp only at l1
 go_enter Tryz.func46, Tryz.ntmps46
 go_wp2
 go_ret
 exact ⟨rfl,by go_grown⟩
theorem mcf_trim (args:Array Value) (w:World):(callFunc 92 args).run Tryz.prog w=.ok (.enter 92 args) w:=by kernel_rfl
theorem mcf_cut (args:Array Value) (w:World):(callFunc 46 args).run Tryz.prog w=.ok (.enter 46 args) w:=by kernel_rfl

/-- the cells that are left -/
theorem CellsAt.filt {A F:Nat→Prop} {w w3:World} {bm:Nat} {M:List (Int×C)} {L:List (Int×Value)} {p:Int→Bool} (hL:F2 (EntIs A w) L M) (hm:MapAt w3 bm (L.filter (fun q=>!p q.1))) (hf:Fr F w w3) (hF:∀ k,F k→A k):CellsAt A w3 bm (M.filter (fun q=>!p q.1)) :=
 ⟨_,hm,(hL.filter (f:=fun q=>!p q.1) (g:=fun q=>!p q.1) (fun q r hqr=>by rw [hqr.1])).mono fun _ _ _ _ h=>h.fr hf hF⟩

set_option maxHeartbeats 1000000 in
theorem mtrim1_any {A:Nat→Prop} {bl bm:Nat} {m:M} (b:Int) (w:World) (h:LogAt A w bl bm m) (hA:∀ k,A k→k<w.heap.size) (hok:(m.trim' b).ok) :
  Calls Tryz.prog 42 #[.pointer (some ⟨bl,0,none⟩),.int .i64 b] w (LogR (.tuple #[]) A bl bm (m.trim' b) w):=by
 have H:=Lib.hid' h
 have HOK:=Lib.hid' hok
 have HNE:=Lib.hid' h.ne
 have hlt:=h.lt.1
 have hltm:=h.lt.2
 obtain ⟨c0,c1,c2⟩:=h.cell
 have f1:=h.free 1
 have f2:=h.free 2
 clear h hok hA
 go_enter Tryz.func42, Tryz.ntmps42
 go_wp2_with fail
 have k1:(w.alloc (.cells #[.pointer (some ⟨bl,0,none⟩)] 36)).cell? ⟨w.heap.size,0,none⟩=some (.pointer (some ⟨bl,0,none⟩)):=by simp [go_sem]
 have HG:=Zh (show Below w.heap.size w (w.alloc (.cells #[.pointer (some ⟨bl,0,none⟩)] 36)) by go_grown)
 have l0:(w.alloc (.cells #[.pointer (some ⟨bl,0,none⟩)] 36)).heap.size=w.heap.size+1:=by simp
 generalize w.alloc (.cells #[.pointer (some ⟨bl,0,none⟩)] 36)=w1 at *
 have HW1:=Zh (H.out.below (Nat.le_refl _) HG.out)
 have k2:=HW1.out.cell.2.1
 have k3:=HW1.out.cell.2.2
 have g1:=HW1.out.free 1
 have g2:=HW1.out.free 2
 clear c0 c1 c2 f1 f2
 go_region
 have b1:=Zh (heap_setCell_same w1 bl 1 _ _ (.int .i64 (max m.u.l b)) HW1.out.blk)
 have b2:=Zh (show ((w1.setCell ⟨bl,1,none⟩ (.int .i64 (max m.u.l b))).setCell ⟨bl,2,none⟩ (.int .i64 (max m.t b))).drew.heap[bl]?=some (.cells #[.map (some bm),.int .i64 (max m.u.l b),.int .i64 (max m.t b)] 69 (0,0)) from heap_setCell_same _ bl 2 _ _ (.int .i64 (max m.t b)) b1.out)
 have hF:=Zh (show Fr (fun k=>k=bl) w1 ((w1.setCell ⟨bl,1,none⟩ (.int .i64 (max m.u.l b))).setCell ⟨bl,2,none⟩ (.int .i64 (max m.t b))).drew from ((fr_set w1 bl 1 _).trans (fr_set _ bl 2 _) (fun k hk=>.inl hk)).trans_below (Below.drew (Below.refl _ _)))
 obtain ⟨L,hm,hL⟩:=HW1.out.map
 have HL:=Lib.hid' hL
 have hne2:¬bm=bl:=fun h=>HNE.out h.symm
 have q6:=Zh (show MapAt ((w1.setCell ⟨bl,1,none⟩ (.int .i64 (max m.u.l b))).setCell ⟨bl,2,none⟩ (.int .i64 (max m.t b))).drew bm L from hm.block (hF.out.block bm HW1.out.lt.2 hne2))
 have q1:((w1.setCell ⟨bl,1,none⟩ (.int .i64 (max m.u.l b))).setCell ⟨bl,2,none⟩ (.int .i64 (max m.t b))).drew.cell? ⟨w.heap.size,0,none⟩=some (.pointer (some ⟨bl,0,none⟩)):=hF.out.cell k1 (by simp;omega)
 have q2:((w1.setCell ⟨bl,1,none⟩ (.int .i64 (max m.u.l b))).setCell ⟨bl,2,none⟩ (.int .i64 (max m.t b))).drew.cell? ⟨bl,1,none⟩=some (.int .i64 (max m.u.l b)):=by rw [cell_of_row _ bl 1 _ _ _ b2.out];rfl
 have q3:((w1.setCell ⟨bl,1,none⟩ (.int .i64 (max m.u.l b))).setCell ⟨bl,2,none⟩ (.int .i64 (max m.t b))).drew.cell? ⟨bl,0,none⟩=some (.map (some bm)):=by rw [cell_of_row _ bl 0 _ _ _ b2.out];rfl
 have q5:=Zh ((Fr.of_below (F:=fun k=>k=bl∨k=bm) HG.out).trans hF.out (fun k hk=>.inl (.inl hk)))
 clear k1 k2 k3 g1 g2 hm hL b1 l0
 generalize ((w1.setCell ⟨bl,1,none⟩ (.int .i64 (max m.u.l b))).setCell ⟨bl,2,none⟩ (.int .i64 (max m.t b))).drew=w2 at *
 have lt2:=World.block_lt_of_cell? w2 _ q1
 simp only at lt2
 go_wp2_with fail
 refine (deleteFunc_any 92 #[.pointer (some ⟨w.heap.size,0,none⟩)] (fun x=>decide (x<max m.u.l b)) bm L _ q6.out HL.out.cells mcf_trim (Lib.hid' ?_)).mono ?_
 ·intro w3 x v hf3 hv
  exact mtrimF_any _ _ _ _ _ _ hv (hf3.cell q1 (by simp;omega)) (hf3.cell q2 HNE.out)
 rintro en w3 ⟨rfl,hm3,hf3⟩
 have Hm3:=Lib.hid' hm3
 have Hf3:=Lib.hid' hf3
 clear hm3 hf3
 go_wp2
 go_end0
 have hfr:=q5.out.trans Hf3.out (fun k hk=>Or.inl (Or.inr hk))
 refine ⟨rfl,⟨(Hf3.out.block _ (Nat.lt_trans hlt lt2) HNE.out).trans b2.out,?_,HOK.out,H.out.abl,H.out.abm⟩,hfr⟩
 exact CellsAt.filt (p:=fun x=>decide (x<max m.u.l b)) HL.out Hm3.out ((hF.out.mono (F':=fun k=>k=bl∨k=bm) (fun k hk=>.inl hk)).trans Hf3.out (fun k hk=>.inl (.inr hk))) (fun k hk=>by rcases hk with rfl | rfl;exact H.out.abl;exact H.out.abm)
end Go.Proofs.YtimbeeiihbmofaaGreatDoor

namespace Go.Proofs.YtimbeeiihbmofaaGreatDoor
open Go.RowKit

theorem mTrim_any {A:Nat→Prop} {bl bm:Nat} {m:M} (b:Int) (w:World) (h:LogAt A w bl bm m) (hA:∀ k,A k→k<w.heap.size) :
  Calls Tryz.prog 30 #[.pointer (some ⟨bl,0,none⟩),.int .i64 b] w (LogR (errV (m.trim b).1) A bl bm (m.trim b).2 w):=by
 have H:=Lib.hid' h
 have HA:=Lib.hid' hA
 have HOK:=Zh (M.ok_trim h.ok b)
 clear h hA
 cases hin:inR b 1048576 with
 | false =>
  have Hf:=Zh (show m.trim b=(1,m) by simp [M.trim,hin])
  go_enter Tryz.func30, Tryz.ntmps30
  go_wp2_with (go_at_call 44;refine (min_any _ _ _).mono ?_;rintro en w' ⟨rfl,rfl⟩;rw [hin])
  refine (masks_any _ _ _).mono ?_
  rintro en w1 ⟨rfl,rfl⟩
  rw [show errV (if false=true then 0 else 1)=.iface 56 (.int .i64 1) from rfl]
  go_wp2
  go_ret
  rw [Hf.out]
  exact LogR.same H.out rfl (Below.refl _ _)
 | true =>
  have Hf:=Zh (show m.trim b=(0,m.trim' b) by simp [M.trim,hin])
  go_enter Tryz.func30, Tryz.ntmps30
  go_wp2_with (go_at_call 44;refine (min_any _ _ _).mono ?_;rintro en w' ⟨rfl,rfl⟩;rw [hin])
  refine (masks_any _ _ _).mono ?_
  rintro en w1 ⟨rfl,rfl⟩
  rw [show errV (if true=true then 0 else 1)=.nilIface from rfl]
  go_wp2_with fail
  refine (mtrim1_any b _ H.out HA.out (by have:=HOK.out;rw [Hf.out] at this;exact this)).mono ?_
  rintro en w2 ⟨rfl,hl,hf⟩
  have HL:=Lib.hid' hl
  have HF:=Lib.hid' hf
  clear hl hf
  go_wp2
  go_ret
  rw [Hf.out]
  exact ⟨rfl,HL.out,HF.out⟩

set_option maxHeartbeats 1000000 in
theorem mCut_any {A:Nat→Prop} {bl bm:Nat} {m:M} (f:Int) (w:World) (h:LogAt A w bl bm m) (hA:∀ k,A k→k<w.heap.size) :
  Calls Tryz.prog 13 #[.pointer (some ⟨bl,0,none⟩),.int .i64 f] w (LogR (errV (m.cut f).1) A bl bm (m.cut f).2 w):=by
 have H:=Lib.hid' h
 have HOK:=Zh (M.ok_cut h.ok f)
 have HNE:=Lib.hid' h.ne
 have hlt:=h.lt.1
 have hltm:=h.lt.2
 obtain ⟨c0,c1,c2⟩:=h.cell
 clear h hA
 cases hin:inR f 1048576 with
 | false =>
  have Hf:=Zh (show m.cut f=(1,m) by simp [M.cut,hin])
  go_enter Tryz.func13, Tryz.ntmps13
  go_wp2_with (go_at_call 44;refine (min_any _ _ _).mono ?_;rintro en w' ⟨rfl,rfl⟩;rw [hin])
  refine (masks_any _ _ _).mono ?_
  rintro en w1 ⟨rfl,rfl⟩
  rw [show errV (if false=true then 0 else 1)=.iface 56 (.int .i64 1) from rfl]
  go_wp2
  go_ret
  rw [Hf.out]
  exact LogR.same H.out rfl (by go_grown)
 | true =>
 have HIN:=Lib.hid' hin
 by_cases hl:f<m.u.l
 ·have Hf:=Zh (show m.cut f=(9,m) by simp [M.cut,hin,hl])
  go_enter Tryz.func13, Tryz.ntmps13
  go_wp2_with (go_at_call 44;refine (min_any _ _ _).mono ?_;rintro en w' ⟨rfl,rfl⟩;rw [hin])
  refine (masks_any _ _ _).mono ?_
  rintro en w1 ⟨rfl,rfl⟩
  rw [show errV (if true=true then 0 else 1)=.nilIface from rfl]
  go_wp2_with fail
  go_region_held3 (fun w'=>w'.cell? ⟨w.heap.size,0,none⟩=some (.int .i64 f)∧w'.cell? ⟨bl,1,none⟩=some (.int .i64 m.u.l)) (go_keep) (fail)
  go_wp2
  go_ret
  rw [Hf.out]
  exact LogR.same H.out rfl (by go_grown)
 have Hf:=Zh (show m.cut f=(0,⟨{ m.u with cells:=m.u.cells.filter (fun p=>!decide (f≤p.1))},f⟩) by simp [M.cut,hin,hl])
 go_enter Tryz.func13, Tryz.ntmps13
 go_wp2_with (go_at_call 44;refine (min_any _ _ _).mono ?_;rintro en w' ⟨rfl,rfl⟩;rw [hin])
 refine (masks_any _ _ _).mono ?_
 rintro en w1 ⟨rfl,rfl⟩
 rw [show errV (if true=true then 0 else 1)=.nilIface from rfl]
 go_wp2_with fail
 go_region_held3 (fun w'=>w'.cell? ⟨w.heap.size,0,none⟩=some (.int .i64 f)∧w'.cell? ⟨bl,1,none⟩=some (.int .i64 m.u.l)) (go_keep) (fail)
 have k1:(w.alloc (.cells #[.int .i64 f] 3)).drew.cell? ⟨w.heap.size,0,none⟩=some (.int .i64 f):=by simp [go_sem]
 have k4:=Zh (show Below w.heap.size w (w.alloc (.cells #[.int .i64 f] 3)).drew by go_grown)
 have k5:w.heap.size<(w.alloc (.cells #[.int .i64 f] 3)).drew.heap.size:=by simp
 clear c0 c1 c2
 generalize (w.alloc (.cells #[.int .i64 f] 3)).drew=w1 at *
 have HW1:=Zh (H.out.below (Nat.le_refl _) k4.out)
 have k2:=HW1.out.cell.1
 obtain ⟨L,hm,hL⟩:=HW1.out.map
 have HM1:=Lib.hid' hm
 have HL:=Lib.hid' hL
 clear hm hL
 go_wp2_with fail
 refine (deleteFunc_any 46 #[.pointer (some ⟨w.heap.size,0,none⟩)] (fun x=>decide (f≤x)) bm L _ HM1.out HL.out.cells mcf_cut (Lib.hid' ?_)).mono ?_
 ·intro w3 x v hf3 hv
  exact mcutF_any _ _ _ _ _ hv (hf3.cell k1 (by simp;omega))
 rintro en w3 ⟨rfl,hm3,hf3⟩
 have Hm3:=Lib.hid' hm3
 have Hf3:=Lib.hid' hf3
 have q1:w3.cell? ⟨w.heap.size,0,none⟩=some (.int .i64 f):=hf3.cell k1 (by simp;omega)
 have q2:w3.cell? ⟨bl,2,none⟩=some (.int .i64 m.t):=hf3.cell HW1.out.cell.2.2 HNE.out
 have q3:w3.frozen? ⟨bl,2,none⟩=false:=by
  rw [←HW1.out.free 2];simp only [World.frozen?,hf3.block bl HW1.out.lt.1 HNE.out]
 have HY:=Zh (show w3.heap[bl]?=some (.cells #[.map (some bm),.int .i64 m.u.l,.int .i64 m.t] 69 (0,0)) from (hf3.block bl HW1.out.lt.1 HNE.out).trans HW1.out.blk)
 clear hm3 hf3 k1 k2
 go_wp2
 go_ret
 rw [Hf.out]
 have HF:=Zh (show Fr (fun k=>k=bl∨k=bm) w1 (w3.setCell ⟨bl,2,none⟩ (.int .i64 f)) from (Hf3.out.mono (fun k hk=>Or.inr hk)).trans (fr_set w3 bl 2 _) (fun k hk=>Or.inl (Or.inl hk)))
 refine ⟨rfl,⟨heap_setCell_same w3 bl 2 _ _ _ HY.out,?_,by have:=HOK.out;rw [Hf.out] at this;exact this,H.out.abl,H.out.abm⟩,(Fr.of_below k4.out).trans HF.out (fun k hk=>.inl hk)⟩
 exact CellsAt.filt (p:=fun x=>decide (f≤x)) HL.out (Hm3.out.block (heap_setCell_other _ _ _ _ (fun h=>HNE.out h.symm))) HF.out (fun k hk=>by rcases hk with rfl | rfl;exact H.out.abl;exact H.out.abm)

end Go.Proofs.YtimbeeiihbmofaaGreatDoor

namespace Go.Proofs.YtimbeeiihbmofaaGreatDoor

def sortZ (l:List Int):List Int:=l.mergeSort (fun x y=>decide (x≤y))
theorem sortZ_perm (l:List Int):(sortZ l).Perm l:=List.mergeSort_perm l _
theorem sortZ_sorted (l:List Int):(sortZ l).Pairwise (·≤·):=by
 have:=List.pairwise_mergeSort (le:=fun x y:Int=>decide (x≤y)) (fun a b c h1 h2=>by simp at *;omega) (fun a b=>by simp;omega) l
 exact this.imp (fun h=>by simpa using h)
theorem sortZ_eq {l m:List Int} (h:l.Perm m):sortZ l=sortZ m :=
 List.Perm.eq_of_pairwise (le:=fun x y:Int=>x≤y) (fun a b _ _ h1 h2=>by omega) (sortZ_sorted l) (sortZ_sorted m) (((sortZ_perm l).trans h).trans (sortZ_perm m).symm)

def M.diffAt (a b:M) (p:Int):Bool:=(a.t != b.t&&p==min a.t b.t)||!(decide (a.u.at p=b.u.at p))
def M.places (a b:M):List Int:=a.u.cells.map (·.1)++b.u.cells.map (·.1)++[min a.u.l b.u.l]++(if a.t≠b.t then [min a.t b.t] else [])
def findP (f:Int→Bool) (l:List Int):Int×Bool:=match l.find? f with | some p=>(p,true) | none=>(0,false)
def M.differ (a b:M):Int×Bool:=findP (M.diffAt a b) (sortZ (M.places a b))

end Go.Proofs.YtimbeeiihbmofaaGreatDoor

namespace Go.Proofs.YtimbeeiihbmofaaGreatDoor
open Go.RowKit

theorem HLWm {A:Nat→Prop} {w:World} {bl bm:Nat} {m:M} (h:LogAt A w bl bm m) {L:List (Int×Value)} (hr:F2 (EntIs A w) L m.u.cells):∀ p∈L,(Lit.int .i64 p.1).wf=true:=by
 intro p hp
 obtain ⟨q,hq,hr⟩:=F2.mem_left hr hp
 have h1:=h.ok.u.addr q hq
 have h2:=h.ok.u.l0
 rw [hr.1]
 show (decide _&&decide _)=true
 rw [Bool.and_eq_true]
 exact ⟨decide_eq_true (by show (-9223372036854775808:Int)≤_;omega),decide_eq_true (by show _≤(9223372036854775807:Int);omega)⟩

end Go.Proofs.YtimbeeiihbmofaaGreatDoor
