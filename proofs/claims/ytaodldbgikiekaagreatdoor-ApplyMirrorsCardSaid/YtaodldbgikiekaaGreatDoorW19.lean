/- Proved here: a part of the proof (19 of 35). -/
import Derived.Test.YtaodldbgikiekaaGreatDoorW9
import Derived.Test.YtaodldbgikiekaaGreatDoorW2
import Derived.Test.YtaodldbgikiekaaGreatDoorKeysS
set_option linter.unusedSimpArgs false
set_option linter.unusedVariables false
set_option maxRecDepth 20000
namespace Go.Proofs
open Go.RowKit Go.Maps Go.Sort Go.Shelf
/-- slices.Sort's two contracts at this dump, at the fence that asks nothing. -/
theorem Tryz.sortsS (m:Nat):AnyZ.SortsIn Tryz.prog Tryz.sortedS_ren Fence.wide m :=
 ⟨fun blk off cap ss W hH hblk hsz=>callsIn_wide.2 (AnyM.slices_Sort_string Tryz.sortS blk off cap ss W hH hblk hsz),
  fun p cap W=>callsIn_wide.2 (AnyM.slices_Sort_string_none Tryz.sortS p cap W)⟩
end Go.Proofs

namespace Go.Proofs.YtaodldbgikiekaaGreatDoor
open Go.RowKit Go.Maps Go.Sort Go.Shelf
namespace DK
def trivS (_:Value):Option (DataW Unit×List MemPlace):=some (.lit (.bool true),[])
theorem own_of_mapS {w:World} {b:Nat} {L:List (ByteArray×Value)} (h:MS.MapAt w b L) (hw:∀ p∈L,p.1.size≤maxLen) (hlen:L.length≤maxLen) :
  ∃ D0:DataW Unit,w.ownsMap Tryz.prog 9 trivS b L.length D0∧(strKeys D0).Perm (L.map (fun p=>p.1.data.toList)):=by
 obtain ⟨es,clock,hb,hs⟩:=h
 have hkeys:es.toList.map (·.key)=L.map (fun p=>Value.string p.1):=by
  have:=congrArg (List.map Prod.fst) hs.eq
  simpa [List.map_map,MS.kv,MS.vk,Function.comp_def] using this
 have hsz:es.size=L.length:=by have:=congrArg List.length hs.eq;simpa using this
 have hin:∀ x∈es.toList,∃ p∈L,x.key=.string p.1:=by
  intro x hx
  have:x.key∈es.toList.map (·.key):=List.mem_map_of_mem hx
  rw [hkeys] at this
  obtain ⟨p,hp,he⟩:=List.mem_map.1 this
  exact ⟨p,hp,he.symm⟩
 have hrd:∀ x∈es.toList,∃ a,x.key=.string a∧Go.WideElems.rd Tryz.prog 9 trivS x=some (.string a.data.toList,.lit (.bool true)):=by
  intro x hx
  obtain ⟨p,hp,he⟩:=hin x hx
  refine ⟨p.1,he,?_⟩
  unfold Go.WideElems.rd
  rw [he,Go.WideMaps.keyOf_string_mk Tryz.underlying9 (hw p hp)]
  rfl
 have hst:Go.MapKept.Stamped es clock:=by
  refine ⟨hs.old,?_,?_⟩
  ·exact List.pairwise_map.2 (hs.rise.imp (fun h=>Nat.ne_of_lt h))
  ·rw [hkeys]
   refine List.pairwise_map.2 ((List.pairwise_map.1 hs.nodup).imp (fun h e=>h (by simpa using e)))
 refine ⟨.map ((es.toList.map (Go.WideElems.rg Tryz.prog 9 trivS)).foldr DataW.insert []),⟨es,clock,hb,⟨by omega,hst,fun x hx=>?_⟩,by omega,rfl⟩,?_⟩
 ·obtain ⟨a,_,h⟩:=hrd x hx;exact ⟨_,h⟩
 ·show (List.map (fun p:Lit×DataW Unit=>Go.strOf p.1) _).Perm _
  refine ((WideShapes.sorted_perm _).map _).trans ?_
  rw [List.map_map]
  have:es.toList.map ((fun p:Lit×DataW Unit=>Go.strOf p.1)∘Go.WideElems.rg Tryz.prog 9 trivS)=L.map (fun p=>p.1.data.toList):=by
   have h1:es.toList.map ((fun p:Lit×DataW Unit=>Go.strOf p.1)∘Go.WideElems.rg Tryz.prog 9 trivS)=(es.toList.map (·.key)).map (fun v=>match v with | .string a=>a.data.toList | _=>[]):=by
    rw [List.map_map]
    refine List.map_congr_left fun x hx=>?_
    obtain ⟨a,ha,h⟩:=hrd x hx
    simp [Go.WideElems.rg,h,ha,Go.strOf]
   rw [h1,hkeys,List.map_map];simp [Function.comp_def]
  rw [this]

def keyF (W:World):Value:=.func (.func 241) #[] #[.pointer (some ⟨W.heap.size,0,none⟩)]
def keyW (W:World) (mb:Option Nat):World:=W.alloc (.cells #[.map mb] 190)
theorem keyS_any (mb:Option Nat) (W:World):Calls Tryz.prog 205 #[.map mb] W fun e w'=>e=.returned (keyF W)∧w'=keyW W mb :=
 (callsIn_wide (n:=5)).1 (AnyZ.keys_in Tryz.keysS Fence.wide 5 trivial rfl mb W)
def strVs (l:List Nm):List Value:=l.map Value.string
theorem ba_eq (a:ByteArray):(⟨a.data.toList.toArray⟩:ByteArray)=a:=by cases a;simp
theorem sorted_names {L:List (ByteArray×Value)} {M:Fl} (hk:L.map (·.1)=M.map (·.1)) (hn:(L.map (·.1)).Nodup) {ss:List (List UInt8)} (hp:ss.Perm (L.map (fun p=>p.1.data.toList))) :
  (ss.mergeSort (fun x y=>decide (x≤y))).map encStr=strVs (namesOf M):=by
 have hnd:ss.Nodup:=by
  rw [hp.nodup_iff,show L.map (fun p=>p.1.data.toList)=(L.map (·.1)).map (fun a:ByteArray=>a.data.toList) by rw [List.map_map];rfl]
  rw [List.nodup_iff_pairwise_ne,List.pairwise_map]
  rw [List.nodup_iff_pairwise_ne] at hn
  refine hn.imp (fun hab e=>hab ?_)
  rename_i a b
  cases a;cases b
  exact congrArg ByteArray.mk (Array.toList_inj.1 e)
 have hs1:(ss.mergeSort (fun x y=>decide (x≤y))).Pairwise (fun x y=>decide (x≤y)=true):=List.pairwise_mergeSort (fun a b c h1 h2=>by simp only [decide_eq_true_eq] at *;exact List.le_trans h1 h2) (fun a b=>by simp only [Bool.or_eq_true,decide_eq_true_eq];exact List.le_total a b) _
 have hperm:=List.mergeSort_perm ss (fun x y=>decide (x≤y))
 have hnd2:(ss.mergeSort (fun x y=>decide (x≤y))).Nodup:=hperm.nodup_iff.2 hnd
 have key:(ss.mergeSort (fun x y=>decide (x≤y))).map (fun x=>(⟨x.toArray⟩:ByteArray))=namesOf M:=by
  refine namesOf_is (by rw [←hk];exact hn) ?_ ?_
  ·rw [←hk]
   refine ((hperm.trans hp).map _).trans ?_
   rw [List.map_map]
   have:L.map ((fun x:List UInt8=>(⟨x.toArray⟩:ByteArray))∘fun p=>p.1.data.toList)=L.map (·.1):=List.map_congr_left fun p _=>ba_eq p.1
   rw [this]
  ·rw [List.pairwise_map]
   rw [List.nodup_iff_pairwise_ne] at hnd2
   refine (hs1.and hnd2).imp (fun {x y} ⟨h1,h2⟩=>?_)
   unfold less
   rw [ba_toList,ba_toList]
   simp only [List.toList_toArray]
   rw [Go.Proofs.bytesLess_eq]
   simp only [decide_eq_true_eq] at h1 ⊢
   exact Classical.byContradiction fun h=>h2 (List.le_antisymm h1 (List.not_lt.1 h))
 rw [←key]
 unfold strVs
 rw [List.map_map]
 rfl
/-- the names that List and Sure go through: a row of the call's own -/
theorem sortS_any (b:Nat) (L:List (ByteArray×Value)) (M:Fl) (w:World) (h:MS.MapAt w b L) (hk:L.map (·.1)=M.map (·.1)) (hw:∀ p∈L,p.1.size≤maxLen) (hlen:L.length≤1073741824) :
  Calls Tryz.prog 204 #[keyF w] (keyW w (some b)) fun e w'=>∃ v:Value,e=.returned v∧w'.ownsRow (w.heap.size+1) 9 1 v L.length (strVs (namesOf M))∧(v=.slice none 0 0↔L=[])∧Below (w.heap.size+1) (keyW w (some b)) w':=by
 have hnd:=h.nodup
 obtain ⟨D0,hown,hperm⟩:=own_of_mapS h hw (by unfold maxLen;omega)
 have hlenD:Maps.size D0=L.length:=by
  have:=hperm.length_eq
  obtain ⟨es,clock,hb,Ft,hs,rfl⟩:=hown
  simpa [strKeys,Maps.size] using this
 have hbl:=hown.lt
 have hseq:SeqGives Fence.wide 2 Tryz.prog 241 #[.pointer (some ⟨w.heap.size,0,none⟩)] encStr (fun ss=>ss.Perm (strKeys D0)) (Maps.size D0) (w.alloc (.cells #[.map (some b)] 190)) :=
  AnyZ.keys_gives (ρ:=Tryz.keysS_ren) { Tryz.keysS with } Fence.wide _ trivial rfl (by omega) w.heap.size b L.length D0 _ (by simp) (by simp) (by
   obtain ⟨es,clock,hb,Ft,hs,hD⟩:=hown
   exact ⟨es,clock,(Below.heap_alloc _ _ b hbl).trans hb,Ft,hs,hD⟩)
 have cS:=AnyZ.sorted_in Tryz.sortedS Fence.wide 5 trivial trivial trivial trivial rfl (by omega) (Tryz.sortsS _) (enters_of Tryz.func240 (by kernel_rfl) rfl) 241 #[.pointer (some ⟨w.heap.size,0,none⟩)] trivial (enters_of Tryz.func241 (by kernel_rfl) rfl) _ _ (by rw [hlenD];unfold maxLen;omega) (by rw [hlenD];omega) _ hseq
 change CallsIn _ _ Tryz.prog 204 _ _ _ at cS
 refine ((callsIn_wide (n:=5)).1 cS).mono ?_
 rintro e w' ⟨v,ss,rfl,hS,hrow,hnil,hb⟩
 have hp:=hS.trans hperm
 have hl:ss.length=L.length:=by simpa using hp.length_eq
 have hz:(w.alloc (.cells #[.map (some b)] 190)).heap.size=w.heap.size+1:=by simp
 refine ⟨v,rfl,?_,?_,?_⟩
 ·have:=hrow
  rw [sorted_names hk hnd hp,hl] at this
  first | exact this | (rw [hz] at this;exact this)
 ·rw [hnil]
  constructor
  ·rintro rfl;exact List.length_eq_zero_iff.1 hl.symm
  ·rintro rfl;exact List.length_eq_zero_iff.1 hl
 ·have:=hb;rw [hz] at this;exact this
end DK
end Go.Proofs.YtaodldbgikiekaaGreatDoor
