/- Proved here: a part of the proof (32 of 37). -/
import Derived.Test.YtimbeeiihbmofaaGreatDoorW11
import Derived.Test.YtimbeeiihbmofaaGreatDoorW31
import Derived.Test.YtimbeeiihbmofaaGreatDoorW22
import Derived.Deep.DeepCutAuto
import Derived.Deep.CutBlock
set_option linter.unusedSimpArgs false
set_option linter.unusedVariables false
set_option maxRecDepth 100000
namespace Go.Proofs.YtimbeeiihbmofaaGreatDoor
open Go.RowKit

theorem MapAt.below {w w':World} {b B:Nat} {L:List (Int×Value)} (h:MapAt w b L) (hB:w.heap.size≤B) (hb:Below B w w'):MapAt w' b L:=h.block (hb.block b (Nat.lt_of_lt_of_le h.lt hB))
theorem slv_1 {w:World} {b e:Nat} {x:Value} (h:w.heap[b]?=some (.cells #[x] e (0,0))):SlV w (.slice (some ⟨b,0,none⟩) 1 1) 1 [x]:=by
 refine ⟨_,_,rfl,Nat.le_refl _,by decide,by simp,fun j u hu=>⟨_,rfl,?_⟩⟩
 have e1:(Addr.add ⟨b,0,none⟩ j)=⟨b,j,none⟩:=by unfold Addr.add;split<;>simp_all
 rw [e1,cell_of_row _ _ _ _ _ _ h];simpa using hu
theorem slv_3 {w:World} {b e:Nat} {x y z:Value} (h:w.heap[b]?=some (.cells #[x,y,z] e (0,0))):SlV w (.slice (some ⟨b,0,none⟩) 3 3) 3 [x,y,z]:=by
 refine ⟨_,_,rfl,Nat.le_refl _,by decide,by simp,fun j u hu=>⟨_,rfl,?_⟩⟩
 have e1:(Addr.add ⟨b,0,none⟩ j)=⟨b,j,none⟩:=by unfold Addr.add;split<;>simp_all
 rw [e1,cell_of_row _ _ _ _ _ _ h];simpa using hu
theorem findP_hit {f:Int→Bool}:∀ {l:List Int} {k:Nat} (hk:k<l.length),(∀ y∈l.take k,f y=false)→f l[k]=true→findP f l=(l[k],true):=by
 intro l k hk h1 h2
 have:l.find? f=some l[k]:=by
  rw [List.find?_eq_some_iff_append]
  refine ⟨h2,l.take k,l.drop (k+1),?_,fun a ha=>by rw [h1 a ha];rfl⟩
  rw [←List.drop_eq_getElem_cons hk,List.take_append_drop]
 unfold findP;rw [this]
theorem findP_no {f:Int→Bool} {l:List Int} (h:∀ y∈l,f y=false):findP f l=(0,false):=by
 have:l.find? f=none:=by rw [List.find?_eq_none];intro x hx;rw [h x hx];decide
 unfold findP;rw [this]
set_option maxHeartbeats 8000000 in
theorem mdiffer_any {A B:Nat→Prop} {bl bm ul um:Nat} {a b:M} (w:World) (ha:LogAt A w bl bm a) (hb:LogAt B w ul um b) (hla:a.u.cells.length≤1000000) (hlb:b.u.cells.length≤1000000) :
  Calls Tryz.prog 14 #[.pointer (some ⟨bl,0,none⟩),.pointer (some ⟨ul,0,none⟩)] w fun en w'=>en=.returned (.tuple #[.int .i64 (M.differ a b).1,.bool (M.differ a b).2])∧Below w.heap.size w w':=by
 have HA:=Lib.hid' ha
 have HB:=Lib.hid' hb
 have HLA:=Lib.hid' hla
 have HLB:=Lib.hid' hlb
 clear ha hb hla hlb
 go_enter Tryz.func14, Tryz.ntmps14
 go_upto_region 5 with fail
 go_cut [6] (fun v6 wc=>∃ (P:List Int) (a6:Option Addr) (c6:Nat),v6=.slice a6 P.length c6∧Hid (P.Perm (a.u.cells.map (·.1)++b.u.cells.map (·.1)++[min a.u.l b.u.l]))∧Hid (wc.ownsRow w.heap.size 3 1 (.slice a6 P.length c6) P.length (zVs P))∧Hid (Below w.heap.size w wc))
 case first =>
  obtain ⟨c0,c1,_⟩:=HA.out.cell
  obtain ⟨d0,d1,_⟩:=HB.out.cell
  have hbl:=HA.out.lt.1
  have hul:=HB.out.lt.1
  obtain ⟨L1,hm1,hr1⟩:=HA.out.map
  obtain ⟨L2,hm2,hr2⟩:=HB.out.map
  have HM1:=Lib.hid' hm1
  have HM2:=Lib.hid' hm2
  have HW1:=Zh (HLWm HA.out hr1)
  have HW2:=Zh (HLWm HB.out hr2)
  have HK1:=Zh (hr1.map_eq (f:=(·.1)) (g:=(·.1)) (fun p q h=>h.1))
  have HK2:=Zh (hr2.map_eq (f:=(·.1)) (g:=(·.1)) (fun p q h=>h.1))
  have hl1:L1.length≤1048576:=by rw [hr1.length];have:=HLA.out;omega
  have hl2:L2.length≤1048576:=by rw [hr2.length];have:=HLB.out;omega
  have HC0:=Zh (show Below w.heap.size w w.drew from Below.drew (Below.refl _ _))
  clear hm1 hr1 hm2 hr2
  obtain ⟨mn,hmn⟩:∃ mn,mn=min a.u.l b.u.l:=⟨_,rfl⟩
  have HMN:=Lib.hid' hmn
  clear hmn
  refine wp_region_held_drew (S:=(fun w'=>w'.cell? ⟨bl,0,none⟩=some (.map (some bm))∧w'.cell? ⟨bl,1,none⟩=some (.int .i64 a.u.l)∧w'.cell? ⟨ul,0,none⟩=some (.map (some um))∧w'.cell? ⟨ul,1,none⟩=some (.int .i64 b.u.l))) (by kernel_rfl) ⟨by simpa using c0,by simpa using c1,by simpa using d0,by simpa using d1⟩ (fun hH0=>?_)
  refine tA 0 (.pointer (some ⟨bl,0,none⟩)) rfl hH0 ?_ ?_
  ·intro w hSw;go_simp
  simp only [Act.put,gA,gZ,gS,sA,sZ,sS]
  refine tA 1 (.pointer (some ⟨bl,0,none⟩)) rfl hH0 ?_ ?_
  ·intro w hSw;go_simp
  simp only [Act.put,gA,gZ,gS,sA,sZ,sS]
  refine tA 2 (.pointer (some ⟨bl,0,none⟩)) rfl hH0 ?_ ?_
  ·intro w hSw;go_simp
  simp only [Act.put,gA,gZ,gS,sA,sZ,sS]
  refine tA 3 (.map (some bm)) rfl hH0 ?_ ?_
  ·intro w hSw;go_simp
  simp only [Act.put,gA,gZ,gS,sA,sZ,sS]
  refine tA 6 (.pointer (some ⟨ul,0,none⟩)) rfl hH0 ?_ ?_
  ·intro w hSw;go_simp
  simp only [Act.put,gA,gZ,gS,sA,sZ,sS]
  refine tA 7 (.pointer (some ⟨ul,0,none⟩)) rfl hH0 ?_ ?_
  ·intro w hSw;go_simp
  simp only [Act.put,gA,gZ,gS,sA,sZ,sS]
  refine tA 8 (.pointer (some ⟨ul,0,none⟩)) rfl hH0 ?_ ?_
  ·intro w hSw;go_simp
  simp only [Act.put,gA,gZ,gS,sA,sZ,sS]
  refine tA 9 (.map (some um)) rfl hH0 ?_ ?_
  ·intro w hSw;go_simp
  simp only [Act.put,gA,gZ,gS,sA,sZ,sS]
  refine tA 12 (.pointer (some ⟨bl,0,none⟩)) rfl hH0 ?_ ?_
  ·intro w hSw;go_simp
  simp only [Act.put,gA,gZ,gS,sA,sZ,sS]
  refine tA 13 (.pointer (some ⟨bl,0,none⟩)) rfl hH0 ?_ ?_
  ·intro w hSw;go_simp
  simp only [Act.put,gA,gZ,gS,sA,sZ,sS]
  refine tA 14 (.pointer (some ⟨bl,1,none⟩)) rfl hH0 ?_ ?_
  ·intro w hSw;go_simp
  simp only [Act.put,gA,gZ,gS,sA,sZ,sS]
  refine tA 15 (.int .i64 a.u.l) rfl hH0 ?_ ?_
  ·intro w hSw;go_simp
  simp only [Act.put,gA,gZ,gS,sA,sZ,sS]
  refine tA 16 (.pointer (some ⟨ul,0,none⟩)) rfl hH0 ?_ ?_
  ·intro w hSw;go_simp
  simp only [Act.put,gA,gZ,gS,sA,sZ,sS]
  refine tA 17 (.pointer (some ⟨ul,0,none⟩)) rfl hH0 ?_ ?_
  ·intro w hSw;go_simp
  simp only [Act.put,gA,gZ,gS,sA,sZ,sS]
  refine tA 18 (.pointer (some ⟨ul,1,none⟩)) rfl hH0 ?_ ?_
  ·intro w hSw;go_simp
  simp only [Act.put,gA,gZ,gS,sA,sZ,sS]
  refine tA 19 (.int .i64 b.u.l) rfl hH0 ?_ ?_
  ·intro w hSw;go_simp
  simp only [Act.put,gA,gZ,gS,sA,sZ,sS]
  refine tA 20 (.int .i64 mn) rfl hH0 ?_ ?_
  ·intro w hSw;rw [HMN.out];go_simp
  simp only [Act.put,gA,gZ,gS,sA,sZ,sS]
  refine wpAnyH_ready (rs:=[4,21]) (by kernel_rfl) (by simp) (AllReadyH.cons (o:=_) rfl (fun K hK=>?_) (AllReadyH.cons (o:=_) rfl (fun K hK=>?_) AllReadyH.nil))
  ·skip
   go_simp
   refine (keysC_any (some bm) _).mono ?_
   rintro en wc1 ⟨k1,rfl,hk1,hk1l,hbk⟩
   have hbk':Below w.drew.heap.size w.drew wc1:=hbk
   have HC1:=Zh (show Below w.heap.size w wc1 from HC0.out.trans (hbk'.mono HC0.out.size))
   clear hbk hbk'
   refine hK.out _ _ ?_ (fun hH1=>?_)
   ·exact ⟨(HC1.out.cell (p:=⟨bl,0,none⟩) hbl).trans c0,(HC1.out.cell (p:=⟨bl,1,none⟩) hbl).trans c1,(HC1.out.cell (p:=⟨ul,0,none⟩) hul).trans d0,(HC1.out.cell (p:=⟨ul,1,none⟩) hul).trans d1⟩
   clear hK K
   refine wpAnyH_ready (rs:=[5,21]) (by kernel_rfl) (by simp) (AllReadyH.cons (o:=_) rfl (fun K hK=>?_) (AllReadyH.cons (o:=_) rfl (fun K hK=>?_) AllReadyH.nil))
   ·skip
    go_simp
    refine (collect_any k1 bm L1 _ (HM1.out.below (Nat.le_refl _) HC1.out) HW1.out hl1 hk1 hk1l).mono ?_
    rintro en wc2 ⟨a1,e1,s1,rfl,hp1,ho1,hbk⟩
    have HP1:=Zh (hp1.trans (List.Perm.of_eq HK1.out))
    have HZ1:=Zh (show Zs wc2 (.slice a1 s1.length e1) s1 from SlV.of_own ho1)
    have hs1:s1.length≤1048576:=by rw [hp1.length_eq,List.length_map];exact hl1
    have hbk':Below wc1.heap.size wc1 wc2:=hbk
    have HC2:=Zh (show Below w.heap.size w wc2 from HC1.out.trans (hbk'.mono HC1.out.size))
    have hk1':=(hbk'.cell (p:=⟨k1,0,none⟩) hk1l).trans hk1
    have hk1l':=Nat.lt_of_lt_of_le hk1l hbk'.size
    clear hk1 hk1l
    have hk1:=hk1'
    have hk1l:=hk1l'
    clear hk1' hk1l'
    clear hp1 ho1 hbk hbk'
    refine hK.out _ _ ?_ (fun hH2=>?_)
    ·exact ⟨(HC2.out.cell (p:=⟨bl,0,none⟩) hbl).trans c0,(HC2.out.cell (p:=⟨bl,1,none⟩) hbl).trans c1,(HC2.out.cell (p:=⟨ul,0,none⟩) hul).trans d0,(HC2.out.cell (p:=⟨ul,1,none⟩) hul).trans d1⟩
    clear hK K
    refine wpAnyH_ready (rs:=[10,21]) (by kernel_rfl) (by simp) (AllReadyH.cons (o:=_) rfl (fun K hK=>?_) (AllReadyH.cons (o:=_) rfl (fun K hK=>?_) AllReadyH.nil))
    ·skip
     go_simp
     refine (keysC_any (some um) _).mono ?_
     rintro en wc3 ⟨k2,rfl,hk2,hk2l,hbk⟩
     have hbk':Below wc2.heap.size wc2 wc3:=hbk
     have HC3:=Zh (show Below w.heap.size w wc3 from HC2.out.trans (hbk'.mono HC2.out.size))
     have hk1':=(hbk'.cell (p:=⟨k1,0,none⟩) hk1l).trans hk1
     have hk1l':=Nat.lt_of_lt_of_le hk1l hbk'.size
     clear hk1 hk1l
     have hk1:=hk1'
     have hk1l:=hk1l'
     clear hk1' hk1l'
     have HZ1':=Zh (SlV.below HZ1.out (Nat.le_refl _) hbk')
     clear HZ1
     have HZ1:=HZ1'
     clear HZ1'
     clear hbk hbk'
     refine hK.out _ _ ?_ (fun hH3=>?_)
     ·exact ⟨(HC3.out.cell (p:=⟨bl,0,none⟩) hbl).trans c0,(HC3.out.cell (p:=⟨bl,1,none⟩) hbl).trans c1,(HC3.out.cell (p:=⟨ul,0,none⟩) hul).trans d0,(HC3.out.cell (p:=⟨ul,1,none⟩) hul).trans d1⟩
     clear hK K
     refine wpAnyH_ready (rs:=[11,21]) (by kernel_rfl) (by simp) (AllReadyH.cons (o:=_) rfl (fun K hK=>?_) (AllReadyH.cons (o:=_) rfl (fun K hK=>?_) AllReadyH.nil))
     ·skip
      go_simp
      refine (collect_any k2 um L2 _ (HM2.out.below (Nat.le_refl _) HC3.out) HW2.out hl2 hk2 hk2l).mono ?_
      rintro en wc4 ⟨a2,e2,s2,rfl,hp2,ho2,hbk⟩
      have HP2:=Zh (hp2.trans (List.Perm.of_eq HK2.out))
      have HZ2:=Zh (show Zs wc4 (.slice a2 s2.length e2) s2 from SlV.of_own ho2)
      have hs2:s2.length≤1048576:=by rw [hp2.length_eq,List.length_map];exact hl2
      have hbk':Below wc3.heap.size wc3 wc4:=hbk
      have HC4:=Zh (show Below w.heap.size w wc4 from HC3.out.trans (hbk'.mono HC3.out.size))
      have hk1':=(hbk'.cell (p:=⟨k1,0,none⟩) hk1l).trans hk1
      have hk1l':=Nat.lt_of_lt_of_le hk1l hbk'.size
      clear hk1 hk1l
      have hk1:=hk1'
      have hk1l:=hk1l'
      clear hk1' hk1l'
      have HZ1':=Zh (SlV.below HZ1.out (Nat.le_refl _) hbk')
      clear HZ1
      have HZ1:=HZ1'
      clear HZ1'
      have hk2':=(hbk'.cell (p:=⟨k2,0,none⟩) hk2l).trans hk2
      have hk2l':=Nat.lt_of_lt_of_le hk2l hbk'.size
      clear hk2 hk2l
      have hk2:=hk2'
      have hk2l:=hk2l'
      clear hk2' hk2l'
      clear hp2 ho2 hbk hbk'
      refine hK.out _ _ ?_ (fun hH4=>?_)
      ·exact ⟨(HC4.out.cell (p:=⟨bl,0,none⟩) hbl).trans c0,(HC4.out.cell (p:=⟨bl,1,none⟩) hbl).trans c1,(HC4.out.cell (p:=⟨ul,0,none⟩) hul).trans d0,(HC4.out.cell (p:=⟨ul,1,none⟩) hul).trans d1⟩
      clear hK K
      refine rD 21 rfl (fun K hK=>?_)
      go_simp
      have hnew:=alloc_new wc4 (.cells #[.int .i64 mn] 3)
      have hbk:Below wc4.heap.size wc4 (wc4.alloc (.cells #[.int .i64 mn] 3)):=by go_grown
      generalize wc4.alloc (.cells #[.int .i64 mn] 3)=wc5 at *
      have HZ3:=Zh (show Zs wc5 (.slice (some ⟨wc4.heap.size,0,none⟩) 1 1) [mn] from slv_1 hnew)
      have HC5:=Zh (show Below w.heap.size w wc5 from HC4.out.trans (hbk.mono HC4.out.size))
      have hk1':=(hbk.cell (p:=⟨k1,0,none⟩) hk1l).trans hk1
      have hk1l':=Nat.lt_of_lt_of_le hk1l hbk.size
      clear hk1 hk1l
      have hk1:=hk1'
      have hk1l:=hk1l'
      clear hk1' hk1l'
      have HZ1':=Zh (SlV.below HZ1.out (Nat.le_refl _) hbk)
      clear HZ1
      have HZ1:=HZ1'
      clear HZ1'
      have hk2':=(hbk.cell (p:=⟨k2,0,none⟩) hk2l).trans hk2
      have hk2l':=Nat.lt_of_lt_of_le hk2l hbk.size
      clear hk2 hk2l
      have hk2:=hk2'
      have hk2l:=hk2l'
      clear hk2' hk2l'
      have HZ2':=Zh (SlV.below HZ2.out (Nat.le_refl _) hbk)
      clear HZ2
      have HZ2:=HZ2'
      clear HZ2'
      clear hnew hbk
      refine hK.out _ _ ?_ (fun hH5=>?_)
      ·exact ⟨(HC5.out.cell (p:=⟨bl,0,none⟩) hbl).trans c0,(HC5.out.cell (p:=⟨bl,1,none⟩) hbl).trans c1,(HC5.out.cell (p:=⟨ul,0,none⟩) hul).trans d0,(HC5.out.cell (p:=⟨ul,1,none⟩) hul).trans d1⟩
      clear hK K
      refine rD 22 rfl (fun K hK=>?_)
      go_simp
      have hnew:=alloc_new wc5 (.cells #[.slice a1 s1.length e1,.slice a2 s2.length e2,.slice (some ⟨wc4.heap.size,0,none⟩) 1 1] 42)
      have hbk:Below wc5.heap.size wc5 (wc5.alloc (.cells #[.slice a1 s1.length e1,.slice a2 s2.length e2,.slice (some ⟨wc4.heap.size,0,none⟩) 1 1] 42)):=by go_grown
      generalize wc5.alloc (.cells #[.slice a1 s1.length e1,.slice a2 s2.length e2,.slice (some ⟨wc4.heap.size,0,none⟩) 1 1] 42)=wc6 at *
      have HR:=Zh (slv_3 hnew)
      have HC6:=Zh (show Below w.heap.size w wc6 from HC5.out.trans (hbk.mono HC5.out.size))
      have hk1':=(hbk.cell (p:=⟨k1,0,none⟩) hk1l).trans hk1
      have hk1l':=Nat.lt_of_lt_of_le hk1l hbk.size
      clear hk1 hk1l
      have hk1:=hk1'
      have hk1l:=hk1l'
      clear hk1' hk1l'
      have HZ1':=Zh (SlV.below HZ1.out (Nat.le_refl _) hbk)
      clear HZ1
      have HZ1:=HZ1'
      clear HZ1'
      have hk2':=(hbk.cell (p:=⟨k2,0,none⟩) hk2l).trans hk2
      have hk2l':=Nat.lt_of_lt_of_le hk2l hbk.size
      clear hk2 hk2l
      have hk2:=hk2'
      have hk2l:=hk2l'
      clear hk2' hk2l'
      have HZ2':=Zh (SlV.below HZ2.out (Nat.le_refl _) hbk)
      clear HZ2
      have HZ2:=HZ2'
      clear HZ2'
      have HZ3':=Zh (SlV.below HZ3.out (Nat.le_refl _) hbk)
      clear HZ3
      have HZ3:=HZ3'
      clear HZ3'
      clear hnew hbk
      refine hK.out _ _ ?_ (fun hH6=>?_)
      ·exact ⟨(HC6.out.cell (p:=⟨bl,0,none⟩) hbl).trans c0,(HC6.out.cell (p:=⟨bl,1,none⟩) hbl).trans c1,(HC6.out.cell (p:=⟨ul,0,none⟩) hul).trans d0,(HC6.out.cell (p:=⟨ul,1,none⟩) hul).trans d1⟩
      clear hK K
      refine rD 23 rfl (fun K hK=>?_)
      go_simp
      have hcc:=concatZ_any [(s1,a1,e1),(s2,a2,e2),([mn],some ⟨wc4.heap.size,0,none⟩,1)] (some ⟨wc5.heap.size,0,none⟩) 3 wc6 ⟨HR.out,fun x hx=>by
       simp only [List.mem_cons,List.not_mem_nil,or_false] at hx
       rcases hx with rfl | rfl | rfl
       ·exact HZ1.out
       ·exact HZ2.out
       ·exact HZ3.out⟩ (by simp [flatC];omega)
      obtain ⟨P,hP⟩:∃ P,P=s1++s2++[mn]:=⟨_,rfl⟩
      rw [show flatC [(s1,a1,e1),(s2,a2,e2),([mn],some ⟨wc4.heap.size,0,none⟩,1)]=P by rw [hP];simp [flatC]] at hcc
      have HP:=Lib.hid' hP
      clear hP
      refine hcc.mono ?_
      clear hcc
      rintro en wc7 ⟨a6,c6,rfl,ho6,hbk⟩
      have HO6:=Zh (own_base (B':=w.heap.size) ho6 HC6.out.size)
      have HC7:=Zh (show Below w.heap.size w wc7 from HC6.out.trans (hbk.mono HC6.out.size))
      clear ho6 hbk
      refine hK.out _ _ ?_ (fun hH7=>?_)
      ·exact ⟨(HC7.out.cell (p:=⟨bl,0,none⟩) hbl).trans c0,(HC7.out.cell (p:=⟨bl,1,none⟩) hbl).trans c1,(HC7.out.cell (p:=⟨ul,0,none⟩) hul).trans d0,(HC7.out.cell (p:=⟨ul,1,none⟩) hul).trans d1⟩
      clear hK K
      refine tA 24 (.slice a6 P.length c6) rfl hH7 ?_ ?_
      ·intro w hSw;go_simp
      simp only [Act.put,gA,gZ,gS,sA,sZ,sS]
      refine wpAnyH_done (by kernel_rfl) ?_ _
      go_wp2_with fail
      go_meet
      exact ⟨P,a6,c6,rfl,Zh (by rw [HP.out,←HMN.out];exact (HP1.out.append HP2.out).append_right _),HO6,HC7⟩
     ·skip
      go_simp
      have hnew:=alloc_new wc3 (.cells #[.int .i64 mn] 3)
      have hbk:Below wc3.heap.size wc3 (wc3.alloc (.cells #[.int .i64 mn] 3)):=by go_grown
      generalize wc3.alloc (.cells #[.int .i64 mn] 3)=wc4 at *
      have HZ3:=Zh (show Zs wc4 (.slice (some ⟨wc3.heap.size,0,none⟩) 1 1) [mn] from slv_1 hnew)
      have HC4:=Zh (show Below w.heap.size w wc4 from HC3.out.trans (hbk.mono HC3.out.size))
      have hk1':=(hbk.cell (p:=⟨k1,0,none⟩) hk1l).trans hk1
      have hk1l':=Nat.lt_of_lt_of_le hk1l hbk.size
      clear hk1 hk1l
      have hk1:=hk1'
      have hk1l:=hk1l'
      clear hk1' hk1l'
      have HZ1':=Zh (SlV.below HZ1.out (Nat.le_refl _) hbk)
      clear HZ1
      have HZ1:=HZ1'
      clear HZ1'
      have hk2':=(hbk.cell (p:=⟨k2,0,none⟩) hk2l).trans hk2
      have hk2l':=Nat.lt_of_lt_of_le hk2l hbk.size
      clear hk2 hk2l
      have hk2:=hk2'
      have hk2l:=hk2l'
      clear hk2' hk2l'
      clear hnew hbk
      refine hK.out _ _ ?_ (fun hH4=>?_)
      ·exact ⟨(HC4.out.cell (p:=⟨bl,0,none⟩) hbl).trans c0,(HC4.out.cell (p:=⟨bl,1,none⟩) hbl).trans c1,(HC4.out.cell (p:=⟨ul,0,none⟩) hul).trans d0,(HC4.out.cell (p:=⟨ul,1,none⟩) hul).trans d1⟩
      clear hK K
      refine rD 11 rfl (fun K hK=>?_)
      go_simp
      refine (collect_any k2 um L2 _ (HM2.out.below (Nat.le_refl _) HC4.out) HW2.out hl2 hk2 hk2l).mono ?_
      rintro en wc5 ⟨a2,e2,s2,rfl,hp2,ho2,hbk⟩
      have HP2:=Zh (hp2.trans (List.Perm.of_eq HK2.out))
      have HZ2:=Zh (show Zs wc5 (.slice a2 s2.length e2) s2 from SlV.of_own ho2)
      have hs2:s2.length≤1048576:=by rw [hp2.length_eq,List.length_map];exact hl2
      have hbk':Below wc4.heap.size wc4 wc5:=hbk
      have HC5:=Zh (show Below w.heap.size w wc5 from HC4.out.trans (hbk'.mono HC4.out.size))
      have hk1':=(hbk'.cell (p:=⟨k1,0,none⟩) hk1l).trans hk1
      have hk1l':=Nat.lt_of_lt_of_le hk1l hbk'.size
      clear hk1 hk1l
      have hk1:=hk1'
      have hk1l:=hk1l'
      clear hk1' hk1l'
      have HZ1':=Zh (SlV.below HZ1.out (Nat.le_refl _) hbk')
      clear HZ1
      have HZ1:=HZ1'
      clear HZ1'
      have hk2':=(hbk'.cell (p:=⟨k2,0,none⟩) hk2l).trans hk2
      have hk2l':=Nat.lt_of_lt_of_le hk2l hbk'.size
      clear hk2 hk2l
      have hk2:=hk2'
      have hk2l:=hk2l'
      clear hk2' hk2l'
      have HZ3':=Zh (SlV.below HZ3.out (Nat.le_refl _) hbk')
      clear HZ3
      have HZ3:=HZ3'
      clear HZ3'
      clear hp2 ho2 hbk hbk'
      refine hK.out _ _ ?_ (fun hH5=>?_)
      ·exact ⟨(HC5.out.cell (p:=⟨bl,0,none⟩) hbl).trans c0,(HC5.out.cell (p:=⟨bl,1,none⟩) hbl).trans c1,(HC5.out.cell (p:=⟨ul,0,none⟩) hul).trans d0,(HC5.out.cell (p:=⟨ul,1,none⟩) hul).trans d1⟩
      clear hK K
      refine rD 22 rfl (fun K hK=>?_)
      go_simp
      have hnew:=alloc_new wc5 (.cells #[.slice a1 s1.length e1,.slice a2 s2.length e2,.slice (some ⟨wc3.heap.size,0,none⟩) 1 1] 42)
      have hbk:Below wc5.heap.size wc5 (wc5.alloc (.cells #[.slice a1 s1.length e1,.slice a2 s2.length e2,.slice (some ⟨wc3.heap.size,0,none⟩) 1 1] 42)):=by go_grown
      generalize wc5.alloc (.cells #[.slice a1 s1.length e1,.slice a2 s2.length e2,.slice (some ⟨wc3.heap.size,0,none⟩) 1 1] 42)=wc6 at *
      have HR:=Zh (slv_3 hnew)
      have HC6:=Zh (show Below w.heap.size w wc6 from HC5.out.trans (hbk.mono HC5.out.size))
      have hk1':=(hbk.cell (p:=⟨k1,0,none⟩) hk1l).trans hk1
      have hk1l':=Nat.lt_of_lt_of_le hk1l hbk.size
      clear hk1 hk1l
      have hk1:=hk1'
      have hk1l:=hk1l'
      clear hk1' hk1l'
      have HZ1':=Zh (SlV.below HZ1.out (Nat.le_refl _) hbk)
      clear HZ1
      have HZ1:=HZ1'
      clear HZ1'
      have hk2':=(hbk.cell (p:=⟨k2,0,none⟩) hk2l).trans hk2
      have hk2l':=Nat.lt_of_lt_of_le hk2l hbk.size
      clear hk2 hk2l
      have hk2:=hk2'
      have hk2l:=hk2l'
      clear hk2' hk2l'
      have HZ3':=Zh (SlV.below HZ3.out (Nat.le_refl _) hbk)
      clear HZ3
      have HZ3:=HZ3'
      clear HZ3'
      have HZ2':=Zh (SlV.below HZ2.out (Nat.le_refl _) hbk)
      clear HZ2
      have HZ2:=HZ2'
      clear HZ2'
      clear hnew hbk
      refine hK.out _ _ ?_ (fun hH6=>?_)
      ·exact ⟨(HC6.out.cell (p:=⟨bl,0,none⟩) hbl).trans c0,(HC6.out.cell (p:=⟨bl,1,none⟩) hbl).trans c1,(HC6.out.cell (p:=⟨ul,0,none⟩) hul).trans d0,(HC6.out.cell (p:=⟨ul,1,none⟩) hul).trans d1⟩
      clear hK K
      refine rD 23 rfl (fun K hK=>?_)
      go_simp
      have hcc:=concatZ_any [(s1,a1,e1),(s2,a2,e2),([mn],some ⟨wc3.heap.size,0,none⟩,1)] (some ⟨wc5.heap.size,0,none⟩) 3 wc6 ⟨HR.out,fun x hx=>by
       simp only [List.mem_cons,List.not_mem_nil,or_false] at hx
       rcases hx with rfl | rfl | rfl
       ·exact HZ1.out
       ·exact HZ2.out
       ·exact HZ3.out⟩ (by simp [flatC];omega)
      obtain ⟨P,hP⟩:∃ P,P=s1++s2++[mn]:=⟨_,rfl⟩
      rw [show flatC [(s1,a1,e1),(s2,a2,e2),([mn],some ⟨wc3.heap.size,0,none⟩,1)]=P by rw [hP];simp [flatC]] at hcc
      have HP:=Lib.hid' hP
      clear hP
      refine hcc.mono ?_
      clear hcc
      rintro en wc7 ⟨a6,c6,rfl,ho6,hbk⟩
      have HO6:=Zh (own_base (B':=w.heap.size) ho6 HC6.out.size)
      have HC7:=Zh (show Below w.heap.size w wc7 from HC6.out.trans (hbk.mono HC6.out.size))
      clear ho6 hbk
      refine hK.out _ _ ?_ (fun hH7=>?_)
      ·exact ⟨(HC7.out.cell (p:=⟨bl,0,none⟩) hbl).trans c0,(HC7.out.cell (p:=⟨bl,1,none⟩) hbl).trans c1,(HC7.out.cell (p:=⟨ul,0,none⟩) hul).trans d0,(HC7.out.cell (p:=⟨ul,1,none⟩) hul).trans d1⟩
      clear hK K
      refine tA 24 (.slice a6 P.length c6) rfl hH7 ?_ ?_
      ·intro w hSw;go_simp
      simp only [Act.put,gA,gZ,gS,sA,sZ,sS]
      refine wpAnyH_done (by kernel_rfl) ?_ _
      go_wp2_with fail
      go_meet
      exact ⟨P,a6,c6,rfl,Zh (by rw [HP.out,←HMN.out];exact (HP1.out.append HP2.out).append_right _),HO6,HC7⟩
    ·skip
     go_simp
     have hnew:=alloc_new wc2 (.cells #[.int .i64 mn] 3)
     have hbk:Below wc2.heap.size wc2 (wc2.alloc (.cells #[.int .i64 mn] 3)):=by go_grown
     generalize wc2.alloc (.cells #[.int .i64 mn] 3)=wc3 at *
     have HZ3:=Zh (show Zs wc3 (.slice (some ⟨wc2.heap.size,0,none⟩) 1 1) [mn] from slv_1 hnew)
     have HC3:=Zh (show Below w.heap.size w wc3 from HC2.out.trans (hbk.mono HC2.out.size))
     have hk1':=(hbk.cell (p:=⟨k1,0,none⟩) hk1l).trans hk1
     have hk1l':=Nat.lt_of_lt_of_le hk1l hbk.size
     clear hk1 hk1l
     have hk1:=hk1'
     have hk1l:=hk1l'
     clear hk1' hk1l'
     have HZ1':=Zh (SlV.below HZ1.out (Nat.le_refl _) hbk)
     clear HZ1
     have HZ1:=HZ1'
     clear HZ1'
     clear hnew hbk
     refine hK.out _ _ ?_ (fun hH3=>?_)
     ·exact ⟨(HC3.out.cell (p:=⟨bl,0,none⟩) hbl).trans c0,(HC3.out.cell (p:=⟨bl,1,none⟩) hbl).trans c1,(HC3.out.cell (p:=⟨ul,0,none⟩) hul).trans d0,(HC3.out.cell (p:=⟨ul,1,none⟩) hul).trans d1⟩
     clear hK K
     refine rD 10 rfl (fun K hK=>?_)
     go_simp
     refine (keysC_any (some um) _).mono ?_
     rintro en wc4 ⟨k2,rfl,hk2,hk2l,hbk⟩
     have hbk':Below wc3.heap.size wc3 wc4:=hbk
     have HC4:=Zh (show Below w.heap.size w wc4 from HC3.out.trans (hbk'.mono HC3.out.size))
     have hk1':=(hbk'.cell (p:=⟨k1,0,none⟩) hk1l).trans hk1
     have hk1l':=Nat.lt_of_lt_of_le hk1l hbk'.size
     clear hk1 hk1l
     have hk1:=hk1'
     have hk1l:=hk1l'
     clear hk1' hk1l'
     have HZ1':=Zh (SlV.below HZ1.out (Nat.le_refl _) hbk')
     clear HZ1
     have HZ1:=HZ1'
     clear HZ1'
     have HZ3':=Zh (SlV.below HZ3.out (Nat.le_refl _) hbk')
     clear HZ3
     have HZ3:=HZ3'
     clear HZ3'
     clear hbk hbk'
     refine hK.out _ _ ?_ (fun hH4=>?_)
     ·exact ⟨(HC4.out.cell (p:=⟨bl,0,none⟩) hbl).trans c0,(HC4.out.cell (p:=⟨bl,1,none⟩) hbl).trans c1,(HC4.out.cell (p:=⟨ul,0,none⟩) hul).trans d0,(HC4.out.cell (p:=⟨ul,1,none⟩) hul).trans d1⟩
     clear hK K
     refine rD 11 rfl (fun K hK=>?_)
     go_simp
     refine (collect_any k2 um L2 _ (HM2.out.below (Nat.le_refl _) HC4.out) HW2.out hl2 hk2 hk2l).mono ?_
     rintro en wc5 ⟨a2,e2,s2,rfl,hp2,ho2,hbk⟩
     have HP2:=Zh (hp2.trans (List.Perm.of_eq HK2.out))
     have HZ2:=Zh (show Zs wc5 (.slice a2 s2.length e2) s2 from SlV.of_own ho2)
     have hs2:s2.length≤1048576:=by rw [hp2.length_eq,List.length_map];exact hl2
     have hbk':Below wc4.heap.size wc4 wc5:=hbk
     have HC5:=Zh (show Below w.heap.size w wc5 from HC4.out.trans (hbk'.mono HC4.out.size))
     have hk1':=(hbk'.cell (p:=⟨k1,0,none⟩) hk1l).trans hk1
     have hk1l':=Nat.lt_of_lt_of_le hk1l hbk'.size
     clear hk1 hk1l
     have hk1:=hk1'
     have hk1l:=hk1l'
     clear hk1' hk1l'
     have HZ1':=Zh (SlV.below HZ1.out (Nat.le_refl _) hbk')
     clear HZ1
     have HZ1:=HZ1'
     clear HZ1'
     have HZ3':=Zh (SlV.below HZ3.out (Nat.le_refl _) hbk')
     clear HZ3
     have HZ3:=HZ3'
     clear HZ3'
     have hk2':=(hbk'.cell (p:=⟨k2,0,none⟩) hk2l).trans hk2
     have hk2l':=Nat.lt_of_lt_of_le hk2l hbk'.size
     clear hk2 hk2l
     have hk2:=hk2'
     have hk2l:=hk2l'
     clear hk2' hk2l'
     clear hp2 ho2 hbk hbk'
     refine hK.out _ _ ?_ (fun hH5=>?_)
     ·exact ⟨(HC5.out.cell (p:=⟨bl,0,none⟩) hbl).trans c0,(HC5.out.cell (p:=⟨bl,1,none⟩) hbl).trans c1,(HC5.out.cell (p:=⟨ul,0,none⟩) hul).trans d0,(HC5.out.cell (p:=⟨ul,1,none⟩) hul).trans d1⟩
     clear hK K
     refine rD 22 rfl (fun K hK=>?_)
     go_simp
     have hnew:=alloc_new wc5 (.cells #[.slice a1 s1.length e1,.slice a2 s2.length e2,.slice (some ⟨wc2.heap.size,0,none⟩) 1 1] 42)
     have hbk:Below wc5.heap.size wc5 (wc5.alloc (.cells #[.slice a1 s1.length e1,.slice a2 s2.length e2,.slice (some ⟨wc2.heap.size,0,none⟩) 1 1] 42)):=by go_grown
     generalize wc5.alloc (.cells #[.slice a1 s1.length e1,.slice a2 s2.length e2,.slice (some ⟨wc2.heap.size,0,none⟩) 1 1] 42)=wc6 at *
     have HR:=Zh (slv_3 hnew)
     have HC6:=Zh (show Below w.heap.size w wc6 from HC5.out.trans (hbk.mono HC5.out.size))
     have hk1':=(hbk.cell (p:=⟨k1,0,none⟩) hk1l).trans hk1
     have hk1l':=Nat.lt_of_lt_of_le hk1l hbk.size
     clear hk1 hk1l
     have hk1:=hk1'
     have hk1l:=hk1l'
     clear hk1' hk1l'
     have HZ1':=Zh (SlV.below HZ1.out (Nat.le_refl _) hbk)
     clear HZ1
     have HZ1:=HZ1'
     clear HZ1'
     have HZ3':=Zh (SlV.below HZ3.out (Nat.le_refl _) hbk)
     clear HZ3
     have HZ3:=HZ3'
     clear HZ3'
     have hk2':=(hbk.cell (p:=⟨k2,0,none⟩) hk2l).trans hk2
     have hk2l':=Nat.lt_of_lt_of_le hk2l hbk.size
     clear hk2 hk2l
     have hk2:=hk2'
     have hk2l:=hk2l'
     clear hk2' hk2l'
     have HZ2':=Zh (SlV.below HZ2.out (Nat.le_refl _) hbk)
     clear HZ2
     have HZ2:=HZ2'
     clear HZ2'
     clear hnew hbk
     refine hK.out _ _ ?_ (fun hH6=>?_)
     ·exact ⟨(HC6.out.cell (p:=⟨bl,0,none⟩) hbl).trans c0,(HC6.out.cell (p:=⟨bl,1,none⟩) hbl).trans c1,(HC6.out.cell (p:=⟨ul,0,none⟩) hul).trans d0,(HC6.out.cell (p:=⟨ul,1,none⟩) hul).trans d1⟩
     clear hK K
     refine rD 23 rfl (fun K hK=>?_)
     go_simp
     have hcc:=concatZ_any [(s1,a1,e1),(s2,a2,e2),([mn],some ⟨wc2.heap.size,0,none⟩,1)] (some ⟨wc5.heap.size,0,none⟩) 3 wc6 ⟨HR.out,fun x hx=>by
      simp only [List.mem_cons,List.not_mem_nil,or_false] at hx
      rcases hx with rfl | rfl | rfl
      ·exact HZ1.out
      ·exact HZ2.out
      ·exact HZ3.out⟩ (by simp [flatC];omega)
     obtain ⟨P,hP⟩:∃ P,P=s1++s2++[mn]:=⟨_,rfl⟩
     rw [show flatC [(s1,a1,e1),(s2,a2,e2),([mn],some ⟨wc2.heap.size,0,none⟩,1)]=P by rw [hP];simp [flatC]] at hcc
     have HP:=Lib.hid' hP
     clear hP
     refine hcc.mono ?_
     clear hcc
     rintro en wc7 ⟨a6,c6,rfl,ho6,hbk⟩
     have HO6:=Zh (own_base (B':=w.heap.size) ho6 HC6.out.size)
     have HC7:=Zh (show Below w.heap.size w wc7 from HC6.out.trans (hbk.mono HC6.out.size))
     clear ho6 hbk
     refine hK.out _ _ ?_ (fun hH7=>?_)
     ·exact ⟨(HC7.out.cell (p:=⟨bl,0,none⟩) hbl).trans c0,(HC7.out.cell (p:=⟨bl,1,none⟩) hbl).trans c1,(HC7.out.cell (p:=⟨ul,0,none⟩) hul).trans d0,(HC7.out.cell (p:=⟨ul,1,none⟩) hul).trans d1⟩
     clear hK K
     refine tA 24 (.slice a6 P.length c6) rfl hH7 ?_ ?_
     ·intro w hSw;go_simp
     simp only [Act.put,gA,gZ,gS,sA,sZ,sS]
     refine wpAnyH_done (by kernel_rfl) ?_ _
     go_wp2_with fail
     go_meet
     exact ⟨P,a6,c6,rfl,Zh (by rw [HP.out,←HMN.out];exact (HP1.out.append HP2.out).append_right _),HO6,HC7⟩
   ·skip
    go_simp
    have hnew:=alloc_new wc1 (.cells #[.int .i64 mn] 3)
    have hbk:Below wc1.heap.size wc1 (wc1.alloc (.cells #[.int .i64 mn] 3)):=by go_grown
    generalize wc1.alloc (.cells #[.int .i64 mn] 3)=wc2 at *
    have HZ3:=Zh (show Zs wc2 (.slice (some ⟨wc1.heap.size,0,none⟩) 1 1) [mn] from slv_1 hnew)
    have HC2:=Zh (show Below w.heap.size w wc2 from HC1.out.trans (hbk.mono HC1.out.size))
    have hk1':=(hbk.cell (p:=⟨k1,0,none⟩) hk1l).trans hk1
    have hk1l':=Nat.lt_of_lt_of_le hk1l hbk.size
    clear hk1 hk1l
    have hk1:=hk1'
    have hk1l:=hk1l'
    clear hk1' hk1l'
    clear hnew hbk
    refine hK.out _ _ ?_ (fun hH2=>?_)
    ·exact ⟨(HC2.out.cell (p:=⟨bl,0,none⟩) hbl).trans c0,(HC2.out.cell (p:=⟨bl,1,none⟩) hbl).trans c1,(HC2.out.cell (p:=⟨ul,0,none⟩) hul).trans d0,(HC2.out.cell (p:=⟨ul,1,none⟩) hul).trans d1⟩
    clear hK K
    refine rD 5 rfl (fun K hK=>?_)
    go_simp
    refine (collect_any k1 bm L1 _ (HM1.out.below (Nat.le_refl _) HC2.out) HW1.out hl1 hk1 hk1l).mono ?_
    rintro en wc3 ⟨a1,e1,s1,rfl,hp1,ho1,hbk⟩
    have HP1:=Zh (hp1.trans (List.Perm.of_eq HK1.out))
    have HZ1:=Zh (show Zs wc3 (.slice a1 s1.length e1) s1 from SlV.of_own ho1)
    have hs1:s1.length≤1048576:=by rw [hp1.length_eq,List.length_map];exact hl1
    have hbk':Below wc2.heap.size wc2 wc3:=hbk
    have HC3:=Zh (show Below w.heap.size w wc3 from HC2.out.trans (hbk'.mono HC2.out.size))
    have hk1':=(hbk'.cell (p:=⟨k1,0,none⟩) hk1l).trans hk1
    have hk1l':=Nat.lt_of_lt_of_le hk1l hbk'.size
    clear hk1 hk1l
    have hk1:=hk1'
    have hk1l:=hk1l'
    clear hk1' hk1l'
    have HZ3':=Zh (SlV.below HZ3.out (Nat.le_refl _) hbk')
    clear HZ3
    have HZ3:=HZ3'
    clear HZ3'
    clear hp1 ho1 hbk hbk'
    refine hK.out _ _ ?_ (fun hH3=>?_)
    ·exact ⟨(HC3.out.cell (p:=⟨bl,0,none⟩) hbl).trans c0,(HC3.out.cell (p:=⟨bl,1,none⟩) hbl).trans c1,(HC3.out.cell (p:=⟨ul,0,none⟩) hul).trans d0,(HC3.out.cell (p:=⟨ul,1,none⟩) hul).trans d1⟩
    clear hK K
    refine rD 10 rfl (fun K hK=>?_)
    go_simp
    refine (keysC_any (some um) _).mono ?_
    rintro en wc4 ⟨k2,rfl,hk2,hk2l,hbk⟩
    have hbk':Below wc3.heap.size wc3 wc4:=hbk
    have HC4:=Zh (show Below w.heap.size w wc4 from HC3.out.trans (hbk'.mono HC3.out.size))
    have hk1':=(hbk'.cell (p:=⟨k1,0,none⟩) hk1l).trans hk1
    have hk1l':=Nat.lt_of_lt_of_le hk1l hbk'.size
    clear hk1 hk1l
    have hk1:=hk1'
    have hk1l:=hk1l'
    clear hk1' hk1l'
    have HZ3':=Zh (SlV.below HZ3.out (Nat.le_refl _) hbk')
    clear HZ3
    have HZ3:=HZ3'
    clear HZ3'
    have HZ1':=Zh (SlV.below HZ1.out (Nat.le_refl _) hbk')
    clear HZ1
    have HZ1:=HZ1'
    clear HZ1'
    clear hbk hbk'
    refine hK.out _ _ ?_ (fun hH4=>?_)
    ·exact ⟨(HC4.out.cell (p:=⟨bl,0,none⟩) hbl).trans c0,(HC4.out.cell (p:=⟨bl,1,none⟩) hbl).trans c1,(HC4.out.cell (p:=⟨ul,0,none⟩) hul).trans d0,(HC4.out.cell (p:=⟨ul,1,none⟩) hul).trans d1⟩
    clear hK K
    refine rD 11 rfl (fun K hK=>?_)
    go_simp
    refine (collect_any k2 um L2 _ (HM2.out.below (Nat.le_refl _) HC4.out) HW2.out hl2 hk2 hk2l).mono ?_
    rintro en wc5 ⟨a2,e2,s2,rfl,hp2,ho2,hbk⟩
    have HP2:=Zh (hp2.trans (List.Perm.of_eq HK2.out))
    have HZ2:=Zh (show Zs wc5 (.slice a2 s2.length e2) s2 from SlV.of_own ho2)
    have hs2:s2.length≤1048576:=by rw [hp2.length_eq,List.length_map];exact hl2
    have hbk':Below wc4.heap.size wc4 wc5:=hbk
    have HC5:=Zh (show Below w.heap.size w wc5 from HC4.out.trans (hbk'.mono HC4.out.size))
    have hk1':=(hbk'.cell (p:=⟨k1,0,none⟩) hk1l).trans hk1
    have hk1l':=Nat.lt_of_lt_of_le hk1l hbk'.size
    clear hk1 hk1l
    have hk1:=hk1'
    have hk1l:=hk1l'
    clear hk1' hk1l'
    have HZ3':=Zh (SlV.below HZ3.out (Nat.le_refl _) hbk')
    clear HZ3
    have HZ3:=HZ3'
    clear HZ3'
    have HZ1':=Zh (SlV.below HZ1.out (Nat.le_refl _) hbk')
    clear HZ1
    have HZ1:=HZ1'
    clear HZ1'
    have hk2':=(hbk'.cell (p:=⟨k2,0,none⟩) hk2l).trans hk2
    have hk2l':=Nat.lt_of_lt_of_le hk2l hbk'.size
    clear hk2 hk2l
    have hk2:=hk2'
    have hk2l:=hk2l'
    clear hk2' hk2l'
    clear hp2 ho2 hbk hbk'
    refine hK.out _ _ ?_ (fun hH5=>?_)
    ·exact ⟨(HC5.out.cell (p:=⟨bl,0,none⟩) hbl).trans c0,(HC5.out.cell (p:=⟨bl,1,none⟩) hbl).trans c1,(HC5.out.cell (p:=⟨ul,0,none⟩) hul).trans d0,(HC5.out.cell (p:=⟨ul,1,none⟩) hul).trans d1⟩
    clear hK K
    refine rD 22 rfl (fun K hK=>?_)
    go_simp
    have hnew:=alloc_new wc5 (.cells #[.slice a1 s1.length e1,.slice a2 s2.length e2,.slice (some ⟨wc1.heap.size,0,none⟩) 1 1] 42)
    have hbk:Below wc5.heap.size wc5 (wc5.alloc (.cells #[.slice a1 s1.length e1,.slice a2 s2.length e2,.slice (some ⟨wc1.heap.size,0,none⟩) 1 1] 42)):=by go_grown
    generalize wc5.alloc (.cells #[.slice a1 s1.length e1,.slice a2 s2.length e2,.slice (some ⟨wc1.heap.size,0,none⟩) 1 1] 42)=wc6 at *
    have HR:=Zh (slv_3 hnew)
    have HC6:=Zh (show Below w.heap.size w wc6 from HC5.out.trans (hbk.mono HC5.out.size))
    have hk1':=(hbk.cell (p:=⟨k1,0,none⟩) hk1l).trans hk1
    have hk1l':=Nat.lt_of_lt_of_le hk1l hbk.size
    clear hk1 hk1l
    have hk1:=hk1'
    have hk1l:=hk1l'
    clear hk1' hk1l'
    have HZ3':=Zh (SlV.below HZ3.out (Nat.le_refl _) hbk)
    clear HZ3
    have HZ3:=HZ3'
    clear HZ3'
    have HZ1':=Zh (SlV.below HZ1.out (Nat.le_refl _) hbk)
    clear HZ1
    have HZ1:=HZ1'
    clear HZ1'
    have hk2':=(hbk.cell (p:=⟨k2,0,none⟩) hk2l).trans hk2
    have hk2l':=Nat.lt_of_lt_of_le hk2l hbk.size
    clear hk2 hk2l
    have hk2:=hk2'
    have hk2l:=hk2l'
    clear hk2' hk2l'
    have HZ2':=Zh (SlV.below HZ2.out (Nat.le_refl _) hbk)
    clear HZ2
    have HZ2:=HZ2'
    clear HZ2'
    clear hnew hbk
    refine hK.out _ _ ?_ (fun hH6=>?_)
    ·exact ⟨(HC6.out.cell (p:=⟨bl,0,none⟩) hbl).trans c0,(HC6.out.cell (p:=⟨bl,1,none⟩) hbl).trans c1,(HC6.out.cell (p:=⟨ul,0,none⟩) hul).trans d0,(HC6.out.cell (p:=⟨ul,1,none⟩) hul).trans d1⟩
    clear hK K
    refine rD 23 rfl (fun K hK=>?_)
    go_simp
    have hcc:=concatZ_any [(s1,a1,e1),(s2,a2,e2),([mn],some ⟨wc1.heap.size,0,none⟩,1)] (some ⟨wc5.heap.size,0,none⟩) 3 wc6 ⟨HR.out,fun x hx=>by
     simp only [List.mem_cons,List.not_mem_nil,or_false] at hx
     rcases hx with rfl | rfl | rfl
     ·exact HZ1.out
     ·exact HZ2.out
     ·exact HZ3.out⟩ (by simp [flatC];omega)
    obtain ⟨P,hP⟩:∃ P,P=s1++s2++[mn]:=⟨_,rfl⟩
    rw [show flatC [(s1,a1,e1),(s2,a2,e2),([mn],some ⟨wc1.heap.size,0,none⟩,1)]=P by rw [hP];simp [flatC]] at hcc
    have HP:=Lib.hid' hP
    clear hP
    refine hcc.mono ?_
    clear hcc
    rintro en wc7 ⟨a6,c6,rfl,ho6,hbk⟩
    have HO6:=Zh (own_base (B':=w.heap.size) ho6 HC6.out.size)
    have HC7:=Zh (show Below w.heap.size w wc7 from HC6.out.trans (hbk.mono HC6.out.size))
    clear ho6 hbk
    refine hK.out _ _ ?_ (fun hH7=>?_)
    ·exact ⟨(HC7.out.cell (p:=⟨bl,0,none⟩) hbl).trans c0,(HC7.out.cell (p:=⟨bl,1,none⟩) hbl).trans c1,(HC7.out.cell (p:=⟨ul,0,none⟩) hul).trans d0,(HC7.out.cell (p:=⟨ul,1,none⟩) hul).trans d1⟩
    clear hK K
    refine tA 24 (.slice a6 P.length c6) rfl hH7 ?_ ?_
    ·intro w hSw;go_simp
    simp only [Act.put,gA,gZ,gS,sA,sZ,sS]
    refine wpAnyH_done (by kernel_rfl) ?_ _
    go_wp2_with fail
    go_meet
    exact ⟨P,a6,c6,rfl,Zh (by rw [HP.out,←HMN.out];exact (HP1.out.append HP2.out).append_right _),HO6,HC7⟩
  ·skip
   go_simp
   have hnew:=show (w.alloc (.cells #[.int .i64 mn] 3)).drew.heap[w.heap.size]?=_ from alloc_new w (.cells #[.int .i64 mn] 3)
   have hbk:Below w.heap.size w (w.alloc (.cells #[.int .i64 mn] 3)).drew:=Below.drew (by go_grown)
   generalize (w.alloc (.cells #[.int .i64 mn] 3)).drew=wc1 at *
   have HZ3:=Zh (show Zs wc1 (.slice (some ⟨w.heap.size,0,none⟩) 1 1) [mn] from slv_1 hnew)
   have HC1:=Lib.hid' hbk
   clear hnew hbk
   refine hK.out _ _ ?_ (fun hH1=>?_)
   ·exact ⟨(HC1.out.cell (p:=⟨bl,0,none⟩) hbl).trans c0,(HC1.out.cell (p:=⟨bl,1,none⟩) hbl).trans c1,(HC1.out.cell (p:=⟨ul,0,none⟩) hul).trans d0,(HC1.out.cell (p:=⟨ul,1,none⟩) hul).trans d1⟩
   clear hK K
   refine rD 4 rfl (fun K hK=>?_)
   go_simp
   refine (keysC_any (some bm) _).mono ?_
   rintro en wc2 ⟨k1,rfl,hk1,hk1l,hbk⟩
   have hbk':Below wc1.heap.size wc1 wc2:=hbk
   have HC2:=Zh (show Below w.heap.size w wc2 from HC1.out.trans (hbk'.mono HC1.out.size))
   have HZ3':=Zh (SlV.below HZ3.out (Nat.le_refl _) hbk')
   clear HZ3
   have HZ3:=HZ3'
   clear HZ3'
   clear hbk hbk'
   refine hK.out _ _ ?_ (fun hH2=>?_)
   ·exact ⟨(HC2.out.cell (p:=⟨bl,0,none⟩) hbl).trans c0,(HC2.out.cell (p:=⟨bl,1,none⟩) hbl).trans c1,(HC2.out.cell (p:=⟨ul,0,none⟩) hul).trans d0,(HC2.out.cell (p:=⟨ul,1,none⟩) hul).trans d1⟩
   clear hK K
   refine rD 5 rfl (fun K hK=>?_)
   go_simp
   refine (collect_any k1 bm L1 _ (HM1.out.below (Nat.le_refl _) HC2.out) HW1.out hl1 hk1 hk1l).mono ?_
   rintro en wc3 ⟨a1,e1,s1,rfl,hp1,ho1,hbk⟩
   have HP1:=Zh (hp1.trans (List.Perm.of_eq HK1.out))
   have HZ1:=Zh (show Zs wc3 (.slice a1 s1.length e1) s1 from SlV.of_own ho1)
   have hs1:s1.length≤1048576:=by rw [hp1.length_eq,List.length_map];exact hl1
   have hbk':Below wc2.heap.size wc2 wc3:=hbk
   have HC3:=Zh (show Below w.heap.size w wc3 from HC2.out.trans (hbk'.mono HC2.out.size))
   have HZ3':=Zh (SlV.below HZ3.out (Nat.le_refl _) hbk')
   clear HZ3
   have HZ3:=HZ3'
   clear HZ3'
   have hk1':=(hbk'.cell (p:=⟨k1,0,none⟩) hk1l).trans hk1
   have hk1l':=Nat.lt_of_lt_of_le hk1l hbk'.size
   clear hk1 hk1l
   have hk1:=hk1'
   have hk1l:=hk1l'
   clear hk1' hk1l'
   clear hp1 ho1 hbk hbk'
   refine hK.out _ _ ?_ (fun hH3=>?_)
   ·exact ⟨(HC3.out.cell (p:=⟨bl,0,none⟩) hbl).trans c0,(HC3.out.cell (p:=⟨bl,1,none⟩) hbl).trans c1,(HC3.out.cell (p:=⟨ul,0,none⟩) hul).trans d0,(HC3.out.cell (p:=⟨ul,1,none⟩) hul).trans d1⟩
   clear hK K
   refine rD 10 rfl (fun K hK=>?_)
   go_simp
   refine (keysC_any (some um) _).mono ?_
   rintro en wc4 ⟨k2,rfl,hk2,hk2l,hbk⟩
   have hbk':Below wc3.heap.size wc3 wc4:=hbk
   have HC4:=Zh (show Below w.heap.size w wc4 from HC3.out.trans (hbk'.mono HC3.out.size))
   have HZ3':=Zh (SlV.below HZ3.out (Nat.le_refl _) hbk')
   clear HZ3
   have HZ3:=HZ3'
   clear HZ3'
   have hk1':=(hbk'.cell (p:=⟨k1,0,none⟩) hk1l).trans hk1
   have hk1l':=Nat.lt_of_lt_of_le hk1l hbk'.size
   clear hk1 hk1l
   have hk1:=hk1'
   have hk1l:=hk1l'
   clear hk1' hk1l'
   have HZ1':=Zh (SlV.below HZ1.out (Nat.le_refl _) hbk')
   clear HZ1
   have HZ1:=HZ1'
   clear HZ1'
   clear hbk hbk'
   refine hK.out _ _ ?_ (fun hH4=>?_)
   ·exact ⟨(HC4.out.cell (p:=⟨bl,0,none⟩) hbl).trans c0,(HC4.out.cell (p:=⟨bl,1,none⟩) hbl).trans c1,(HC4.out.cell (p:=⟨ul,0,none⟩) hul).trans d0,(HC4.out.cell (p:=⟨ul,1,none⟩) hul).trans d1⟩
   clear hK K
   refine rD 11 rfl (fun K hK=>?_)
   go_simp
   refine (collect_any k2 um L2 _ (HM2.out.below (Nat.le_refl _) HC4.out) HW2.out hl2 hk2 hk2l).mono ?_
   rintro en wc5 ⟨a2,e2,s2,rfl,hp2,ho2,hbk⟩
   have HP2:=Zh (hp2.trans (List.Perm.of_eq HK2.out))
   have HZ2:=Zh (show Zs wc5 (.slice a2 s2.length e2) s2 from SlV.of_own ho2)
   have hs2:s2.length≤1048576:=by rw [hp2.length_eq,List.length_map];exact hl2
   have hbk':Below wc4.heap.size wc4 wc5:=hbk
   have HC5:=Zh (show Below w.heap.size w wc5 from HC4.out.trans (hbk'.mono HC4.out.size))
   have HZ3':=Zh (SlV.below HZ3.out (Nat.le_refl _) hbk')
   clear HZ3
   have HZ3:=HZ3'
   clear HZ3'
   have hk1':=(hbk'.cell (p:=⟨k1,0,none⟩) hk1l).trans hk1
   have hk1l':=Nat.lt_of_lt_of_le hk1l hbk'.size
   clear hk1 hk1l
   have hk1:=hk1'
   have hk1l:=hk1l'
   clear hk1' hk1l'
   have HZ1':=Zh (SlV.below HZ1.out (Nat.le_refl _) hbk')
   clear HZ1
   have HZ1:=HZ1'
   clear HZ1'
   have hk2':=(hbk'.cell (p:=⟨k2,0,none⟩) hk2l).trans hk2
   have hk2l':=Nat.lt_of_lt_of_le hk2l hbk'.size
   clear hk2 hk2l
   have hk2:=hk2'
   have hk2l:=hk2l'
   clear hk2' hk2l'
   clear hp2 ho2 hbk hbk'
   refine hK.out _ _ ?_ (fun hH5=>?_)
   ·exact ⟨(HC5.out.cell (p:=⟨bl,0,none⟩) hbl).trans c0,(HC5.out.cell (p:=⟨bl,1,none⟩) hbl).trans c1,(HC5.out.cell (p:=⟨ul,0,none⟩) hul).trans d0,(HC5.out.cell (p:=⟨ul,1,none⟩) hul).trans d1⟩
   clear hK K
   refine rD 22 rfl (fun K hK=>?_)
   go_simp
   have hnew:=alloc_new wc5 (.cells #[.slice a1 s1.length e1,.slice a2 s2.length e2,.slice (some ⟨w.heap.size,0,none⟩) 1 1] 42)
   have hbk:Below wc5.heap.size wc5 (wc5.alloc (.cells #[.slice a1 s1.length e1,.slice a2 s2.length e2,.slice (some ⟨w.heap.size,0,none⟩) 1 1] 42)):=by go_grown
   generalize wc5.alloc (.cells #[.slice a1 s1.length e1,.slice a2 s2.length e2,.slice (some ⟨w.heap.size,0,none⟩) 1 1] 42)=wc6 at *
   have HR:=Zh (slv_3 hnew)
   have HC6:=Zh (show Below w.heap.size w wc6 from HC5.out.trans (hbk.mono HC5.out.size))
   have HZ3':=Zh (SlV.below HZ3.out (Nat.le_refl _) hbk)
   clear HZ3
   have HZ3:=HZ3'
   clear HZ3'
   have hk1':=(hbk.cell (p:=⟨k1,0,none⟩) hk1l).trans hk1
   have hk1l':=Nat.lt_of_lt_of_le hk1l hbk.size
   clear hk1 hk1l
   have hk1:=hk1'
   have hk1l:=hk1l'
   clear hk1' hk1l'
   have HZ1':=Zh (SlV.below HZ1.out (Nat.le_refl _) hbk)
   clear HZ1
   have HZ1:=HZ1'
   clear HZ1'
   have hk2':=(hbk.cell (p:=⟨k2,0,none⟩) hk2l).trans hk2
   have hk2l':=Nat.lt_of_lt_of_le hk2l hbk.size
   clear hk2 hk2l
   have hk2:=hk2'
   have hk2l:=hk2l'
   clear hk2' hk2l'
   have HZ2':=Zh (SlV.below HZ2.out (Nat.le_refl _) hbk)
   clear HZ2
   have HZ2:=HZ2'
   clear HZ2'
   clear hnew hbk
   refine hK.out _ _ ?_ (fun hH6=>?_)
   ·exact ⟨(HC6.out.cell (p:=⟨bl,0,none⟩) hbl).trans c0,(HC6.out.cell (p:=⟨bl,1,none⟩) hbl).trans c1,(HC6.out.cell (p:=⟨ul,0,none⟩) hul).trans d0,(HC6.out.cell (p:=⟨ul,1,none⟩) hul).trans d1⟩
   clear hK K
   refine rD 23 rfl (fun K hK=>?_)
   go_simp
   have hcc:=concatZ_any [(s1,a1,e1),(s2,a2,e2),([mn],some ⟨w.heap.size,0,none⟩,1)] (some ⟨wc5.heap.size,0,none⟩) 3 wc6 ⟨HR.out,fun x hx=>by
    simp only [List.mem_cons,List.not_mem_nil,or_false] at hx
    rcases hx with rfl | rfl | rfl
    ·exact HZ1.out
    ·exact HZ2.out
    ·exact HZ3.out⟩ (by simp [flatC];omega)
   obtain ⟨P,hP⟩:∃ P,P=s1++s2++[mn]:=⟨_,rfl⟩
   rw [show flatC [(s1,a1,e1),(s2,a2,e2),([mn],some ⟨w.heap.size,0,none⟩,1)]=P by rw [hP];simp [flatC]] at hcc
   have HP:=Lib.hid' hP
   clear hP
   refine hcc.mono ?_
   clear hcc
   rintro en wc7 ⟨a6,c6,rfl,ho6,hbk⟩
   have HO6:=Zh (own_base (B':=w.heap.size) ho6 HC6.out.size)
   have HC7:=Zh (show Below w.heap.size w wc7 from HC6.out.trans (hbk.mono HC6.out.size))
   clear ho6 hbk
   refine hK.out _ _ ?_ (fun hH7=>?_)
   ·exact ⟨(HC7.out.cell (p:=⟨bl,0,none⟩) hbl).trans c0,(HC7.out.cell (p:=⟨bl,1,none⟩) hbl).trans c1,(HC7.out.cell (p:=⟨ul,0,none⟩) hul).trans d0,(HC7.out.cell (p:=⟨ul,1,none⟩) hul).trans d1⟩
   clear hK K
   refine tA 24 (.slice a6 P.length c6) rfl hH7 ?_ ?_
   ·intro w hSw;go_simp
   simp only [Act.put,gA,gZ,gS,sA,sZ,sS]
   refine wpAnyH_done (by kernel_rfl) ?_ _
   go_wp2_with fail
   go_meet
   exact ⟨P,a6,c6,rfl,Zh (by rw [HP.out,←HMN.out];exact (HP1.out.append HP2.out).append_right _),HO6,HC7⟩
 case rest =>
 obtain ⟨P,a6,c6,rfl,HP,HO,HC⟩:=hcut
 have HPL:=Zh (show P.length≤2000001 by have:=HP.out.length_eq;simp at this;have:=HLA.out;have:=HLB.out;omega)
 go_upto_region 6 with fail
 obtain ⟨_,_,c2⟩:=(HA.out.below (Nat.le_refl _) HC.out).cell
 obtain ⟨_,_,d2⟩:=(HB.out.below (Nat.le_refl _) HC.out).cell
 have hbl:=(HA.out.below (Nat.le_refl _) HC.out).lt.1
 have hul:=(HB.out.below (Nat.le_refl _) HC.out).lt.1
 refine wp_region_held_drew (S:=(fun w'=>w'.cell? ⟨bl,2,none⟩=some (.int .i64 a.t)∧w'.cell? ⟨ul,2,none⟩=some (.int .i64 b.t))) (by kernel_rfl) ⟨by simpa using c2,by simpa using d2⟩ (fun hH0=>?_)
 refine tA 0 (.pointer (some ⟨bl,0,none⟩)) rfl hH0 ?_ ?_
 ·intro w hSw;go_simp
 simp only [Act.put,gA,gZ,gS,sA,sZ,sS]
 refine tA 1 (.pointer (some ⟨bl,0,none⟩)) rfl hH0 ?_ ?_
 ·intro w hSw;go_simp
 simp only [Act.put,gA,gZ,gS,sA,sZ,sS]
 refine tA 2 (.pointer (some ⟨bl,2,none⟩)) rfl hH0 ?_ ?_
 ·intro w hSw;go_simp
 simp only [Act.put,gA,gZ,gS,sA,sZ,sS]
 refine tA 3 (.int .i64 a.t) rfl hH0 ?_ ?_
 ·intro w hSw;go_simp
 simp only [Act.put,gA,gZ,gS,sA,sZ,sS]
 refine tA 4 (.pointer (some ⟨ul,0,none⟩)) rfl hH0 ?_ ?_
 ·intro w hSw;go_simp
 simp only [Act.put,gA,gZ,gS,sA,sZ,sS]
 refine tA 5 (.pointer (some ⟨ul,0,none⟩)) rfl hH0 ?_ ?_
 ·intro w hSw;go_simp
 simp only [Act.put,gA,gZ,gS,sA,sZ,sS]
 refine tA 6 (.pointer (some ⟨ul,2,none⟩)) rfl hH0 ?_ ?_
 ·intro w hSw;go_simp
 simp only [Act.put,gA,gZ,gS,sA,sZ,sS]
 refine tA 7 (.int .i64 b.t) rfl hH0 ?_ ?_
 ·intro w hSw;go_simp
 simp only [Act.put,gA,gZ,gS,sA,sZ,sS]
 refine tA 8 (.bool (a.t != b.t)) rfl hH0 ?_ ?_
 ·intro w hSw;go_simp
 simp only [Act.put,gA,gZ,gS,sA,sZ,sS]
 refine wpAnyH_done (by kernel_rfl) ?_ _
 have hbd:Below wc.heap.size wc wc.drew:=Below.drew (Below.refl _ _)
 have HD:=Zh (HC.out.trans (hbd.mono HC.out.size))
 have HOD:=Zh (own_below HO.out (Nat.le_refl _) hbd)
 have c2d:=(hbd.cell (p:=⟨bl,2,none⟩) hbl).trans c2
 have d2d:=(hbd.cell (p:=⟨ul,2,none⟩) hul).trans d2
 have hbld:=Nat.lt_of_lt_of_le hbl hbd.size
 have huld:=Nat.lt_of_lt_of_le hul hbd.size
 clear hbd c2 d2 hbl hul HO HC
 generalize wc.drew=wq at *
 go_upto_if 48 with fail
 go_cut [6] (fun v6 wd=>∃ (Q:List Int) (a6:Option Addr) (c6:Nat),v6=.slice a6 Q.length c6∧Hid (Q.Perm (M.places a b))∧Hid (wd.ownsRow w.heap.size 3 1 (.slice a6 Q.length c6) Q.length (zVs Q))∧Hid (Below w.heap.size w wd))
 case first =>
  cases hne:(a.t != b.t) with
  | false =>
   have HNE:=Zh (show a.t=b.t by simpa using hne)
   go_wp2_with fail
   go_meet
   exact ⟨P,a6,c6,rfl,Zh (by unfold M.places;rw [if_neg (by simpa using HNE.out),List.append_nil];exact HP.out),HOD,HD⟩
  | true =>
   have HNE:=Zh (show a.t≠b.t by simpa using hne)
   clear hne
   obtain ⟨mn,hmn⟩:∃ mn,mn=min a.t b.t:=⟨_,rfl⟩
   have HMN:=Lib.hid' hmn
   clear hmn
   have hpl:=HPL.out
   have hzq:=HD.out.size
   go_upto_region 7 with fail
   refine wp_region_held_drew (S:=(fun w'=>w'.cell? ⟨bl,2,none⟩=some (.int .i64 a.t)∧w'.cell? ⟨ul,2,none⟩=some (.int .i64 b.t))) (by kernel_rfl) ⟨by simpa using c2d,by simpa using d2d⟩ (fun hH0=>?_)
   refine tA 0 (.slice a6 P.length c6) rfl hH0 ?_ ?_
   ·intro w hSw;go_simp
   simp only [Act.put,gA,gZ,gS,sA,sZ,sS]
   refine tA 1 (.pointer (some ⟨bl,0,none⟩)) rfl hH0 ?_ ?_
   ·intro w hSw;go_simp
   simp only [Act.put,gA,gZ,gS,sA,sZ,sS]
   refine tA 2 (.pointer (some ⟨bl,0,none⟩)) rfl hH0 ?_ ?_
   ·intro w hSw;go_simp
   simp only [Act.put,gA,gZ,gS,sA,sZ,sS]
   refine tA 3 (.pointer (some ⟨bl,2,none⟩)) rfl hH0 ?_ ?_
   ·intro w hSw;go_simp
   simp only [Act.put,gA,gZ,gS,sA,sZ,sS]
   refine tA 4 (.int .i64 a.t) rfl hH0 ?_ ?_
   ·intro w hSw;go_simp
   simp only [Act.put,gA,gZ,gS,sA,sZ,sS]
   refine tA 5 (.pointer (some ⟨ul,0,none⟩)) rfl hH0 ?_ ?_
   ·intro w hSw;go_simp
   simp only [Act.put,gA,gZ,gS,sA,sZ,sS]
   refine tA 6 (.pointer (some ⟨ul,0,none⟩)) rfl hH0 ?_ ?_
   ·intro w hSw;go_simp
   simp only [Act.put,gA,gZ,gS,sA,sZ,sS]
   refine tA 7 (.pointer (some ⟨ul,2,none⟩)) rfl hH0 ?_ ?_
   ·intro w hSw;go_simp
   simp only [Act.put,gA,gZ,gS,sA,sZ,sS]
   refine tA 8 (.int .i64 b.t) rfl hH0 ?_ ?_
   ·intro w hSw;go_simp
   simp only [Act.put,gA,gZ,gS,sA,sZ,sS]
   refine tA 9 (.int .i64 mn) rfl hH0 ?_ ?_
   ·intro w hSw;rw [HMN.out];go_simp
   simp only [Act.put,gA,gZ,gS,sA,sZ,sS]
   refine rD 10 rfl (fun K hK=>?_)
   go_simp
   refine hK.out _ _ ?_ (fun hH1=>?_)
   ·exact ⟨by simp [go_sem,c2d,hbld],by simp [go_sem,d2d,huld]⟩
   clear hK K
   refine rD 11 rfl (fun K hK=>?_)
   refine step_one2 (w:=wq.drew) etInts rfl (.tmp 49) (.tmp 59) rfl [.int .i64 mn] rfl w.heap.size P.length (zVs P) (.slice a6 P.length c6) rfl HOD.out rfl (by simp [Value.oneCell']) (by omega) (by show w.heap.size≤wq.heap.size;exact hzq) ?_
   intro a9 c9 w9 ho9 hf9 hq9
   have HF9:=Zh ((Fr.of_below (F:=fun q=>(Value.slice a6 P.length c6).ownBlock=some q) (Below.drew (Below.refl _ wq))).trans hf9 (fun i hi=>.inl hi))
   have HO9:=Zh (show w9.ownsRow w.heap.size 3 1 (.slice a9 (P++[mn]).length c9) (P++[mn]).length (zVs (P++[mn])) by rw [show (P++[mn]).length=P.length+1 by simp,zVs_append];exact ho9)
   have hb9:Below w.heap.size w w9:=HD.out.trans (HF9.out.below hzq (fun q hq=>(own_blk HOD.out hq).1))
   have HB9:=Lib.hid' hb9
   clear ho9 hf9 hq9 hb9
   refine hK.out _ _ ?_ (fun hH2=>?_)
   ·exact ⟨(HA.out.below (Nat.le_refl _) HB9.out).cell.2.2,(HB.out.below (Nat.le_refl _) HB9.out).cell.2.2⟩
   clear hK K
   refine tA 12 (.slice a9 (P.length+1) c9) rfl hH2 ?_ ?_
   ·intro w hSw;go_simp
   simp only [Act.put,gA,gZ,gS,sA,sZ,sS]
   refine wpAnyH_done (by kernel_rfl) ?_ _
   go_wp2_with fail
   go_meet
   exact ⟨P++[mn],a9,c9,by rw [show (P++[mn]).length=P.length+1 by simp],Zh (by unfold M.places;rw [if_pos HNE.out,←HMN.out];exact HP.out.append_right _),HO9,HB9⟩
 case rest =>
 clear HP HPL HOD HD c2d d2d hbld huld
 obtain ⟨Q,a7,c7,rfl,HQ,HO,HC⟩:=hcut
 have hql:Q.length≤2000002:=by
  have h1:=HQ.out.length_eq
  have h2:(if a.t≠b.t then [min a.t b.t] else []).length≤1:=by split<;>simp
  simp only [M.places,List.length_append,List.length_map,List.length_cons,List.length_nil] at h1
  have:=HLA.out;have:=HLB.out;omega
 go_wp2_with fail
 refine (sortZ_any Q a7 c7 wc HO.out (by omega)).mono ?_
 rintro en w5 ⟨rfl,ho5,hf5⟩
 have HPL:=Zh (show sortI Q=sortZ (M.places a b) from sortZ_eq HQ.out)
 have hsl:(sortI Q).length=Q.length:=(sortI_perm Q).length_eq
 have HB5:=Zh (HC.out.trans (hf5.below HC.out.size (fun q hq=>(own_blk HO.out hq).1)))
 have HDF:=Zh (show M.differ a b=findP (M.diffAt a b) (sortI Q) by rw [HPL.out];rfl)
 obtain ⟨R,hR⟩:∃ R,R=sortI Q:=⟨_,rfl⟩
 rw [←hR] at ho5 hsl HDF HPL
 rw [←hsl] at ho5 ⊢
 have HZ5:=Zh (show Zs w5 (.slice a7 R.length c7) R from SlV.of_own ho5)
 have hrl:R.length≤2000002:=by omega
 clear ho5 hf5 hR hsl hql HQ HO HC
 go_wp2_with fail
 go_loopw [65] (fun v65 wr=>∃ k:Nat,v65=.int .i64 k∧k≤R.length∧Hid (∀ y∈R.take k,M.diffAt a b y=false)∧Hid (Below w.heap.size w wr)∧Hid (Below w5.heap.size w5 wr)) (fun v65 _=>R.length - (intOf v65).toNat)
 case atStart=>exact ⟨0,rfl,Nat.zero_le _,Zh (by simp),HB5,Zh (Below.refl _ _)⟩
 case round =>
  obtain ⟨k,rfl,hk,HNO,HBW,HBJ⟩:=hrel
  by_cases hlt:k<R.length
  rotate_left
  ·have HD:=Zh (show M.differ a b=(0,false) by
    rw [HDF.out]
    have h1:=HNO.out
    rw [List.take_of_length_le (by omega)] at h1
    exact findP_no h1)
   go_wp2
   refine bodyPost_ret (v:=.tuple #[.int .i64 0,.bool false]) (by simp [results,Tryz.results14,go_sem]) rfl ⟨by rw [HD.out],HBW.out⟩
  obtain ⟨b3,off3,rfl,hb3,hc3⟩:=(show Zs wr (.slice a7 R.length c7) R from SlV.below HZ5.out (Nat.le_refl _) HBJ.out).at hlt
  have HHIT:=Zh (fun h2=>HDF.out.trans (findP_hit hlt HNO.out h2))
  have HNXT:=Zh (fun h2=>take_no (f:=M.diffAt a b) hlt HNO.out h2)
  generalize R[k]=q at *
  have HAr:=Zh (HA.out.below (Nat.le_refl _) HBW.out)
  have HBr:=Zh (HB.out.below (Nat.le_refl _) HBW.out)
  obtain ⟨_,_,c2⟩:=HAr.out.cell
  obtain ⟨_,_,d2⟩:=HBr.out.cell
  go_upto_region 12 with fail
  clear hb3 hc3
  go_cut [9] (fun v9 wx=>v9=.bool (a.t != b.t&&q==min a.t b.t)∧Hid (Below wr.heap.size wr wx))
  case first =>
   have hbd:Below wr.heap.size wr wr.drew:=Below.drew (Below.refl _ _)
   have HBD:=Lib.hid' hbd
   clear hbd
   cases hne:(a.t != b.t) with
   | false =>
    have HNE:=Lib.hid' hne

    refine wp_region_held_drew (S:=(fun w'=>w'.cell? ⟨bl,2,none⟩=some (.int .i64 a.t)∧w'.cell? ⟨ul,2,none⟩=some (.int .i64 b.t))) (by kernel_rfl) ⟨by simpa using c2,by simpa using d2⟩ (fun hH0=>?_)
    refine tA 0 (.pointer (some ⟨bl,0,none⟩)) rfl hH0 ?_ ?_
    ·intro w hSw;go_simp
    simp only [Act.put,gA,gZ,gS,sA,sZ,sS]
    refine tA 1 (.pointer (some ⟨bl,0,none⟩)) rfl hH0 ?_ ?_
    ·intro w hSw;go_simp
    simp only [Act.put,gA,gZ,gS,sA,sZ,sS]
    refine tA 2 (.pointer (some ⟨bl,2,none⟩)) rfl hH0 ?_ ?_
    ·intro w hSw;go_simp
    simp only [Act.put,gA,gZ,gS,sA,sZ,sS]
    refine tA 3 (.int .i64 a.t) rfl hH0 ?_ ?_
    ·intro w hSw;go_simp
    simp only [Act.put,gA,gZ,gS,sA,sZ,sS]
    refine tA 4 (.pointer (some ⟨ul,0,none⟩)) rfl hH0 ?_ ?_
    ·intro w hSw;go_simp
    simp only [Act.put,gA,gZ,gS,sA,sZ,sS]
    refine tA 5 (.pointer (some ⟨ul,0,none⟩)) rfl hH0 ?_ ?_
    ·intro w hSw;go_simp
    simp only [Act.put,gA,gZ,gS,sA,sZ,sS]
    refine tA 6 (.pointer (some ⟨ul,2,none⟩)) rfl hH0 ?_ ?_
    ·intro w hSw;go_simp
    simp only [Act.put,gA,gZ,gS,sA,sZ,sS]
    refine tA 7 (.int .i64 b.t) rfl hH0 ?_ ?_
    ·intro w hSw;go_simp
    simp only [Act.put,gA,gZ,gS,sA,sZ,sS]
    refine tA 8 (.bool false) rfl hH0 ?_ ?_
    ·intro w hSw;go_simp
    simp only [Act.put,gA,gZ,gS,sA,sZ,sS]
    refine tA 9 (.bool false) rfl hH0 ?_ ?_
    ·intro w hSw;go_simp
    simp only [Act.put,gA,gZ,gS,sA,sZ,sS]
    refine tU 10 rfl hH0 ?_
    simp only [Act.put,gA,gZ,gS,sA,sZ,sS]
    refine tU 11 rfl hH0 ?_
    simp only [Act.put,gA,gZ,gS,sA,sZ,sS]
    refine tU 12 rfl hH0 ?_
    simp only [Act.put,gA,gZ,gS,sA,sZ,sS]
    refine tU 13 rfl hH0 ?_
    simp only [Act.put,gA,gZ,gS,sA,sZ,sS]
    refine tU 14 rfl hH0 ?_
    simp only [Act.put,gA,gZ,gS,sA,sZ,sS]
    refine tU 15 rfl hH0 ?_
    simp only [Act.put,gA,gZ,gS,sA,sZ,sS]
    refine tU 16 rfl hH0 ?_
    simp only [Act.put,gA,gZ,gS,sA,sZ,sS]
    refine tU 17 rfl hH0 ?_
    simp only [Act.put,gA,gZ,gS,sA,sZ,sS]
    refine tU 18 rfl hH0 ?_
    simp only [Act.put,gA,gZ,gS,sA,sZ,sS]
    refine tU 19 rfl hH0 ?_
    simp only [Act.put,gA,gZ,gS,sA,sZ,sS]
    refine tU 20 rfl hH0 ?_
    simp only [Act.put,gA,gZ,gS,sA,sZ,sS]
    refine tA 21 (.bool false) rfl hH0 ?_ ?_
    ·intro w hSw;go_simp
    simp only [Act.put,gA,gZ,gS,sA,sZ,sS]
    refine tA 22 (.bool false) rfl hH0 ?_ ?_
    ·intro w hSw;go_simp
    simp only [Act.put,gA,gZ,gS,sA,sZ,sS]
    refine wpAnyH_done (by kernel_rfl) ?_ _
    go_wp2_with fail
    go_meet
    exact ⟨by rw [HNE.out];rfl,HBD⟩
   | true =>
    have HNE:=Lib.hid' hne
    obtain ⟨mn,hmn⟩:∃ mn,mn=min a.t b.t:=⟨_,rfl⟩
    have HMN:=Lib.hid' hmn
    clear hmn
    cases hqm:(q==mn) with
    | false =>
     have HQM:=Lib.hid' hqm
     refine wp_region_held_drew (S:=(fun w'=>w'.cell? ⟨bl,2,none⟩=some (.int .i64 a.t)∧w'.cell? ⟨ul,2,none⟩=some (.int .i64 b.t))) (by kernel_rfl) ⟨by simpa using c2,by simpa using d2⟩ (fun hH0=>?_)
     refine tA 0 (.pointer (some ⟨bl,0,none⟩)) rfl hH0 ?_ ?_
     ·intro w hSw;go_simp
     simp only [Act.put,gA,gZ,gS,sA,sZ,sS]
     refine tA 1 (.pointer (some ⟨bl,0,none⟩)) rfl hH0 ?_ ?_
     ·intro w hSw;go_simp
     simp only [Act.put,gA,gZ,gS,sA,sZ,sS]
     refine tA 2 (.pointer (some ⟨bl,2,none⟩)) rfl hH0 ?_ ?_
     ·intro w hSw;go_simp
     simp only [Act.put,gA,gZ,gS,sA,sZ,sS]
     refine tA 3 (.int .i64 a.t) rfl hH0 ?_ ?_
     ·intro w hSw;go_simp
     simp only [Act.put,gA,gZ,gS,sA,sZ,sS]
     refine tA 4 (.pointer (some ⟨ul,0,none⟩)) rfl hH0 ?_ ?_
     ·intro w hSw;go_simp
     simp only [Act.put,gA,gZ,gS,sA,sZ,sS]
     refine tA 5 (.pointer (some ⟨ul,0,none⟩)) rfl hH0 ?_ ?_
     ·intro w hSw;go_simp
     simp only [Act.put,gA,gZ,gS,sA,sZ,sS]
     refine tA 6 (.pointer (some ⟨ul,2,none⟩)) rfl hH0 ?_ ?_
     ·intro w hSw;go_simp
     simp only [Act.put,gA,gZ,gS,sA,sZ,sS]
     refine tA 7 (.int .i64 b.t) rfl hH0 ?_ ?_
     ·intro w hSw;go_simp
     simp only [Act.put,gA,gZ,gS,sA,sZ,sS]
     refine tA 8 (.bool true) rfl hH0 ?_ ?_
     ·intro w hSw;go_simp
     simp only [Act.put,gA,gZ,gS,sA,sZ,sS]
     refine tA 9 (.bool true) rfl hH0 ?_ ?_
     ·intro w hSw;go_simp
     simp only [Act.put,gA,gZ,gS,sA,sZ,sS]
     refine tA 10 (.int .i64 q) rfl hH0 ?_ ?_
     ·intro w hSw;go_simp
     simp only [Act.put,gA,gZ,gS,sA,sZ,sS]
     refine tA 11 (.pointer (some ⟨bl,0,none⟩)) rfl hH0 ?_ ?_
     ·intro w hSw;go_simp
     simp only [Act.put,gA,gZ,gS,sA,sZ,sS]
     refine tA 12 (.pointer (some ⟨bl,0,none⟩)) rfl hH0 ?_ ?_
     ·intro w hSw;go_simp
     simp only [Act.put,gA,gZ,gS,sA,sZ,sS]
     refine tA 13 (.pointer (some ⟨bl,2,none⟩)) rfl hH0 ?_ ?_
     ·intro w hSw;go_simp
     simp only [Act.put,gA,gZ,gS,sA,sZ,sS]
     refine tA 14 (.int .i64 a.t) rfl hH0 ?_ ?_
     ·intro w hSw;go_simp
     simp only [Act.put,gA,gZ,gS,sA,sZ,sS]
     refine tA 15 (.pointer (some ⟨ul,0,none⟩)) rfl hH0 ?_ ?_
     ·intro w hSw;go_simp
     simp only [Act.put,gA,gZ,gS,sA,sZ,sS]
     refine tA 16 (.pointer (some ⟨ul,0,none⟩)) rfl hH0 ?_ ?_
     ·intro w hSw;go_simp
     simp only [Act.put,gA,gZ,gS,sA,sZ,sS]
     refine tA 17 (.pointer (some ⟨ul,2,none⟩)) rfl hH0 ?_ ?_
     ·intro w hSw;go_simp
     simp only [Act.put,gA,gZ,gS,sA,sZ,sS]
     refine tA 18 (.int .i64 b.t) rfl hH0 ?_ ?_
     ·intro w hSw;go_simp
     simp only [Act.put,gA,gZ,gS,sA,sZ,sS]
     refine tA 19 (.int .i64 mn) rfl hH0 ?_ ?_
     ·intro w hSw;rw [HMN.out];go_simp
     simp only [Act.put,gA,gZ,gS,sA,sZ,sS]
     refine tA 20 (.bool false) rfl hH0 ?_ ?_
     ·intro w hSw;go_simp
     simp only [Act.put,gA,gZ,gS,sA,sZ,sS]
     refine tA 21 (.bool false) rfl hH0 ?_ ?_
     ·intro w hSw;go_simp
     simp only [Act.put,gA,gZ,gS,sA,sZ,sS]
     refine tA 22 (.bool false) rfl hH0 ?_ ?_
     ·intro w hSw;go_simp
     simp only [Act.put,gA,gZ,gS,sA,sZ,sS]
     refine wpAnyH_done (by kernel_rfl) ?_ _
     go_wp2_with fail
     go_meet
     exact ⟨by rw [HNE.out,←HMN.out,HQM.out];rfl,HBD⟩
    | true =>
     have HQM:=Lib.hid' hqm
     refine wp_region_held_drew (S:=(fun w'=>w'.cell? ⟨bl,2,none⟩=some (.int .i64 a.t)∧w'.cell? ⟨ul,2,none⟩=some (.int .i64 b.t))) (by kernel_rfl) ⟨by simpa using c2,by simpa using d2⟩ (fun hH0=>?_)
     refine tA 0 (.pointer (some ⟨bl,0,none⟩)) rfl hH0 ?_ ?_
     ·intro w hSw;go_simp
     simp only [Act.put,gA,gZ,gS,sA,sZ,sS]
     refine tA 1 (.pointer (some ⟨bl,0,none⟩)) rfl hH0 ?_ ?_
     ·intro w hSw;go_simp
     simp only [Act.put,gA,gZ,gS,sA,sZ,sS]
     refine tA 2 (.pointer (some ⟨bl,2,none⟩)) rfl hH0 ?_ ?_
     ·intro w hSw;go_simp
     simp only [Act.put,gA,gZ,gS,sA,sZ,sS]
     refine tA 3 (.int .i64 a.t) rfl hH0 ?_ ?_
     ·intro w hSw;go_simp
     simp only [Act.put,gA,gZ,gS,sA,sZ,sS]
     refine tA 4 (.pointer (some ⟨ul,0,none⟩)) rfl hH0 ?_ ?_
     ·intro w hSw;go_simp
     simp only [Act.put,gA,gZ,gS,sA,sZ,sS]
     refine tA 5 (.pointer (some ⟨ul,0,none⟩)) rfl hH0 ?_ ?_
     ·intro w hSw;go_simp
     simp only [Act.put,gA,gZ,gS,sA,sZ,sS]
     refine tA 6 (.pointer (some ⟨ul,2,none⟩)) rfl hH0 ?_ ?_
     ·intro w hSw;go_simp
     simp only [Act.put,gA,gZ,gS,sA,sZ,sS]
     refine tA 7 (.int .i64 b.t) rfl hH0 ?_ ?_
     ·intro w hSw;go_simp
     simp only [Act.put,gA,gZ,gS,sA,sZ,sS]
     refine tA 8 (.bool true) rfl hH0 ?_ ?_
     ·intro w hSw;go_simp
     simp only [Act.put,gA,gZ,gS,sA,sZ,sS]
     refine tA 9 (.bool true) rfl hH0 ?_ ?_
     ·intro w hSw;go_simp
     simp only [Act.put,gA,gZ,gS,sA,sZ,sS]
     refine tA 10 (.int .i64 q) rfl hH0 ?_ ?_
     ·intro w hSw;go_simp
     simp only [Act.put,gA,gZ,gS,sA,sZ,sS]
     refine tA 11 (.pointer (some ⟨bl,0,none⟩)) rfl hH0 ?_ ?_
     ·intro w hSw;go_simp
     simp only [Act.put,gA,gZ,gS,sA,sZ,sS]
     refine tA 12 (.pointer (some ⟨bl,0,none⟩)) rfl hH0 ?_ ?_
     ·intro w hSw;go_simp
     simp only [Act.put,gA,gZ,gS,sA,sZ,sS]
     refine tA 13 (.pointer (some ⟨bl,2,none⟩)) rfl hH0 ?_ ?_
     ·intro w hSw;go_simp
     simp only [Act.put,gA,gZ,gS,sA,sZ,sS]
     refine tA 14 (.int .i64 a.t) rfl hH0 ?_ ?_
     ·intro w hSw;go_simp
     simp only [Act.put,gA,gZ,gS,sA,sZ,sS]
     refine tA 15 (.pointer (some ⟨ul,0,none⟩)) rfl hH0 ?_ ?_
     ·intro w hSw;go_simp
     simp only [Act.put,gA,gZ,gS,sA,sZ,sS]
     refine tA 16 (.pointer (some ⟨ul,0,none⟩)) rfl hH0 ?_ ?_
     ·intro w hSw;go_simp
     simp only [Act.put,gA,gZ,gS,sA,sZ,sS]
     refine tA 17 (.pointer (some ⟨ul,2,none⟩)) rfl hH0 ?_ ?_
     ·intro w hSw;go_simp
     simp only [Act.put,gA,gZ,gS,sA,sZ,sS]
     refine tA 18 (.int .i64 b.t) rfl hH0 ?_ ?_
     ·intro w hSw;go_simp
     simp only [Act.put,gA,gZ,gS,sA,sZ,sS]
     refine tA 19 (.int .i64 mn) rfl hH0 ?_ ?_
     ·intro w hSw;rw [HMN.out];go_simp
     simp only [Act.put,gA,gZ,gS,sA,sZ,sS]
     refine tA 20 (.bool true) rfl hH0 ?_ ?_
     ·intro w hSw;go_simp
     simp only [Act.put,gA,gZ,gS,sA,sZ,sS]
     refine tA 21 (.bool true) rfl hH0 ?_ ?_
     ·intro w hSw;go_simp
     simp only [Act.put,gA,gZ,gS,sA,sZ,sS]
     refine tA 22 (.bool true) rfl hH0 ?_ ?_
     ·intro w hSw;go_simp
     simp only [Act.put,gA,gZ,gS,sA,sZ,sS]
     refine wpAnyH_done (by kernel_rfl) ?_ _
     go_wp2_with fail
     go_meet
     exact ⟨by rw [HNE.out,←HMN.out,HQM.out];rfl,HBD⟩
  case rest =>
  obtain ⟨rfl,HBX⟩:=hcut
  have HBW2:=Zh (HBW.out.trans (HBX.out.mono HBW.out.size))
  have HBJ2:=Zh (HBJ.out.trans (HBX.out.mono HBJ.out.size))
  have HDA:=Zh (show M.diffAt a b q=((a.t != b.t&&q==min a.t b.t)||!(decide (a.u.at q=b.u.at q))) from rfl)
  generalize (a.t != b.t&&q==min a.t b.t)=en at *
  clear HBW HBJ HBX HAr HBr c2 d2
  cases en with
  | true =>
   have HD:=Zh (HHIT.out (by rw [HDA.out];rfl))
   go_wp2
   refine bodyPost_ret (v:=.tuple #[.int .i64 q,.bool true]) (by simp [results,Tryz.results14,go_sem]) rfl ⟨by rw [HD.out],HBW2.out⟩
  | false =>
  have HAx:=Zh (HA.out.below (Nat.le_refl _) HBW2.out)
  go_wp2_with fail
  refine (mat_any q wc HAx.out).mono ?_
  rintro en w6 ⟨x1,y1,rfl,ho1,hb6⟩
  have HBc:=Zh (show Bytes w6 (.slice x1 (a.u.at q).d.length y1) (a.u.at q).d from SlV.of_own ho1)
  have HBW6:=Zh (HBW2.out.trans (hb6.mono HBW2.out.size))
  have HBJ6:=Zh (HBJ2.out.trans (hb6.mono HBJ2.out.size))
  clear ho1 hb6
  go_wp2_with fail
  refine (mat_any q w6 (HB.out.below (Nat.le_refl _) HBW6.out)).mono ?_
  rintro en w7 ⟨x2,y2,rfl,ho2,hb7⟩
  have HSM:=Zh (same_any _ _ (a.u.at q) (b.u.at q) w7 ⟨x1,y1,rfl,SlV.below HBc.out (Nat.le_refl _) hb7⟩ ⟨x2,y2,rfl,SlV.of_own ho2⟩)
  have HBW7:=Zh (HBW6.out.trans (hb7.mono HBW6.out.size))
  have HBJ7:=Zh (HBJ6.out.trans (hb7.mono HBJ6.out.size))
  clear ho2 hb7
  go_wp2_with fail
  refine HSM.out.mono ?_
  rintro en w8 ⟨rfl,hb8⟩
  have HBW8:=Zh (HBW7.out.trans (hb8.mono HBW7.out.size))
  have HBJ8:=Zh (HBJ7.out.trans (hb8.mono HBJ7.out.size))
  clear hb8 HSM
  generalize decide (a.u.at q=b.u.at q)=dq at *
  cases dq with
  | true =>
   have HF:=Zh (HNXT.out (by rw [HDA.out];rfl))
   go_wp2_with fail
   go_roundw
   case rel=>exact ⟨k+1,by go_num,by omega,HF,HBW8,HBJ8⟩
   case measure=>simp [intOf];omega
  | false =>
   have HD:=Zh (HHIT.out (by rw [HDA.out];rfl))
   go_wp2
   refine bodyPost_ret (v:=.tuple #[.int .i64 q,.bool true]) (by simp [results,Tryz.results14,go_sem]) rfl ⟨by rw [HD.out],HBW8.out⟩
end Go.Proofs.YtimbeeiihbmofaaGreatDoor
