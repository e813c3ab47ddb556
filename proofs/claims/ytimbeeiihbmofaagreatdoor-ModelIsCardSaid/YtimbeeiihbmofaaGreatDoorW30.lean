/- Proved here: a part of the proof (30 of 37). -/
import Derived.Test.YtimbeeiihbmofaaGreatDoorW28
import Derived.Test.YtimbeeiihbmofaaGreatDoorW8
import Derived.Test.YtimbeeiihbmofaaGreatDoorW11
import Derived.Test.YtimbeeiihbmofaaGreatDoorW24
import Derived.Test.YtimbeeiihbmofaaGreatDoorW29
import Derived.Lib.SlBytesConst
import Derived.Test.YtimbeeiihbmofaaGreatDoorW7
set_option linter.unusedSimpArgs false
set_option linter.unusedVariables false
set_option maxRecDepth 100000
namespace Go.Proofs.YtimbeeiihbmofaaGreatDoor
open Go.RowKit
namespace SL
open DK SH SQ
/-- what a cluster goes on with, in its box -/
structure Bd where
 e:Int
 J:CJ
 sa:Option Addr
 sc:Nat
 st:List Int
 low:Int
abbrev bdB (N c:Nat) (b:Bd) (tail:Int):Asn:=.box N [ptrV c,.int .i64 b.e,.slice b.J.a b.J.Ks.length b.J.c,.slice b.sa b.st.length b.sc,.int .i64 b.low,.int .i64 tail] 82
abbrev ptrD (N B:Nat):Asn:=.box N [ptrV B] 80
/-- a unit is sealed; if it stays, its tail is looked at -/
def sealS (e:Int) (st:List Int) (s:Cl×Int) (u:Int):Nat×(Cl×Int):=((s.1.do u.toNat ⟨1,e,0,[]⟩).1,((s.1.do u.toNat ⟨1,e,0,[]⟩).2.2,if st.any (fun y=>u==y)=true then max s.2 (s.1.do u.toNat ⟨1,e,0,[]⟩).2.1 else s.2))
set_option maxHeartbeats 8000000 in
theorem seal1_any {c N B:Nat} {M:Cl} {J:CJ} {L:List Asn} {W:World} (b:Bd) (tail u:Int) (w:World) (hp:Pow W) (h:ClAt c M J (bdB B c b tail::ptrD N B::L) W w) (hu:0≤u∧u<(M.us.length:Int)) (hok:M.ok) (hZ:∀ M' w',ClAt c M' J L W w'→Zs w' (.slice b.sa b.st.length b.sc) b.st) :
  Calls Tryz.prog 123 #[.int .i64 u,ptrV N] w fun en w'=>en=.returned (errV (sealS b.e b.st (M,tail) u).1)∧ClAt c (sealS b.e b.st (M,tail) u).2.1 J (bdB B c b (sealS b.e b.st (M,tail) u).2.2::ptrD N B::L) W w':=by
 obtain ⟨k,rfl⟩:∃ k:Nat,u=k:=⟨u.toNat,by omega⟩
 have HZ:=Lib.hid' hZ
 have H:=Lib.hid' h
 have HD:=Zh (do_any k ⟨1,b.e,0,[]⟩ none 0 w.drew hp (h.below (Below.refl _ _).drew) (by omega) hok (SlV.of_own (own_nil _ 0 0 0)))
 rw [show ac9V (⟨1,b.e,0,[]⟩:Ac) none 0=.agg #[.int .i64 1,.int .i64 b.e,.int .i64 0,.slice none 0 0] from rfl] at HD
 have HW:=Zh (show sealS b.e b.st (M,tail) (k:Int)=((M.do k ⟨1,b.e,0,[]⟩).1,((M.do k ⟨1,b.e,0,[]⟩).2.2,if b.st.any (fun y=>(k:Int)==y)=true then max tail (M.do k ⟨1,b.e,0,[]⟩).2.1 else tail)) from rfl)
 have n0:=h.side.cell 1 rfl 0 rfl;have nl:=h.side.lt 1 rfl
 have b0:=h.side.cell 0 rfl 0 rfl;have b1:=h.side.cell 0 rfl 1 rfl;have bl:=h.side.lt 0 rfl
 clear h hu hok hp hZ
 generalize M.do k ⟨1,b.e,0,[]⟩=r at *
 obtain ⟨z,t,M1⟩:=r
 simp only at HD HW
 go_enter Tryz.func123, Tryz.ntmps123
 go_upto_region 1 with fail
 refine startD (S:=(fun w'=>w'.cell? ⟨N,0,none⟩=some (ptrV B)∧w'.cell? ⟨B,0,none⟩=some (ptrV c)∧w'.cell? ⟨B,1,none⟩=some (.int .i64 b.e)∧N<w'.heap.size∧B<w'.heap.size)) (by kernel_rfl) ⟨n0,b0,b1,nl,bl⟩ (fun hH0=>?_)
 simp only [List.length_cons,List.length_nil,Nat.reduceAdd,List.replicate_succ,List.replicate_zero]
 refine tD 0 7 (.pointer (some ⟨B,0,none⟩)) rfl rfl [(1,.pointer (some ⟨N,0,none⟩))] hH0 ?_
 dsimp only [sZ,sS]
 refine tD 1 8 (.pointer (some ⟨B,0,none⟩)) rfl rfl [(7,.pointer (some ⟨B,0,none⟩))] hH0 ?_
 dsimp only [sZ,sS]
 refine tD 2 9 (.pointer (some ⟨B,0,none⟩)) rfl rfl [(8,.pointer (some ⟨B,0,none⟩))] hH0 ?_
 dsimp only [sZ,sS]
 refine tD 3 10 (.pointer (some ⟨c,0,none⟩)) rfl rfl [(9,.pointer (some ⟨B,0,none⟩))] hH0 ?_
 dsimp only [sZ,sS]
 refine tD 4 11 (.int .i64 (k:Int)) rfl rfl [(0,.int .i64 (k:Int))] hH0 ?_
 dsimp only [sZ,sS]
 refine tD 5 12 (.pointer (some ⟨B,0,none⟩)) rfl rfl [(1,.pointer (some ⟨N,0,none⟩))] hH0 ?_
 dsimp only [sZ,sS]
 refine tD 6 13 (.pointer (some ⟨B,0,none⟩)) rfl rfl [(12,.pointer (some ⟨B,0,none⟩))] hH0 ?_
 dsimp only [sZ,sS]
 refine tD 7 14 (.pointer (some ⟨B,1,none⟩)) rfl rfl [(13,.pointer (some ⟨B,0,none⟩))] hH0 ?_
 dsimp only [sZ,sS]
 refine tD 8 15 (.pointer (some ⟨B,1,none⟩)) rfl rfl [(14,.pointer (some ⟨B,1,none⟩))] hH0 ?_
 dsimp only [sZ,sS]
 refine tD 9 16 (.int .i64 b.e) rfl rfl [(15,.pointer (some ⟨B,1,none⟩))] hH0 ?_
 dsimp only [sZ,sS]
 refine tD 10 17 (.agg #[.int .i64 1,.int .i64 b.e,.int .i64 0,.slice none 0 0]) rfl rfl [(16,.int .i64 b.e)] hH0 ?_
 dsimp only [sZ,sS]
 refine rD 11 rfl (fun K hK=>?_)
 go_simp
 refine HD.out.mono ?_
 rintro en w2 ⟨rfl,h2⟩
 have H2:=Lib.hid' h2
 have HF2:w2.cell? ⟨N,0,none⟩=some (ptrV B)∧w2.cell? ⟨B,0,none⟩=some (ptrV c)∧w2.cell? ⟨B,1,none⟩=some (.int .i64 b.e)∧N<w2.heap.size∧B<w2.heap.size:=⟨h2.side.cell 1 rfl 0 rfl,h2.side.cell 0 rfl 0 rfl,h2.side.cell 0 rfl 1 rfl,h2.side.lt 1 rfl,h2.side.lt 0 rfl⟩
 clear h2
 refine hK.out _ _ ?_ (fun hH1=>?_)
 ·exact HF2
 clear hK K
 try simp only [Act.put,gA,gZ,gS,sA,sZ,sS]
 refine tD 12 6 (.tuple #[.int .i64 t,errV z]) rfl rfl [(18,.tuple #[.int .i64 t,errV z])] hH1 ?_
 dsimp only [sZ,sS]
 refine tD 13 19 (.int .i64 t) rfl rfl [(6,.tuple #[.int .i64 t,errV z])] hH1 ?_
 dsimp only [sZ,sS]
 refine tD 14 20 (errV z) rfl rfl [(6,.tuple #[.int .i64 t,errV z])] hH1 ?_
 dsimp only [sZ,sS]
 refine tD 15 4 (.int .i64 t) rfl rfl [(19,.int .i64 t)] hH1 ?_
 dsimp only [sZ,sS]
 refine tD 16 5 (errV z) rfl rfl [(20,errV z)] hH1 ?_
 dsimp only [sZ,sS]
 refine wpAnyH_done (by kernel_rfl) ?_ _
 clear HF2 n0 nl b0 b1 bl HD
 have n0:=H2.out.side.cell 1 rfl 0 rfl;have nl:=H2.out.side.lt 1 rfl
 have b3:=H2.out.side.cell 0 rfl 3 rfl;have bl:=H2.out.side.lt 0 rfl
 have HCN:=Zh (containsZ_any (k:Int) b.st b.sa b.sc w2 (HZ.out _ _ (ClAt.less (K:=[_,_]) H2.out)))
 generalize b.st.any (fun y=>(k:Int)==y)=bo at *
 go_wp2_with fail
 refine HCN.out.mono ?_
 clear HCN
 rintro en wz ⟨rfl,rfl⟩
 cases bo with
 | false =>
  go_wp2_with fail
  go_ret
  rw [HW.out]
  exact ⟨rfl,H2.out⟩
 | true =>
  have b5:=H2.out.side.cell 0 rfl 5 rfl;have fz:=H2.out.side.free 0 rfl 5
  go_upto_region 3 with fail
  refine startD (S:=(fun w'=>w'.cell? ⟨N,0,none⟩=some (ptrV B)∧N<w'.heap.size∧B<w'.heap.size)) (by kernel_rfl) ⟨n0,nl,bl⟩ (fun hH0=>?_)
  simp only [List.length_cons,List.length_nil,Nat.reduceAdd,List.replicate_succ,List.replicate_zero]
  refine tD 0 27 (.pointer (some ⟨B,0,none⟩)) rfl rfl [(1,.pointer (some ⟨N,0,none⟩))] hH0 ?_
  dsimp only [sZ,sS]
  refine tD 1 28 (.pointer (some ⟨B,0,none⟩)) rfl rfl [(1,.pointer (some ⟨N,0,none⟩))] hH0 ?_
  dsimp only [sZ,sS]
  refine tD 2 29 (.pointer (some ⟨B,0,none⟩)) rfl rfl [(28,.pointer (some ⟨B,0,none⟩))] hH0 ?_
  dsimp only [sZ,sS]
  refine tD 3 30 (.pointer (some ⟨B,5,none⟩)) rfl rfl [(29,.pointer (some ⟨B,0,none⟩))] hH0 ?_
  dsimp only [sZ,sS]
  refine tD 5 32 (.int .i64 t) rfl rfl [(4,.int .i64 t)] hH0 ?_
  dsimp only [sZ,sS]
  refine rD 4 rfl (fun K hK=>?_)
  go_simp
  refine hK.out _ _ ?_ (fun hH1=>?_)
  ·exact hH0
  clear hK K
  try simp only [Act.put,gA,gZ,gS,sA,sZ,sS]
  refine tD 6 33 (.int .i64 (max tail t)) rfl rfl [(31,.int .i64 tail),(32,.int .i64 t)] hH1 ?_
  dsimp only [sZ,sS]
  refine tD 7 34 (.pointer (some ⟨B,0,none⟩)) rfl rfl [(27,.pointer (some ⟨B,0,none⟩))] hH1 ?_
  dsimp only [sZ,sS]
  refine tD 8 35 (.pointer (some ⟨B,5,none⟩)) rfl rfl [(34,.pointer (some ⟨B,0,none⟩))] hH1 ?_
  dsimp only [sZ,sS]
  refine rD 9 rfl (fun K hK=>?_)
  go_simp
  have H3:=Zh (H2.out.setB 5 (.int .i64 (max tail t)))
  simp only [List.set_cons_zero,List.set_cons_succ] at H3
  have H4:=Zh (H3.out.below (Below.refl _ _).drew)
  have HF4:=And.intro (H4.out.side.cell 1 rfl 0 rfl) (And.intro (H4.out.side.lt 1 rfl) (H4.out.side.lt 0 rfl))
  refine hK.out _ _ ?_ (fun hH2=>?_)
  ·exact HF4
  clear hK K
  refine wpAnyH_done (by kernel_rfl) ?_ _
  clear HF4 H3 n0 nl b3 bl b5 fz
  go_wp2_with fail
  go_ret
  rw [HW.out]
  exact ⟨rfl,H4.out⟩
theorem cf_seal (args:Array Value) (w:World):(callFunc 123 args).run Tryz.prog w=.ok (.enter 123 args) w:=by kernel_rfl
/-- what a rebuilding's walk leans on: the rows of what comes next, and of what stays -/
structure BdOk (c:Nat) (n:Nat) (J:CJ) (L:List Asn) (W:World) (b:Bd):Prop where
 ch:∀ M' w',ClAt c M' J L W w'→Chs w' b.J.a b.J.c b.J.Ks
 st:∀ M' w',ClAt c M' J L W w'→Zs w' (.slice b.sa b.st.length b.sc) b.st
 pj:PjOk ⟨b.e,b.J.Ks.map (·.1)⟩
 us:∀ u∈(⟨b.e,b.J.Ks.map (·.1)⟩:Pj).all,0≤u∧u<(n:Int)
def Bd.units (b:Bd):List Int:=unitsOf (⟨b.e,b.J.Ks.map (·.1)⟩:Pj).all
theorem BdOk.uf {c n:Nat} {J:CJ} {L:List Asn} {W:World} {b:Bd} (h:BdOk c n J L W b):b.units.length≤16∧∀ u∈b.units,0≤u∧u<(n:Int) :=
 ⟨Nat.le_trans (unitsOf_len _) (all_len h.pj),fun u hu=>h.us u ((unitsOf_mem u _).1 hu)⟩
theorem bunits_any {c n:Nat} {M:Cl} {J:CJ} {K L:List Asn} {W:World} {b:Bd} (w:World) (h:ClAt c M J (K++L) W w) (hb:BdOk c n J L W b) :
  Calls Tryz.prog 18 #[.agg #[.int .i64 b.e,.slice b.J.a b.J.Ks.length b.J.c]] w fun e w'=>∃ ua uc,e=.returned (.slice ua b.units.length uc)∧ClAt c M J (.row 3 1 (.slice ua b.units.length uc) b.units.length (zVs b.units)::(K++L)) W w':=by
 have h1:=hb.ch _ _ (ClAt.less h)
 have h3:=punits_any b.e b.J.a b.J.c b.J.Ks w h1 (Nat.le_trans (show (flatC b.J.Ks).length≤16 from all_len hb.pj) (by decide))
 rw [show pjV b.e b.J.a b.J.c b.J.Ks=.agg #[.int .i64 b.e,.slice b.J.a b.J.Ks.length b.J.c] from rfl] at h3
 refine h3.mono ?_
 intro e w' hE
 obtain ⟨ua,uc,rfl,ho,hb2⟩:=hE
 exact ⟨ua,uc,rfl,h.belowRow hb2 ho⟩
theorem sealS_stay {M:Cl} {e:Int} {st:List Int} {s:Cl×Int} {u:Int} (h:Stay M s.1∧s.1.ok):Stay M (sealS e st s u).2.1∧(sealS e st s u).2.1.ok:=⟨h.1.do _ _,h.2.do _ _⟩
set_option maxHeartbeats 8000000 in
theorem seal_any {c B:Nat} {M:Cl} {J:CJ} {L:List Asn} {W:World} (b:Bd) (tail:Int) (w:World) (hp:Pow W) (h:ClAt c M J (bdB B c b tail::L) W w) (hok:M.ok) (hb:BdOk c M.us.length J L W b) :
  Calls Tryz.prog 89 #[ptrV B] w fun en w'=>en=.returned (errV (allC (sealS b.e b.st) b.units (M,tail)).1)∧ClAt c (allC (sealS b.e b.st) b.units (M,tail)).2.1 J (bdB B c b (allC (sealS b.e b.st) b.units (M,tail)).2.2::L) W w'∧Stay M (allC (sealS b.e b.st) b.units (M,tail)).2.1∧(allC (sealS b.e b.st) b.units (M,tail)).2.1.ok:=by
 have h1:=(h.allocB w.heap.size [ptrV B] 80 rfl).swapB
 have e0:w.alloc (.cells [ptrV B].toArray 80)=w.alloc (.cells #[ptrV B] 80):=rfl
 rw [e0] at h1
 obtain ⟨w1,hw1⟩:∃ w1,w.alloc (.cells #[ptrV B] 80)=w1:=⟨_,rfl⟩
 obtain ⟨N,hN⟩:∃ n,n=w.heap.size:=⟨_,rfl⟩
 rw [hw1,←hN] at h1
 have H1:=Lib.hid' h1
 have HB:=Lib.hid' hb
 have HP:=Lib.hid' hp
 have HOK:=Lib.hid' hok
 have HUF:=Lib.hid' hb.uf
 have HUN:=Zh (bunits_any (K:=[bdB B c b tail,ptrD N B]) w1 h1 hb)
 have n0:=h1.side.cell 1 rfl 0 rfl;have nl:=h1.side.lt 1 rfl
 have b1:=h1.side.cell 0 rfl 1 rfl;have b2:=h1.side.cell 0 rfl 2 rfl;have bl:=h1.side.lt 0 rfl
 clear h h1 hb hp hok e0
 generalize b.units=l at *
 go_enter Tryz.func89, Tryz.ntmps89
 go_upto_region 1 with fail
 try rw [hw1]
 rw [←hN]
 clear hw1 hN
 go_wp2_with fail
 refine HUN.out.mono ?_
 clear HUN n0 nl b1 b2 bl
 rintro en w2 ⟨ua,uc,rfl,h2⟩
 have H2:=Zh (show ClAt c M J (bdB B c b tail::ptrD N B::(.row 3 1 (.slice ua l.length uc) l.length (zVs l)::L)) W w2 from h2.permL (List.perm_middle (l₁:=[_,_])).symm)
 have HI:=Zh (show ClAt c M J (bdB B c b tail::ptrD N B::(.row 3 1 (.slice ua l.length uc) l.length (zVs l)::L)) W w2∧Stay M M∧M.ok from ⟨H2.out,Stay.refl M,HOK.out⟩)
 have HDO:=Zh (show DoesU 123 #[ptrV N] (sealS b.e b.st) (fun (s:Cl×Int) (w:World)=>ClAt c s.1 J (bdB B c b s.2::ptrD N B::(.row 3 1 (.slice ua l.length uc) l.length (zVs l)::L)) W w∧Stay M s.1∧s.1.ok) l from fun s v w hv hI=>by
  refine (seal1_any (N:=N) b s.2 v w HP.out hI.1 (by rw [hI.2.1.us];exact HUF.out.2 v hv) hI.2.2 (fun M' w' h'=>HB.out.st M' w' (ClAt.less (K:=[_]) h'))).mono ?_
  rintro en w' ⟨rfl,h'⟩
  exact ⟨rfl,h',sealS_stay hI.2⟩)
 have HALL:=Zh (all_any 123 #[ptrV N] (sealS b.e b.st) (fun (s:Cl×Int) (w:World)=>ClAt c s.1 J (bdB B c b s.2::ptrD N B::(.row 3 1 (.slice ua l.length uc) l.length (zVs l)::L)) W w∧Stay M s.1∧s.1.ok) l ua uc (M,tail) w2 (by have:=HUF.out.1;omega) (fun s w hI=>SlV.of_own (hI.1.side.row 2 rfl)) cf_seal HDO.out HI.out)
 clear h2 H2 HI HDO
 obtain ⟨r,hr⟩:∃ r,allC (sealS b.e b.st) l (M,tail)=r:=⟨_,rfl⟩
 rw [hr] at HALL
 have HRR:=Lib.hid' hr
 clear hr
 go_wp2_with fail
 refine HALL.out.mono ?_
 rintro en w4 ⟨rfl,h4,hst4,hok4⟩
 have H4:=Zh (h4.sub (L':=bdB B c b r.2.2::L) (((List.Sublist.refl L).cons _ |>.cons _).cons_cons _))
 have HK:=Zh (And.intro hst4 hok4)
 clear h4 hst4 hok4 HALL
 go_wp2_with fail
 go_ret
 rw [HRR.out]
 exact ⟨rfl,H4.out,HK.out⟩
end SL
end Go.Proofs.YtimbeeiihbmofaaGreatDoor

namespace Go.Proofs.YtimbeeiihbmofaaGreatDoor
open Go.RowKit
namespace SL
open DK SH SQ
/-- a unit that is on -/
def Cl.On (M:Cl) (u:Nat):Prop:=∃ D S,M.us[u]?=some ⟨D,some S⟩
theorem Cl.On.do {M:Cl} {u:Nat} (h:M.On u) (v:Nat) (x:Ac):(M.do v x).2.2.On u:=by
 obtain ⟨D,S,hu⟩:=h
 unfold Cl.do
 split
 ·rename_i D' S' hv
  by_cases e:v=u
  ·subst e
   exact ⟨_,_,by show (M.us.set v _)[v]?=_;rw [List.getElem?_set_self (List.getElem?_eq_some_iff.1 hu).1]⟩
  ·exact ⟨D,S,by show (M.us.set v _)[u]?=_;rw [List.getElem?_set_ne e];exact hu⟩
 ·exact ⟨D,S,hu⟩
def hollowS (e:Int) (M:Cl) (u:Int):Nat×Cl:=((M.do u.toNat ⟨5,e,M.lowU u,[]⟩).1,(M.do u.toNat ⟨5,e,M.lowU u,[]⟩).2.2)
set_option maxHeartbeats 8000000 in
theorem hollow_any {c B:Nat} {M:Cl} {J:CJ} {L:List Asn} {W:World} (b:Bd) (tail u:Int) (w:World) (hp:Pow W) (h:ClAt c M J (bdB B c b tail::L) W w) (hu:0≤u∧u<(M.us.length:Int)) (hok:M.ok) (hon:M.On u.toNat) :
  Calls Tryz.prog 125 #[ptrV B,.int .i64 u] w fun en w'=>en=.returned (errV (hollowS b.e M u).1)∧ClAt c (hollowS b.e M u).2 J (bdB B c b tail::L) W w':=by
 obtain ⟨k,rfl⟩:∃ k:Nat,u=k:=⟨u.toNat,by omega⟩
 rw [Int.toNat_natCast] at hon
 obtain ⟨D,S,hus⟩:=hon
 have hlo:M.lowU (k:Int)=S.u.l:=by unfold Cl.lowU;rw [Int.toNat_natCast,hus]
 have HW:=Zh (show hollowS b.e M (k:Int)=((M.do k ⟨5,b.e,S.u.l,[]⟩).1,(M.do k ⟨5,b.e,S.u.l,[]⟩).2.2) by unfold hollowS;rw [hlo];rfl)
 have HDO:=Zh (fun (bu bm:Nat) (us:PoolL) (wq:World) (hq:ClAt c M J (.unit bu bm S.u us::bdB B c b tail::L) W wq)=>do_any k ⟨5,b.e,S.u.l,[]⟩ none 0 wq hp hq (by omega) hok (SlV.of_own (own_nil _ 0 0 0)))
 rw [show ac9V (⟨5,b.e,S.u.l,[]⟩:Ac) none 0=.agg #[.int .i64 5,.int .i64 b.e,.int .i64 S.u.l,.slice none 0 0] from rfl] at HDO
 obtain ⟨g,n,cap,q,c1,hgn,hgl,hgc,HUN⟩:=h.unitOf hus
 have HUNh:=Lib.hid' HUN
 have b0:=h.side.cell 0 rfl 0 rfl;have b1:=h.side.cell 0 rfl 1 rfl;have bl:=h.side.lt 0 rfl
 have cl:=h.c2.2
 clear h hu hok hp hus hlo HUN
 go_enter Tryz.func125, Tryz.ntmps125
 go_upto_region 1 with fail
 refine startD (S:=(fun w'=>w'.cell? ⟨B,0,none⟩=some (ptrV c)∧w'.cell? ⟨B,1,none⟩=some (.int .i64 b.e)∧B<w'.heap.size)) (by kernel_rfl) ⟨b0,b1,bl⟩ (fun hH0=>?_)
 simp only [List.length_cons,List.length_nil,Nat.reduceAdd,List.replicate_succ,List.replicate_zero]
 refine tD 0 8 (.pointer (some ⟨B,0,none⟩)) rfl rfl [(0,.pointer (some ⟨B,0,none⟩))] hH0 ?_
 dsimp only [sZ,sS]
 refine tD 1 9 (.pointer (some ⟨B,0,none⟩)) rfl rfl [(8,.pointer (some ⟨B,0,none⟩))] hH0 ?_
 dsimp only [sZ,sS]
 refine tD 2 10 (.pointer (some ⟨B,0,none⟩)) rfl rfl [(9,.pointer (some ⟨B,0,none⟩))] hH0 ?_
 dsimp only [sZ,sS]
 refine tD 3 11 (.pointer (some ⟨c,0,none⟩)) rfl rfl [(10,.pointer (some ⟨B,0,none⟩))] hH0 ?_
 dsimp only [sZ,sS]
 refine tD 4 12 (.int .i64 (k:Int)) rfl rfl [(1,.int .i64 (k:Int))] hH0 ?_
 dsimp only [sZ,sS]
 refine tD 5 13 (.pointer (some ⟨B,0,none⟩)) rfl rfl [(0,.pointer (some ⟨B,0,none⟩))] hH0 ?_
 dsimp only [sZ,sS]
 refine tD 6 14 (.pointer (some ⟨B,0,none⟩)) rfl rfl [(13,.pointer (some ⟨B,0,none⟩))] hH0 ?_
 dsimp only [sZ,sS]
 refine tD 7 15 (.pointer (some ⟨B,1,none⟩)) rfl rfl [(14,.pointer (some ⟨B,0,none⟩))] hH0 ?_
 dsimp only [sZ,sS]
 refine tD 8 16 (.pointer (some ⟨B,1,none⟩)) rfl rfl [(15,.pointer (some ⟨B,1,none⟩))] hH0 ?_
 dsimp only [sZ,sS]
 refine tD 9 17 (.int .i64 b.e) rfl rfl [(16,.pointer (some ⟨B,1,none⟩))] hH0 ?_
 dsimp only [sZ,sS]
 refine tD 10 18 (.pointer (some ⟨B,0,none⟩)) rfl rfl [(0,.pointer (some ⟨B,0,none⟩))] hH0 ?_
 dsimp only [sZ,sS]
 refine tD 11 19 (.pointer (some ⟨B,0,none⟩)) rfl rfl [(18,.pointer (some ⟨B,0,none⟩))] hH0 ?_
 dsimp only [sZ,sS]
 refine tD 12 20 (.pointer (some ⟨B,0,none⟩)) rfl rfl [(19,.pointer (some ⟨B,0,none⟩))] hH0 ?_
 dsimp only [sZ,sS]
 refine tD 13 21 (.pointer (some ⟨c,0,none⟩)) rfl rfl [(20,.pointer (some ⟨B,0,none⟩))] hH0 ?_
 dsimp only [sZ,sS]
 refine tD 14 22 (.pointer (some ⟨c,0,none⟩)) rfl rfl [(21,.pointer (some ⟨c,0,none⟩))] hH0 ?_
 dsimp only [sZ,sS]
 refine tD 15 23 (.pointer (some ⟨c,1,none⟩)) rfl rfl [(22,.pointer (some ⟨c,0,none⟩))] hH0 ?_
 dsimp only [sZ,sS]
 refine tD 17 25 (.int .i64 (k:Int)) rfl rfl [(1,.int .i64 (k:Int))] hH0 ?_
 dsimp only [sZ,sS]
 refine rD 16 rfl (fun K hK=>?_)
 go_simp
 refine hK.out _ _ ?_ (fun hH1=>?_)
 ·exact hH0
 clear hK K
 try simp only [Act.put,gA,gZ,gS,sA,sZ,sS]
 refine rD 18 rfl (fun K hK=>?_)
 go_simp
 refine hK.out _ _ ?_ (fun hH2=>?_)
 ·exact hH1
 clear hK K
 try simp only [Act.put,gA,gZ,gS,sA,sZ,sS]
 refine rD 19 rfl (fun K hK=>?_)
 go_simp
 refine hK.out _ _ ?_ (fun hH3=>?_)
 ·exact hH2
 clear hK K
 try simp only [Act.put,gA,gZ,gS,sA,sZ,sS]
 refine rD 20 rfl (fun K hK=>?_)
 go_simp
 refine (HUNh.out _ (Below.refl _ _).drew).mono ?_
 rintro en w5 ⟨bu,bm,us,A,rfl,h5,hU5⟩
 have H5:=Lib.hid' h5
 have HU5:=Lib.hid' hU5
 have HF5:w5.cell? ⟨B,0,none⟩=some (ptrV c)∧w5.cell? ⟨B,1,none⟩=some (.int .i64 b.e)∧B<w5.heap.size:=⟨h5.side.cell 1 rfl 0 rfl,h5.side.cell 1 rfl 1 rfl,h5.side.lt 1 rfl⟩
 clear h5 hU5
 refine hK.out _ _ ?_ (fun hH4=>?_)
 ·exact HF5
 clear hK K
 try simp only [Act.put,gA,gZ,gS,sA,sZ,sS]
 refine rD 21 rfl (fun K hK=>?_)
 go_simp
 refine (low_any w5 HU5.out).mono ?_
 rintro en wz ⟨rfl,rfl⟩
 refine hK.out _ _ ?_ (fun hH5=>?_)
 ·exact HF5
 clear hK K
 try simp only [Act.put,gA,gZ,gS,sA,sZ,sS]
 refine tD 22 30 (.agg #[.int .i64 5,.int .i64 b.e,.int .i64 S.u.l,.slice none 0 0]) rfl rfl [(17,.int .i64 b.e),(29,.int .i64 S.u.l)] hH5 ?_
 dsimp only [sZ,sS]
 refine rD 23 rfl (fun K hK=>?_)
 go_simp
 refine (HDO.out bu bm us _ H5.out).mono ?_
 rintro en w6 ⟨rfl,h6⟩
 have H6:=Lib.hid' h6
 have HF6:w6.cell? ⟨B,0,none⟩=some (ptrV c)∧w6.cell? ⟨B,1,none⟩=some (.int .i64 b.e)∧B<w6.heap.size:=⟨h6.side.cell 1 rfl 0 rfl,h6.side.cell 1 rfl 1 rfl,h6.side.lt 1 rfl⟩
 clear h6
 refine hK.out _ _ ?_ (fun hH6=>?_)
 ·exact HF6
 clear hK K
 try simp only [Act.put,gA,gZ,gS,sA,sZ,sS]
 refine tD 24 7 (.tuple #[.int .i64 (M.do k ⟨5,b.e,S.u.l,[]⟩).2.1,errV (M.do k ⟨5,b.e,S.u.l,[]⟩).1]) rfl rfl [(31,.tuple #[.int .i64 (M.do k ⟨5,b.e,S.u.l,[]⟩).2.1,errV (M.do k ⟨5,b.e,S.u.l,[]⟩).1])] hH6 ?_
 dsimp only [sZ,sS]
 refine tD 25 32 (.int .i64 (M.do k ⟨5,b.e,S.u.l,[]⟩).2.1) rfl rfl [(7,.tuple #[.int .i64 (M.do k ⟨5,b.e,S.u.l,[]⟩).2.1,errV (M.do k ⟨5,b.e,S.u.l,[]⟩).1])] hH6 ?_
 dsimp only [sZ,sS]
 refine tD 26 33 (errV (M.do k ⟨5,b.e,S.u.l,[]⟩).1) rfl rfl [(7,.tuple #[.int .i64 (M.do k ⟨5,b.e,S.u.l,[]⟩).2.1,errV (M.do k ⟨5,b.e,S.u.l,[]⟩).1])] hH6 ?_
 dsimp only [sZ,sS]
 refine tD 27 5 (.int .i64 (M.do k ⟨5,b.e,S.u.l,[]⟩).2.1) rfl rfl [(32,.int .i64 (M.do k ⟨5,b.e,S.u.l,[]⟩).2.1)] hH6 ?_
 dsimp only [sZ,sS]
 refine tD 28 6 (errV (M.do k ⟨5,b.e,S.u.l,[]⟩).1) rfl rfl [(33,errV (M.do k ⟨5,b.e,S.u.l,[]⟩).1)] hH6 ?_
 dsimp only [sZ,sS]
 refine wpAnyH_done (by kernel_rfl) ?_ _
 clear HF5 HF6 b0 b1 bl c1 cl hgl hgc HUNh HU5 H5 HDO
 go_wp2_with fail
 go_ret
 rw [HW.out]
 exact ⟨rfl,ClAt.less (K:=[_]) H6.out⟩
end SL
end Go.Proofs.YtimbeeiihbmofaaGreatDoor

namespace Go.Proofs.YtimbeeiihbmofaaGreatDoor
open Go.RowKit
theorem Sep.besides {w0 w w':World} {F:Nat→Prop} {A:Asn} {L:List Asn} (h:Sep w0 F (A::L) w) (hf:Fr A.foot w w'):Sep w0 F L w':=h.call (K:=[]) ⟨hf,by simp,List.Pairwise.nil,by simp⟩
theorem own_foot {a:Option Addr} {c m n k:Nat} (h:(Value.slice a m c).ownBlock=some k):(Value.slice a n c).ownBlock=some k:=by cases a<;>exact h
namespace SL
open DK SH SQ
/-- a method's value that does a thing with a unit -/
def DoesV {St:Type} (f:Nat) (v:Value) (step:St→Int→Nat×St) (I:St→World→Prop) (l:List Int):Prop :=
 ∀ (s:St) (u:Int) (w:World),u∈l→I s w→Calls Tryz.prog f #[v,.int .i64 u] w fun e w'=>e=.returned (errV (step s u).1)∧I (step s u).2 w'
set_option maxHeartbeats 4000000 in
theorem all_anyV {St:Type} (f:Nat) (v:Value) (step:St→Int→Nat×St) (I:St→World→Prop) (l:List Int) (a:Option Addr) (c:Nat) (s:St) (w:World) (hl:l.length≤1048576) (hZ:∀ s w,I s w→Zs w (.slice a l.length c) l)
  (hcf:∀ args w,(callFunc f args).run Tryz.prog w=.ok (.enter f args) w) (hf:DoesV f v step I l) (hI:I s w) :
  Calls Tryz.prog 69 #[.slice a l.length c,.func (.func f) #[v] #[]] w fun e w'=>e=.returned (errV (allC step l s).1)∧I (allC step l s).2 w':=by
 have HZ:=Lib.hid' hZ
 have HF:=Lib.hid' hf
 have HI:=Lib.hid' hI
 clear hZ hf hI
 go_enter Tryz.func69, Tryz.ntmps69
 go_wp2_with fail
 go_loopw [10] (fun v10 wr=>∃ (k:Nat) (st:St),v10=.int .i64 k∧k≤l.length∧Hid (I st wr)∧Hid (allC step l s=allC step (l.drop k) st)) (fun v10 _=>l.length - (intOf v10).toNat)
 case atStart=>exact ⟨0,s,rfl,Nat.zero_le _,HI,Zh (by rw [List.drop_zero])⟩
 case round =>
  clear HI
  obtain ⟨k,st,rfl,hk,HI,HA⟩:=hrel
  by_cases hlt:k<l.length
  ·obtain ⟨b,off,rfl,hb,hc⟩:=(HZ.out _ _ HI.out).at hlt
   have HM:=Zh (show l[k]∈l from List.getElem_mem hlt)
   have HE:=Zh (fun h=>allC_stop (f:=step) hlt (s:=st) h)
   have HS:=Zh (fun h=>allC_step (f:=step) hlt (s:=st) h)
   generalize l[k]=y at *
   go_wp2_with fail
   refine (HF.out st y wr HM.out HI.out).mono ?_
   rintro e w2 ⟨rfl,hi2⟩
   have HI2:=Lib.hid' hi2
   clear hi2
   by_cases h0:(step st y).1=0
   ·have HA2:=Zh (HA.out.trans (HS.out h0))
    rw [h0,errV_0]
    clear h0
    go_wp2_with fail
    go_roundw
    case rel=>exact ⟨k+1,(step st y).2,by go_num,by omega,HI2,HA2⟩
    case measure=>simp [intOf];omega
   ·have HA2:=Zh (HA.out.trans (HE.out h0))
    rw [errV_pos h0]
    have H0:=Lib.hid' h0
    clear h0
    go_wp2_with fail
    go_ret
    rw [HA2.out]
    exact ⟨by rw [errV_pos H0.out];rfl,HI2.out⟩
  ·have HA2:=Zh (HA.out.trans (show allC step (l.drop k) st=(0,st) by rw [List.drop_eq_nil_of_le (by omega)];rfl))
   go_wp2_with fail
   go_ret
   rw [HA2.out]
   exact ⟨rfl,HI.out⟩
theorem ClAt.row0 {c:Nat} {M:Cl} {J:CJ} {L:List Asn} {A:Asn} {W w:World} (h:ClAt c M J (A::L) W w):∃ P,P.J=J∧ClOK M P∧Sep W NoF (A::clL c M P L) w:=by
 obtain ⟨P,hJ,hP,H⟩:=h
 refine ⟨P,hJ,hP,H.perm ?_⟩
 have e1:∀ L,clL c M P L=(clK c M P++(Asn.pool P.Z P.vs::P.Us.map (unA P.vs)))++L:=fun L=>by unfold clL;simp
 rw [e1 L,e1 (_::L)]
 exact List.perm_middle
theorem ClAt.besides {c:Nat} {M:Cl} {J:CJ} {L:List Asn} {A:Asn} {W w w':World} (h:ClAt c M J (A::L) W w) (hf:Fr A.foot w w'):ClAt c M J L W w':=by
 obtain ⟨P,hJ,hP,H⟩:=h.row0
 exact ⟨P,hJ,hP,H.besides hf⟩
theorem ClAt.turn0 {c:Nat} {M:Cl} {J:CJ} {L:List Asn} {A B:Asn} {W w w':World} (h:ClAt c M J (A::L) W w) (hf:Fr A.foot w w') (hB:B.holds w') (hn:∀ b,B.foot b→w.heap.size≤b∨A.foot b):ClAt c M J (B::L) W w':=by
 obtain ⟨P,hJ,hP,H⟩:=h.row0
 refine ⟨P,hJ,hP,(H.fr1 hf hB hn).perm ?_⟩
 have e1:∀ L,clL c M P L=(clK c M P++(Asn.pool P.Z P.vs::P.Us.map (unA P.vs)))++L:=fun L=>by unfold clL;simp
 rw [e1 L,e1 (_::L)]
 exact List.perm_middle.symm
theorem fresh1_any {c N B:Nat} {M:Cl} {J:CJ} {L:List Asn} {W:World} (b:Bd) (tail x:Int) (w:World) (h:ClAt c M J (bdB B c b tail::ptrD N B::L) W w) (hZ:Zs w (.slice b.sa b.st.length b.sc) b.st) :
  Calls Tryz.prog 169 #[.int .i64 x,ptrV N] w fun en w'=>en=.returned (.bool (b.st.any (fun y=>x==y)))∧w=w':=by
 have HC:=Zh (containsZ_any x b.st b.sa b.sc w hZ)
 have n0:=h.side.cell 1 rfl 0 rfl;have nl:=h.side.lt 1 rfl
 have b3:=h.side.cell 0 rfl 3 rfl;have bl:=h.side.lt 0 rfl
 clear h hZ
 generalize b.st.any (fun y=>x==y)=bo at *
 go_enter Tryz.func169, Tryz.ntmps169
 go_wp2_with fail
 refine HC.out.mono ?_
 rintro en wz ⟨rfl,rfl⟩
 go_wp2_with fail
 go_ret
 exact ⟨rfl,rfl⟩
theorem cf_fresh (args:Array Value) (w:World):(callFunc 169 args).run Tryz.prog w=.ok (.enter 169 args) w:=by kernel_rfl
theorem cf_hollow (args:Array Value) (w:World):(callFunc 125 args).run Tryz.prog w=.ok (.enter 125 args) w:=by kernel_rfl
def Bd.fresh (b:Bd):List Int:=b.units.filter (fun x=>!b.st.any (fun y=>x==y))
set_option maxHeartbeats 8000000 in
theorem fresh_any {c B:Nat} {M:Cl} {J:CJ} {L:List Asn} {W:World} (b:Bd) (tail:Int) (w:World) (h:ClAt c M J (bdB B c b tail::L) W w) (hb:BdOk c M.us.length J L W b) :
  Calls Tryz.prog 124 #[ptrV B] w fun en w'=>∃ fa fc,en=.returned (.slice fa b.fresh.length fc)∧ClAt c M J (bdB B c b tail::.row 3 1 (.slice fa b.fresh.length fc) b.fresh.length (zVs b.fresh)::L) W w':=by
 have h1:=(h.allocB w.heap.size [ptrV B] 80 rfl).swapB
 have e0:w.alloc (.cells [ptrV B].toArray 80)=w.alloc (.cells #[ptrV B] 80):=rfl
 rw [e0] at h1
 obtain ⟨w1,hw1⟩:∃ w1,w.alloc (.cells #[ptrV B] 80)=w1:=⟨_,rfl⟩
 obtain ⟨N,hN⟩:∃ n,n=w.heap.size:=⟨_,rfl⟩
 rw [hw1,←hN] at h1
 have HB:=Lib.hid' hb
 have HUF:=Lib.hid' hb.uf
 have HUN:=Zh (bunits_any (K:=[bdB B c b tail,ptrD N B]) w1 h1 hb)
 have HFR:=Zh (show b.fresh=b.units.filter (fun x=>!b.st.any (fun y=>x==y)) from rfl)
 have n0:=h1.side.cell 1 rfl 0 rfl;have nl:=h1.side.lt 1 rfl
 have b1:=h1.side.cell 0 rfl 1 rfl;have b2:=h1.side.cell 0 rfl 2 rfl;have bl:=h1.side.lt 0 rfl
 clear h h1 hb e0
 generalize b.units=l at *
 go_enter Tryz.func124, Tryz.ntmps124
 go_upto_region 1 with fail
 try rw [hw1]
 rw [←hN]
 clear hw1 hN
 go_wp2_with fail
 refine HUN.out.mono ?_
 clear HUN n0 nl b1 b2 bl
 rintro en w2 ⟨ua,uc,rfl,h2⟩
 have H2:=Lib.hid' h2
 have HDE:=Zh (deleteZ_any (B:=0) 169 #[ptrV N] (fun x=>b.st.any (fun y=>x==y)) l ua uc w2 (h2.side.row 0 rfl) (by have:=HUF.out.1;omega) cf_fresh (fun w' x hf=>by
  have h3:=h2.besides (w':=w') (by
   refine hf.mono (fun k hk=>?_)
   exact own_foot hk)
  refine (fresh1_any b tail x w' h3 (HB.out.st _ _ (ClAt.less (K:=[_,_]) h3))).mono ?_
  rintro e w'' ⟨he,rfl⟩
  exact ⟨he,0,rfl⟩))
 rw [←HFR.out] at HDE
 clear h2
 go_wp2_with fail
 refine HDE.out.mono ?_
 clear HDE
 rintro en w3 ⟨rfl,ho,hf⟩
 have H3:=Zh (show ClAt c M J (.row 3 1 (.slice ua b.fresh.length uc) b.fresh.length (zVs b.fresh)::[bdB B c b tail,ptrD N B]++L) W w3 from H2.out.turn0 (hf.mono (fun k hk=>own_foot hk)) ho (fun b hb=>.inr (own_foot hb)))
 go_wp2_with fail
 go_ret
 exact ⟨ua,uc,rfl,((H3.out.permL (List.perm_middle (l₁:=[_,_]) (a:=_)).symm).sub (((List.Sublist.refl _).cons _).cons_cons _))⟩
theorem Bd.fresh_mem {b:Bd} {u:Int} (h:u∈b.fresh):u∈b.units:=(List.mem_filter.1 h).1
theorem hollowS_stay {M s:Cl} {e:Int} {u:Int} (h:Stay M s∧s.ok):Stay M (hollowS e s u).2∧(hollowS e s u).2.ok:=⟨h.1.do _ _,h.2.do _ _⟩
set_option maxHeartbeats 8000000 in
theorem empty_any {c B:Nat} {M:Cl} {J:CJ} {L:List Asn} {W:World} (b:Bd) (tail:Int) (w:World) (hp:Pow W) (h:ClAt c M J (bdB B c b tail::L) W w) (hok:M.ok) (hb:BdOk c M.us.length J L W b) (hon:∀ u∈b.fresh,M.On u.toNat) :
  Calls Tryz.prog 90 #[ptrV B] w fun en w'=>en=.returned (errV (allC (hollowS b.e) b.fresh M).1)∧ClAt c (allC (hollowS b.e) b.fresh M).2 J (bdB B c b tail::L) W w'∧Stay M (allC (hollowS b.e) b.fresh M).2∧(allC (hollowS b.e) b.fresh M).2.ok:=by
 have HFR:=Zh (fresh_any b tail w h hb)
 have HFL:=Zh (show b.fresh.length≤16 from Nat.le_trans (List.length_filter_le _ _) hb.uf.1)
 have HFI:=Zh (fun u (hu:u∈b.fresh)=>hb.uf.2 u (Bd.fresh_mem hu))
 have HON:=Lib.hid' hon
 have HP:=Lib.hid' hp
 have HOK:=Lib.hid' hok
 clear h hb hon hp hok
 generalize b.fresh=l at *
 go_enter Tryz.func90, Tryz.ntmps90
 go_wp2_with fail
 refine HFR.out.mono ?_
 clear HFR
 rintro en w2 ⟨fa,fc,rfl,h2⟩
 have HI:=Zh (show ClAt c M J (bdB B c b tail::.row 3 1 (.slice fa l.length fc) l.length (zVs l)::L) W w2∧(Stay M M∧M.ok)∧∀ u∈l,M.On u.toNat from ⟨h2,⟨Stay.refl M,HOK.out⟩,HON.out⟩)
 have HDO:=Zh (show DoesV 125 (ptrV B) (hollowS b.e) (fun (s:Cl) (w:World)=>ClAt c s J (bdB B c b tail::.row 3 1 (.slice fa l.length fc) l.length (zVs l)::L) W w∧(Stay M s∧s.ok)∧∀ u∈l,s.On u.toNat) l from fun s v w hv hI=>by
  refine (hollow_any b tail v w HP.out hI.1 (by rw [hI.2.1.1.us];exact HFI.out v hv) hI.2.1.2 (hI.2.2 v hv)).mono ?_
  rintro en w' ⟨rfl,h'⟩
  exact ⟨rfl,h',hollowS_stay hI.2.1,fun u hu=>(hI.2.2 u hu).do _ _⟩)
 have HALL:=Zh (all_anyV 125 (ptrV B) (hollowS b.e) (fun (s:Cl) (w:World)=>ClAt c s J (bdB B c b tail::.row 3 1 (.slice fa l.length fc) l.length (zVs l)::L) W w∧(Stay M s∧s.ok)∧∀ u∈l,s.On u.toNat) l fa fc M w2 (by have:=HFL.out;omega) (fun s w hI=>SlV.of_own (hI.1.side.row 1 rfl)) cf_hollow HDO.out HI.out)
 obtain ⟨r,hr⟩:∃ r,allC (hollowS b.e) l M=r:=⟨_,rfl⟩
 rw [hr] at HALL
 have HRR:=Lib.hid' hr
 clear hr h2 HI HDO
 go_wp2_with fail
 refine HALL.out.mono ?_
 clear HALL
 rintro en w4 ⟨rfl,h4,hst4,_⟩
 have H4:=Zh (h4.sub (L':=bdB B c b tail::L) ((List.Sublist.refl L).cons _ |>.cons_cons _))
 have HK:=Lib.hid' hst4
 clear h4 hst4
 go_wp2_with fail
 go_ret
 rw [HRR.out]
 exact ⟨rfl,H4.out,HK.out⟩
/-- who was sealed is on -/
theorem sealS_on {e:Int} {st:List Int} {s:Cl×Int} {u:Int} (h:(sealS e st s u).1=0) (hu:u.toNat<s.1.us.length):(sealS e st s u).2.1.On u.toNat:=do_was_on (by show (s.1.do u.toNat ⟨1,e,0,[]⟩).1≠14;rw [show (s.1.do u.toNat ⟨1,e,0,[]⟩).1=0 from h];decide) hu
theorem seal_on {e:Int} {st:List Int}:∀ {l:List Int} {s:Cl×Int},(allC (sealS e st) l s).1=0→(∀ u∈l,u.toNat<s.1.us.length)→∀ v:Nat,((v:Int)∈l∨s.1.On v)→(allC (sealS e st) l s).2.1.On v
 | [],s,_,_,v,hv=>by
  rcases hv with hv | hv
  ·cases hv
  ·exact hv
 | u::l,s,h,hu,v,hv=>by
  unfold allC at h ⊢
  by_cases h0:(sealS e st s u).1=0
  ·rw [if_neg (by rw [h0];decide)] at h ⊢
   have hlen:(sealS e st s u).2.1.us.length=s.1.us.length:=(Cl.do_len _ _ _).1
   refine seal_on h (fun w hw=>by rw [hlen];exact hu w (List.mem_cons_of_mem _ hw)) v ?_
   rcases hv with hv | hv
   ·rcases List.mem_cons.1 hv with hv | hv
    ·exact .inr (by
      have:=sealS_on h0 (hu u List.mem_cons_self)
      rw [←hv,Int.toNat_natCast] at this
      rw [←hv]
      exact this)
    ·exact .inl hv
   ·exact .inr (hv.do _ _)
  ·rw [if_pos h0] at h;exact absurd h h0
end SL
end Go.Proofs.YtimbeeiihbmofaaGreatDoor

namespace Go.Proofs.YtimbeeiihbmofaaGreatDoor
open Go.RowKit
/-- rows of entries with their bytes, as parts of memory -/
theorem ents_sep {w0 w w':World} {F:Nat→Prop} {L:List Asn} {E:List Ent} {a:Option Addr} {k:Nat} (h:Sep w0 F L w) (hr:w'.ownsRow w.heap.size 215 3 (.slice a E.length k) E.length (ents E))
  (hd:∀ x∈E,w'.ownsRow w.heap.size 5 1 (.slice x.2.2.1 x.2.1.d.length x.2.2.2) x.2.1.d.length (byteVs x.2.1.d)) (hb:Below w.heap.size w w') :
  ∃ Z,Sep w0 F (.row 215 3 (.slice a E.length k) E.length (ents E)::Asn.pool Z (E.map fun x=>(.slice x.2.2.1 x.2.1.d.length x.2.2.2,x.2.1.d))::L) w':=by
 refine ⟨fun b=>∃ x∈E,(Value.slice x.2.2.1 x.2.1.d.length x.2.2.2).ownBlock=some b,?_⟩
 have hp:(Asn.pool (fun b=>∃ x∈E,(Value.slice x.2.2.1 x.2.1.d.length x.2.2.2).ownBlock=some b) (E.map fun x=>(.slice x.2.2.1 x.2.1.d.length x.2.2.2,x.2.1.d))).holds w':=by
  refine ⟨fun y hy=>?_,fun b hb=>?_⟩
  ·obtain ⟨x,hx,rfl⟩:=List.mem_map.1 hy
   refine ⟨SlV.of_own (hd x hx),fun p n c hv=>⟨x,hx,?_⟩⟩
   simp only [Value.slice.injEq] at hv
   rw [hv.1]
   rcases own_cases (hd x hx) with ⟨h1,_⟩ | ⟨g,cur,h1,_⟩
   ·rw [h1] at hv;cases hv.1
   ·rw [h1] at hv
    simp only [Option.some.injEq] at hv
    rw [←hv.1];rfl
  ·obtain ⟨x,hx,h1⟩:=hb
   exact (own_blk (hd x hx) h1).2
 refine (Sep.call0 (K:=[.row 215 3 (.slice a E.length k) E.length (ents E),Asn.pool _ _]) h ⟨Fr.of_below hb,?_,?_,?_⟩)
 ·intro A hA
  rcases List.mem_cons.1 hA with rfl | hA
  ·exact own_base hr (Nat.zero_le _)
  ·obtain rfl:=List.mem_singleton.1 hA
   exact hp
 ·refine List.pairwise_cons.2 ⟨?_,List.pairwise_singleton _ _⟩
  intro B hB b h1 h2
  obtain rfl:=List.mem_singleton.1 hB
  obtain ⟨x,hx,h3⟩:=h2
  rcases own_cases hr with ⟨e1,_⟩ | ⟨g,cur,e1,_,_,e2,_⟩
  ·have h1:(Value.slice a E.length k).ownBlock=some b:=h1
   rw [e1] at h1;cases h1
  ·rcases own_cases (hd x hx) with ⟨f1,_⟩ | ⟨g',cur',f1,_,_,f2,_⟩
   ·rw [f1] at h3;cases h3
   ·have h1:(Value.slice a E.length k).ownBlock=some b:=h1
    rw [e1] at h1
    rw [f1] at h3
    have hg:g=b:=by simpa [Value.ownBlock] using h1
    have hg':g'=b:=by simpa [Value.ownBlock] using h3
    rw [hg] at e2
    rw [hg',e2] at f2
    simp only [Option.some.injEq,Obj.cells.injEq] at f2
    exact absurd f2.2.1 (by decide)
 ·intro A hA b hb2
  rcases List.mem_cons.1 hA with rfl | hA
  ·exact .inl (own_blk hr hb2).1
  ·obtain rfl:=List.mem_singleton.1 hA
   obtain ⟨x,hx,h1⟩:=hb2
   exact .inl (own_blk (hd x hx) h1).1
namespace SL
open DK SH SQ
theorem ClAt.ents {c:Nat} {M:Cl} {J:CJ} {L:List Asn} {W w w':World} {E:List Ent} {a:Option Addr} {k:Nat} (h:ClAt c M J L W w) (hr:w'.ownsRow w.heap.size 215 3 (.slice a E.length k) E.length (ents E))
  (hd:∀ x∈E,w'.ownsRow w.heap.size 5 1 (.slice x.2.2.1 x.2.1.d.length x.2.2.2) x.2.1.d.length (byteVs x.2.1.d)) (hb:Below w.heap.size w w') :
  ∃ Z,ClAt c M J (.row 215 3 (.slice a E.length k) E.length (Go.Proofs.YtimbeeiihbmofaaGreatDoor.ents E)::Asn.pool Z (E.map fun x=>(.slice x.2.2.1 x.2.1.d.length x.2.2.2,x.2.1.d))::L) W w':=by
 obtain ⟨P,hJ,hP,H⟩:=h
 obtain ⟨Z,h1⟩:=ents_sep H hr hd hb
 refine ⟨Z,P,hJ,hP,h1.perm ?_⟩
 have e1:∀ L,clL c M P L=(clK c M P++(Asn.pool P.Z P.vs::P.Us.map (unA P.vs)))++L:=fun L=>by unfold clL;simp
 rw [e1 L,e1 (_::_::L)]
 exact (List.perm_middle.trans (List.Perm.cons _ List.perm_middle)).symm
/-- cells of chains' units that stay: each address's first one -/
def addCell (s:List (Int×C)) (p:Int×C):List (Int×C):=if s.any (fun q=>q.1==p.1)=true then s else s++[p]
def Cl.unitU (M:Cl) (u:Int):U:=match M.us[u.toNat]? with
 | some ⟨_,some S⟩=>S.u
 | _=>⟨0,0,[]⟩
def cellsStep (M:Cl) (st:List Int) (s:List (Int×C)) (u:Int):List (Int×C):=if st.any (fun y=>u==y)=true then (sortC (M.unitU u).cells).foldl addCell s else s
def Cl.cells (M:Cl) (st chain:List Int):List (Int×C):=chain.foldl (cellsStep M st) []
/-- addresses in range, each once -/
def CAd (s:List (Int×C)):Prop:=(s.map (·.1)).Nodup∧∀ p∈s,0≤p.1∧p.1<1048576
theorem CAd.len {s:List (Int×C)} (h:CAd s):s.length≤1048576:=by
 have h1:=nodup_lt 1048576 (s.map (fun p=>p.1.toNat)) (by
  have:s.map (fun p=>p.1.toNat)=(s.map (·.1)).map Int.toNat:=by simp
  rw [this]
  refine List.Pairwise.map _ (fun a b hab=>hab) (List.Pairwise.imp_of_mem (fun {a b} ha hb hab=>?_) h.1)
  obtain ⟨p,hp,rfl⟩:=List.mem_map.1 ha
  obtain ⟨q,hq,rfl⟩:=List.mem_map.1 hb
  have:=h.2 p hp;have:=h.2 q hq
  omega) (by
  intro n hn
  obtain ⟨p,hp,rfl⟩:=List.mem_map.1 hn
  have:=h.2 p hp
  omega)
 simpa using h1
theorem CAd.unit {u:U} (h:u.ok):CAd u.cells:=⟨h.nodup,fun p hp=>by have:=h.addr p hp;have:=h.l0;omega⟩
theorem CAd.add {s:List (Int×C)} (h:CAd s) {p:Int×C} (hp:0≤p.1∧p.1<1048576):CAd (addCell s p):=by
 unfold addCell
 split
 ·exact h
 ·rename_i hn
  refine ⟨?_,fun q hq=>?_⟩
  ·rw [List.map_append,List.nodup_append]
   refine ⟨h.1,by simp,fun a ha b hb=>?_⟩
   simp only [List.map_cons,List.map_nil,List.mem_singleton] at hb
   subst hb
   rintro rfl
   obtain ⟨q,hq,he⟩:=List.mem_map.1 ha
   exact hn (List.any_eq_true.2 ⟨q,hq,by simp [he]⟩)
  ·rcases List.mem_append.1 hq with hq | hq
   ·exact h.2 q hq
   ·rw [List.mem_singleton] at hq;subst hq;exact hp
theorem sortC_in {u:U} (h:u.ok) {p:Int×C} (hp:p∈sortC u.cells):0≤p.1∧p.1<1048576:=(CAd.unit h).2 p ((sortC_mem _ h.nodup p).1 hp)
end SL
end Go.Proofs.YtimbeeiihbmofaaGreatDoor

namespace Go.Proofs.YtimbeeiihbmofaaGreatDoor
open Go.RowKit
namespace SL
open DK SH SQ
theorem ClAt.front {c:Nat} {M:Cl} {J:CJ} {K L:List Asn} {W w:World} (h:ClAt c M J (K++L) W w):∃ P,P.J=J∧ClOK M P∧Sep W NoF (K++clL c M P L) w:=by
 obtain ⟨P,hJ,hP,H⟩:=h
 refine ⟨P,hJ,hP,H.perm ?_⟩
 have e1:∀ L,clL c M P L=(clK c M P++(Asn.pool P.Z P.vs::P.Us.map (unA P.vs)))++L:=fun L=>by unfold clL;simp
 rw [e1 L,e1 (K++L)]
 exact List.perm_append_comm_assoc _ _ _
theorem ClAt.unfront {c:Nat} {M:Cl} {P:ClP} {K L:List Asn} {W w:World} (hP:ClOK M P) (h:Sep W NoF (K++clL c M P L) w):ClAt c M P.J (K++L) W w:=by
 refine ⟨P,rfl,hP,h.perm ?_⟩
 have e1:∀ L,clL c M P L=(clK c M P++(Asn.pool P.Z P.vs::P.Us.map (unA P.vs)))++L:=fun L=>by unfold clL;simp
 rw [e1 L,e1 (K++L)]
 exact List.perm_append_comm_assoc _ _ _
abbrev entM (x:Ent):Int×Value:=(x.1,.agg #[.int .i64 x.2.1.k,.slice x.2.2.1 x.2.1.d.length x.2.2.2])
abbrev entP (x:Ent):Value×List UInt8:=(.slice x.2.2.1 x.2.1.d.length x.2.2.2,x.2.1.d)
abbrev ordA (EM:List Ent) (oa:Option Addr) (oc:Nat):Asn:=.row 3 1 (.slice oa EM.length oc) EM.length (zVs (EM.map (·.1)))
abbrev entA (E:List Ent) (a:Option Addr) (c:Nat):Asn:=.row 215 3 (.slice a E.length c) E.length (ents E)
theorem look_entM (EM:List Ent) (a:Int):(lookE (EM.map entM) a).isSome=(EM.map noAd).any (fun q=>q.1==a):=by
 unfold lookE
 rw [Option.isSome_map,Bool.eq_iff_iff,List.find?_isSome,List.any_map,List.any_eq_true]
 refine ⟨fun ⟨p,hp,he⟩=>?_,fun ⟨x,hx,he⟩=>⟨entM x,List.mem_map_of_mem hx,he⟩⟩
 obtain ⟨x,hx,rfl⟩:=List.mem_map.1 hp
 exact ⟨x,hx,he⟩
theorem val_entM (EM:List Ent) (a:Int):∃ (k:Int) (p:Option Addr) (n c:Nat),(lookE (EM.map entM) a).getD zCell=.agg #[.int .i64 k,.slice p n c]:=by
 cases h:lookE (EM.map entM) a with
 | none=>exact ⟨0,none,0,0,rfl⟩
 | some v =>
  unfold lookE at h
  obtain ⟨q,hq,rfl⟩:=Option.map_eq_some_iff.1 h
  obtain ⟨x,hx,rfl⟩:=List.mem_map.1 (List.mem_of_find?_eq_some hq)
  exact ⟨_,_,_,_,rfl⟩
theorem put_entM {EM:List Ent} {x:Ent} (h:(EM.map noAd).any (fun q=>q.1==x.1)=false):putE (EM.map entM) x.1 (entM x).2=(EM++[x]).map entM:=by
 unfold putE
 rw [List.any_map] at h
 rw [List.any_map,if_neg (by show ¬(EM.any _=true);rw [show EM.any ((fun q=>q.1==x.1)∘entM)=false from h];decide),List.map_append]
 rfl
/-- what the cells' loop holds: the map, the addresses as they came, the data -/
def CIn (c B N0:Nat) (M:Cl) (J:CJ) (L:List Asn) (W:World) (b:Bd) (tail:Int) (EM:List Ent) (oa:Option Addr) (oc:Nat) (w:World):Prop :=
 ∃ Z vs,ClAt c M J (Asn.mapI N0 (EM.map entM)::ordA EM oa oc::Asn.pool Z vs::bdB B c b tail::L) W w∧∀ x∈EM,entP x∈vs
theorem CIn.start {c B:Nat} {M:Cl} {J:CJ} {L:List Asn} {W w:World} {b:Bd} {tail:Int} (h:ClAt c M J (bdB B c b tail::L) W w) (N0:Nat) (hN:w.heap.size=N0):CIn c B N0 M J L W b tail [] none 0 (w.alloc (.map #[] 0)):=by
 obtain ⟨P,rfl,hP,H⟩:=ClAt.front (K:=[]) h
 have H1:=IM.sep_made H N0 hN
 have H2:=(H1.pool0).nilRow 3 1
 exact ⟨NoF,[nilB],ClAt.permL (ClAt.unfront (K:=[_,_,_]) hP H2) (List.perm_middle (l₁:=[_,_])),by simp⟩
set_option maxHeartbeats 8000000 in
theorem cells_any {c B:Nat} {M:Cl} {J:CJ} {L:List Asn} {W:World} (b:Bd) (tail:Int) (ca:Option Addr) (cc:Nat) (chain:List Int) (w:World) (h:ClAt c M J (bdB B c b tail::L) W w)
  (hst:∀ M' w',ClAt c M' J L W w'→Zs w' (.slice b.sa b.st.length b.sc) b.st) (hch:∀ M' w',ClAt c M' J L W w'→Zs w' (.slice ca chain.length cc) chain) (hcl:chain.length≤1048576)
  (hon:∀ u∈chain,b.st.any (fun y=>u==y)=true→0≤u∧M.On u.toNat) :
  Calls Tryz.prog 126 #[ptrV B,.slice ca chain.length cc] w fun en w'=>∃ (EM:List Ent) (N0:Nat) (oa:Option Addr) (oc:Nat),en=.returned (.tuple #[.map (some N0),.slice oa EM.length oc])∧EM.map noAd=M.cells b.st chain∧CAd (EM.map noAd) ∧
   ∃ Z vs,ClAt c M J (Asn.mapI N0 (EM.map entM)::.row 3 1 (.slice oa EM.length oc) EM.length (zVs (sortI (EM.map (·.1))))::Asn.pool Z vs::bdB B c b tail::L) W w'∧∀ x∈EM,entP x∈vs:=by
 have HST:=Lib.hid' hst
 have HCH:=Lib.hid' hch
 have HON:=Lib.hid' hon
 have H:=Lib.hid' h
 have hmm:=@run_makeMap Tryz.prog
 obtain ⟨N0,hN⟩:∃ n,w.heap.size=n:=⟨_,rfl⟩
 have HI:=Zh (CIn.start h N0 hN)
 clear h hst hch hon H
 go_enter Tryz.func126, Tryz.ntmps126
 go_wp2_with fail
 try rw [hN]
 generalize (w.alloc (.map #[] 0))=w1 at *
 go_loopw [7,17] (fun v7 v17 wr=>∃ (k:Nat) (EM:List Ent) (oa:Option Addr) (oc:Nat),v7=.slice oa EM.length oc∧v17=.int .i64 k∧k≤chain.length∧Hid (CIn c B N0 M J L W b tail EM oa oc wr)∧Hid (EM.map noAd=(chain.take k).foldl (cellsStep M b.st) [])∧Hid (CAd (EM.map noAd))) (fun _ v17 _=>chain.length - (intOf v17).toNat)
 case atStart=>exact ⟨0,[],none,0,rfl,rfl,Nat.zero_le _,HI,Lib.hid' rfl,Lib.hid' ⟨List.nodup_nil,by simp⟩⟩
 case round =>
  clear HI
  obtain ⟨k,EM,oa,oc,rfl,rfl,hk,HI,HE,HC⟩:=hrel
  by_cases hlt:k<chain.length
  ·have HZ:=Zh (show Zs wr (.slice ca chain.length cc) chain from by obtain ⟨Z,vs,h,_⟩:=HI.out;exact HCH.out _ _ (ClAt.less (K:=[_,_,_,_]) h))
   obtain ⟨ba,off,rfl,hb,hc⟩:=HZ.out.at hlt
   have HM:=Zh (show chain[k]∈chain from List.getElem_mem hlt)
   have HTK:=Zh (take_succ chain k hlt)
   generalize chain[k]=u at *
   obtain ⟨Z,vs,h4,hvs⟩:=HI.out
   have HCT:=Zh (containsZ_any u b.st b.sa b.sc wr (HST.out _ _ (ClAt.less (K:=[_,_,_,_]) h4)))
   have b0:=h4.side.cell 3 rfl 0 rfl;have b3:=h4.side.cell 3 rfl 3 rfl;have bl:=h4.side.lt 3 rfl
   have H4:=Lib.hid' h4
   have HVS:=Lib.hid' hvs
   clear h4 hvs
   have HSK:=Zh (show cellsStep M b.st (EM.map noAd) u=if b.st.any (fun y=>u==y)=true then (sortC (M.unitU u).cells).foldl addCell (EM.map noAd) else EM.map noAd from rfl)
   have HON1:=Zh (HON.out u HM.out)
   go_wp2_with fail
   refine HCT.out.mono ?_
   rintro en wz ⟨rfl,rfl⟩
   clear HCT
   by_cases hs:b.st.any (fun y=>u==y)=true
   ·rw [hs]
    obtain ⟨hu0,D,S,hus⟩:=HON1.out hs
    obtain ⟨un,rfl⟩:∃ un:Nat,u=un:=⟨u.toNat,by omega⟩
    rw [Int.toNat_natCast] at hus
    have HSK2:=Zh (HSK.out.trans (if_pos hs))
    have HUU:=Zh (show M.unitU (un:Int)=S.u by unfold Cl.unitU;rw [Int.toNat_natCast,hus])
    obtain ⟨g,n,cap,q,c1,hgn,hgl,hgc,HUN⟩:=H4.out.unitOf hus
    have HUNh:=Lib.hid' HUN
    have cl:=H4.out.c2.2
    clear HUN hs
    go_wp2_with fail
    refine (HUNh.out _ (Below.refl _ _)).mono ?_
    rintro en w5 ⟨bu,bm,us,A,rfl,h5,hU5⟩
    have HOK:=Lib.hid' hU5.ok
    have HEN:=Zh (entries_any w5 hU5 (CAd.unit hU5.ok).len)
    have H5:=Lib.hid' h5
    clear h5 hU5 HUNh c1 hgn hgl hgc H4
    go_wp2_with fail
    refine HEN.out.mono ?_
    clear HEN
    rintro en w6 ⟨E,ea,ec,rfl,hE,hro,hdo,hbw⟩
    obtain ⟨Z2,h6⟩:=H5.out.ents hro hdo hbw
    obtain ⟨P,hPJ,hP,h7⟩:=ClAt.front (K:=[_,_,_,_,_,_,_]) h6
    have HSP:∃ R,Sep W NoF (Asn.mapI N0 (EM.map entM)::ordA EM oa oc::entA E ea ec::R) w6∧∀ EM' oa' oc' w',Sep W NoF (Asn.mapI N0 (EM'.map entM)::ordA EM' oa' oc'::entA E ea ec::R) w'→(∀ x∈EM',x∈EM∨x∈E)→CIn c B N0 M J L W b tail EM' oa' oc' w':=by
     have g1:=((((((h7.focus 5 rfl).focus 2 rfl).poolJoin).drop 2).focus 1 rfl).focus 3 rfl).focus 3 rfl
     refine ⟨_,g1,fun EM' oa' oc' w' hg hm=>?_⟩
     have g2:=hg.keepOnly (((List.sublist_cons_self _ _).cons_cons _).cons_cons _)
     rw [←hPJ]
     refine ⟨_,_,ClAt.unfront (K:=[_,_,_,_]) hP g2,fun x hx=>?_⟩
     rcases hm x hx with h1 | h1
     ·exact List.mem_append_right _ (HVS.out x h1)
     ·exact List.mem_append_left _ (List.mem_map_of_mem h1)
    clear h6 h7 hP
    obtain ⟨R,h8,HBK⟩:=HSP
    have H8:=Lib.hid' h8
    have HBK:=Lib.hid' HBK
    have HEE:=Lib.hid' hE
    clear h8 hE hro hdo hbw H5
    have HEL:=Zh (show E.length≤1048576 by have h1:=congrArg List.length HEE.out;rw [List.length_map,sortC_len] at h1;rw [h1];exact (CAd.unit HOK.out).len)
    go_wp2_with fail
    go_loopw [7,41] (fun v7 v41 wr=>∃ (j:Nat) (EN:List Ent) (oa:Option Addr) (oc:Nat),v7=.slice oa EN.length oc∧v41=.int .i64 j∧j≤E.length∧Hid (Sep W NoF (Asn.mapI N0 (EN.map entM)::ordA EN oa oc::entA E ea ec::R) wr)∧Hid (EN.map noAd=((E.take j).map noAd).foldl addCell (EM.map noAd))∧Hid (CAd (EN.map noAd))∧Hid (∀ x∈EN,x∈EM∨x∈E)) (fun _ v41 _=>E.length - (intOf v41).toNat)
    case atStart=>exact ⟨0,EM,oa,oc,rfl,rfl,Nat.zero_le _,H8,Lib.hid' rfl,HC,Zh (fun x hx=>.inl hx)⟩
    case round =>
     obtain ⟨j,EN,oa2,oc2,rfl,rfl,hj,HI2,HE2,HC2,HS2⟩:=hrel
     have HLN:=Zh (show EN.length≤1048576 from by have:=HC2.out.len;rwa [List.length_map] at this)
     have hel:=HEL.out
     by_cases hjl:j<E.length
     ·have HJM:=Zh (show E[j]∈E from List.getElem_mem hjl)
      have HJT:=Zh (take_succ E j hjl)
      obtain ⟨eb,eo,rfl,heb,hec⟩:=SlV.row (f:=entV) (s:=3) (fun _=>rfl) (by decide) (SlV.of_own (HI2.out.row 2 rfl)) hjl
      generalize E[j]=x at *
      obtain ⟨xa,⟨xk,xd⟩,xp,xc⟩:=x
      have e0:wr.cell? ⟨eb,eo+j*3,none⟩=some (.int .i64 xa):=hec 0 _ rfl
      have e1:wr.cell? ⟨eb,eo+j*3+1,none⟩=some (.int .i64 xk):=hec 1 _ rfl
      have e2:wr.cell? ⟨eb,eo+j*3+2,none⟩=some (.slice xp xd.length xc):=hec 2 _ rfl
      clear hec
      go_upto_region 10 with fail
      have H9:=HI2.out.allocAt wr.heap.size [.int .i64 xa,.int .i64 xk,.slice xp xd.length xc] 215 rfl
      rw [show ([.int .i64 xa,.int .i64 xk,.slice xp xd.length xc]:List Value).toArray=#[.int .i64 xa,.int .i64 xk,.slice xp xd.length xc] from rfl] at H9
      clear e0 e1 e2 heb HI2
      generalize (wr.alloc (.cells #[.int .i64 xa,.int .i64 xk,.slice xp xd.length xc] 215))=w9 at *
      have q0:=H9.cell 0 rfl 0 rfl;have q1:=H9.cell 0 rfl 1 rfl;have q2:=H9.cell 0 rfl 2 rfl;have ql:=H9.lt 0 rfl
      generalize wr.heap.size=N1 at *
      have HMP:=Zh (H9.at 1 rfl:MapAt w9 N0 (EN.map entM))
      have HLK:=Zh (look_entM EN xa)
      obtain ⟨vk,vp,vn,vc,hv⟩:=val_entM EN xa
      have HV:=Lib.hid' hv
      clear hv
      have H9:=Lib.hid' H9
      by_cases ht:(EN.map noAd).any (fun q=>q.1==xa)=true
      ·rw [ht] at HLK
       have HAD:=Zh (show addCell (EN.map noAd) (xa,⟨xk,xd⟩)=EN.map noAd from if_pos ht)
       clear ht
       go_wp2_with (at_lookup;refine IM.wp_look_ok mtCells rfl (.tmp 46) (.tmp 48) rfl rfl xa rfl HMP.out ?_;rw [HLK.out,HV.out])
       go_roundw
       case rel=>exact ⟨j+1,EN,oa2,oc2,rfl,by go_num,by omega,Zh ((H9.out.allocX _).keepOnly (List.sublist_cons_self _ _)),Zh (by rw [HJT.out,List.map_append,List.foldl_append,←HE2.out];exact HAD.out.symm),HC2,HS2⟩
       case measure=>simp [intOf];omega
      ·rw [Bool.not_eq_true] at ht
       rw [ht] at HLK
       have HAD:=Zh (show addCell (EN.map noAd) (xa,⟨xk,xd⟩)=EN.map noAd++[(xa,⟨xk,xd⟩)] from if_neg (by rw [ht];decide))
       have HPT:=Zh (put_entM (x:=(xa,⟨xk,xd⟩,xp,xc)) ht)
       clear ht
       go_upto_region 12 with (at_lookup;refine IM.wp_look_ok mtCells rfl (.tmp 46) (.tmp 48) rfl rfl xa rfl HMP.out ?_;rw [HLK.out,HV.out])
       have HA:=H9.out.allocX (.cells #[.int .i64 vk,.slice vp vn vc] 40)
       generalize (w9.alloc (.cells #[.int .i64 vk,.slice vp vn vc] 40))=wA at *
       obtain ⟨ob,hrun,hat⟩:=run_store mtCells (HA.at 1 rfl:MapAt wA N0 (EN.map entM)) xa (.agg #[.int .i64 xk,.slice xp xd.length xc])
       have HSB:=Zh ((HA.focus 1 rfl).fr1 (B:=Asn.mapI N0 ((EN++[(xa,(⟨xk,xd⟩:C),xp,xc)]).map entM)) (setBlk_fr wA N0 ob) (by show MapAt _ _ _;rw [←HPT.out];exact hat) (fun q hq=>.inr hq))
       have q0:=HA.cell 0 rfl 0 rfl;have q1:=HA.cell 0 rfl 1 rfl;have q2:=HA.cell 0 rfl 2 rfl;have ql:=HA.lt 0 rfl
       clear hat HA HPT HMP HLK HV
       go_upto_region 13 with fail
       clear q0 q1 q2 ql hrun
       have HB:=HSB.out
       clear HSB
       generalize setBlk wA N0 ob=wB at *
       have q0:=HB.cell 1 rfl 0 rfl;have ql:=HB.lt 1 rfl
       have hen:EN.length≤1048576:=HLN.out
       go_wp2_with (at_builtin;refine Sep.append etInts rfl (.tmp 59) (.tmp 62) rfl [.int .i64 xa] rfl HB 2 rfl rfl rfl (by simp [Value.oneCell']) (by omega) ?_;intro a7 c7 w7 H7)
       have HXI:=Zh (sortC_in HOK.out (by rw [←HEE.out];exact List.mem_map_of_mem HJM.out:noAd (xa,⟨xk,xd⟩,xp,xc)∈_))
       have HO:=Zh (show ordA (EN++[(xa,(⟨xk,xd⟩:C),xp,xc)]) a7 c7=.row 3 1 (.slice a7 (EN.length+1) c7) (EN.length+1) (zVs (EN.map (fun x:Ent=>x.1))++[.int .i64 xa]) by
        show Asn.row _ _ _ _ _=_
        rw [List.length_append,List.map_append];simp [zVs])
       have H8:=Zh ((H7.keepOnly (((List.sublist_cons_self _ _).cons_cons _).cons_cons _)).focus 1 rfl)
       clear H7
       go_roundw
       case rel =>
        refine ⟨j+1,EN++[(xa,(⟨xk,xd⟩:C),xp,xc)],a7,c7,by simp,by go_num,by omega,Lib.hid' ?_,Lib.hid' ?_,Lib.hid' ?_,Lib.hid' ?_⟩
        ·rw [HO.out];exact H8.out
        ·rw [HJT.out,List.map_append,List.map_append,List.foldl_append,←HE2.out];exact HAD.out.symm
        ·rw [List.map_append]
         have:=HC2.out.add HXI.out
         rw [show noAd (xa,(⟨xk,xd⟩:C),xp,xc)=(xa,(⟨xk,xd⟩:C)) from rfl,HAD.out] at this
         exact this
        ·intro x hx
         rcases List.mem_append.1 hx with hx | hx
         ·exact HS2.out x hx
         ·rw [List.mem_singleton] at hx;subst hx;exact .inr HJM.out
       case measure=>simp [intOf];omega
     ·go_wp2_with fail
      go_roundw
      case rel=>exact ⟨k+1,EN,oa2,oc2,rfl,by go_num,by omega,Zh (HBK.out _ _ _ _ HI2.out HS2.out),Zh (by rw [HTK.out,List.foldl_append,←HE.out];refine Eq.trans ?_ HSK2.out.symm;rw [HE2.out,List.take_of_length_le (by omega),HEE.out,HUU.out]),HC2⟩
      case measure=>simp [intOf];omega
   ·rw [Bool.not_eq_true] at hs
    have HSK2:=Zh (HSK.out.trans (if_neg (by rw [hs];decide)))
    rw [hs]
    go_wp2_with fail
    go_roundw
    case rel=>exact ⟨k+1,EM,oa,oc,rfl,by go_num,by omega,HI,Zh (by rw [HTK.out,List.foldl_append,←HE.out];exact HSK2.out.symm),HC⟩
    case measure=>simp [intOf];omega
  ·have HSO:=Zh (show chain.take k=chain from List.take_of_length_le (by omega))
   obtain ⟨Z,vs,h4,hvs⟩:=HI.out
   have HLN:=Zh (show EM.length≤1048576 from by have:=HC.out.len;rwa [List.length_map] at this)
   have HS:=Zh (sortZ_any (B:=0) (EM.map (·.1)) oa oc wr (by rw [List.length_map];exact h4.side.row 1 rfl) (by rw [List.length_map];have:=HLN.out;omega))
   rw [List.length_map] at HS
   have H4:=Lib.hid' h4
   have HVS:=Lib.hid' hvs
   clear h4 hvs
   go_wp2_with fail
   refine HS.out.mono ?_
   clear HS
   rintro en w3 ⟨rfl,hr,hf⟩
   have H3:=Zh (H4.out.swapB.turn0 (B:=.row 3 1 (.slice oa EM.length oc) EM.length (zVs (sortI (EM.map (fun x:Ent=>x.1))))) (hf.mono (fun k hk=>own_foot hk)) hr (fun b hb=>.inr (own_foot hb)))
   go_wp2_with fail
   go_ret2
   exact ⟨EM,N0,oa,oc,rfl,by rw [HE.out,HSO.out];rfl,HC.out,Z,vs,H3.out.swapB,HVS.out⟩
end SL
end Go.Proofs.YtimbeeiihbmofaaGreatDoor

namespace Go.Proofs.YtimbeeiihbmofaaGreatDoor
open Go.RowKit
def Asn.mdl (bl bm:Nat) (m:M) (vs:PoolL):Asn where
 holds:=fun w=>w.heap[bl]?=some (.cells #[.map (some bm),.int .i64 m.u.l,.int .i64 m.t] 69 (0,0))∧∃ L,MapAt w bm L∧F2 (CRel vs) L m.u.cells
 foot:=fun k=>k=bl∨k=bm
 lt:=fun w h b hb=>by
  obtain ⟨h1,L,h2,_⟩:=h
  rcases hb with rfl | rfl
  ·exact (Array.getElem?_eq_some_iff.1 h1).1
  ·exact h2.lt
 keep:=fun w w' h k=>⟨(k bl (.inl rfl)).trans h.1,by
  obtain ⟨L,h2,h3⟩:=h.2
  exact ⟨L,h2.block (k bm (.inr rfl)),h3⟩⟩
theorem Asn.mdl_more {w:World} {bl bm:Nat} {m:M} {vs us:PoolL} (h:(Asn.mdl bl bm m vs).holds w) (hs:∀ x∈vs,x∈us):(Asn.mdl bl bm m us).holds w:=by
 obtain ⟨h1,L,h2,h3⟩:=h
 exact ⟨h1,L,h2,h3.mono (fun _ _ _ _ ⟨q1,a,c,q2,q3⟩=>⟨q1,a,c,q2,hs _ q3⟩)⟩
theorem Asn.mdlAt {w:World} {bl bm:Nat} {m:M} {vs:PoolL} {Z:Nat→Prop} (h:(Asn.mdl bl bm m vs).holds w) (hp:(Asn.pool Z vs).holds w) (h1:¬Z bl) (h2:¬Z bm) (hok:m.ok):LogAt (Off w Z) w bl bm m:=by
 have hl1:=(Asn.mdl bl bm m vs).lt w h bl (.inl rfl)
 have hl2:=(Asn.mdl bl bm m vs).lt w h bm (.inr rfl)
 obtain ⟨q1,L,q2,q3⟩:=h
 refine ⟨q1,⟨L,q2,q3.mono (fun x y _ _ ⟨r1,a,c,r2,r3⟩=>⟨r1,a,c,r2,(hp.1 _ r3).1,fun p hpa=>?_⟩)⟩,hok,⟨hl1,h1⟩,⟨hl2,h2⟩⟩
 have hz:Z p.block:=(hp.1 _ r3).2 p _ _ (by rw [hpa])
 exact ⟨fun hk=>hk.2 hz,hp.2 _ hz⟩
theorem Sep.mdlAt {w0 w:World} {F Z:Nat→Prop} {bl bm:Nat} {m:M} {vs:PoolL} {L:List Asn} (h:Sep w0 F (Asn.mdl bl bm m vs::Asn.pool Z vs::L) w) (hok:m.ok):LogAt (Off w Z) w bl bm m :=
 Asn.mdlAt (h.at 0 rfl) (h.at 1 rfl) (h.off 0 1 rfl rfl (by decide) bl (.inl rfl)) (h.off 0 1 rfl rfl (by decide) bm (.inr rfl)) hok
/-- the bytes of a unit's cells -/
theorem mdl_pool {A:Nat→Prop} {w:World} {bl bm:Nat} {m:M} (h:LogAt A w bl bm m):∃ us:PoolL,(Asn.mdl bl bm m us).holds w∧∀ x∈us,Bytes w x.1 x.2∧SlIn (fun k=>¬A k∧k<w.heap.size) x.1:=by
 obtain ⟨L,h1,h2⟩:=h.map
 have key:∀ (L:List (Int×Value)) (M:List (Int×C)),F2 (EntIs A w) L M→∃ us:PoolL,F2 (CRel us) L M∧∀ x∈us,Bytes w x.1 x.2∧SlIn (fun k=>¬A k∧k<w.heap.size) x.1:=by
  intro L M h
  induction h with
  | nil=>exact ⟨[],.nil,by simp⟩
  | cons hab _ ih =>
   obtain ⟨us,q1,q2⟩:=ih
   obtain ⟨r1,a,c,r2,r3,r4⟩:=hab
   refine ⟨(Value.slice a _ c,_)::us,.cons ⟨r1,a,c,r2,List.mem_cons_self⟩ (q1.mono (fun _ _ _ _ ⟨s1,a,c,s2,s3⟩=>⟨s1,a,c,s2,List.mem_cons_of_mem _ s3⟩)),fun x hx=>?_⟩
   rcases List.mem_cons.1 hx with rfl | hx
   ·refine ⟨r3,fun p n cc hv=>?_⟩
    simp only [Value.slice.injEq] at hv
    exact r4 p hv.1
   ·exact q2 x hx
 obtain ⟨us,q1,q2⟩:=key L m.u.cells h2
 exact ⟨us,⟨h.blk,L,h1,q1⟩,q2⟩
/-- behind a call with the unit that told its world anew -/
theorem Sep.mdlCall {w0 w w':World} {F Z:Nat→Prop} {bl bm:Nat} {m m':M} {vs:PoolL} {L:List Asn} (h:Sep w0 F (Asn.mdl bl bm m vs::Asn.pool Z vs::L) w) (hU:LogAt (Off w Z) w' bl bm m') (hf:Fr (fun k=>k=bl∨k=bm) w w') :
  ∃ Z' vs',(∀ x∈vs,x∈vs')∧Sep w0 F (Asn.mdl bl bm m' vs'::Asn.pool Z' vs'::L) w':=by
 obtain ⟨us,q1,q2⟩:=mdl_pool hU
 have hbl:=h.lt' 0 rfl (b:=bl) (.inl rfl)
 have hbm:=h.lt' 0 rfl (b:=bm) (.inr rfl)
 have hzu:¬Z bl:=h.off 0 1 rfl rfl (by decide) bl (.inl rfl)
 have hzm:¬Z bm:=h.off 0 1 rfl rfl (by decide) bm (.inr rfl)
 have hp:=h.at 1 rfl
 have hp':(Asn.pool Z vs).holds w':=(Asn.pool Z vs).keep w w' hp (fun b hb=>hf.block b (hp.2 b hb) (by rintro (rfl | rfl);exact hzu hb;exact hzm hb))
 refine ⟨fun k=>Z k∨(w.heap.size≤k∧k<w'.heap.size),vs++us,fun x hx=>List.mem_append_left _ hx,?_⟩
 have h1:Sep w0 F ((Asn.mdl bl bm m vs).sep (Asn.pool Z vs)::L) w:=h.join
 have h2:Sep w0 F ((Asn.mdl bl bm m' (vs++us)).sep (Asn.pool (fun k=>Z k∨(w.heap.size≤k∧k<w'.heap.size)) (vs++us))::L) w':=by
  refine h1.fr1 (hf.mono (fun i hi=>.inl hi)) ⟨Asn.mdl_more q1 (fun x hx=>List.mem_append_right _ hx),⟨fun x hx=>?_,fun b hb=>?_⟩,fun b hb hc=>?_⟩ (fun b hb=>?_)
  ·rcases List.mem_append.1 hx with hx | hx
   ·exact ⟨(hp'.1 x hx).1,fun p n c hv=>.inl ((hp'.1 x hx).2 p n c hv)⟩
   ·refine ⟨(q2 x hx).1,fun p n c hv=>?_⟩
    obtain ⟨r1,r2⟩:=(q2 x hx).2 p n c hv
    by_cases hz:Z p.block
    ·exact .inl hz
    ·exact .inr ⟨Nat.le_of_not_lt (fun hlt=>r1 ⟨hlt,hz⟩),r2⟩
  ·rcases hb with hb | hb
   ·exact hp'.2 b hb
   ·exact hb.2
  ·rcases hb with rfl | rfl
   ·rcases hc with hc | hc
    ·exact hzu hc
    ·omega
   ·rcases hc with hc | hc
    ·exact hzm hc
    ·omega
  ·rcases hb with hb | hb | hb
   ·exact .inr (.inl hb)
   ·exact .inr (.inr hb)
   ·exact .inl hb.1
 exact h2.part
/-- a new unit, its bytes in the pool, or new -/
theorem Sep.mdlNew {w0 w w':World} {F Z:Nat→Prop} {bl bm:Nat} {m:M} {vs:PoolL} {L:List Asn} (h:Sep w0 F (Asn.pool Z vs::L) w) (hb:Below w.heap.size w w') (h1:w.heap.size≤bl) (h2:w.heap.size≤bm) (hU:LogAt (fun k=>Off w Z k∨k=bl∨k=bm) w' bl bm m) :
  ∃ Z' vs',(∀ x∈vs,x∈vs')∧Sep w0 F (Asn.mdl bl bm m vs'::Asn.pool Z' vs'::L) w':=by
 obtain ⟨us,q1,q2⟩:=mdl_pool hU
 have hl1:=(Asn.mdl bl bm m us).lt w' q1 bl (.inl rfl)
 have hl2:=(Asn.mdl bl bm m us).lt w' q1 bm (.inr rfl)
 have hp:=h.at 0 rfl
 have hp':(Asn.pool Z vs).holds w':=(Asn.pool Z vs).keep w w' hp (fun b hb'=>hb.block b (hp.2 b hb'))
 refine ⟨fun k=>Z k∨((w.heap.size≤k∧k<w'.heap.size)∧k≠bl∧k≠bm),vs++us,fun x hx=>List.mem_append_left _ hx,?_⟩
 have h3:Sep w0 F ((Asn.mdl bl bm m (vs++us)).sep (Asn.pool (fun k=>Z k∨((w.heap.size≤k∧k<w'.heap.size)∧k≠bl∧k≠bm)) (vs++us))::L) w':=by
  refine h.fr1 (Fr.of_below hb) ⟨Asn.mdl_more q1 (fun x hx=>List.mem_append_right _ hx),⟨fun x hx=>?_,fun b hb=>?_⟩,fun b hb hc=>?_⟩ (fun b hb=>?_)
  ·rcases List.mem_append.1 hx with hx | hx
   ·exact ⟨(hp'.1 x hx).1,fun p n c hv=>.inl ((hp'.1 x hx).2 p n c hv)⟩
   ·refine ⟨(q2 x hx).1,fun p n c hv=>?_⟩
    obtain ⟨r1,r2⟩:=(q2 x hx).2 p n c hv
    by_cases hz:Z p.block
    ·exact .inl hz
    ·exact .inr ⟨⟨Nat.le_of_not_lt (fun hlt=>r1 (.inl ⟨hlt,hz⟩)),r2⟩,fun e=>r1 (.inr (.inl e)),fun e=>r1 (.inr (.inr e))⟩
  ·rcases hb with hb | hb
   ·exact hp'.2 b hb
   ·exact hb.1.2
  ·rcases hb with rfl | rfl
   ·rcases hc with hc | hc
    ·have:=hp.2 b hc;omega
    ·exact hc.2.1 rfl
   ·rcases hc with hc | hc
    ·have:=hp.2 b hc;omega
    ·exact hc.2.2 rfl
  ·rcases hb with (rfl | rfl) | hb | hb
   ·exact .inl h1
   ·exact .inl h2
   ·exact .inr hb
   ·exact .inl hb.1.1
 exact h3.part
namespace SL
open DK SH SQ
theorem ClAt.mdlAt {c bl bm:Nat} {M:Cl} {m:Go.Proofs.YtimbeeiihbmofaaGreatDoor.M} {J:CJ} {Z:Nat→Prop} {vs:PoolL} {L:List Asn} {W w:World} (h:ClAt c M J (Asn.mdl bl bm m vs::Asn.pool Z vs::L) W w) (hok:m.ok):LogAt (Off w Z) w bl bm m:=Sep.mdlAt h.side hok
/-- behind a call with the model that told its world anew -/
theorem ClAt.mdlCall {c bl bm:Nat} {M:Cl} {m m':Go.Proofs.YtimbeeiihbmofaaGreatDoor.M} {J:CJ} {Z:Nat→Prop} {vs:PoolL} {L:List Asn} {W w w':World} (h:ClAt c M J (Asn.mdl bl bm m vs::Asn.pool Z vs::L) W w) (hU:LogAt (Off w Z) w' bl bm m') (hf:Fr (fun k=>k=bl∨k=bm) w w') :
  ∃ Z' vs',ClAt c M J (Asn.mdl bl bm m' vs'::Asn.pool Z' vs'::L) W w':=by
 obtain ⟨P,rfl,hP,H⟩:=ClAt.front (K:=Asn.mdl bl bm m vs::Asn.pool Z vs::[]) (L:=L) h
 obtain ⟨Z',vs',_,H'⟩:=Sep.mdlCall (L:=clL c M P L) H hU hf
 exact ⟨Z',vs',ClAt.unfront (K:=Asn.mdl bl bm m' vs'::Asn.pool Z' vs'::[]) hP H'⟩
/-- a new model beside the cluster -/
theorem ClAt.mdlNew {c bl bm:Nat} {M:Cl} {m:Go.Proofs.YtimbeeiihbmofaaGreatDoor.M} {J:CJ} {L:List Asn} {W w w':World} (h:ClAt c M J L W w) (hb:Below w.heap.size w w') (h1:w.heap.size≤bl) (h2:w.heap.size≤bm) (hU:LogAt (fun k=>k<w.heap.size∨k=bl∨k=bm) w' bl bm m) :
  ∃ Z' vs',ClAt c M J (Asn.mdl bl bm m vs'::Asn.pool Z' vs'::L) W w':=by
 obtain ⟨P,rfl,hP,H⟩:=ClAt.front (K:=[]) (L:=L) h
 have H0:Sep W NoF (Asn.pool NoF [nilB]::clL c M P L) w:=Sep.pool0 H
 obtain ⟨Z',vs',_,H'⟩:=Sep.mdlNew H0 hb h1 h2 (by
  have e:(fun k=>Off w NoF k∨k=bl∨k=bm)=(fun k=>k<w.heap.size∨k=bl∨k=bm):=by
   funext k
   unfold Off NoF
   simp
  rw [e]
  exact hU)
 exact ⟨Z',vs',ClAt.unfront (K:=Asn.mdl bl bm m vs'::Asn.pool Z' vs'::[]) hP H'⟩
end SL
end Go.Proofs.YtimbeeiihbmofaaGreatDoor

namespace Go.Proofs.YtimbeeiihbmofaaGreatDoor
namespace SL
open DK SH SQ
/-- an act with a unit that has never failed: an act that has an error leaves no file -/
theorem Fine.act2 {r:Int} {k:Nat} {u:U} {x:Un} (h:Fine r k u x) (hk:k<512) (hr:(200*k+200:Nat)≤r) (a:Ac) :
  ∃ S D S' D',x=⟨D,some S⟩∧doS S D a=((apU u a).1,if (apU u a).1=0 then (apU u a).2.1 else 0,S',D')∧Fine r (if (apU u a).1=0 then k+1 else k) (if (apU u a).1=0 then (apU u a).2.2 else u) ⟨D',some S'⟩:=by
 by_cases hx:(apU u a).1=0
 ·rw [if_pos hx,if_pos hx,if_pos hx]
  have:=h.act hk hr a
  rw [if_pos hx,if_pos hx] at this
  exact this
 ·obtain ⟨n,L,rfl,h2,h3,h4,h5,h6⟩:=h
  refine ⟨⟨u,n,false⟩,⟨r,L,L,[],-1,false⟩,⟨u,n,false⟩,⟨r,L,L,[],-1,false⟩,rfl,?_,?_⟩
  ·rw [if_neg hx]
   show doS ⟨u,n,false⟩ _ a=_
   unfold doS
   rw [if_neg (by simp),if_pos hx]
  ·rw [if_neg hx,if_neg hx]
   exact ⟨n,L,rfl,h2,h3,h4,h5,h6⟩
/-- no unit has ever failed; each has had at most k acts; their epochs are the projection's -/
structure Live (r:Int) (k:Nat) (M:Cl):Prop where
 ok:M.ok
 e:M.q.e=M.p.e
 each:∀ (i:Nat) (x:Un),M.us[i]?=some x→∃ u,Fine r k u x∧u.e=M.p.e
theorem Live.mono {r:Int} {k m:Nat} {M:Cl} (h:Live r k M) (hk:k≤m):Live r m M:=⟨h.ok,h.e,fun i x hx=>by obtain ⟨u,h1,h2⟩:=h.each i x hx;exact ⟨u,h1.mono hk,h2⟩⟩
theorem Live.tail {r:Int} {k:Nat} {M:Cl} (h:Live r k M):M.tail=(0,M.q.n):=by
 unfold Cl.tail Q.tail Q.asks
 rw [h.e]
 simp
theorem Live.read {r:Int} {k:Nat} {M:Cl} (h:Live r k M) {a:Int} (h0:0≤a) (h1:a≤1048575):(M.read a).1=0:=by
 obtain ⟨i,hi,_,hg⟩:=home_at (M:=M) (pj_ok h.ok.proj) h0
 have hl:=((pj_ok h.ok.proj).each _ (List.mem_of_getElem? hg))
 have hin:inB a 1048575=true:=inB_iff.2 ⟨h0,h1⟩
 unfold Cl.read
 rw [if_neg (by rw [hin];decide)]
 obtain ⟨v,hv⟩:∃ v,(M.home a).getLast?=some v:=by
  cases hq:(M.home a).getLast? with
  | some v=>exact ⟨v,rfl⟩
  | none=>rw [List.getLast?_eq_none_iff] at hq;rw [hq] at hl;simp at hl
 rw [hv]
 have hm:v∈M.p.all:=List.mem_flatten.2 ⟨_,List.mem_of_getElem? hg,List.mem_of_getLast? hv⟩
 have hb:=h.ok.there v hm
 have hlt:v.toNat<M.us.length:=by omega
 obtain ⟨u,hF,he⟩:=h.each v.toNat _ (List.getElem?_eq_getElem hlt)
 obtain ⟨S,D,hx,hr⟩:=hF.read
 show (M.readU v.toNat M.p.e a).1=0
 unfold Cl.readU
 rw [List.getElem?_eq_getElem hlt,hx]
 show (readS S D M.p.e a).1=0
 rw [hr]
 unfold U.read
 have:u.asks M.p.e (inR a 1048575)=0:=by
  unfold U.asks U.cur inR
  rw [he]
  simp [h0,h1]
 rw [if_neg (by rw [this];decide)]
theorem add_fine {r:Int} (h:400≤r∧r≤1073741824) (M:Cl):∃ x,Fine r 1 u1 x∧Sd x.d∧M.add r=(0,{ M with us:=M.us++[x]}):=by
 obtain ⟨S,D,S',D',hx,e,hF⟩:=(Fine.new r).act (by decide) (by omega) sealA
 have ha:(apU U.new sealA).1=0∧(apU U.new sealA).2.2=u1:=ap1
 have hsd:Sd D':=by
  have h2:=Sd.doS (D:=D) (S:=S) (by have:newD r=D:=congrArg Un.d hx;rw [←this];exact Sd.new ⟨by omega,h.2⟩) sealA
  rw [e] at h2;exact h2
 rw [ha.1,ha.2] at hF
 simp only [if_pos] at hF
 refine ⟨_,hF,hsd,?_⟩
 have hd:M.grow (newU r)={ M with us:=M.us++[⟨D,some S⟩]}:=by
  unfold Cl.grow newU
  rw [hx]
 unfold Cl.add
 rw [if_neg (by omega),hd]
 have hg:({ M with us:=M.us++[⟨D,some S⟩]}:Cl).us[M.us.length]?=some ⟨D,some S⟩:=by
  show (M.us++[⟨D,some S⟩])[M.us.length]?=_
  simp
 show (((({ M with us:=M.us++[⟨D,some S⟩]}:Cl).do M.us.length sealA).1,(({ M with us:=M.us++[⟨D,some S⟩]}:Cl).do M.us.length sealA).2.2):Nat×Cl)=_
 rw [do_on (u:=M.us.length) sealA hg,e]
 rw [ha.1]
 show ((0:Nat),({ M with us:=M.us++[⟨D,some S⟩]}:Cl).put M.us.length _)=_
 unfold Cl.put
 simp
theorem addN_fine {r:Int} (h:400≤r∧r≤1073741824):∀ (k:Nat) (M:Cl),∃ xs:List Un,xs.length=k∧(∀ x∈xs,Fine r 1 u1 x∧Sd x.d)∧Cl.addN r k M=(0,{ M with us:=M.us++xs })
 | 0,M=>⟨[],rfl,by simp,by simp [Cl.addN]⟩
 | k+1,M=>by
  obtain ⟨x,h1,h2,e⟩:=add_fine h M
  obtain ⟨xs,h3,h4,e2⟩:=addN_fine h k { M with us:=M.us++[x]}
  refine ⟨x::xs,by simp [h3],fun y hy=>?_,?_⟩
  ·rcases List.mem_cons.1 hy with rfl | hy
   ·exact ⟨h1,h2⟩
   ·exact h4 y hy
  ·rw [addN_step (by rw [e]),e,e2]
   simp
end SL
end Go.Proofs.YtimbeeiihbmofaaGreatDoor

namespace Go.Proofs.YtimbeeiihbmofaaGreatDoor
open Go.RowKit
namespace SL
open DK SH SQ
/-- a shipper: its epoch, up to where all was applied -/
structure Sp where
 e:Int
 a:Int
end SL
end Go.Proofs.YtimbeeiihbmofaaGreatDoor

namespace Go.Proofs.YtimbeeiihbmofaaGreatDoor
open Go.RowKit
namespace SL
open DK SH SQ
/-- a cell, with where its data lie -/
structure CE where
 c:C
 a:Option Addr
 k:Nat
def ceV (x:CE):List Value:=[.int .i64 x.c.k,.slice x.a x.c.d.length x.k]
abbrev ceA (x:CE):Asn:=.row 5 1 (.slice x.a x.c.d.length x.k) x.c.d.length (byteVs x.c.d)
structure CEs (w:World) (a:Option Addr) (k:Nat) (X:List CE):Prop where
 row:SlV w (.slice a X.length k) X.length (X.flatMap ceV)
 each:∀ x∈X,Bytes w (.slice x.a x.c.d.length x.k) x.c.d
/-- a row of cells that the call itself has laid, as parts -/
abbrev ceR (X:List CE) (a:Option Addr) (k:Nat):Asn:=.row 40 2 (.slice a X.length k) X.length (X.flatMap ceV)
/-- the least low mark of units -/
def minLow (M:Cl) (l:List Int) (t:Int):Int:=l.foldl (fun t u=>min t (M.lowU u)) t
/-- cells from an address on, so many, up to the first empty one; an error's number -/
def nextR (M:Cl):Nat→Int→List C→Nat×List C
 | 0,_,X=>(0,X)
 | k+1,a,X=>if (M.read a).1≠0 then ((M.read a).1,X) else if (M.read a).2.k=0 then (0,X) else nextR M k (a+1) (X++[(M.read a).2])
def many64 (f t:Int):Nat:=(min (f+64) t - f).toNat
/-- the next parcel: an error's number, its mark, its cells -/
def nextS (M:Cl) (f:Int):Nat×Int×List C:=if M.tail.1≠0 then (M.tail.1,0,[]) else
 if (nextR M (many64 f M.tail.2) f []).1≠0 then ((nextR M (many64 f M.tail.2) f []).1,0,[]) else (0,minLow M M.units 1048576,(nextR M (many64 f M.tail.2) f []).2)
abbrev pclV (e t f:Int) (a:Option Addr) (n k:Nat):Value:=.agg #[.int .i64 e,.int .i64 t,.int .i64 f,.slice a n k]
theorem ClAt.focus {c:Nat} {M:Cl} {J:CJ} {L:List Asn} {W w:World} {A:Asn} (h:ClAt c M J L W w) (i:Nat) (hi:L[i]?=some A):ClAt c M J (A::L.eraseIdx i) W w:=h.permL (perm_get hi)
end SL
end Go.Proofs.YtimbeeiihbmofaaGreatDoor

namespace Go.Proofs.YtimbeeiihbmofaaGreatDoor
namespace SL
open DK SH SQ
theorem at_three {u:U} (h:u.ok) {a:Int} (h3:(u.at a).k=3):a<u.l:=by
 unfold U.at at h3
 split at h3
 ·assumption
 ·exfalso
  cases hq:u.cells.any (·.1==a) with
  | false=>rw [lookC_none hq] at h3;cases h3
  | true =>
   rcases (h.kind _ (lookC_mem hq)).1 with e | e
   ·have:(lookC u.cells a).k=1:=e
    omega
   ·have:(lookC u.cells a).k=2:=e.1
    omega
/-- units that have never failed, on the way: those of the list yet to come have had k acts, and the low mark l; the others one act more, and l' -/
structure Way (r:Int) (k:Nat) (l l':Int) (M:Cl) (rest:List Int) (s:Cl):Prop where
 ok:s.ok
 stay:Stay M s
 nodup:rest.Nodup
 each:∀ (i:Nat) (x:Un),s.us[i]?=some x→∃ u,u.e=M.p.e∧if (i:Int)∈rest then Fine r k u x∧u.l=l else Fine r (k+1) u x∧u.l=l'
/-- no unit has ever failed, each has had at most k acts, all have one low mark -/
structure Even (r:Int) (k:Nat) (l:Int) (M:Cl):Prop where
 ok:M.ok
 e:M.q.e=M.p.e
 all:M.p.all.Nodup
 low:0≤l∧l≤1048576
 each:∀ (i:Nat) (x:Un),M.us[i]?=some x→∃ u,Fine r k u x∧u.e=M.p.e∧u.l=l
theorem Even.mono {r:Int} {k m:Nat} {l:Int} {M:Cl} (h:Even r k l M) (hk:k≤m):Even r m l M:=⟨h.ok,h.e,h.all,h.low,fun i x hx=>by obtain ⟨u,h1,h2,h3⟩:=h.each i x hx;exact ⟨u,h1.mono hk,h2,h3⟩⟩
theorem home_nodup {M:Cl} (h:M.p.all.Nodup) (a:Int):(M.home a).Nodup:=by
 unfold Cl.home
 rw [List.getD_eq_getElem?_getD]
 cases hg:M.p.cs[(a % (M.p.cs.length:Int)).toNat]? with
 | none=>simp
 | some c=>exact (List.sublist_flatten_of_mem (List.mem_of_getElem? hg)).nodup h
theorem home_mem {M:Cl} {a u:Int} (h:u∈M.home a):u∈M.p.all:=by
 unfold Cl.home at h
 rw [List.getD_eq_getElem?_getD] at h
 cases hg:M.p.cs[(a % (M.p.cs.length:Int)).toNat]? with
 | none=>rw [hg] at h;simp at h
 | some c=>rw [hg] at h;exact List.mem_flatten.2 ⟨_,List.mem_of_getElem? hg,h⟩
end SL
end Go.Proofs.YtimbeeiihbmofaaGreatDoor

namespace Go.Proofs.YtimbeeiihbmofaaGreatDoor
theorem look_put_eq {L:List (Int×C)} (hn:(L.map (·.1)).Nodup) (a:Int) (c:C):lookC (putC L a c) a=c:=by
 refine lookC_of_mem (p:=(a,c)) (putC_keys _ _ _ hn) ?_
 unfold putC
 split
 ·rename_i h
  obtain ⟨p,hp,hpa⟩:=List.any_eq_true.1 h
  exact List.mem_map.2 ⟨p,hp,by rw [if_pos (by simpa using hpa)]⟩
 ·exact List.mem_append_right _ (by simp)
theorem look_filt {L:List (Int×C)} (hn:(L.map (·.1)).Nodup) (f:Int→Bool) (b:Int):lookC (L.filter (fun p=>f p.1)) b=if f b=true then lookC L b else ⟨0,[]⟩:=by
 by_cases hb:f b=true
 ·rw [if_pos hb]
  by_cases hq:L.any (·.1==b)=true
  ·have:=look_filter L (fun p=>f p.1) hn (lookC_mem hq) hb
   exact this
  ·have hq':L.any (·.1==b)=false:=by simpa only [Bool.not_eq_true] using hq
   rw [lookC_none hq',lookC_none]
   rw [List.any_eq_false] at hq' ⊢
   exact fun x hx=>hq' x (List.mem_filter.1 hx).1
 ·rw [if_neg hb,lookC_none]
  rw [List.any_eq_false]
  intro x hx hxb
  have h1:=(List.mem_filter.1 hx).2
  rw [show x.1=b by simpa using hxb] at h1
  exact hb h1
theorem at_put {u:U} (h:u.ok) {a:Int} (c:C) (hl:u.l≤a) (b:Int):({ u with cells:=putC u.cells a c }:U).at b=if b=a then c else u.at b:=by
 unfold U.at
 simp only
 by_cases hb:b=a
 ·subst hb
  rw [if_pos rfl,if_neg (by omega),look_put_eq h.nodup]
 ·rw [if_neg hb,look_put _ _ _ _ hb]
theorem at_trim {u:U} (h:u.ok) (m b:Int) (hm:u.l≤m):({ u with l:=m,cells:=u.cells.filter (fun p=>!decide (p.1<m))}:U).at b=if b<m then ⟨3,[]⟩ else u.at b:=by
 unfold U.at
 simp only
 split
 ·rfl
 ·rename_i hb
  rw [if_neg (by omega),look_filt h.nodup (fun x=>!decide (x<m)),if_pos (by simp;omega)]
theorem at_cut {u:U} (h:u.ok) {f:Int} (hf:u.l≤f) (b:Int):({ u with cells:=u.cells.filter (fun p=>!decide (f≤p.1))}:U).at b=if f≤b then ⟨0,[]⟩ else u.at b:=by
 unfold U.at
 simp only
 rw [look_filt h.nodup (fun x=>!decide (f≤x))]
 by_cases hb:f≤b
 ·rw [if_pos hb,if_neg (by omega),if_neg (by simp;omega)]
 ·rw [if_neg hb]
  split
  ·rfl
  ·rw [if_pos (by simp;omega)]
namespace SL
open DK SH SQ
/-- what a unit shows: its epoch, its low mark, its cells -/
structure Sees (u:U) (e l:Int) (f:Int→C):Prop where
 ok:u.ok
 e:u.e=e
 l:u.l=l
 see:∀ a,u.at a=f a
def upC (f:Int→C) (a:Int) (c:C):Int→C:=fun b=>if b=a then c else f b
/-- what a put answers where a cell stands -/
def putZ (c x:C):Nat:=if c.k=3 then 9 else if c.k=0∨c=x then 0 else 8
theorem Sees.kind {u:U} {e l:Int} {f:Int→C} (h:Sees u e l f) (a:Int):(f a).k=3∧(f a).d=[]∨(f a).k=0∧(f a).d=[]∨(((f a).k=1∨(f a).k=2∧(f a).d=[])∧(f a).d.length≤64):=by
 rw [←h.see];exact at_kind h.ok a
theorem Sees.low {u:U} {e l:Int} {f:Int→C} (h:Sees u e l f) {a:Int} (h3:(f a).k≠3):u.l≤a:=at_low (by rw [h.see];exact h3)
theorem Sees.cur {u:U} {e l:Int} {f:Int→C} (h:Sees u e l f):u.cur e=0:=by unfold U.cur;rw [h.e];simp
theorem Sees.rng {u:U} {e l:Int} {f:Int→C} (h:Sees u e l f):0≤e∧e≤1099511627776:=by rw [←h.e];exact ⟨h.ok.e0,h.ok.e1⟩
theorem Sees.read {u:U} {e l:Int} {f:Int→C} (h:Sees u e l f) {a:Int} (h0:0≤a) (h1:a≤1048575):u.read e a=(0,f a):=by
 unfold U.read U.asks inR
 rw [h.cur,h.see]
 simp [h0,h1]
theorem chk_write {e a:Int} {d:List UInt8} (he:0≤e∧e≤1099511627776) (h0:0≤a) (h1:a≤1048575) (hd:d.length≤64):(⟨2,e,a,d⟩:Ac).check=0:=by
 unfold Ac.check
 rw [if_neg (by simp;omega),if_neg (by simp;omega),if_neg (by simp;omega),if_neg (by simp)]
theorem chk_fill {e a:Int} (he:0≤e∧e≤1099511627776) (h0:0≤a) (h1:a≤1048575):(⟨3,e,a,[]⟩:Ac).check=0:=by
 unfold Ac.check
 rw [if_neg (by simp;omega),if_neg (by simp;omega),if_neg (by simp),if_neg (by simp)]
theorem Sees.write {u:U} {e l:Int} {f:Int→C} (h:Sees u e l f) {a:Int} (h0:0≤a) (h1:a≤1048575) {d:List UInt8} (hd:d.length≤64) :
  ∃ v,apU u ⟨2,e,a,d⟩=(if (f a).k=3 then 9 else if (f a).k=0 then 0 else 8,0,v)∧Sees v e l (if (f a).k=0 then upC f a ⟨1,d⟩ else f):=by
 have hin:inR a 1048575=true:=by unfold inR;simp [h0,h1]
 have e1:apU u ⟨2,e,a,d⟩=((u.write e a d).1,0,(u.write e a d).2):=by
  unfold apU
  rw [if_neg (by rw [chk_write h.rng h0 h1 hd];decide)]
  simp
 rw [e1]
 unfold U.write
 rw [hin,h.cur,h.see]
 simp only [Bool.not_true,Bool.false_eq_true,if_false,ne_eq,not_true_eq_false]
 rw [if_neg (by omega)]
 by_cases h3:(f a).k=3
 ·rw [if_pos h3,if_pos h3,if_neg (by omega)]
  exact ⟨u,rfl,h⟩
 rw [if_neg h3,if_neg h3]
 by_cases hz:(f a).k=0
 ·rw [if_pos hz,if_pos hz,if_pos hz]
  have hl:=h.low h3
  exact ⟨_,rfl,⟨U.ok_put h.ok hl (by omega) ⟨.inl rfl,hd⟩,h.e,h.l,fun b=>by rw [at_put h.ok _ hl];unfold upC;rw [h.see]⟩⟩
 ·rw [if_neg hz,if_neg hz,if_neg hz]
  exact ⟨u,rfl,h⟩
theorem Sees.fill {u:U} {e l:Int} {f:Int→C} (h:Sees u e l f) {a:Int} (h0:0≤a) (h1:a≤1048575) :
  ∃ v,apU u ⟨3,e,a,[]⟩=(if (f a).k=3 then 9 else if (f a).k=1 then 8 else 0,0,v)∧Sees v e l (if (f a).k=3∨(f a).k=1 then f else upC f a ⟨2,[]⟩):=by
 have hin:inR a 1048575=true:=by unfold inR;simp [h0,h1]
 have e1:apU u ⟨3,e,a,[]⟩=((u.fill e a).1,0,(u.fill e a).2):=by
  unfold apU
  rw [if_neg (by rw [chk_fill h.rng h0 h1];decide)]
  simp
 have ha:u.asks e (inR a 1048575)=0:=by unfold U.asks;rw [hin,h.cur];rfl
 rw [e1]
 unfold U.fill
 rw [ha,h.see]
 simp only [ne_eq,not_true_eq_false,if_false]
 by_cases h3:(f a).k=3
 ·rw [if_pos h3,if_pos h3,if_pos (.inl h3)]
  exact ⟨u,rfl,h⟩
 rw [if_neg h3,if_neg h3]
 by_cases hz:(f a).k=1
 ·rw [if_pos hz,if_pos hz,if_pos (.inr hz)]
  exact ⟨u,rfl,h⟩
 ·rw [if_neg hz,if_neg hz,if_neg (by omega)]
  have hl:=h.low h3
  exact ⟨_,rfl,⟨U.ok_put h.ok hl (by omega) ⟨.inr ⟨rfl,rfl⟩,by simp⟩,h.e,h.l,fun b=>by rw [at_put h.ok _ hl];unfold upC;rw [h.see]⟩⟩
theorem Sees.trim {u:U} {e l:Int} {f:Int→C} (h:Sees u e l f) {b:Int} (hb:0≤b∧b≤1048576) :
  ∃ v,apU u ⟨4,e,b,[]⟩=(0,0,v)∧Sees v e (max l b) (fun a=>if a<max l b then ⟨3,[]⟩ else f a):=by
 have hin:inR b 1048576=true:=by unfold inR;simp [hb.1,hb.2]
 have hc:(⟨4,e,b,[]⟩:Ac).check=0:=by
  have:=h.rng
  unfold Ac.check
  rw [if_neg (by simp;omega),if_neg (by simp),if_neg (by simp),if_neg (by simp)]
 have e1:apU u ⟨4,e,b,[]⟩=((u.trim e b).1,0,(u.trim e b).2):=by
  unfold apU
  rw [if_neg (by rw [hc];decide)]
  simp
 have ha:u.asks e (inR b 1048576)=0:=by unfold U.asks;rw [hin,h.cur];rfl
 have hok:=U.ok_trim h.ok e b
 rw [e1]
 unfold U.trim at hok ⊢
 rw [ha] at hok ⊢
 simp only [ne_eq,not_true_eq_false,if_false] at hok ⊢
 exact ⟨_,rfl,⟨hok,h.e,by show max u.l b=_;rw [h.l],fun a=>by rw [at_trim h.ok _ _ (by omega),h.see,h.l]⟩⟩
theorem Sees.cut {u:U} {e l:Int} {f:Int→C} (h:Sees u e l f) {b:Int} (hb:l≤b∧b≤1048576) :
  ∃ n v,apU u ⟨5,e,b,[]⟩=(0,n,v)∧Sees v e l (fun a=>if b≤a then ⟨0,[]⟩ else f a):=by
 have hl0:0≤l:=by rw [←h.l];exact h.ok.l0
 have hin:inR b 1048576=true:=by unfold inR;simp [hb.2];omega
 have hc:(⟨5,e,b,[]⟩:Ac).check=0:=by
  have:=h.rng
  unfold Ac.check
  rw [if_neg (by simp;omega),if_neg (by simp),if_neg (by simp),if_neg (by simp)]
 have e1:apU u ⟨5,e,b,[]⟩=u.cut e b:=by
  unfold apU
  rw [if_neg (by rw [hc];decide)]
  simp
 have ha:u.asks e (inR b 1048576)=0:=by unfold U.asks;rw [hin,h.cur];rfl
 have hok:=U.ok_cut h.ok e b
 rw [e1]
 unfold U.cut at hok ⊢
 rw [ha] at hok ⊢
 have hlb:¬b<u.l:=by rw [h.l];omega
 simp only [ne_eq,not_true_eq_false,if_false,if_neg hlb] at hok ⊢
 exact ⟨_,_,rfl,⟨hok,h.e,h.l,fun a=>by rw [at_cut h.ok (by omega),h.see]⟩⟩
theorem Sees.rise {u:U} {e l:Int} {f:Int→C} (h:Sees u e l f) {n:Int} (hn:e<n∧n≤1099511627776) :
  ∃ v,apU u ⟨1,n,0,[]⟩=(0,u.tail,v)∧Sees v n l f∧v.tail=u.tail:=by
 have hr:=h.rng
 have hin:inR n 1099511627776=true:=by unfold inR;simp [hn.2];omega
 have hc:(⟨1,n,0,[]⟩:Ac).check=0:=by
  unfold Ac.check
  rw [if_neg (by simp;omega),if_neg (by simp),if_neg (by simp),if_neg (by simp)]
 have e1:apU u ⟨1,n,0,[]⟩=u.sealE n:=by
  unfold apU
  rw [if_neg (by rw [hc];decide)]
  simp
 have hok:=U.ok_sealE h.ok n
 rw [e1]
 have hle:¬n≤u.e:=by rw [h.e];omega
 unfold U.sealE at hok ⊢
 rw [hin] at hok ⊢
 simp only [Bool.not_true,Bool.false_eq_true,if_false,if_neg hle] at hok ⊢
 exact ⟨_,rfl,⟨hok,rfl,h.l,h.see⟩,rfl⟩
end SL
end Go.Proofs.YtimbeeiihbmofaaGreatDoor

namespace Go.Proofs.YtimbeeiihbmofaaGreatDoor
namespace SL
open DK SH SQ
/-- what a unit is told to show, and how many acts it has had at most -/
structure Sh where
 k:Nat
 e:Int
 l:Int
 f:Int→C
def upS (D:Nat→Sh) (i:Nat) (d:Sh):Nat→Sh:=fun j=>if j=i then d else D j
theorem upS_at (D:Nat→Sh) (i:Nat) (d:Sh):upS D i d i=d:=if_pos rfl
theorem upS_ne (D:Nat→Sh) {i j:Nat} (d:Sh) (h:j≠i):upS D i d j=D j:=if_neg h
theorem upS_same (D:Nat→Sh) (i:Nat):upS D i (D i)=D:=by
 funext j
 unfold upS
 split
 ·rename_i h;rw [h]
 ·rfl
/-- a cluster on the way: what each unit shows -/
structure Mid (r:Int) (c s:Cl) (D:Nat→Sh):Prop where
 ok:s.ok
 stay:Stay c s
 each:∀ (i:Nat) (x:Un),s.us[i]?=some x→∃ u,Fine r (D i).k u x∧Sees u (D i).e (D i).l (D i).f
theorem Mid.weak {r:Int} {c s:Cl} {D D':Nat→Sh} (h:Mid r c s D) (hw:∀ i:Nat,i<s.us.length→(D i).k≤(D' i).k∧(D i).e=(D' i).e∧(D i).l=(D' i).l∧(D i).f=(D' i).f):Mid r c s D' :=
 ⟨h.ok,h.stay,fun i x hx=>by
  obtain ⟨u,h1,h2⟩:=h.each i x hx
  obtain ⟨w1,w2,w3,w4⟩:=hw i (List.getElem?_eq_some_iff.1 hx).1
  exact ⟨u,h1.mono w1,by rw [←w2,←w3,←w4];exact h2⟩⟩
theorem Mid.has {r:Int} {c s:Cl} {D:Nat→Sh} (h:Mid r c s D) {u:Int} (hu:0≤u∧u<(c.us.length:Int)):∃ x v,s.us[u.toNat]?=some x∧Fine r (D u.toNat).k v x∧Sees v (D u.toNat).e (D u.toNat).l (D u.toNat).f:=by
 have hlt:u.toNat<s.us.length:=by have:=h.stay.us;omega
 obtain ⟨v,h1,h2⟩:=h.each _ _ (List.getElem?_eq_getElem hlt)
 exact ⟨_,v,List.getElem?_eq_getElem hlt,h1,h2⟩
theorem Mid.act {r:Int} {c s:Cl} {D:Nat→Sh} (h:Mid r c s D) {u:Int} (hu:0≤u∧u<(c.us.length:Int)) (hk:(D u.toNat).k<512) (hr:((200*(D u.toNat).k+200:Nat):Int)≤r) (x:Ac) :
  ∃ v,Sees v (D u.toNat).e (D u.toNat).l (D u.toNat).f∧(s.do u.toNat x).1=(apU v x).1∧(s.do u.toNat x).2.1=(if (apU v x).1=0 then (apU v x).2.1 else 0) ∧
   ∀ d:Sh,(if (apU v x).1=0 then (D u.toNat).k+1 else (D u.toNat).k)≤d.k→Sees (if (apU v x).1=0 then (apU v x).2.2 else v) d.e d.l d.f→Mid r c (s.do u.toNat x).2.2 (upS D u.toNat d):=by
 obtain ⟨y,v,hy,hF,hS⟩:=h.has hu
 obtain ⟨S1,D1,S2,D2,rfl,e,hF2⟩:=hF.act2 hk hr x
 have hd:=do_on x hy
 rw [e] at hd
 refine ⟨v,hS,by rw [hd],by rw [hd],fun d hdk hds=>⟨h.ok.do _ _,h.stay.do _ _,fun i z hz=>?_⟩⟩
 rw [hd] at hz
 have hz':(s.us.set u.toNat ⟨D2,some S2⟩)[i]?=some z:=hz
 rw [List.getElem?_set] at hz'
 split at hz'
 ·rename_i hi
  split at hz'
  ·simp only [Option.some.injEq] at hz'
   subst hz'
   rw [←hi,upS_at]
   exact ⟨_,hF2.mono hdk,hds⟩
  ·cases hz'
 ·rename_i hi
  rw [upS_ne _ _ (fun e=>hi e.symm)]
  exact h.each i z hz'
theorem Mid.read {r:Int} {c s:Cl} {D:Nat→Sh} (h:Mid r c s D) {u:Int} (hu:0≤u∧u<(c.us.length:Int)) {a:Int} (h0:0≤a) (h1:a≤1048575):s.readU u.toNat (D u.toNat).e a=(0,(D u.toNat).f a):=by
 obtain ⟨y,v,hy,hF,hS⟩:=h.has hu
 obtain ⟨S,K,rfl,hr⟩:=hF.read
 rw [readU_on _ _ hy,hr,hS.read h0 h1]
theorem Mid.kind {r:Int} {c s:Cl} {D:Nat→Sh} (h:Mid r c s D) {u:Int} (hu:0≤u∧u<(c.us.length:Int)) (a:Int):((D u.toNat).f a).k=3∧((D u.toNat).f a).d=[]∨((D u.toNat).f a).k=0∧((D u.toNat).f a).d=[]∨((((D u.toNat).f a).k=1∨((D u.toNat).f a).k=2∧((D u.toNat).f a).d=[])∧((D u.toNat).f a).d.length≤64):=by
 obtain ⟨y,v,hy,hF,hS⟩:=h.has hu
 exact hS.kind a
theorem upC_same {f:Int→C} {a:Int} {x:C} (h:f a=x):upC f a x=f:=by
 funext b
 unfold upC
 split
 ·rename_i hb;rw [hb,h]
 ·rfl
/-- a cell is put into a unit -/
theorem Mid.put {r:Int} {c s:Cl} {D:Nat→Sh} (h:Mid r c s D) {u:Int} (hu:0≤u∧u<(c.us.length:Int)) (hk:(D u.toNat).k<512) (hr:((200*(D u.toNat).k+200:Nat):Int)≤r) {a:Int} (h0:0≤a) (h1:a≤1048575) {x:C} (hx:x.k=1∧x.d.length≤64∨x=⟨2,[]⟩) :
  ∃ s',Cl.putC (D u.toNat).e a x s u=(putZ ((D u.toNat).f a) x,s')∧Mid r c s' (if putZ ((D u.toNat).f a) x=0 then upS D u.toNat ⟨(D u.toNat).k+1,(D u.toNat).e,(D u.toNat).l,upC (D u.toNat).f a x⟩ else D):=by
 have hkd:=h.kind hu a
 have hst:=fun d=>h.act hu hk hr d
 obtain ⟨d,hd⟩:∃ d,D u.toNat=d:=⟨_,rfl⟩
 rcases hx with ⟨hx,hxl⟩ | rfl
 ·have e1:putA (D u.toNat).e a x=⟨2,(D u.toNat).e,a,x.d⟩:=by unfold putA;rw [if_pos hx]
  have ex:(⟨1,x.d⟩:C)=x:=by rw [←hx]
  obtain ⟨v,hv,q1,q2,q3⟩:=hst (putA (D u.toNat).e a x)
  rw [e1] at q1 q3
  obtain ⟨v',e2,hv'⟩:=hv.write h0 h1 hxl
  rw [e2] at q1 q3
  simp only at q1 q3
  rw [←e1] at q1 q3
  unfold Cl.putC
  by_cases h3:((D u.toNat).f a).k=3
  ·rw [if_pos h3] at q1 q3
   have hz:putZ ((D u.toNat).f a) x=9:=by unfold putZ;rw [if_pos h3]
   rw [if_neg (by rintro ⟨_,h8,_⟩;rw [q1] at h8;cases h8),q1,hz]
   have:=q3 (D u.toNat) (by simp) (by simpa using hv)
   rw [upS_same] at this
   exact ⟨_,rfl,by simpa using this⟩
  rw [if_neg h3] at q1 q3
  by_cases hz0:((D u.toNat).f a).k=0
  ·rw [if_pos hz0] at q1 q3 hv'
   have hz:putZ ((D u.toNat).f a) x=0:=by unfold putZ;rw [if_neg h3,if_pos (.inl hz0)]
   rw [if_neg (by rintro ⟨_,h8,_⟩;rw [q1] at h8;cases h8),q1,hz,if_pos rfl]
   rw [ex] at hv'
   exact ⟨_,rfl,q3 ⟨_,_,_,_⟩ (by simp) (by simpa using hv')⟩
  ·rw [if_neg hz0] at q1 q3
   have hm:=q3 (D u.toNat) (by simp) (by simpa using hv)
   rw [upS_same] at hm
   have hrd:=hm.read hu h0 h1
   rw [hrd,q1]
   by_cases he:(D u.toNat).f a=x
   ·have hz:putZ ((D u.toNat).f a) x=0:=by unfold putZ;rw [if_neg h3,if_pos (.inr he)]
    rw [if_pos ⟨hx,rfl,rfl,he⟩,hz,if_pos rfl]
    refine ⟨_,rfl,hm.weak (fun i _=>?_)⟩
    by_cases hi:i=u.toNat
    ·rw [hi,upS_at]
     exact ⟨Nat.le_succ _,rfl,rfl,(upC_same he).symm⟩
    ·rw [upS_ne _ _ hi]
     exact ⟨Nat.le_refl _,rfl,rfl,rfl⟩
   ·have hz:putZ ((D u.toNat).f a) x=8:=by unfold putZ;rw [if_neg h3,if_neg (by rintro (h | h);exact hz0 h;exact he h)]
    rw [if_neg (by rintro ⟨_,_,_,h⟩;exact he h),hz]
    exact ⟨_,rfl,by simpa using hm⟩
 ·have e1:putA (D u.toNat).e a ⟨2,[]⟩=⟨3,(D u.toNat).e,a,[]⟩:=by unfold putA;rw [if_neg (by decide)]
  obtain ⟨v,hv,q1,q2,q3⟩:=hst (putA (D u.toNat).e a ⟨2,[]⟩)
  rw [e1] at q1 q3
  obtain ⟨v',e2,hv'⟩:=hv.fill h0 h1
  rw [e2] at q1 q3
  simp only at q1 q3
  rw [←e1] at q1 q3
  unfold Cl.putC
  rw [if_neg (by rintro ⟨h,_⟩;cases h),q1]
  by_cases h3:((D u.toNat).f a).k=3
  ·rw [if_pos h3] at q3 ⊢
   have hz:putZ ((D u.toNat).f a) ⟨2,[]⟩=9:=by unfold putZ;rw [if_pos h3]
   rw [hz]
   have:=q3 (D u.toNat) (by simp) (by simpa using hv)
   rw [upS_same] at this
   exact ⟨_,rfl,by simpa using this⟩
  rw [if_neg h3] at q3 ⊢
  by_cases hz1:((D u.toNat).f a).k=1
  ·rw [if_pos hz1] at q3 ⊢
   have hz:putZ ((D u.toNat).f a) ⟨2,[]⟩=8:=by
    unfold putZ
    rw [if_neg h3,if_neg]
    rintro (h | h)
    ·omega
    ·rw [h] at hz1;cases hz1
   rw [hz]
   have:=q3 (D u.toNat) (by simp) (by simpa using hv)
   rw [upS_same] at this
   exact ⟨_,rfl,by simpa using this⟩
  ·rw [if_neg hz1] at q3 ⊢
   rw [if_neg (by omega)] at hv'
   have hz:putZ ((D u.toNat).f a) ⟨2,[]⟩=0:=by
    unfold putZ
    rw [if_neg h3,if_pos]
    rcases hkd with h | h | h
    ·omega
    ·exact .inl h.1
    ·right
     rcases h.1 with h2 | h2
     ·omega
     ·obtain ⟨q,p⟩:=h2
      generalize (D u.toNat).f a=y at *
      obtain ⟨yk,yd⟩:=y
      simp only at q p
      rw [q,p]
   rw [hz,if_pos rfl]
   exact ⟨_,rfl,q3 ⟨_,_,_,_⟩ (by simp) (by simpa using hv')⟩
/-- a thing is done with units, each once: it goes well with each -/
theorem Mid.all {r:Int} {c:Cl} {f:Cl→Int→Nat×Cl} {B:Nat→Sh}:∀ {l:List Int} {s:Cl} {D:Nat→Sh},l.Nodup→(∀ u∈l,0≤u) →
  (∀ (s:Cl) (D':Nat→Sh) (u:Int),u∈l→Mid r c s D'→D' u.toNat=D u.toNat→∃ s',f s u=(0,s')∧Mid r c s' (upS D' u.toNat (B u.toNat))) →
  Mid r c s D→∃ s',allC f l s=(0,s')∧Mid r c s' (fun i=>if (i:Int)∈l then B i else D i)
 | [],s,D,_,_,_,h=>⟨s,rfl,by simpa using h⟩
 | u::l,s,D,hn,h0,hf,h=>by
  have hnd:=List.nodup_cons.1 hn
  obtain ⟨s1,e1,h1⟩:=hf s D u List.mem_cons_self h rfl
  obtain ⟨s2,e2,h2⟩:=Mid.all (l:=l) (s:=s1) (D:=upS D u.toNat (B u.toNat)) hnd.2 (fun v hv=>h0 v (List.mem_cons_of_mem _ hv)) (fun s D' v hv hm hd=>hf s D' v (List.mem_cons_of_mem _ hv) hm (by
   rw [hd,upS_ne]
   intro e
   have a1:=h0 v (List.mem_cons_of_mem _ hv)
   have a2:=h0 u List.mem_cons_self
   exact hnd.1 (by rw [show u=v by omega];exact hv))) h1
  refine ⟨s2,?_,?_⟩
  ·unfold allC
   rw [e1]
   simpa using e2
  ·have:(fun i:Nat=>if (i:Int)∈l then B i else upS D u.toNat (B u.toNat) i)=(fun i:Nat=>if (i:Int)∈u::l then B i else D i):=by
    funext i
    have a2:=h0 u List.mem_cons_self
    by_cases hi:(i:Int)∈l
    ·rw [if_pos hi,if_pos (List.mem_cons_of_mem _ hi)]
    ·rw [if_neg hi]
     by_cases hiu:i=u.toNat
     ·rw [hiu,upS_at,if_pos (by rw [show ((u.toNat:Nat):Int)=u by omega];exact List.mem_cons_self)]
     ·rw [upS_ne _ _ hiu,if_neg]
      rw [List.mem_cons]
      rintro (e | e)
      ·exact hiu (by omega)
      ·exact hi e
   rw [←this]
   exact h2
/-- a cell is put into units that all show the same there -/
theorem Mid.puts {r:Int} {c s:Cl} {D:Nat→Sh} (h:Mid r c s D) {l:List Int} (hn:l.Nodup) (hu:∀ u∈l,0≤u∧u<(c.us.length:Int)) {k:Nat} (hk:k<512) (hr:((200*k+200:Nat):Int)≤r) {a:Int} (h0:0≤a) (h1:a≤1048575) {x y:C} (hx:x.k=1∧x.d.length≤64∨x=⟨2,[]⟩)
  (hd:∀ u∈l,(D u.toNat).k≤k∧(D u.toNat).e=c.p.e∧(D u.toNat).f a=y) :
  (putZ y x=0→∃ s',allC (Cl.putS a x) l s=(0,s')∧Mid r c s' (fun i=>if (i:Int)∈l then ⟨(D i).k+1,(D i).e,(D i).l,upC (D i).f a x⟩ else D i)) ∧
  (putZ y x≠0→l≠[]→∃ s',allC (Cl.putS a x) l s=(putZ y x,s')∧Mid r c s' D):=by
 refine ⟨fun hz=>?_,fun hz hl=>?_⟩
 ·refine Mid.all (B:=fun i=>⟨(D i).k+1,(D i).e,(D i).l,upC (D i).f a x⟩) hn (fun u hm=>(hu u hm).1) (fun s D' u hm hs hD=>?_) h
  obtain ⟨d1,d2,d3⟩:=hd u hm
  obtain ⟨s',e,hs'⟩:=hs.put (hu u hm) (by rw [hD];omega) (by rw [hD];omega) h0 h1 hx
  rw [hD,d3,if_pos hz] at hs'
  rw [hD,d3,d2,hz] at e
  refine ⟨s',?_,hs'⟩
  unfold Cl.putS
  rw [hs.stay.p]
  exact e
 ·cases l with
  | nil=>exact absurd rfl hl
  | cons u l =>
   obtain ⟨d1,d2,d3⟩:=hd u List.mem_cons_self
   obtain ⟨s',e,hs'⟩:=h.put (hu u List.mem_cons_self) (by omega) (by omega) h0 h1 hx
   rw [d3,if_neg hz] at hs'
   rw [d3,d2] at e
   have e2:Cl.putS a x s u=(putZ y x,s'):=by unfold Cl.putS;rw [h.stay.p];exact e
   refine ⟨s',?_,hs'⟩
   unfold allC
   rw [e2,if_pos hz]
end SL
end Go.Proofs.YtimbeeiihbmofaaGreatDoor

namespace Go.Proofs.YtimbeeiihbmofaaGreatDoor
namespace SL
open DK SH SQ
/-- what a unit of a cluster shows that is as a model -/
def shD (c:Cl) (k:Nat) (m:M) (i:Nat):Sh:=if (i:Int)∈c.p.all then ⟨k,c.p.e,m.u.l,fun a=>if a<m.u.l∨(i:Int)∈c.home a then m.u.at a else ⟨0,[]⟩⟩ else ⟨k,1,0,fun a=>if a<0 then ⟨3,[]⟩ else ⟨0,[]⟩⟩
/-- a cluster is as a model -/
structure Is (r:Int) (k:Nat) (c:Cl) (m:M):Prop where
 mid:Mid r c c (shD c k m)
 qe:c.q.e=c.p.e
 e:1≤c.p.e∧c.p.e≤k
 nd:c.p.all.Nodup
 tail:c.q.n=m.t
 ok:m.ok
theorem shD_at {c:Cl} {k:Nat} {m:M} {u a:Int} (h0:0≤u) (hu:u∈c.home a):(shD c k m u.toNat).k=k∧(shD c k m u.toNat).e=c.p.e∧(shD c k m u.toNat).f a=m.u.at a∧(shD c k m u.toNat).l=m.u.l:=by
 unfold shD
 rw [show ((u.toNat:Nat):Int)=u by omega,if_pos (home_mem hu)]
 exact ⟨rfl,rfl,if_pos (.inr hu),rfl⟩
theorem shD_all {c:Cl} {k:Nat} {m:M} {u:Int} (h0:0≤u) (hu:u∈c.p.all):shD c k m u.toNat=⟨k,c.p.e,m.u.l,fun a=>if a<m.u.l∨u∈c.home a then m.u.at a else ⟨0,[]⟩⟩:=by
 unfold shD
 rw [show ((u.toNat:Nat):Int)=u by omega,if_pos hu]
theorem home_ne {c:Cl} (h:c.ok) {a:Int} (ha:0≤a):∃ u r,c.home a=u::r:=by
 obtain ⟨i,hi,_,hg⟩:=home_at (M:=c) (pj_ok h.proj) ha
 have hl:=(pj_ok h.proj).each _ (List.mem_of_getElem? hg)
 cases hh:c.home a with
 | nil=>rw [hh] at hl;simp at hl
 | cons u r=>exact ⟨u,r,rfl⟩
theorem Is.rng {r:Int} {k:Nat} {c:Cl} {m:M} (h:Is r k c m) {u:Int} (hu:u∈c.p.all):0≤u∧u<(c.us.length:Int):=h.mid.ok.there u hu
theorem Is.home {r:Int} {k:Nat} {c:Cl} {m:M} (h:Is r k c m) {u a:Int} (hu:u∈c.home a):0≤u∧u<(c.us.length:Int):=h.rng (home_mem hu)
theorem Stay.all {c s:Cl} (h:Stay c s):s.p.all=c.p.all:=by rw [h.p]
/-- a cluster with another sequencer -/
theorem Mid.q {r:Int} {c s:Cl} {D:Nat→Sh} (h:Mid r c s D) {q:Q} (hq:q.ok):Mid r { s with q:=q } { s with q:=q } D :=
 ⟨⟨h.ok.proj,h.ok.many,h.ok.there,hq,h.ok.disk⟩,Stay.refl _,h.each⟩
/-- where the units then show another model -/
theorem Mid.is {r:Int} {k:Nat} {c s:Cl} {D:Nat→Sh} {m':M} {q:Q} (h:Mid r c s D) (hq:q.ok) (hqe:q.e=c.p.e) (he:1≤c.p.e∧c.p.e≤k) (hnd:c.p.all.Nodup) (ht:q.n=m'.t) (hm:m'.ok)
  (hD:∀ i:Nat,(D i).k≤k∧(D i).e=(shD c k m' i).e∧(D i).l=(shD c k m' i).l∧∀ a,(D i).f a=(shD c k m' i).f a):Is r k { s with q:=q } m' :=
 ⟨(h.q hq).weak (fun i hi=>by
   have e:shD { s with q:=q } k m' i=shD c k m' i:=by
    have h3:({ s with q:=q }:Cl).p=c.p:=h.stay.p
    unfold shD Cl.home
    rw [h3]
   rw [e]
   obtain ⟨g1,g2,g3,g4⟩:=hD i
   refine ⟨?_,g2,g3,funext g4⟩
   unfold shD
   split<;>exact g1),
  by show q.e=s.p.e;rw [h.stay.p];exact hqe,by show 1≤s.p.e∧s.p.e≤_;rw [h.stay.p];exact he,by show s.p.all.Nodup;rw [h.stay.p];exact hnd,ht,hm⟩
theorem Is.mono {r:Int} {k k':Nat} {c:Cl} {m:M} (h:Is r k c m) (hk:k≤k'):Is r k' c m :=
 ⟨h.mid.weak (fun i _=>by unfold shD;split<;>exact ⟨hk,rfl,rfl,rfl⟩),h.qe,⟨h.e.1,by have:=h.e.2;omega⟩,h.nd,h.tail,h.ok⟩
theorem Is.read {r:Int} {k:Nat} {c:Cl} {m:M} (h:Is r k c m) (a:Int):c.read a=m.rd a:=by
 unfold Cl.read M.rd
 have hi:inB a 1048575=inR a 1048575:=rfl
 rw [hi]
 cases hq:inR a 1048575 with
 | false=>simp
 | true =>
  have ⟨h0,h1⟩:=inB_iff.1 (hi.trans hq)
  obtain ⟨u,rs,hh⟩:=home_ne h.mid.ok h0
  simp only [Bool.not_true,Bool.false_eq_true,if_false,reduceCtorEq]
  obtain ⟨v,hv⟩:∃ v,(c.home a).getLast?=some v:=⟨_,by rw [hh];exact List.getLast?_cons⟩
  have hvm:v∈c.home a:=List.mem_of_getLast? hv
  have hr:=h.home hvm
  obtain ⟨s1,s2,s3,s4⟩:=shD_at (k:=k) (m:=m) hr.1 hvm
  rw [hv]
  show c.readU v.toNat c.p.e a=_
  have:=h.mid.read hr h0 h1
  rw [s2,s3] at this
  exact this
theorem Q.ok_raise {q:Q} (h:q.ok) {n:Int} (hn:0≤n∧n≤1048576):(⟨q.e,max q.n n⟩:Q).ok:=⟨h.e,by have:=h.n;show 0≤max q.n n∧max q.n n≤1048576;omega⟩
/-- the sequencer is raised -/
theorem raise_eq {s:Cl} (hq:s.q.e=s.p.e) {n:Int} (hn:0≤n∧n≤1048576):s.raise n=(0,{ s with q:=⟨s.q.e,max s.q.n n⟩}):=by
 unfold Cl.raise Q.raise Q.asks
 rw [inB_iff.2 hn,hq]
 simp only [Bool.true_eq_false,if_false,Int.lt_irrefl,ne_eq,not_true_eq_false]
 have:(if n≤s.q.n then s.q.n else n)=max s.q.n n:=by split<;>omega
 rw [this]
/-- what is left where a cell was put into its home -/
theorem put_sh {c:Cl} {k:Nat} {m:M} (hok:m.ok) (h:c.ok) {a:Int} {x:C} (ha:m.u.l≤a) (i:Nat) :
  (if (i:Int)∈c.home a then (⟨(shD c k m i).k+1,(shD c k m i).e,(shD c k m i).l,upC (shD c k m i).f a x⟩:Sh) else shD c k m i).k≤k+1 ∧
  (if (i:Int)∈c.home a then (⟨(shD c k m i).k+1,(shD c k m i).e,(shD c k m i).l,upC (shD c k m i).f a x⟩:Sh) else shD c k m i).e=(shD c (k+1) (m.put' a x) i).e ∧
  (if (i:Int)∈c.home a then (⟨(shD c k m i).k+1,(shD c k m i).e,(shD c k m i).l,upC (shD c k m i).f a x⟩:Sh) else shD c k m i).l=(shD c (k+1) (m.put' a x) i).l ∧
  ∀ b,(if (i:Int)∈c.home a then (⟨(shD c k m i).k+1,(shD c k m i).e,(shD c k m i).l,upC (shD c k m i).f a x⟩:Sh) else shD c k m i).f b=(shD c (k+1) (m.put' a x) i).f b:=by
 by_cases hi:(i:Int)∈c.home a
 ·have hall:=home_mem hi
  simp only [if_pos hi]
  unfold shD
  simp only [if_pos hall]
  refine ⟨Nat.le_refl _,trivial,rfl,fun b=>?_⟩
  unfold upC
  show (if b=a then x else _)=if b<m.u.l∨(i:Int)∈c.home b then ({ m.u with cells:=putC m.u.cells a x }:U).at b else _
  rw [at_put hok.u x ha]
  by_cases hb:b=a
  ·rw [if_pos hb,if_pos hb,if_pos (.inr (by rw [hb];exact hi))]
  ·rw [if_neg hb,if_neg hb]
 ·simp only [if_neg hi]
  unfold shD
  by_cases hall:(i:Int)∈c.p.all
  ·simp only [if_pos hall]
   refine ⟨Nat.le_succ _,trivial,rfl,fun b=>?_⟩
   show _=if b<m.u.l∨(i:Int)∈c.home b then ({ m.u with cells:=putC m.u.cells a x }:U).at b else _
   rw [at_put hok.u x ha]
   by_cases hb:b=a
   ·subst hb
    rw [if_neg (by rintro (h | h);omega;exact hi h),if_neg (by rintro (h | h);omega;exact hi h)]
   ·rw [if_neg hb]
  ·simp only [if_neg hall]
   exact ⟨Nat.le_succ _,trivial,trivial,fun b=>trivial⟩
theorem putZ_zero {c x:C}:putZ c x=0↔c.k≠3∧(c.k=0∨c=x):=by
 unfold putZ
 by_cases h3:c.k=3
 ·rw [if_pos h3];exact ⟨fun h=>(by cases h),fun h=>absurd h3 h.1⟩
 ·rw [if_neg h3]
  by_cases h0:c.k=0∨c=x
  ·rw [if_pos h0];exact ⟨fun _=>⟨h3,h0⟩,fun _=>rfl⟩
  ·rw [if_neg h0];exact ⟨fun h=>(by cases h),fun h=>absurd h.2 h0⟩
theorem at_ge {m:M} {a:Int} (h3:(m.u.at a).k≠3):m.u.l≤a:=at_low h3
/-- a cell is put into its home, or into what is left of it -/
theorem Is.spread {r:Int} {k:Nat} {c:Cl} {m:M} (h:Is r k c m) (hk:k<512) (hr:((200*k+200:Nat):Int)≤r) {a:Int} (h0:0≤a) (h1:a≤1048575) {x:C} (hx:x.k=1∧x.d.length≤64∨x=⟨2,[]⟩) :
  (putZ (m.u.at a) x=0→∃ c',c.spread (c.home a) a x=(0,c')∧Is r (k+1) c' (m.put' a x)) ∧
  (putZ (m.u.at a) x≠0→∃ c',c.spread (c.home a) a x=(putZ (m.u.at a) x,c')∧Is r k c' m):=by
 obtain ⟨p1,p2⟩:=h.mid.puts (home_nodup h.nd a) (fun u hu=>h.home hu) hk hr h0 h1 hx (y:=m.u.at a) (fun u hu=>by
  obtain ⟨s1,s2,s3,s4⟩:=shD_at (k:=k) (m:=m) (h.home hu).1 hu
  exact ⟨by omega,s2,s3⟩)
 refine ⟨fun hz=>?_,fun hz=>?_⟩
 ·obtain ⟨s',e,hs⟩:=p1 hz
  have hz2:=putZ_zero.1 hz
  have hse:s'.q.e=s'.p.e:=by rw [hs.stay.q,hs.stay.p];exact h.qe
  refine ⟨{ s' with q:=⟨s'.q.e,max s'.q.n (a+1)⟩},?_,?_⟩
  ·unfold Cl.spread
   rw [e,if_neg (by simp),raise_eq hse ⟨by omega,by omega⟩]
  ·refine hs.is (Q.ok_raise hs.ok.seq ⟨by omega,by omega⟩) (by show s'.q.e=_;rw [hs.stay.q];exact h.qe) ⟨h.e.1,by have:=h.e.2;omega⟩ h.nd ?_ ?_ (put_sh h.ok h.mid.ok (at_ge hz2.1))
   ·show max s'.q.n (a+1)=max m.t (a+1)
    rw [hs.stay.q,h.tail]
   ·exact M.ok_put h.ok (by unfold inR;simp [h0,h1]) hz2.1 (by
     rcases hx with hx | rfl
     ·exact ⟨.inl hx.1,hx.2⟩
     ·exact ⟨.inr ⟨rfl,rfl⟩,by simp⟩)
 ·obtain ⟨u,rs,hh⟩:=home_ne h.mid.ok h0
  obtain ⟨s',e,hs⟩:=p2 hz (by rw [hh];simp)
  refine ⟨s',?_,?_⟩
  ·unfold Cl.spread
   rw [e,if_pos hz]
  ·have:=hs.is (k:=k) (m':=m) (q:=s'.q) hs.ok.seq (by rw [hs.stay.q];exact h.qe) h.e h.nd (by rw [hs.stay.q];exact h.tail) h.ok (fun i=>by unfold shD;split<;>exact ⟨Nat.le_refl _,rfl,rfl,fun _=>rfl⟩)
   exact this
theorem may_iff {c x:C} (hc:c.check=0) (hx:x.check=0) (hk:x.k≠3):C.may c x=true↔c.k=0∨c=x:=by
 unfold C.may
 rw [hc,hx]
 simp only [ne_eq,not_true_eq_false,false_or,if_false]
 by_cases h:c.k=0∨c=x
 ·rw [if_pos h];exact ⟨fun _=>h,fun _=>rfl⟩
 ·rw [if_neg h];exact ⟨fun h2=>absurd (by simpa using h2) hk,fun h2=>absurd h2 h⟩
theorem chk_cell {x:C} (h:x.check=0) (hk:x.k=1∨x.k=2):x.k=1∧x.d.length≤64∨x=⟨2,[]⟩:=by
 unfold C.check at h
 split at h
 ·cases h
 ·split at h
  ·cases h
  ·split at h
   ·cases h
   ·rename_i h1 h2 h3
    rcases hk with hk | hk
    ·exact .inl ⟨hk,by omega⟩
    ·right
     obtain ⟨xk,xd⟩:=x
     simp only at hk h3
     subst hk
     have:xd=[]:=List.eq_nil_of_length_eq_zero (by omega)
     rw [this]
theorem Is.putAt {r:Int} {k:Nat} {c:Cl} {m:M} (h:Is r k c m) (hk:k<512) (hr:((200*k+200:Nat):Int)≤r) (a:Int) (x:C):∃ c',c.putAt a x=((m.put a x).1,c')∧Is r (k+1) c' (m.put a x).2:=by
 have hst:=h.mono (Nat.le_succ k)
 unfold Cl.putAt M.put
 have hi:inB a 1048575=inR a 1048575:=rfl
 rw [hi]
 cases hq:inR a 1048575 with
 | false=>exact ⟨c,by simp,by simpa using hst⟩
 | true =>
  have ⟨h0,h1⟩:=inB_iff.1 (hi.trans hq)
  simp only [Bool.not_true,Bool.false_eq_true,if_false,reduceCtorEq]
  by_cases hc:x.check=0
  rotate_left
  ·rw [if_pos hc,if_pos hc];exact ⟨c,rfl,hst⟩
  have hc':¬x.check≠0:=fun h=>h hc
  rw [if_neg hc',if_neg hc']
  by_cases hkk:x.k≠1∧x.k≠2
  ·rw [if_pos hkk,if_pos hkk];exact ⟨c,rfl,hst⟩
  rw [if_neg hkk,if_neg hkk]
  have hx:=chk_cell hc (by omega)
  obtain ⟨p1,p2⟩:=h.spread hk hr h0 h1 hx
  by_cases h3:(m.u.at a).k=3
  ·rw [if_pos h3]
   have hz:putZ (m.u.at a) x=9:=by unfold putZ;rw [if_pos h3]
   obtain ⟨c',e,hc'⟩:=p2 (by rw [hz];decide)
   exact ⟨c',by rw [e,hz],hc'.mono (Nat.le_succ k)⟩
  rw [if_neg h3]
  have hmi:=may_iff (c:=m.u.at a) (at_check h.ok.u a) hc (by omega)
  by_cases hm:C.may (m.u.at a) x=true
  ·have hz:putZ (m.u.at a) x=0:=putZ_zero.2 ⟨h3,hmi.1 hm⟩
   obtain ⟨c',e,hc'⟩:=p1 hz
   rw [hm]
   exact ⟨c',by rw [e];simp,by simpa using hc'⟩
  ·have hz:putZ (m.u.at a) x=8:=by unfold putZ;rw [if_neg h3,if_neg (fun h=>hm (hmi.2 h))]
   obtain ⟨c',e,hc'⟩:=p2 (by rw [hz];decide)
   have hm':C.may (m.u.at a) x=false:=by simpa only [Bool.not_eq_true] using hm
   rw [hm']
   exact ⟨c',by rw [e,hz];simp,by simpa using hc'.mono (Nat.le_succ k)⟩
end SL
end Go.Proofs.YtimbeeiihbmofaaGreatDoor
