/- Proved here: a part of the proof (28 of 37). -/
import Derived.Test.YtimbeeiihbmofaaGreatDoorW25
import Derived.Test.YtimbeeiihbmofaaGreatDoorW2
import Derived.Lib.IfaceNeq
import Derived.Deep.DeepCutAuto
import Derived.Deep.CutBlock
import Derived.Test.YtimbeeiihbmofaaGreatDoorW24
import Derived.Test.YtimbeeiihbmofaaGreatDoorW15
import Derived.Test.YtimbeeiihbmofaaGreatDoorW29
import Derived.Lib.SlBytesConst
set_option linter.unusedSimpArgs false
set_option linter.unusedVariables false
set_option maxRecDepth 100000
namespace Go.Proofs.YtimbeeiihbmofaaGreatDoor
open Go.RowKit
namespace SL
open DK SH SQ
@[go_sem] theorem neq_err (w:World) (a b:Int):(binOp .neq 33 (.iface 56 (.int .i64 a)) (.iface 56 (.int .i64 b))).run Tryz.prog w=.ok (.bool (!(a==b))) w:=Go.Lib.run_neq_iface_int w a b undErr (by kernel_rfl) Tryz.underlying56
@[go_sem] theorem neq_nilerr (w:World) (u:TypeId) (x:Value):(binOp .neq 33 .nilIface (.iface u x)).run Tryz.prog w=.ok (.bool true) w:=by
 have h:∀ d:Nat,(Op.equalIn (d+1) 33 .nilIface (.iface u x)).run Tryz.prog w=.ok false w:=fun d=>by simp [Op.equalIn,run_underlying undErr]
 simp only [binOp]
 simp [Op.equal,Op.maxDepth,h 9999]
def putA (e a:Int) (x:C):Ac:=if x.k=1 then ⟨2,e,a,x.d⟩ else ⟨3,e,a,[]⟩
/-- a cell is put into a unit -/
def Cl.putC (e a:Int) (x:C) (M:Cl) (u:Int):Nat×Cl :=
 if x.k=1∧(M.do u.toNat (putA e a x)).1=8∧((M.do u.toNat (putA e a x)).2.2.readU u.toNat e a).1=0∧((M.do u.toNat (putA e a x)).2.2.readU u.toNat e a).2=x then (0,(M.do u.toNat (putA e a x)).2.2)
 else ((M.do u.toNat (putA e a x)).1,(M.do u.toNat (putA e a x)).2.2)
theorem do_was_on {M:Cl} {u:Nat} {x:Ac} (h:(M.do u x).1≠14) (hu:u<M.us.length):∃ D S,(M.do u x).2.2.us[u]?=some ⟨D,some S⟩:=by
 obtain ⟨⟨D,s⟩,hx⟩:∃ x,M.us[u]?=some x:=⟨M.us[u],List.getElem?_eq_getElem hu⟩
 cases s with
 | none=>rw [do_off x hx] at h;exact absurd rfl h
 | some S =>
  rw [do_on x hx]
  exact ⟨_,_,by show (M.us.set u _)[u]?=_;rw [List.getElem?_set_self hu]⟩
/-- a unit's shelf, where the cluster has it -/
theorem ClAt.shelf {c:Nat} {M:Cl} {J:CJ} {L:List Asn} {W w:World} (h:ClAt c M J L W w) {u:Nat} (hu:u<M.us.length):∃ g n cap Q,w.cell? ⟨c,1,none⟩=some (.slice (some ⟨g,0,none⟩) n cap)∧u<n∧g<w.heap.size∧w.cell? ⟨g,u,none⟩=some (optV Q) ∧
  (Q=none→∃ D,M.us[u]?=some ⟨D,none⟩)∧(∀ q,Q=some q→∃ D S,M.us[u]?=some ⟨D,some S⟩∧∀ (e a:Int) (wq:World),Below w.heap.size w wq→Calls Tryz.prog 115 #[ptrV q,.int .i64 e,.int .i64 a] wq (ReadR (readS S D e a).1 (readS S D e a).2 wq)):=by
 obtain ⟨P,rfl,hP,H⟩:=h
 obtain ⟨y,hy,hus,⟨g,n,cap,hsv,hun,hgl,hgc⟩,_⟩:=cl_at hP H hu
 have c1:=H.cell 0 rfl 1 rfl
 rw [hsv] at c1
 refine ⟨g,n,cap,y.Q,c1,hun,hgl,hgc,fun hq=>?_,fun q hq=>?_⟩
 ·have hoff:=cl_off hy hq H
  exact ⟨y.x.d,by rw [hus];cases hyx:y.x with | mk D s=>rw [hyx] at hoff;simp only at hoff;rw [hoff]⟩
 ·obtain ⟨S,hS,hsh,_⟩:=cl_on hP hy hq H
  refine ⟨y.x.d,S,by rw [hus];cases hyx:y.x with | mk D s=>rw [hyx] at hS;simp only at hS;rw [hS],fun e a wq hb=>kread_any e a wq (hsh.below hb)⟩
theorem optV_on {Q:Option Nat} {M:Cl} {u:Nat} {D:Dk} {S:Sf} (h:M.us[u]?=some ⟨D,some S⟩) (h0:Q=none→∃ D,M.us[u]?=some ⟨D,none⟩):∃ q,Q=some q:=by
 cases Q with
 | some q=>exact ⟨q,rfl⟩
 | none=>obtain ⟨D',h2⟩:=h0 rfl;rw [h] at h2;cases h2
set_option maxHeartbeats 8000000 in
theorem sput_any {c:Nat} {M:Cl} {J:CJ} {L:List Asn} {W:World} (u:Int) (e a:Int) (x:C) (xa:Option Addr) (xc:Nat) (w:World) (hp:Pow W) (h:ClAt c M J L W w) (hu:0≤u∧u<(M.us.length:Int)) (hok:M.ok) (hB:∀ M' w',ClAt c M' J L W w'→Bytes w' (.slice xa x.d.length xc) x.d) :
  Calls Tryz.prog 117 #[ptrV c,.int .i64 u,.int .i64 e,.int .i64 a,.agg #[.int .i64 x.k,.slice xa x.d.length xc]] w fun en w'=>en=.returned (errV (Cl.putC e a x M u).1)∧ClAt c (Cl.putC e a x M u).2 J L W w':=by
 obtain ⟨u,rfl⟩:∃ k:Nat,u=k:=⟨u.toNat,by omega⟩
 have hun:u<M.us.length:=by omega
 have HB:=Lib.hid' hB
 have hF:Cl.putC e a x M (u:Int)=if x.k=1∧(M.do u (putA e a x)).1=8∧((M.do u (putA e a x)).2.2.readU u e a).1=0∧((M.do u (putA e a x)).2.2.readU u e a).2=x then (0,(M.do u (putA e a x)).2.2) else ((M.do u (putA e a x)).1,(M.do u (putA e a x)).2.2):=rfl
 by_cases hk:x.k=1
 rotate_left
 ·have HF:=Zh (hF.trans (if_neg (fun h=>hk h.1)))
  have hA:putA e a x=⟨3,e,a,[]⟩:=if_neg hk
  rw [hA] at HF
  have h2:=Zh ((h.allocB w.heap.size [.int .i64 x.k,.slice xa x.d.length xc] 40 rfl).allocB (w.heap.size+1) [.int .i64 3,.int .i64 e,.int .i64 a,.slice none 0 0] 119 (by simp))
  have HD:=Zh (do_any u ⟨3,e,a,[]⟩ none 0 _ hp h2.out hun hok (SlV.of_own (own_nil _ 0 0 0)))
  rw [show ac9V (⟨3,e,a,[]⟩:Ac) none 0=.agg #[.int .i64 3,.int .i64 e,.int .i64 a,.slice none 0 0] from rfl] at HD
  have x0:=h2.out.side.cell 1 rfl 0 rfl;have xl:=h2.out.side.lt 1 rfl
  have a0:=h2.out.side.cell 0 rfl 0 rfl;have a1:=h2.out.side.cell 0 rfl 1 rfl;have a2:=h2.out.side.cell 0 rfl 2 rfl;have a3:=h2.out.side.cell 0 rfl 3 rfl;have al:=h2.out.side.lt 0 rfl
  have hkb:(x.k==1)=false:=by simpa using hk
  have hkn:(x.k != 1)=true:=by simpa using hk
  generalize x.k=xk at *
  generalize M.do u ⟨3,e,a,[]⟩=r at *
  obtain ⟨z,n,M2⟩:=r
  have HK:=Lib.hid' hk
  clear hF hA h hB hok hk h2 hp
  go_enter Tryz.func117, Tryz.ntmps117
  go_upto_region 2 with fail
  generalize (w.alloc _).alloc _=w2 at *
  go_wp2_with fail
  refine HD.out.mono ?_
  rintro en w3 ⟨rfl,h3⟩
  have H3:=Lib.hid' h3
  have b0:=h3.side.cell 1 rfl 0 rfl;have bl:=h3.side.lt 1 rfl
  clear h3 HD a0 a1 a2 a3 al x0 xl
  rw [show errV z=errV z from rfl]
  by_cases hz:z=0
  ·subst hz
   rw [errV_0]
   go_wp2_with fail
   go_ret
   rw [HF.out]
   exact ⟨rfl,H3.out.sub ((List.Sublist.refl L).cons _ |>.cons _)⟩
  by_cases hz8:z=8
  ·subst hz8
   rw [errV_pos (by decide)]
   go_wp2_with fail
   go_ret
   rw [HF.out]
   exact ⟨rfl,H3.out.sub ((List.Sublist.refl L).cons _ |>.cons _)⟩
  ·have HZ:=Lib.hid' hz
   rw [errV_pos hz]
   go_wp2_with fail
   go_ret
   rw [HF.out]
   exact ⟨by rw [errV_pos HZ.out];rfl,H3.out.sub ((List.Sublist.refl L).cons _ |>.cons _)⟩
 ·have hA:putA e a x=⟨2,e,a,x.d⟩:=if_pos hk
  rw [hA] at hF
  have h2:=(h.allocB w.heap.size [.int .i64 x.k,.slice xa x.d.length xc] 40 rfl).allocB (w.heap.size+1) [.int .i64 3,.int .i64 e,.int .i64 a,.slice none 0 0] 119 (by simp)
  have HX:=Zh (show ∀ wq,ClAt c M J (.box (w.heap.size+1) [.int .i64 2,.int .i64 e,.int .i64 a,.slice xa x.d.length xc] 119::.box w.heap.size [.int .i64 x.k,.slice xa x.d.length xc] 40::L) W wq→Calls Tryz.prog 68 #[ptrV c,.int .i64 u,ac9V ⟨2,e,a,x.d⟩ xa xc] wq (ClR c (M.do u ⟨2,e,a,x.d⟩).2.2 J (.tuple #[.int .i64 (M.do u ⟨2,e,a,x.d⟩).2.1,errV (M.do u ⟨2,e,a,x.d⟩).1]) (.box (w.heap.size+1) [.int .i64 2,.int .i64 e,.int .i64 a,.slice xa x.d.length xc] 119::.box w.heap.size [.int .i64 x.k,.slice xa x.d.length xc] 40::L) W) from
   fun wq hq=>do_any u ⟨2,e,a,x.d⟩ xa xc wq hp hq hun hok (hB _ _ (hq.sub ((List.Sublist.refl L).cons _ |>.cons _))))
  have HON:=Zh (fun (h14:(M.do u ⟨2,e,a,x.d⟩).1≠14)=>do_was_on h14 hun)
  have HLEN:=Zh (Cl.do_len M u ⟨2,e,a,x.d⟩).1
  have HUN:=Lib.hid' hun
  rw [show ac9V (⟨2,e,a,x.d⟩:Ac) xa xc=.agg #[.int .i64 2,.int .i64 e,.int .i64 a,.slice xa x.d.length xc] from rfl] at HX
  obtain ⟨xk,xd⟩:=x
  obtain rfl:xk=1:=hk
  simp only at hF HX HON HLEN HB h2 ⊢
  have HF:=Lib.hid' hF
  have H2:=Lib.hid' h2
  have x0:=h2.side.cell 1 rfl 0 rfl;have x1:=h2.side.cell 1 rfl 1 rfl;have xl:=h2.side.lt 1 rfl
  have a0:=h2.side.cell 0 rfl 0 rfl;have a1:=h2.side.cell 0 rfl 1 rfl;have a2:=h2.side.cell 0 rfl 2 rfl;have a3:=h2.side.cell 0 rfl 3 rfl;have al:=h2.side.lt 0 rfl
  clear hF hA h hB hok h2 hp hun hu
  generalize M.do u ⟨2,e,a,xd⟩=r at *
  obtain ⟨z,n,M2⟩:=r
  simp only at HX HON HLEN HF
  go_enter Tryz.func117, Tryz.ntmps117
  go_upto_region 2 with fail
  generalize hw2:(w.alloc _).alloc _=w2 at *
  clear hw2
  go_upto_region 3 with fail
  have fz0:=H2.out.side.free 0 rfl 0;have fz3a:=H2.out.side.free 0 rfl 3
  refine startD (S:=(fun w'=>w'.cell? ⟨w.heap.size,1,none⟩=some (.slice xa xd.length xc))) (by kernel_rfl) x1 (fun hH0=>?_)
  simp only [List.length_cons,List.length_nil,Nat.reduceAdd,List.replicate_succ,List.replicate_zero]
  refine tD 0 22 (.pointer (some ⟨w.heap.size,1,none⟩)) rfl rfl [(9,.pointer (some ⟨w.heap.size,0,none⟩))] hH0 ?_
  dsimp only [sZ,sS]
  refine tD 1 23 (.slice xa xd.length xc) rfl rfl [(22,.pointer (some ⟨w.heap.size,1,none⟩))] hH0 ?_
  dsimp only [sZ,sS]
  refine tD 2 24 (.pointer (some ⟨(w.heap.size+1),0,none⟩)) rfl rfl [(11,.pointer (some ⟨(w.heap.size+1),0,none⟩))] hH0 ?_
  dsimp only [sZ,sS]
  refine rD 3 rfl (fun K hK=>?_)
  go_simp
  have H3:=Zh (H2.out.setB 0 (.int .i64 2))
  simp only [List.set_cons_zero,List.set_cons_succ] at H3
  have fz3:=H3.out.side.free 0 rfl 3
  refine hK.out _ _ ?_ (fun hH1=>?_)
  ·exact (H3.out.below (Below.refl _ _).drew).side.cell 1 rfl 1 rfl
  clear hK K
  try simp only [Act.put,gA,gZ,gS,sA,sZ,sS]
  refine tD 4 25 (.pointer (some ⟨(w.heap.size+1),3,none⟩)) rfl rfl [(11,.pointer (some ⟨(w.heap.size+1),0,none⟩))] hH1 ?_
  dsimp only [sZ,sS]
  refine rD 5 rfl (fun K hK=>?_)
  go_simp
  have H4:=Zh (H3.out.setB 3 (.slice xa xd.length xc))
  simp only [List.set_cons_zero,List.set_cons_succ] at H4
  refine hK.out _ _ ?_ (fun hH2=>?_)
  ·exact (H4.out.below (Below.refl _ _).drew).side.cell 1 rfl 1 rfl
  clear hK K
  refine wpAnyH_done (by kernel_rfl) ?_ _
  clear H3 fz0 fz3 fz3a x0 x1 xl a0 a1 a2 a3 al H2
  have H5:=Zh (H4.out.below (Below.refl _ _).drew)
  clear H4
  have H4:=H5
  clear H5
  have b0:=H4.out.side.cell 1 rfl 0 rfl;have b1:=H4.out.side.cell 1 rfl 1 rfl;have bl:=H4.out.side.lt 1 rfl
  have a0:=H4.out.side.cell 0 rfl 0 rfl;have a1:=H4.out.side.cell 0 rfl 1 rfl;have a2:=H4.out.side.cell 0 rfl 2 rfl;have a3:=H4.out.side.cell 0 rfl 3 rfl;have al:=H4.out.side.lt 0 rfl
  have HD:=Zh (HX.out _ H4.out)
  generalize World.drew _=w3 at *
  clear H4 HX
  go_wp2_with fail
  refine HD.out.mono ?_
  clear HD
  rintro en w4 ⟨rfl,h4⟩
  have HS4:=Zh (h4.sub (L':=L) ((List.Sublist.refl L).cons _ |>.cons _))
  have H4:=Lib.hid' h4
  clear a0 a1 a2 a3 al b0 b1 bl
  have b0:=h4.side.cell 1 rfl 0 rfl;have b1:=h4.side.cell 1 rfl 1 rfl;have bl:=h4.side.lt 1 rfl
  clear h4
  simp only
  by_cases hz:z=0
  ·have HF2:=Zh (HF.out.trans (if_neg (by rw [hz];simp)))
   subst hz
   rw [errV_0]
   go_wp2_with fail
   go_ret
   rw [HF2.out]
   exact ⟨rfl,HS4.out⟩
  by_cases hz8:z=8
  rotate_left
  ·have HF2:=Zh (HF.out.trans (if_neg (fun h=>hz8 h.2.1)))
   have HZ:=Lib.hid' hz
   rw [errV_pos hz]
   go_wp2_with fail
   go_ret
   rw [HF2.out]
   exact ⟨by rw [errV_pos HZ.out];rfl,HS4.out⟩
  subst hz8
  obtain ⟨D,S,hon⟩:=HON.out (by decide)
  obtain ⟨g,gn,gcap,Q,c1,hgn,hgl,hgc,hq0,hq1⟩:=H4.out.shelf (u:=u) (by rw [HLEN.out];exact HUN.out)
  obtain ⟨q,rfl⟩:=optV_on hon hq0
  obtain ⟨D',S',hon2,hrd⟩:=hq1 q rfl
  have HRU:=Zh (show M2.readU u e a=readS S' D' e a from readU_on e a hon2)
  have HRD:=Zh (hrd e a w4 (Below.refl _ _))
  rw [←HRU.out] at HRD
  have hcl:=H4.out.c2.2
  have hgc2:w4.cell? ⟨g,u,none⟩=some (ptrV q):=hgc
  clear hon hq0 hq1 hon2 hrd hgc HON HLEN HUN hz HRU
  rw [errV_pos (by decide)]
  generalize M2.readU u e a=rd at *
  obtain ⟨y,cd⟩:=rd
  go_wp2_with fail
  refine HRD.out.mono ?_
  clear HRD
  rintro en w5 ⟨ra,rc,rfl,hro,hb5⟩
  have HS5:=Zh (HS4.out.below hb5)
  have H5:=Zh (H4.out.below hb5)
  have HRO:=Zh (show Bytes w5 (.slice ra cd.d.length rc) cd.d from SlV.of_own hro)
  clear hro hb5 HS4 H4 hgc2 hcl c1 b0 b1 bl
  have b0:=H5.out.side.cell 1 rfl 0 rfl;have b1:=H5.out.side.cell 1 rfl 1 rfl;have bl:=H5.out.side.lt 1 rfl
  simp only
  have hb6:Below w5.heap.size w5 (w5.alloc (.cells #[.int .i64 cd.k,.slice ra cd.d.length rc] 40)):=by go_grown
  by_cases hy:y=0
  rotate_left
  ·have HF2:=Zh (HF.out.trans (if_neg (fun h=>hy h.2.2.1)))
   have HZ:=Lib.hid' hy
   rw [errV_pos hy]
   clear hy
   go_wp2_with fail
   go_ret
   rw [HF2.out]
   exact ⟨rfl,HS5.out.below hb6⟩
  subst hy
  rw [errV_0]
  have hbx:=HB.out _ _ (HS5.out.below hb6)
  have HSM:=Zh (same_any (.agg #[.int .i64 cd.k,.slice ra cd.d.length rc]) (.agg #[.int .i64 1,.slice xa xd.length xc]) cd ⟨1,xd⟩ _ ⟨ra,rc,rfl,SlV.below HRO.out (Nat.le_refl _) hb6⟩ ⟨xa,xc,rfl,hbx⟩)
  clear hbx
  go_wp2_with fail
  refine HSM.out.mono ?_
  rintro en w6 ⟨rfl,hb7⟩
  have HS6:=Zh ((HS5.out.below hb6).below hb7)
  clear hb7 hb6 HSM b0 b1 bl
  by_cases hs:cd=⟨1,xd⟩
  ·have HF2:=Zh (HF.out.trans (if_pos (by simp [hs])))
   rw [show decide (cd=(⟨1,xd⟩:C))=true from decide_eq_true hs]
   clear hs
   go_wp2_with fail
   go_ret
   rw [HF2.out]
   exact ⟨rfl,HS6.out⟩
  ·have HF2:=Zh (HF.out.trans (if_neg (fun h=>hs h.2.2.2)))
   rw [show decide (cd=(⟨1,xd⟩:C))=false from decide_eq_false hs]
   clear hs
   go_wp2_with fail
   go_ret
   rw [HF2.out]
   exact ⟨rfl,HS6.out⟩
end SL
end Go.Proofs.YtimbeeiihbmofaaGreatDoor

namespace Go.Proofs.YtimbeeiihbmofaaGreatDoor
open Go.RowKit
namespace SL
open DK SH SQ
def Cl.raise (M:Cl) (n:Int):Nat×Cl:=((M.q.raise M.p.e n).1,{ M with q:=(M.q.raise M.p.e n).2 })
set_option maxHeartbeats 4000000 in
theorem craise_any {c:Nat} {M:Cl} {J:CJ} {L:List Asn} {W:World} (n:Int) (w:World) (h:ClAt c M J L W w) :
  Calls Tryz.prog 77 #[ptrV c,.int .i64 n] w fun e w'=>e=.returned (errV (M.raise n).1)∧ClAt c (M.raise n).2 J L W w':=by
 obtain ⟨b,K,hb4,hsq,_,hback⟩:=h.seqd
 obtain ⟨hc2,hl2⟩:=h.c2
 have HSQ:=Lib.hid' hsq
 have HBK:=Lib.hid' hback
 have HF:=Zh (show M.raise n=((M.q.raise M.p.e n).1,{ M with q:=(M.q.raise M.p.e n).2 }) from rfl)
 clear hsq hback h
 go_enter Tryz.func77, Tryz.ntmps77
 go_upto_region 1 with fail
 refine startD (S:=(fun w'=>w'.cell? ⟨c,2,none⟩=some (.int .i64 M.p.e)∧w'.cell? ⟨c,4,none⟩=some (ptrV b)∧c<w'.heap.size)) (by kernel_rfl) ⟨hc2,hb4,hl2⟩ (fun hH0=>?_)
 simp only [List.length_cons,List.length_nil,Nat.reduceAdd,List.replicate_succ,List.replicate_zero]
 refine tD 0 5 (.pointer (some ⟨c,0,none⟩)) rfl rfl [(0,.pointer (some ⟨c,0,none⟩))] hH0 ?_
 dsimp only [sZ,sS]
 refine tD 1 6 (.pointer (some ⟨c,0,none⟩)) rfl rfl [(5,.pointer (some ⟨c,0,none⟩))] hH0 ?_
 dsimp only [sZ,sS]
 refine tD 2 7 (.pointer (some ⟨c,4,none⟩)) rfl rfl [(6,.pointer (some ⟨c,0,none⟩))] hH0 ?_
 dsimp only [sZ,sS]
 refine tD 3 8 (ptrV b) rfl rfl [(7,.pointer (some ⟨c,4,none⟩))] hH0 ?_
 dsimp only [sZ,sS]
 refine tD 4 9 (.pointer (some ⟨c,0,none⟩)) rfl rfl [(0,.pointer (some ⟨c,0,none⟩))] hH0 ?_
 dsimp only [sZ,sS]
 refine tD 5 10 (.pointer (some ⟨c,0,none⟩)) rfl rfl [(9,.pointer (some ⟨c,0,none⟩))] hH0 ?_
 dsimp only [sZ,sS]
 refine tD 6 11 (.pointer (some ⟨c,2,none⟩)) rfl rfl [(10,.pointer (some ⟨c,0,none⟩))] hH0 ?_
 dsimp only [sZ,sS]
 refine tD 7 12 (.pointer (some ⟨c,2,none⟩)) rfl rfl [(11,.pointer (some ⟨c,2,none⟩))] hH0 ?_
 dsimp only [sZ,sS]
 refine tD 8 13 (.int .i64 M.p.e) rfl rfl [(12,.pointer (some ⟨c,2,none⟩))] hH0 ?_
 dsimp only [sZ,sS]
 refine tD 9 14 (.int .i64 n) rfl rfl [(1,.int .i64 n)] hH0 ?_
 dsimp only [sZ,sS]
 refine rD 10 rfl (fun K hK=>?_)
 go_simp
 refine (SQ.raise_any M.p.e n HSQ.out.drew).mono ?_
 rintro e w2 ⟨rfl,hs2⟩
 obtain ⟨h2,hb42⟩:=HBK.out _ _ hs2
 have H2:=Lib.hid' h2
 have HF2:w2.cell? ⟨c,2,none⟩=some (.int .i64 M.p.e)∧w2.cell? ⟨c,4,none⟩=some (ptrV b)∧c<w2.heap.size:=⟨h2.c2.1,hb42,h2.c2.2⟩
 clear hs2 h2 hb42
 refine hK.out _ _ ?_ (fun hH1=>?_)
 ·exact HF2
 clear hK K
 try simp only [Act.put,gA,gZ,gS,sA,sZ,sS]
 refine tD 11 4 (errV (M.q.raise M.p.e n).1) rfl rfl [(15,errV (M.q.raise M.p.e n).1)] hH1 ?_
 dsimp only [sZ,sS]
 refine wpAnyH_done (by kernel_rfl) ?_ _
 clear HF2 hb4 hc2
 go_wp2_with fail
 go_ret
 rw [HF.out]
 exact ⟨rfl,H2.out⟩
set_option maxHeartbeats 4000000 in
theorem ctail_any {c:Nat} {M:Cl} {J:CJ} {L:List Asn} {W:World} (w:World) (h:ClAt c M J L W w) :
  Calls Tryz.prog 32 #[ptrV c] w fun e w'=>e=.returned (.tuple #[.int .i64 M.tail.2,errV M.tail.1])∧ClAt c M J L W w':=by
 obtain ⟨b,K,hb4,hsq,_,hback⟩:=h.seqd
 obtain ⟨hc2,hl2⟩:=h.c2
 have HSQ:=Lib.hid' hsq
 have H:=Lib.hid' h
 have HF:=Zh (show M.tail=M.q.tail M.p.e from rfl)
 clear hsq hback h
 go_enter Tryz.func32, Tryz.ntmps32
 go_upto_region 3 with fail
 refine startD (S:=(fun w'=>w'.cell? ⟨c,2,none⟩=some (.int .i64 M.p.e)∧w'.cell? ⟨c,4,none⟩=some (ptrV b)∧c<w'.heap.size)) (by kernel_rfl) ⟨hc2,hb4,hl2⟩ (fun hH0=>?_)
 simp only [List.length_cons,List.length_nil,Nat.reduceAdd,List.replicate_succ,List.replicate_zero]
 refine tD 0 7 (.pointer (some ⟨c,0,none⟩)) rfl rfl [(0,.pointer (some ⟨c,0,none⟩))] hH0 ?_
 dsimp only [sZ,sS]
 refine tD 1 8 (.pointer (some ⟨c,0,none⟩)) rfl rfl [(7,.pointer (some ⟨c,0,none⟩))] hH0 ?_
 dsimp only [sZ,sS]
 refine tD 2 9 (.pointer (some ⟨c,4,none⟩)) rfl rfl [(8,.pointer (some ⟨c,0,none⟩))] hH0 ?_
 dsimp only [sZ,sS]
 refine tD 3 10 (ptrV b) rfl rfl [(9,.pointer (some ⟨c,4,none⟩))] hH0 ?_
 dsimp only [sZ,sS]
 refine tD 4 11 (.pointer (some ⟨c,0,none⟩)) rfl rfl [(0,.pointer (some ⟨c,0,none⟩))] hH0 ?_
 dsimp only [sZ,sS]
 refine tD 5 12 (.pointer (some ⟨c,0,none⟩)) rfl rfl [(11,.pointer (some ⟨c,0,none⟩))] hH0 ?_
 dsimp only [sZ,sS]
 refine tD 6 13 (.pointer (some ⟨c,2,none⟩)) rfl rfl [(12,.pointer (some ⟨c,0,none⟩))] hH0 ?_
 dsimp only [sZ,sS]
 refine tD 7 14 (.pointer (some ⟨c,2,none⟩)) rfl rfl [(13,.pointer (some ⟨c,2,none⟩))] hH0 ?_
 dsimp only [sZ,sS]
 refine tD 8 15 (.int .i64 M.p.e) rfl rfl [(14,.pointer (some ⟨c,2,none⟩))] hH0 ?_
 dsimp only [sZ,sS]
 refine rD 9 rfl (fun K hK=>?_)
 go_simp
 refine (SQ.tail_any M.p.e HSQ.out.drew 0 rfl).mono ?_
 rintro e w2 ⟨rfl,hs2⟩
 subst hs2
 refine hK.out _ _ ?_ (fun hH1=>?_)
 ·exact ⟨hc2,hb4,hl2⟩
 clear hK K
 try simp only [Act.put,gA,gZ,gS,sA,sZ,sS]
 refine tD 10 17 (.int .i64 (M.q.tail M.p.e).2) rfl rfl [(16,.tuple #[.int .i64 (M.q.tail M.p.e).2,errV (M.q.tail M.p.e).1])] hH1 ?_
 dsimp only [sZ,sS]
 refine tD 11 18 (errV (M.q.tail M.p.e).1) rfl rfl [(16,.tuple #[.int .i64 (M.q.tail M.p.e).2,errV (M.q.tail M.p.e).1])] hH1 ?_
 dsimp only [sZ,sS]
 refine tD 12 2 (.int .i64 (M.q.tail M.p.e).2) rfl rfl [(17,.int .i64 (M.q.tail M.p.e).2)] hH1 ?_
 dsimp only [sZ,sS]
 refine tD 13 3 (errV (M.q.tail M.p.e).1) rfl rfl [(18,errV (M.q.tail M.p.e).1)] hH1 ?_
 dsimp only [sZ,sS]
 refine wpAnyH_done (by kernel_rfl) ?_ _
 clear hb4 hc2
 go_wp2_with fail
 go_ret2
 rw [HF.out]
 exact ⟨rfl,H.out.below (by go_grown)⟩
/-- a cell, or an act, is spread over units -/
def Cl.putS (a:Int) (x:C) (M:Cl) (u:Int):Nat×Cl:=Cl.putC M.p.e a x M u
abbrev intB (N:Nat) (a:Int):Asn:=.box N [.int .i64 a] 3
abbrev cellB1 (N:Nat) (x:C) (xa:Option Addr) (xc:Nat):Asn:=.box N [.int .i64 x.k,.slice xa x.d.length xc] 40
theorem putC_len (e a:Int) (x:C) (M:Cl) (u:Int):(Cl.putC e a x M u).2=(M.do u.toNat (putA e a x)).2.2:=by unfold Cl.putC;split<;>rfl
theorem putC_ok {M:Cl} (h:M.ok) (e a:Int) (x:C) (u:Int):(Cl.putC e a x M u).2.ok:=by rw [putC_len];exact h.do _ _
set_option maxHeartbeats 4000000 in
theorem spread1_any {c N1 N2 N3:Nat} {M:Cl} {J:CJ} {L:List Asn} {W:World} (u a:Int) (x:C) (xa:Option Addr) (xc:Nat) (w:World) (hp:Pow W) (h:ClAt c M J (cellB1 N3 x xa xc::intB N2 a::ptrB N1 c::L) W w) (hu:0≤u∧u<(M.us.length:Int)) (hok:M.ok) (hB:∀ M' w',ClAt c M' J L W w'→Bytes w' (.slice xa x.d.length xc) x.d) :
  Calls Tryz.prog 116 #[.int .i64 u,ptrV N1,ptrV N2,ptrV N3] w fun e w'=>e=.returned (errV (Cl.putS a x M u).1)∧ClAt c (Cl.putS a x M u).2 J (cellB1 N3 x xa xc::intB N2 a::ptrB N1 c::L) W w':=by
 have HP:=Zh (fun (wq:World) (hq:ClAt c M J (cellB1 N3 x xa xc::intB N2 a::ptrB N1 c::L) W wq)=>sput_any u M.p.e a x xa xc wq hp hq hu hok (fun M' w' h'=>hB M' w' (h'.sub (((List.Sublist.refl L).cons _ |>.cons _) |>.cons _))))
 have H:=Lib.hid' h
 have hs:=h.side
 have HFX:=Zh (show ∀ (M':Cl) (wq:World),ClAt c M' J (cellB1 N3 x xa xc::intB N2 a::ptrB N1 c::L) W wq→wq.cell? ⟨N1,0,none⟩=some (ptrV c)∧wq.cell? ⟨N2,0,none⟩=some (.int .i64 a)∧wq.cell? ⟨N3,0,none⟩=some (.int .i64 x.k)∧wq.cell? ⟨N3,1,none⟩=some (.slice xa x.d.length xc)∧wq.cell? ⟨c,2,none⟩=some (.int .i64 M'.p.e)∧N1<wq.heap.size∧N2<wq.heap.size∧N3<wq.heap.size∧c<wq.heap.size from
  fun M' wq hq=>⟨hq.side.cell 2 rfl 0 rfl,hq.side.cell 1 rfl 0 rfl,hq.side.cell 0 rfl 0 rfl,hq.side.cell 0 rfl 1 rfl,hq.c2.1,hq.side.lt 2 rfl,hq.side.lt 1 rfl,hq.side.lt 0 rfl,hq.c2.2⟩)
 have hF:=HFX.out M w h
 have hpe:=Zh (show (Cl.putC M.p.e a x M u).2.p.e=M.p.e by rw [putC_len,(Cl.do_len _ _ _).2.1])
 have HPS:=Zh (show Cl.putS a x M u=Cl.putC M.p.e a x M u from rfl)
 rw [HPS.out]
 clear h hs hok hB hu hp HPS
 go_enter Tryz.func116, Tryz.ntmps116
 go_upto_region 1 with fail
 refine startD (S:=(fun w'=>w'.cell? ⟨N1,0,none⟩=some (ptrV c)∧w'.cell? ⟨N2,0,none⟩=some (.int .i64 a)∧w'.cell? ⟨N3,0,none⟩=some (.int .i64 x.k)∧w'.cell? ⟨N3,1,none⟩=some (.slice xa x.d.length xc)∧w'.cell? ⟨c,2,none⟩=some (.int .i64 M.p.e)∧N1<w'.heap.size∧N2<w'.heap.size∧N3<w'.heap.size∧c<w'.heap.size)) (by kernel_rfl) hF (fun hH0=>?_)
 simp only [List.length_cons,List.length_nil,Nat.reduceAdd,List.replicate_succ,List.replicate_zero]
 refine tD 0 6 (.pointer (some ⟨c,0,none⟩)) rfl rfl [(1,.pointer (some ⟨N1,0,none⟩))] hH0 ?_
 dsimp only [sZ,sS]
 refine tD 1 7 (.int .i64 u) rfl rfl [(0,.int .i64 u)] hH0 ?_
 dsimp only [sZ,sS]
 refine tD 2 8 (.pointer (some ⟨c,0,none⟩)) rfl rfl [(1,.pointer (some ⟨N1,0,none⟩))] hH0 ?_
 dsimp only [sZ,sS]
 refine tD 3 9 (.pointer (some ⟨c,0,none⟩)) rfl rfl [(8,.pointer (some ⟨c,0,none⟩))] hH0 ?_
 dsimp only [sZ,sS]
 refine tD 4 10 (.pointer (some ⟨c,2,none⟩)) rfl rfl [(9,.pointer (some ⟨c,0,none⟩))] hH0 ?_
 dsimp only [sZ,sS]
 refine tD 5 11 (.pointer (some ⟨c,2,none⟩)) rfl rfl [(10,.pointer (some ⟨c,2,none⟩))] hH0 ?_
 dsimp only [sZ,sS]
 refine tD 6 12 (.int .i64 M.p.e) rfl rfl [(11,.pointer (some ⟨c,2,none⟩))] hH0 ?_
 dsimp only [sZ,sS]
 refine tD 7 13 (.int .i64 a) rfl rfl [(2,.pointer (some ⟨N2,0,none⟩))] hH0 ?_
 dsimp only [sZ,sS]
 refine tD 8 14 (.agg #[.int .i64 x.k,.slice xa x.d.length xc]) rfl rfl [(3,.pointer (some ⟨N3,0,none⟩))] hH0 ?_
 dsimp only [sZ,sS]
 refine rD 9 rfl (fun K hK=>?_)
 go_simp
 refine (HP.out _ (H.out.below (Below.refl _ _).drew)).mono ?_
 rintro e w2 ⟨rfl,h2⟩
 have H2:=Lib.hid' h2
 have HF2:=HFX.out _ _ h2
 rw [hpe.out] at HF2
 clear h2
 refine hK.out _ _ ?_ (fun hH1=>?_)
 ·exact HF2
 clear hK K
 try simp only [Act.put,gA,gZ,gS,sA,sZ,sS]
 refine tD 10 5 (errV (Cl.putC M.p.e a x M u).1) rfl rfl [(15,errV (Cl.putC M.p.e a x M u).1)] hH1 ?_
 dsimp only [sZ,sS]
 refine wpAnyH_done (by kernel_rfl) ?_ _
 clear HF2 hF
 go_wp2_with fail
 go_ret
 exact ⟨rfl,H2.out⟩
theorem cf_spread (args:Array Value) (w:World):(callFunc 116 args).run Tryz.prog w=.ok (.enter 116 args) w:=by kernel_rfl
def Cl.spread (l:List Int) (a:Int) (x:C) (M:Cl):Nat×Cl:=if (allC (Cl.putS a x) l M).1≠0 then allC (Cl.putS a x) l M else (allC (Cl.putS a x) l M).2.raise (a+1)
/-- what stays as it is while cells are put -/
structure Stay (M M':Cl):Prop where
 us:M'.us.length=M.us.length
 p:M'.p=M.p
 q:M'.q=M.q
theorem Stay.refl (M:Cl):Stay M M:=⟨rfl,rfl,rfl⟩
theorem Stay.do {M M':Cl} (h:Stay M M') (u:Nat) (x:Ac):Stay M (M'.do u x).2.2:=by
 have:=Cl.do_len M' u x
 exact ⟨this.1.trans h.us,this.2.1.trans h.p,this.2.2.trans h.q⟩
theorem Stay.put {M M':Cl} (h:Stay M M') (e a:Int) (x:C) (u:Int):Stay M (Cl.putC e a x M' u).2:=by rw [putC_len];exact h.do _ _
set_option maxHeartbeats 4000000 in
theorem spread_any {c:Nat} {M:Cl} {J:CJ} {L:List Asn} {W:World} (l:List Int) (ua:Option Addr) (uc:Nat) (a:Int) (x:C) (xa:Option Addr) (xc:Nat) (w:World) (hp:Pow W) (h:ClAt c M J L W w) (hok:M.ok) (hl:l.length≤1048576) (hu:∀ u∈l,0≤u∧u<(M.us.length:Int))
  (ha0:0≤a) (ha:a<1048576) (hZ:∀ M' w',ClAt c M' J L W w'→Zs w' (.slice ua l.length uc) l) (hB:∀ M' w',ClAt c M' J L W w'→Bytes w' (.slice xa x.d.length xc) x.d) :
  Calls Tryz.prog 73 #[ptrV c,.slice ua l.length uc,.int .i64 a,.agg #[.int .i64 x.k,.slice xa x.d.length xc]] w fun e w'=>e=.returned (errV (M.spread l a x).1)∧ClAt c (M.spread l a x).2 J L W w':=by
 have h3:=((h.allocB w.heap.size [ptrV c] 31 rfl).allocB (w.heap.size+1) [.int .i64 a] 3 (by simp)).allocB (w.heap.size+2) [.int .i64 x.k,.slice xa x.d.length xc] 40 (by simp)
 have hsub:List.Sublist L (cellB1 (w.heap.size+2) x xa xc::intB (w.heap.size+1) a::ptrB w.heap.size c::L):=((List.Sublist.refl L).cons _ |>.cons _) |>.cons _
 obtain ⟨w3,hw3⟩:∃ w3,((w.alloc (.cells #[ptrV c] 31)).alloc (.cells #[.int .i64 a] 3)).alloc (.cells #[.int .i64 x.k,.slice xa x.d.length xc] 40)=w3:=⟨_,rfl⟩
 have h3':ClAt c M J (cellB1 (w.heap.size+2) x xa xc::intB (w.heap.size+1) a::ptrB w.heap.size c::L) W w3:=by rw [←hw3];exact h3
 have HF:=Zh (show M.spread l a x=if (allC (Cl.putS a x) l M).1≠0 then allC (Cl.putS a x) l M else (allC (Cl.putS a x) l M).2.raise (a+1) from rfl)
 clear h h3
 obtain ⟨N1,hN1⟩:∃ n,n=w.heap.size:=⟨_,rfl⟩
 obtain ⟨N2,hN2⟩:∃ n,n=w.heap.size+1:=⟨_,rfl⟩
 obtain ⟨N3,hN3⟩:∃ n,n=w.heap.size+2:=⟨_,rfl⟩
 rw [←hN3,←hN2,←hN1] at h3' hsub
 have HI:=Zh (show ClAt c M J (cellB1 N3 x xa xc::intB N2 a::ptrB N1 c::L) W w3∧M.ok∧Stay M M from ⟨h3',hok,Stay.refl M⟩)
 have HDO:=Zh (show DoesU 116 #[ptrV N1,ptrV N2,ptrV N3] (Cl.putS a x) (fun (s:Cl) (w:World)=>ClAt c s J (cellB1 N3 x xa xc::intB N2 a::ptrB N1 c::L) W w∧s.ok∧Stay M s) l from fun s v w hv hI=>by
  refine (spread1_any (N1:=N1) (N2:=N2) (N3:=N3) v a x xa xc w hp hI.1 (by rw [hI.2.2.us];exact hu v hv) hI.2.1 hB).mono ?_
  rintro e w' ⟨rfl,h'⟩
  exact ⟨rfl,h',putC_ok hI.2.1 _ _ _ _,hI.2.2.put _ _ _ _⟩)
 have HALL:=Zh (all_any 116 #[ptrV N1,ptrV N2,ptrV N3] (Cl.putS a x) (fun (s:Cl) (w:World)=>ClAt c s J (cellB1 N3 x xa xc::intB N2 a::ptrB N1 c::L) W w∧s.ok∧Stay M s) l ua uc M w3 hl (fun s w hI=>hZ _ _ (hI.1.sub hsub)) cf_spread HDO.out HI.out)
 have HSUB:=Lib.hid' hsub
 clear hok hp hu hZ hB h3' HI HDO hl hsub
 generalize allC (Cl.putS a x) l M=r at *
 obtain ⟨z,M2⟩:=r
 go_enter Tryz.func73, Tryz.ntmps73
 go_upto_region 1 with fail
 try rw [hw3]
 rw [←hN3,←hN2,←hN1]
 clear hw3 hN1 hN2 hN3
 go_wp2_with fail
 refine HALL.out.mono ?_
 rintro e w4 ⟨rfl,h4,hok4,hst⟩
 simp only at h4 ⊢
 have H4:=Lib.hid' h4
 have hn1:=h4.side.cell 2 rfl 0 rfl
 have hn2:=h4.side.cell 1 rfl 0 rfl
 have hl1:=h4.side.lt 2 rfl
 have hl2:=h4.side.lt 1 rfl
 clear h4 hok4 hst HALL
 by_cases hz:z=0
 ·subst hz
  have HR:=Zh (HF.out.trans (if_neg (by simp)))
  have HRA:=Zh (craise_any (a+1) w4 H4.out)
  rw [errV_0]
  clear HF H4
  go_wp2_with fail
  refine HRA.out.mono ?_
  clear HRA
  rintro e w5 ⟨rfl,h5⟩
  go_wp2_with fail
  go_ret
  rw [HR.out]
  exact ⟨rfl,h5.sub HSUB.out⟩
 ·have HR:=Zh (HF.out.trans (if_pos hz))
  have HZ:=Lib.hid' hz
  rw [errV_pos hz]
  clear HF hz
  go_wp2_with fail
  go_ret
  rw [HR.out]
  exact ⟨by rw [errV_pos HZ.out];rfl,H4.out.sub HSUB.out⟩
/-- units are trimmed -/
def Cl.trimS (e b:Int) (M:Cl) (u:Int):Nat×Cl:=((M.do u.toNat ⟨4,e,b,[]⟩).1,(M.do u.toNat ⟨4,e,b,[]⟩).2.2)
set_option maxHeartbeats 4000000 in
theorem trim1_any {c N1 N2 N3:Nat} {M:Cl} {J:CJ} {L:List Asn} {W:World} (u e b:Int) (w:World) (hp:Pow W) (h:ClAt c M J (intB N3 b::intB N2 e::ptrB N1 c::L) W w) (hu:0≤u∧u<(M.us.length:Int)) (hok:M.ok) :
  Calls Tryz.prog 118 #[.int .i64 u,ptrV N1,ptrV N2,ptrV N3] w fun en w'=>en=.returned (errV (Cl.trimS e b M u).1)∧ClAt c (Cl.trimS e b M u).2 J (intB N3 b::intB N2 e::ptrB N1 c::L) W w':=by
 obtain ⟨k,rfl⟩:∃ k:Nat,u=k:=⟨u.toNat,by omega⟩
 have HD:=Zh (do_any k ⟨4,e,b,[]⟩ none 0 w hp h (by omega) hok (SlV.of_own (own_nil _ 0 0 0)))
 have hs:=h.side
 have c0:=hs.cell 2 rfl 0 rfl;have c1:=hs.cell 1 rfl 0 rfl;have c2:=hs.cell 0 rfl 0 rfl
 have l0:=hs.lt 2 rfl;have l1:=hs.lt 1 rfl;have l2:=hs.lt 0 rfl
 have HW:=Zh (show Cl.trimS e b M (k:Int)=((M.do k ⟨4,e,b,[]⟩).1,(M.do k ⟨4,e,b,[]⟩).2.2) from rfl)
 rw [show ac9V (⟨4,e,b,[]⟩:Ac) none 0=.agg #[.int .i64 4,.int .i64 e,.int .i64 b,.slice none 0 0] from rfl] at HD
 clear h hu hok hs hp
 go_enter Tryz.func118, Tryz.ntmps118
 go_wp2_with fail
 refine HD.out.mono ?_
 rintro en w2 ⟨rfl,h2⟩
 go_wp2_with fail
 go_ret
 rw [HW.out]
 exact ⟨rfl,h2⟩
theorem cf_trim (args:Array Value) (w:World):(callFunc 118 args).run Tryz.prog w=.ok (.enter 118 args) w:=by kernel_rfl
set_option maxHeartbeats 4000000 in
theorem trimAll_any {c:Nat} {M:Cl} {J:CJ} {L:List Asn} {W:World} (l:List Int) (ua:Option Addr) (uc:Nat) (e b:Int) (w:World) (hp:Pow W) (h:ClAt c M J L W w) (hok:M.ok) (hl:l.length≤1048576) (hu:∀ u∈l,0≤u∧u<(M.us.length:Int))
  (hZ:∀ M' w',ClAt c M' J L W w'→Zs w' (.slice ua l.length uc) l) :
  Calls Tryz.prog 76 #[ptrV c,.slice ua l.length uc,.int .i64 e,.int .i64 b] w fun en w'=>en=.returned (errV (allC (Cl.trimS e b) l M).1)∧ClAt c (allC (Cl.trimS e b) l M).2 J L W w'∧(allC (Cl.trimS e b) l M).2.ok∧Stay M (allC (Cl.trimS e b) l M).2:=by
 have h3:=((h.allocB w.heap.size [ptrV c] 31 rfl).allocB (w.heap.size+1) [.int .i64 e] 3 (by simp)).allocB (w.heap.size+2) [.int .i64 b] 3 (by simp)
 have hsub:List.Sublist L (intB (w.heap.size+2) b::intB (w.heap.size+1) e::ptrB w.heap.size c::L):=((List.Sublist.refl L).cons _ |>.cons _) |>.cons _
 obtain ⟨w3,hw3⟩:∃ w3,((w.alloc (.cells #[ptrV c] 31)).alloc (.cells #[.int .i64 e] 3)).alloc (.cells #[.int .i64 b] 3)=w3:=⟨_,rfl⟩
 have h3':ClAt c M J (intB (w.heap.size+2) b::intB (w.heap.size+1) e::ptrB w.heap.size c::L) W w3:=by rw [←hw3];exact h3
 clear h h3
 obtain ⟨N1,hN1⟩:∃ n,n=w.heap.size:=⟨_,rfl⟩
 obtain ⟨N2,hN2⟩:∃ n,n=w.heap.size+1:=⟨_,rfl⟩
 obtain ⟨N3,hN3⟩:∃ n,n=w.heap.size+2:=⟨_,rfl⟩
 rw [←hN3,←hN2,←hN1] at h3' hsub
 have HI:=Zh (show ClAt c M J (intB N3 b::intB N2 e::ptrB N1 c::L) W w3∧M.ok∧Stay M M from ⟨h3',hok,Stay.refl M⟩)
 have HDO:=Zh (show DoesU 118 #[ptrV N1,ptrV N2,ptrV N3] (Cl.trimS e b) (fun (s:Cl) (w:World)=>ClAt c s J (intB N3 b::intB N2 e::ptrB N1 c::L) W w∧s.ok∧Stay M s) l from fun s v w hv hI=>by
  refine (trim1_any (N1:=N1) (N2:=N2) (N3:=N3) v e b w hp hI.1 (by rw [hI.2.2.us];exact hu v hv) hI.2.1).mono ?_
  rintro e w' ⟨rfl,h'⟩
  exact ⟨rfl,h',hI.2.1.do _ _,hI.2.2.do _ _⟩)
 have HALL:=Zh (all_any 118 #[ptrV N1,ptrV N2,ptrV N3] (Cl.trimS e b) (fun (s:Cl) (w:World)=>ClAt c s J (intB N3 b::intB N2 e::ptrB N1 c::L) W w∧s.ok∧Stay M s) l ua uc M w3 hl (fun s w hI=>hZ _ _ (hI.1.sub hsub)) cf_trim HDO.out HI.out)
 have HSUB:=Lib.hid' hsub
 clear hok hp hu hZ h3' HI HDO hl hsub
 generalize allC (Cl.trimS e b) l M=r at *
 go_enter Tryz.func76, Tryz.ntmps76
 go_upto_region 1 with fail
 try rw [hw3]
 rw [←hN3,←hN2,←hN1]
 clear hw3 hN1 hN2 hN3
 go_wp2_with fail
 refine HALL.out.mono ?_
 rintro en w4 ⟨rfl,h4,hok4,hst⟩
 have H4:=Lib.hid' h4
 have HK:=Zh (And.intro hok4 hst)
 clear h4 hok4 hst HALL
 go_wp2_with fail
 go_ret
 exact ⟨rfl,H4.out.sub HSUB.out,HK.out⟩
end SL
end Go.Proofs.YtimbeeiihbmofaaGreatDoor

namespace Go.Proofs.YtimbeeiihbmofaaGreatDoor
open Go.RowKit
namespace SL
open DK SH SQ
theorem ClAt.belowRow {c:Nat} {M:Cl} {J:CJ} {L:List Asn} {W w w':World} (h:ClAt c M J L W w) {e size n:Nat} {v:Value} {xs:List Value} (hb:Below w.heap.size w w') (ho:w'.ownsRow w.heap.size e size v n xs):ClAt c M J (.row e size v n xs::L) W w':=by
 obtain ⟨P,hJ,hP,H⟩:=h
 refine ⟨P,hJ,hP,(H.belowRow hb ho).perm ?_⟩
 have e1:∀ L,clL c M P L=(clK c M P++(Asn.pool P.Z P.vs::P.Us.map (unA P.vs)))++L:=fun L=>by unfold clL;simp
 rw [e1 L,e1 (_::L)]
 exact List.perm_middle.symm
def Cl.putAt (M:Cl) (a:Int) (x:C):Nat×Cl:=if inB a 1048575=false then (1,M) else if x.check≠0 then (x.check,M) else if x.k≠1∧x.k≠2 then (2,M) else M.spread (M.home a) a x
def fillTo (M:Cl) (a:Int) (rd:Nat×C) (u:Int) (r:List Int):Nat×Cl :=
 if rd.1≠0 then (rd.1,M) else if rd.2.k=3 then (9,M) else if rd.2.k≠1 then M.spread (u::r) a ⟨2,[]⟩ else
 if (M.spread r a rd.2).1≠0 then M.spread r a rd.2 else (8,(M.spread r a rd.2).2)
def Cl.fill (M:Cl) (a:Int):Nat×Cl:=if inB a 1048575=false then (1,M) else match M.home a with
 | []=>(0,M)
 | u::r=>fillTo M a (M.readU u.toNat M.p.e a) u r
theorem inB_iff {a m:Int}:inB a m=true↔0≤a∧a≤m:=by unfold inB;simp
/-- a chain that is an address's home -/
theorem home_facts {M:Cl} (hok:M.ok) {l:List Int} (hm:l∈M.p.cs):1≤l.length∧l.length≤4∧∀ u∈l,0≤u∧u<(M.us.length:Int) :=
 ⟨((pj_ok hok.proj).each _ hm).1,((pj_ok hok.proj).each _ hm).2,fun u hu=>hok.there u (mem_all hm hu)⟩
set_option maxHeartbeats 8000000 in
theorem Put_any {c:Nat} {M:Cl} {J:CJ} {L:List Asn} {W:World} (a:Int) (x:C) (xa:Option Addr) (xc:Nat) (w:World) (hp:Pow W) (h:ClAt c M J L W w) (hok:M.ok) (hB:∀ M' w',ClAt c M' J L W w'→Bytes w' (.slice xa x.d.length xc) x.d) :
  Calls Tryz.prog 27 #[ptrV c,.int .i64 a,.agg #[.int .i64 x.k,.slice xa x.d.length xc]] w fun e w'=>e=.returned (errV (M.putAt a x).1)∧ClAt c (M.putAt a x).2 J L W w':=by
 have HP:=Lib.hid' hp
 have HB:=Lib.hid' hB
 have HOK:=Lib.hid' hok
 have H1:=Zh (h.allocB w.heap.size [.int .i64 x.k,.slice xa x.d.length xc] 40 rfl)
 have HF:=Zh (show M.putAt a x=if inB a 1048575=false then (1,M) else if x.check≠0 then (x.check,M) else if x.k≠1∧x.k≠2 then (2,M) else M.spread (M.home a) a x from rfl)
 have hl0:w.heap.size<(w.alloc (.cells #[.int .i64 x.k,.slice xa x.d.length xc] 40)).heap.size:=by simp
 clear hp hB hok h
 have b0:=H1.out.side.cell 0 rfl 0 rfl;have b1:=H1.out.side.cell 0 rfl 1 rfl
 have HX:=Zh (show Bytes (w.alloc (.cells #[.int .i64 x.k,.slice xa x.d.length xc] 40)) (.slice xa x.d.length xc) x.d from HB.out _ _ (ClAt.less (K:=[_]) H1.out))
 have HCK:=Zh (check_any (.agg #[.int .i64 x.k,.slice xa x.d.length xc]) x _ ⟨xa,xc,rfl,HX.out⟩)
 obtain ⟨w1,hw1⟩:∃ w1,w.alloc (.cells #[.int .i64 x.k,.slice xa x.d.length xc] 40)=w1:=⟨_,rfl⟩
 have e0:w.alloc (.cells [Value.int .i64 x.k,.slice xa x.d.length xc].toArray 40)=w1:=hw1
 rw [e0] at H1 b0 b1
 rw [hw1] at hl0 HX HCK
 clear e0
 go_enter Tryz.func27, Tryz.ntmps27
 go_upto_region 1 with fail
 try rw [hw1]
 clear hw1
 go_wp2_with fail
 refine (in2_any a 1048575 _).mono ?_
 rintro en wz ⟨rfl,rfl⟩
 go_wp2_with fail
 refine (ask_any c _ _).mono ?_
 rintro en wz ⟨rfl,rfl⟩
 by_cases hin:inB a 1048575=true
 rotate_left
 ·have hin0:inB a 1048575=false:=by simpa using hin
  have HR:=Zh (HF.out.trans (if_pos hin0))
  rw [if_neg hin,errV_pos (by decide)]
  clear hin hin0
  go_wp2_with fail
  go_ret
  rw [HR.out]
  exact ⟨rfl,ClAt.less (K:=[_]) H1.out⟩
 have HF1:=Zh (HF.out.trans (if_neg (by rw [hin];decide)))
 rw [if_pos hin,errV_0]
 have HA:=Zh (inB_iff.1 hin)
 clear hin HF
 go_wp2_with fail
 refine HCK.out.mono ?_
 clear HCK
 rintro en w2 ⟨rfl,hb2⟩
 have H2:=Zh (H1.out.below hb2)
 clear b0 b1 hl0 hb2 HX H1
 have b0:=H2.out.side.cell 0 rfl 0 rfl;have b1:=H2.out.side.cell 0 rfl 1 rfl;have hl0:=H2.out.side.lt 0 rfl
 by_cases hck:x.check=0
 rotate_left
 ·have HR:=Zh (HF1.out.trans (if_pos hck))
  have HZ:=Lib.hid' hck
  rw [errV_pos hck]
  clear hck
  go_wp2_with fail
  go_ret
  rw [HR.out]
  exact ⟨by rw [errV_pos HZ.out];rfl,ClAt.less (K:=[_]) H2.out⟩
 have HF2:=Zh (HF1.out.trans (if_neg (by simp [hck])))
 rw [hck,errV_0]
 clear hck HF1
 go_upto_region 7 with fail
 go_cut [28] (fun v28 wc=>v28=.bool (decide (x.k≠1∧x.k≠2))∧wc=w2)
 case first =>
  by_cases hk1:x.k=1
  ·have hkb:(x.k != 1)=false:=by simp [hk1]
   have hd:decide (x.k≠1∧x.k≠2)=false:=by simp [hk1]
   have HD:=Lib.hid' hd
   clear hk1 hd
   go_wp2_with fail
   go_meet
   exact ⟨by rw [HD.out],rfl⟩
  ·have hkb:(x.k != 1)=true:=by simpa using hk1
   have hd:decide (x.k≠1∧x.k≠2)=(x.k != 2):=by rw [Bool.eq_iff_iff];simp [hk1]
   have HD:=Lib.hid' hd
   clear hk1 hd
   go_wp2_with fail
   go_meet
   exact ⟨by rw [HD.out],rfl⟩
 case rest =>
 obtain ⟨rfl,rfl⟩:=hcut
 by_cases hk:x.k≠1∧x.k≠2
 ·have HR:=Zh (HF2.out.trans (if_pos hk))
  rw [decide_eq_true hk]
  clear hk
  go_wp2_with fail
  go_ret
  rw [HR.out]
  exact ⟨rfl,ClAt.less (K:=[_]) H2.out⟩
 have HR:=Zh (HF2.out.trans (if_neg hk))
 rw [decide_eq_false hk]
 clear hk HF2
 go_upto_region 9 with fail
 refine startD (S:=(fun w'=>w'.cell? ⟨w.heap.size,0,none⟩=some (.int .i64 x.k)∧w'.cell? ⟨w.heap.size,1,none⟩=some (.slice xa x.d.length xc)∧w.heap.size<w'.heap.size)) (by kernel_rfl) ⟨b0,b1,hl0⟩ (fun hH0=>?_)
 simp only [List.length_cons,List.length_nil,Nat.reduceAdd,List.replicate_succ,List.replicate_zero]
 refine tD 0 30 (.pointer (some ⟨c,0,none⟩)) rfl rfl [(0,.pointer (some ⟨c,0,none⟩))] hH0 ?_
 dsimp only [sZ,sS]
 refine tD 1 31 (.pointer (some ⟨c,0,none⟩)) rfl rfl [(0,.pointer (some ⟨c,0,none⟩))] hH0 ?_
 dsimp only [sZ,sS]
 refine tD 2 32 (.int .i64 a) rfl rfl [(1,.int .i64 a)] hH0 ?_
 dsimp only [sZ,sS]
 refine tD 4 34 (.int .i64 a) rfl rfl [(1,.int .i64 a)] hH0 ?_
 dsimp only [sZ,sS]
 refine tD 5 35 (.agg #[.int .i64 x.k,.slice xa x.d.length xc]) rfl rfl [(5,.pointer (some ⟨w.heap.size,0,none⟩))] hH0 ?_
 dsimp only [sZ,sS]
 refine rD 3 rfl (fun K hK=>?_)
 go_simp
 refine (home_any a _ (H2.out.below (Below.refl _ _).drew) HOK.out HA.out.1).mono ?_
 rintro e w3 ⟨⟨⟨l,ya,yc⟩,hy,rfl,hyh⟩,hb3⟩
 have H3:=Zh ((H2.out.below (Below.refl _ _).drew).below hb3)
 have HY:=Lib.hid' hy
 have HYH:=Zh (show l=M.home a from hyh)
 have HHF:=Zh (home_facts HOK.out (show l∈M.p.cs by rw [←show J.Ks.map (·.1)=M.p.cs from H2.out.csOf];exact List.mem_map_of_mem (f:=(·.1)) hy))
 rw [show chV (l,ya,yc)=.slice ya l.length yc from rfl]
 clear hy hyh hb3
 refine hK.out _ _ ?_ (fun hH1=>?_)
 ·exact ⟨H3.out.side.cell 0 rfl 0 rfl,H3.out.side.cell 0 rfl 1 rfl,H3.out.side.lt 0 rfl⟩
 clear hK K
 try simp only [Act.put,gA,gZ,gS,sA,sZ,sS]
 refine rD 6 rfl (fun K hK=>?_)
 go_simp
 refine (spread_any (L:=cellB1 w.heap.size x xa xc::L) l ya yc a x xa xc _ HP.out H3.out HOK.out (by have:=HHF.out.2.1;omega) HHF.out.2.2 HA.out.1 (by have:=HA.out.2;omega) (fun M' w' h'=>h'.chain HY.out) (fun M' w' h'=>HB.out _ _ (ClAt.less (K:=[_]) h'))).mono ?_
 rintro e w4 ⟨rfl,h4⟩
 rw [HYH.out] at h4 ⊢
 have H4:=Lib.hid' h4
 clear h4
 refine hK.out _ _ ?_ (fun hH2=>?_)
 ·exact ⟨H4.out.side.cell 0 rfl 0 rfl,H4.out.side.cell 0 rfl 1 rfl,H4.out.side.lt 0 rfl⟩
 clear hK K
 try simp only [Act.put,gA,gZ,gS,sA,sZ,sS]
 refine tD 7 6 (errV (M.spread (M.home a) a x).1) rfl rfl [(36,errV (M.spread (M.home a) a x).1)] hH2 ?_
 dsimp only [sZ,sS]
 refine wpAnyH_done (by kernel_rfl) ?_ _
 clear b0 b1 hl0
 go_wp2_with fail
 go_ret
 rw [HR.out]
 exact ⟨rfl,ClAt.less (K:=[_]) H4.out⟩
set_option maxHeartbeats 8000000 in
theorem Fill_any {c:Nat} {M:Cl} {J:CJ} {L:List Asn} {W:World} (a:Int) (w:World) (hp:Pow W) (h:ClAt c M J L W w) (hok:M.ok) :
  Calls Tryz.prog 26 #[ptrV c,.int .i64 a] w fun e w'=>e=.returned (errV (M.fill a).1)∧ClAt c (M.fill a).2 J L W w':=by
 have HP:=Lib.hid' hp
 have HOK:=Lib.hid' hok
 have H1:=Lib.hid' h
 have HF:=Zh (show M.fill a=if inB a 1048575=false then (1,M) else match M.home a with
  | []=>(0,M)
  | u::r=>fillTo M a (M.readU u.toNat M.p.e a) u r from rfl)
 clear hp hok h
 go_enter Tryz.func26, Tryz.ntmps26
 go_wp2_with fail
 refine (in2_any a 1048575 _).mono ?_
 rintro en wz ⟨rfl,rfl⟩
 go_wp2_with fail
 refine (ask_any c _ _).mono ?_
 rintro en wz ⟨rfl,rfl⟩
 by_cases hin:inB a 1048575=true
 rotate_left
 ·have hin0:inB a 1048575=false:=by simpa using hin
  have HR:=Zh (HF.out.trans (if_pos hin0))
  rw [if_neg hin,errV_pos (by decide)]
  clear hin hin0
  go_wp2_with fail
  go_ret
  rw [HR.out]
  exact ⟨rfl,H1.out⟩
 have HF1:=Zh (HF.out.trans (if_neg (by rw [hin];decide)))
 rw [if_pos hin,errV_0]
 have HA:=Zh (inB_iff.1 hin)
 clear hin HF
 go_wp2_with fail
 refine (home_any a _ H1.out HOK.out HA.out.1).mono ?_
 rintro e w2 ⟨⟨⟨l,ya,yc⟩,hy,rfl,hyh⟩,hb2⟩
 have H2:=Zh (H1.out.below hb2)
 have HY:=Lib.hid' hy
 have HHF:=Zh (home_facts HOK.out (show l∈M.p.cs by rw [←show J.Ks.map (·.1)=M.p.cs from H1.out.csOf];exact List.mem_map_of_mem (f:=(·.1)) hy))
 obtain ⟨u,r,rfl⟩:∃ u r,l=u::r:=by
  have:=HHF.out.1
  cases l with
  | nil=>simp at this
  | cons u r=>exact ⟨u,r,rfl⟩
 have HHM:=Zh (show M.home a=u::r from hyh.symm)
 have HF2:=Zh (HF1.out.trans (by rw [HHM.out]:_=fillTo M a (M.readU u.toNat M.p.e a) u r))
 obtain ⟨gb,go,hya,hgb,hgc⟩:=(H2.out.chain hy).at (k:=0) (by simp)
 have hgc2:w2.cell? ⟨gb,go,none⟩=some (.int .i64 u):=hgc
 simp only at hya
 subst hya
 rw [show chV (u::r,some ⟨gb,go,none⟩,yc)=.slice (some ⟨gb,go,none⟩) (r.length+1) yc from rfl]
 have hu0:=HHF.out.2.2 u List.mem_cons_self
 obtain ⟨k,rfl⟩:∃ k:Nat,u=k:=⟨u.toNat,by omega⟩
 have HRD:=Zh (read_any k a w2 H2.out (by omega))
 rw [show ((k:Nat):Int).toNat=k from rfl] at HF2
 have hlr:r.length≤3:=by have:=HHF.out.2.1;simp at this;omega
 clear hb2 hy hyh hgc HF1 H1 hu0
 generalize M.readU k M.p.e a=rd at *
 obtain ⟨z,x⟩:=rd
 go_wp2_with fail
 refine HRD.out.mono ?_
 clear HRD
 rintro en w3 ⟨xa,xc,rfl,ho,hb3⟩
 simp only at ho ⊢
 have H3:=Zh (H2.out.belowRow hb3 ho)
 have hx3:=bytes_len (show Bytes w3 (.slice xa x.d.length xc) x.d from SlV.of_own ho)
 have H4:=Zh (H3.out.allocB w3.heap.size [.int .i64 x.k,.slice xa x.d.length xc] 40 rfl)
 clear ho hb3 H2 hgc2 hgb
 by_cases hz:z=0
 rotate_left
 ·have HR:=Zh (HF2.out.trans (by unfold fillTo;rw [if_pos hz]:_=(z,M)))
  have HZ:=Lib.hid' hz
  rw [errV_pos hz]
  clear hz
  go_wp2_with fail
  go_ret
  rw [HR.out]
  exact ⟨by rw [errV_pos HZ.out];rfl,ClAt.less (K:=[_,_]) H4.out⟩
 subst hz
 rw [errV_0]
 have HF3:=Zh (HF2.out.trans (by unfold fillTo;rw [if_neg (by simp)]:_=if x.k=3 then (9,M) else if x.k≠1 then M.spread ((k:Int)::r) a ⟨2,[]⟩ else if (M.spread r a x).1≠0 then M.spread r a x else (8,(M.spread r a x).2)))
 clear HF2
 have b0:=H4.out.side.cell 0 rfl 0 rfl;have b1:=H4.out.side.cell 0 rfl 1 rfl;have bl:=H4.out.side.lt 0 rfl
 have e0:w3.alloc (.cells [Value.int .i64 x.k,.slice xa x.d.length xc].toArray 40)=w3.alloc (.cells #[.int .i64 x.k,.slice xa x.d.length xc] 40):=rfl
 rw [e0] at H4 b0 b1 bl
 clear e0
 go_upto_region 6 with fail
 generalize w3.alloc (.cells #[.int .i64 x.k,.slice xa x.d.length xc] 40)=w4 at *
 generalize w3.heap.size=N at *
 by_cases hk3:x.k=3
 ·have HR:=Zh (HF3.out.trans (if_pos hk3))
  have hkb:(x.k==3)=true:=by simpa using hk3
  clear hk3
  go_wp2_with fail
  go_ret
  rw [HR.out]
  exact ⟨rfl,ClAt.less (K:=[_,_]) H4.out⟩
 have HF4:=Zh (HF3.out.trans (if_neg hk3))
 have hkb3:(x.k==3)=false:=by simpa using hk3
 clear hk3 HF3
 by_cases hk1:x.k=1
 rotate_left
 ·have HR:=Zh (HF4.out.trans (if_pos hk1))
  have hkb:(x.k != 1)=true:=by simpa using hk1
  have HSP:=Zh (spread_any ((k:Int)::r) (some ⟨gb,go,none⟩) yc a ⟨2,[]⟩ none 0 _ HP.out H4.out HOK.out (by have:=HHF.out.2.1;omega) HHF.out.2.2 HA.out.1 (by have:=HA.out.2;omega) (fun M' w' h'=>h'.chain HY.out) (fun M' w' h'=>SlV.of_own (own_nil _ 0 0 0)))
  have HSP:Hid (Calls Tryz.prog 73 #[ptrV c,.slice (some ⟨gb,go,none⟩) (r.length+1) yc,.int .i64 a,.agg #[.int .i64 2,.slice none 0 0]] w4 fun e w'=>e=.returned (errV (M.spread ((k:Int)::r) a ⟨2,[]⟩).1)∧ClAt c (M.spread ((k:Int)::r) a ⟨2,[]⟩).2 J _ W w'):=HSP
  clear hk1
  go_wp2_with fail
  refine HSP.out.mono ?_
  clear HSP
  rintro en w5 ⟨rfl,h5⟩
  go_wp2_with fail
  go_ret
  rw [HR.out]
  exact ⟨rfl,ClAt.less (K:=[_,_]) h5⟩
 have HR:=Zh (HF4.out.trans (if_neg (fun h=>h hk1)))
 have hkb:(x.k != 1)=false:=by simp [hk1]
 clear hk1 HF4
 have HZS:=Zh (fun (s:Cl) (w:World) (hI:ClAt c s J (cellB1 N x xa xc::.row 5 1 (.slice xa x.d.length xc) x.d.length (byteVs x.d)::L) W w)=>zs_tail (hI.chain HY.out))
 have hcap:r.length+1≤yc:=(HZS.out _ _ H4.out).1
 have HBX:=Zh (fun (s:Cl) (w:World) (hI:ClAt c s J (cellB1 N x xa xc::.row 5 1 (.slice xa x.d.length xc) x.d.length (byteVs x.d)::L) W w)=>show Bytes w (.slice xa x.d.length xc) x.d from SlV.of_own (hI.side.row 1 rfl))
 go_upto_region 12 with fail
 by_cases hy1:yc=1
 ·subst hy1
  obtain rfl:r=[]:=List.eq_nil_of_length_eq_zero (by omega)
  refine startD (S:=(fun w'=>w'.cell? ⟨N,0,none⟩=some (.int .i64 x.k)∧w'.cell? ⟨N,1,none⟩=some (.slice xa x.d.length xc)∧N<w'.heap.size)) (by kernel_rfl) ⟨b0,b1,bl⟩ (fun hH0=>?_)
  simp only [List.length_cons,List.length_nil,Nat.reduceAdd,List.replicate_succ,List.replicate_zero]
  refine tD 0 47 (.pointer (some ⟨c,0,none⟩)) rfl rfl [(0,.pointer (some ⟨c,0,none⟩))] hH0 ?_
  dsimp only [sZ,sS]
  refine tD 1 48 (.slice (some ⟨gb,go,none⟩) (0+1) 1) rfl rfl [(6,.slice (some ⟨gb,go,none⟩) (0+1) 1)] hH0 ?_
  dsimp only [sZ,sS]
  refine tE 2 49 (.slice (some ⟨gb,go,none⟩) 0 0) rfl rfl [(48,.slice (some ⟨gb,go,none⟩) (0+1) 1)] hH0 ?_ ?_
  ·intro w hSw;go_simp;(try (intro h;exfalso;omega))
  dsimp only [sZ,sS]
  refine tD 3 50 (.int .i64 a) rfl rfl [(1,.int .i64 a)] hH0 ?_
  dsimp only [sZ,sS]
  refine tD 4 51 (.agg #[.int .i64 x.k,.slice xa x.d.length xc]) rfl rfl [(7,.pointer (some ⟨N,0,none⟩))] hH0 ?_
  dsimp only [sZ,sS]
  refine rD 5 rfl (fun K hK=>?_)
  go_simp
  refine (spread_any ([]:List Int) (some ⟨gb,go,none⟩) 0 a x xa xc _ HP.out (H4.out.below (Below.refl _ _).drew) HOK.out (by simp) (fun v hv=>by cases hv) HA.out.1 (by have:=HA.out.2;omega) (fun M' w' h'=>(HZS.out _ _ h').2.1 rfl) (fun M' w' h'=>HBX.out M' w' h')).mono ?_
  rintro e w5 ⟨rfl,h5⟩
  have H5:=Lib.hid' h5
  clear h5
  refine hK.out _ _ ?_ (fun hH1=>?_)
  ·exact ⟨H5.out.side.cell 0 rfl 0 rfl,H5.out.side.cell 0 rfl 1 rfl,H5.out.side.lt 0 rfl⟩
  clear hK K
  try simp only [Act.put,gA,gZ,gS,sA,sZ,sS]
  refine tD 6 9 (errV (M.spread [] a x).1) rfl rfl [(52,errV (M.spread [] a x).1)] hH1 ?_
  dsimp only [sZ,sS]
  refine wpAnyH_done (by kernel_rfl) ?_ _
  clear b0 b1 bl
  generalize M.spread [] a x=sp at *
  obtain ⟨zs,Ms⟩:=sp
  simp only at H5 ⊢
  by_cases hzs:zs=0
  ·have HR2:=Zh (HR.out.trans (if_neg (by simp [hzs])))
   subst hzs
   rw [errV_0]
   go_wp2_with fail
   go_ret
   rw [HR2.out]
   exact ⟨rfl,ClAt.less (K:=[_,_]) H5.out⟩
  ·have HR2:=Zh (HR.out.trans (if_pos hzs))
   have HZ:=Lib.hid' hzs
   rw [errV_pos hzs]
   clear hzs
   go_wp2_with fail
   go_ret
   rw [HR2.out]
   exact ⟨by rw [errV_pos HZ.out];rfl,ClAt.less (K:=[_,_]) H5.out⟩
 ·have hyc:¬yc=1:=hy1
  refine startD (S:=(fun w'=>w'.cell? ⟨N,0,none⟩=some (.int .i64 x.k)∧w'.cell? ⟨N,1,none⟩=some (.slice xa x.d.length xc)∧N<w'.heap.size)) (by kernel_rfl) ⟨b0,b1,bl⟩ (fun hH0=>?_)
  simp only [List.length_cons,List.length_nil,Nat.reduceAdd,List.replicate_succ,List.replicate_zero]
  refine tD 0 47 (.pointer (some ⟨c,0,none⟩)) rfl rfl [(0,.pointer (some ⟨c,0,none⟩))] hH0 ?_
  dsimp only [sZ,sS]
  refine tD 1 48 (.slice (some ⟨gb,go,none⟩) (r.length+1) yc) rfl rfl [(6,.slice (some ⟨gb,go,none⟩) (r.length+1) yc)] hH0 ?_
  dsimp only [sZ,sS]
  refine tE 2 49 (.slice (some ⟨gb,go+1,none⟩) r.length (yc - 1)) rfl rfl [(48,.slice (some ⟨gb,go,none⟩) (r.length+1) yc)] hH0 ?_ ?_
  ·intro w hSw;go_simp;(try (intro h;exfalso;omega))
  dsimp only [sZ,sS]
  refine tD 3 50 (.int .i64 a) rfl rfl [(1,.int .i64 a)] hH0 ?_
  dsimp only [sZ,sS]
  refine tD 4 51 (.agg #[.int .i64 x.k,.slice xa x.d.length xc]) rfl rfl [(7,.pointer (some ⟨N,0,none⟩))] hH0 ?_
  dsimp only [sZ,sS]
  refine rD 5 rfl (fun K hK=>?_)
  go_simp
  refine (spread_any r (some ⟨gb,go+1,none⟩) (yc - 1) a x xa xc _ HP.out (H4.out.below (Below.refl _ _).drew) HOK.out (by omega) (fun v hv=>HHF.out.2.2 v (List.mem_cons_of_mem _ hv)) HA.out.1 (by have:=HA.out.2;omega) (fun M' w' h'=>(HZS.out _ _ h').2.2) (fun M' w' h'=>HBX.out M' w' h')).mono ?_
  rintro e w5 ⟨rfl,h5⟩
  have H5:=Lib.hid' h5
  clear h5
  refine hK.out _ _ ?_ (fun hH1=>?_)
  ·exact ⟨H5.out.side.cell 0 rfl 0 rfl,H5.out.side.cell 0 rfl 1 rfl,H5.out.side.lt 0 rfl⟩
  clear hK K
  try simp only [Act.put,gA,gZ,gS,sA,sZ,sS]
  refine tD 6 9 (errV (M.spread r a x).1) rfl rfl [(52,errV (M.spread r a x).1)] hH1 ?_
  dsimp only [sZ,sS]
  refine wpAnyH_done (by kernel_rfl) ?_ _
  clear b0 b1 bl
  generalize M.spread r a x=sp at *
  obtain ⟨zs,Ms⟩:=sp
  simp only at H5 ⊢
  by_cases hzs:zs=0
  ·have HR2:=Zh (HR.out.trans (if_neg (by simp [hzs])))
   subst hzs
   rw [errV_0]
   go_wp2_with fail
   go_ret
   rw [HR2.out]
   exact ⟨rfl,ClAt.less (K:=[_,_]) H5.out⟩
  ·have HR2:=Zh (HR.out.trans (if_pos hzs))
   have HZ:=Lib.hid' hzs
   rw [errV_pos hzs]
   clear hzs
   go_wp2_with fail
   go_ret
   rw [HR2.out]
   exact ⟨by rw [errV_pos HZ.out];rfl,ClAt.less (K:=[_,_]) H5.out⟩
end SL
end Go.Proofs.YtimbeeiihbmofaaGreatDoor

namespace Go.Proofs.YtimbeeiihbmofaaGreatDoor
open Go.RowKit
namespace SL
open DK SH SQ
def Cl.units (M:Cl):List Int:=unitsOf M.p.all
def Cl.trim (M:Cl) (b:Int):Nat×Cl:=if inB b 1048576=false then (1,M) else if (allC (Cl.trimS M.p.e b) M.units M).1≠0 then allC (Cl.trimS M.p.e b) M.units M else (allC (Cl.trimS M.p.e b) M.units M).2.raise b
theorem ClAt.chs {c:Nat} {M:Cl} {J:CJ} {L:List Asn} {W w:World} (h:ClAt c M J L W w):Chs w J.a J.c J.Ks∧flatC J.Ks=M.p.all∧w.cell? ⟨c,3,none⟩=some (.slice J.a J.Ks.length J.c):=by
 have hch:=fun y hy=>h.chain (y:=y) hy
 have hcs:=h.csOf
 obtain ⟨P,rfl,hP,H⟩:=h
 exact ⟨⟨SlV.of_own (H.row 4 rfl),hch⟩,by unfold flatC Pj.all;rw [hcs],H.cell 0 rfl 3 rfl⟩
theorem flat_le {X:List (List Int)} (h:∀ x∈X,x.length≤4):X.flatten.length≤4*X.length:=by
 induction X with
 | nil=>simp
 | cons x X ih =>
  rw [List.flatten_cons,List.length_append,List.length_cons]
  have h1:=h x List.mem_cons_self
  have h2:=ih (fun y hy=>h y (List.mem_cons_of_mem _ hy))
  omega
theorem all_len {p:Pj} (h:PjOk p):p.all.length≤16:=by
 have h1:=flat_le (X:=p.cs) (fun x hx=>(h.each x hx).2)
 have h2:=h.n.2
 unfold Pj.all
 omega
theorem units_facts {M:Cl} (hok:M.ok):M.units.length≤16∧∀ u∈M.units,0≤u∧u<(M.us.length:Int) :=
 ⟨Nat.le_trans (unitsOf_len _) (all_len (pj_ok hok.proj)),fun u hu=>hok.there u ((unitsOf_mem u _).1 hu)⟩
theorem unitsR_any {c:Nat} {M:Cl} {J:CJ} {L:List Asn} {W:World} (w:World) (h:ClAt c M J L W w) (hok:M.ok) :
  Calls Tryz.prog 18 #[.agg #[.int .i64 M.p.e,.slice J.a J.Ks.length J.c]] w fun e w'=>∃ ua uc,e=.returned (.slice ua M.units.length uc)∧ClAt c M J (.row 3 1 (.slice ua M.units.length uc) M.units.length (zVs M.units)::L) W w':=by
 obtain ⟨h1,h2,_⟩:=h.chs
 have h3:=punits_any M.p.e J.a J.c J.Ks w h1 (by rw [h2];have:=all_len (pj_ok hok.proj);omega)
 rw [show pjV M.p.e J.a J.c J.Ks=.agg #[.int .i64 M.p.e,.slice J.a J.Ks.length J.c] from rfl] at h3
 refine h3.mono ?_
 intro e w' hE
 obtain ⟨ua,uc,rfl,ho,hb⟩:=hE
 rw [h2] at ho ⊢
 exact ⟨ua,uc,rfl,h.belowRow hb ho⟩
set_option maxHeartbeats 8000000 in
theorem Trim_any {c:Nat} {M:Cl} {J:CJ} {L:List Asn} {W:World} (a:Int) (w:World) (hp:Pow W) (h:ClAt c M J L W w) (hok:M.ok) :
  Calls Tryz.prog 29 #[ptrV c,.int .i64 a] w fun e w'=>e=.returned (errV (M.trim a).1)∧ClAt c (M.trim a).2 J L W w':=by
 have HP:=Lib.hid' hp
 have HOK:=Lib.hid' hok
 have H1:=Lib.hid' h
 have HF:=Zh (show M.trim a=if inB a 1048576=false then (1,M) else if (allC (Cl.trimS M.p.e a) M.units M).1≠0 then allC (Cl.trimS M.p.e a) M.units M else (allC (Cl.trimS M.p.e a) M.units M).2.raise a from rfl)
 have HUF:=Zh (units_facts hok)
 clear hp hok h
 go_enter Tryz.func29, Tryz.ntmps29
 go_wp2_with fail
 refine (in2_any a 1048576 _).mono ?_
 rintro en wz ⟨rfl,rfl⟩
 go_wp2_with fail
 refine (ask_any c _ _).mono ?_
 rintro en wz ⟨rfl,rfl⟩
 by_cases hin:inB a 1048576=true
 rotate_left
 ·have hin0:inB a 1048576=false:=by simpa using hin
  have HR:=Zh (HF.out.trans (if_pos hin0))
  rw [if_neg hin,errV_pos (by decide)]
  clear hin hin0
  go_wp2_with fail
  go_ret
  rw [HR.out]
  exact ⟨rfl,H1.out⟩
 have HF1:=Zh (HF.out.trans (if_neg (by rw [hin];decide)))
 rw [if_pos hin,errV_0]
 clear hin HF
 go_upto_region 4 with fail
 have c2:=H1.out.c2.1;have cl:=H1.out.c2.2;have c3:=H1.out.chs.2.2
 refine startD (S:=(fun w'=>w'.cell? ⟨c,2,none⟩=some (.int .i64 M.p.e)∧w'.cell? ⟨c,3,none⟩=some (.slice J.a J.Ks.length J.c)∧c<w'.heap.size)) (by kernel_rfl) ⟨c2,c3,cl⟩ (fun hH0=>?_)
 simp only [List.length_cons,List.length_nil,Nat.reduceAdd,List.replicate_succ,List.replicate_zero]
 refine tD 0 14 (.pointer (some ⟨c,0,none⟩)) rfl rfl [(0,.pointer (some ⟨c,0,none⟩))] hH0 ?_
 dsimp only [sZ,sS]
 refine tD 1 15 (.pointer (some ⟨c,0,none⟩)) rfl rfl [(0,.pointer (some ⟨c,0,none⟩))] hH0 ?_
 dsimp only [sZ,sS]
 refine tD 2 16 (.pointer (some ⟨c,0,none⟩)) rfl rfl [(15,.pointer (some ⟨c,0,none⟩))] hH0 ?_
 dsimp only [sZ,sS]
 refine tD 3 17 (.pointer (some ⟨c,2,none⟩)) rfl rfl [(16,.pointer (some ⟨c,0,none⟩))] hH0 ?_
 dsimp only [sZ,sS]
 refine tD 4 18 (.agg #[.int .i64 M.p.e,.slice J.a J.Ks.length J.c]) rfl rfl [(17,.pointer (some ⟨c,2,none⟩))] hH0 ?_
 dsimp only [sZ,sS]
 refine tD 6 20 (.pointer (some ⟨c,0,none⟩)) rfl rfl [(0,.pointer (some ⟨c,0,none⟩))] hH0 ?_
 dsimp only [sZ,sS]
 refine tD 7 21 (.pointer (some ⟨c,0,none⟩)) rfl rfl [(20,.pointer (some ⟨c,0,none⟩))] hH0 ?_
 dsimp only [sZ,sS]
 refine tD 8 22 (.pointer (some ⟨c,2,none⟩)) rfl rfl [(21,.pointer (some ⟨c,0,none⟩))] hH0 ?_
 dsimp only [sZ,sS]
 refine tD 9 23 (.pointer (some ⟨c,2,none⟩)) rfl rfl [(22,.pointer (some ⟨c,2,none⟩))] hH0 ?_
 dsimp only [sZ,sS]
 refine tD 10 24 (.int .i64 M.p.e) rfl rfl [(23,.pointer (some ⟨c,2,none⟩))] hH0 ?_
 dsimp only [sZ,sS]
 refine tD 11 25 (.int .i64 a) rfl rfl [(1,.int .i64 a)] hH0 ?_
 dsimp only [sZ,sS]
 refine rD 5 rfl (fun K hK=>?_)
 go_simp
 refine (unitsR_any _ (H1.out.below (Below.refl _ _).drew) HOK.out).mono ?_
 rintro e w2 ⟨ua,uc,rfl,h2⟩
 have H2:=Lib.hid' h2
 clear h2
 refine hK.out _ _ ?_ (fun hH1=>?_)
 ·exact ⟨H2.out.c2.1,H2.out.chs.2.2,H2.out.c2.2⟩
 clear hK K
 try simp only [Act.put,gA,gZ,gS,sA,sZ,sS]
 refine rD 12 rfl (fun K hK=>?_)
 go_simp
 refine (trimAll_any M.units ua uc M.p.e a _ HP.out H2.out HOK.out (by have:=HUF.out.1;omega) HUF.out.2 (fun M' w' h'=>SlV.of_own (h'.side.row 0 rfl))).mono ?_
 rintro e w4 ⟨rfl,h4,hok4,hst⟩
 have H4:=Lib.hid' h4
 have HS:=Lib.hid' hst
 clear h4 hok4 hst
 refine hK.out _ _ ?_ (fun hH2=>?_)
 ·exact ⟨by have:=H4.out.c2.1;rw [HS.out.p] at this;exact this,H4.out.chs.2.2,H4.out.c2.2⟩
 clear hK K
 try simp only [Act.put,gA,gZ,gS,sA,sZ,sS]
 refine tD 13 6 (errV (allC (Cl.trimS M.p.e a) M.units M).1) rfl rfl [(26,errV (allC (Cl.trimS M.p.e a) M.units M).1)] hH2 ?_
 dsimp only [sZ,sS]
 refine wpAnyH_done (by kernel_rfl) ?_ _
 clear c2 cl c3
 generalize allC (Cl.trimS M.p.e a) M.units M=r at *
 obtain ⟨z,M2⟩:=r
 simp only at H4 ⊢
 by_cases hz:z=0
 ·have HR:=Zh (HF1.out.trans (if_neg (by simp [hz])))
  subst hz
  rw [errV_0]
  have HRA:=Zh (craise_any a w4 H4.out)
  clear HF1
  go_wp2_with fail
  refine HRA.out.mono ?_
  clear HRA
  rintro en w5 ⟨rfl,h5⟩
  go_wp2_with fail
  go_ret
  rw [HR.out]
  exact ⟨rfl,ClAt.less (K:=[_]) h5⟩
 ·have HR:=Zh (HF1.out.trans (if_pos hz))
  have HZ:=Lib.hid' hz
  rw [errV_pos hz]
  clear hz HF1
  go_wp2_with fail
  go_ret
  rw [HR.out]
  exact ⟨by rw [errV_pos HZ.out];rfl,ClAt.less (K:=[_]) H4.out⟩
end SL
end Go.Proofs.YtimbeeiihbmofaaGreatDoor

namespace Go.Proofs.YtimbeeiihbmofaaGreatDoor
open Go.RowKit
namespace SL
open DK SH SQ
def Cl.has (M:Cl) (u:Int):Nat:=if inB u ((M.us.length:Int) - 1)=true then 0 else 1
theorem has_zero {M:Cl} {u:Int} (h:M.has u=0):0≤u∧u<(M.us.length:Int):=by
 unfold Cl.has at h
 split at h
 ·rename_i h1;have:=inB_iff.1 h1;omega
 ·cases h
theorem has_cases (M:Cl) (u:Int):M.has u=0∨M.has u=1:=by unfold Cl.has;split;exact .inl rfl;exact .inr rfl
/-- where the cluster has a unit's disk, and its shelf -/
theorem ClAt.rows {c:Nat} {M:Cl} {J:CJ} {L:List Asn} {W w:World} (h:ClAt c M J L W w):∃ a k,w.cell? ⟨c,0,none⟩=some (.slice a M.us.length k)∧c<w.heap.size:=by
 obtain ⟨P,rfl,hP,H⟩:=h
 have h0:=H.row 2 rfl
 have hl:P.Us.length=M.us.length:=by rw [←hP.us,List.length_map]
 obtain ⟨a,k,hv,_⟩:=SlV.of_own h0
 have c0:=H.cell 0 rfl 0 rfl
 rw [hv,hl] at c0
 exact ⟨a,k,c0,H.lt 0 rfl⟩
set_option maxHeartbeats 2000000 in
theorem has_any {c:Nat} {M:Cl} {J:CJ} {L:List Asn} {W:World} (u:Int) (w:World) (h:ClAt c M J L W w) (hm:M.us.length≤8) :
  Calls Tryz.prog 35 #[ptrV c,.int .i64 u] w fun e w'=>e=.returned (errV (M.has u))∧w=w':=by
 obtain ⟨a,k,c0,hl⟩:=h.rows
 have HF:=Zh (show M.has u=if inB u ((M.us.length:Int) - 1)=true then 0 else 1 from rfl)
 clear h
 generalize M.us.length=n at *
 go_enter Tryz.func35, Tryz.ntmps35
 go_wp2_with fail
 refine (in2_any u ((n:Int) - 1) _).mono ?_
 rintro en wz ⟨rfl,rfl⟩
 by_cases hin:inB u ((n:Int) - 1)=true
 ·rw [if_pos hin] at HF
  rw [hin]
  clear hin
  go_wp2_with fail
  go_ret
  rw [HF.out]
  exact ⟨rfl,rfl⟩
 ·rw [if_neg hin] at HF
  rw [show inB u ((n:Int) - 1)=false by simpa using hin]
  clear hin
  go_wp2_with fail
  go_ret
  rw [HF.out]
  exact ⟨rfl,rfl⟩
theorem unI_none {N:Nat} {Q:Option Nat} {D:Dk} {vs:PoolL} {K:List Asn} (h:unI N Q ⟨D,none⟩ vs K):Q=none:=by
 cases Q with
 | none=>rfl
 | some q=>exact (show False from h).elim
@[go_sem] theorem neq_shelf_nil (w:World):(binOp .neq 84 (.pointer none) (.pointer none)).run Tryz.prog w=.ok (.bool false) w:=by kernel_rfl
@[go_sem] theorem neq_shelf_ptr (b:Nat) (w:World):(binOp .neq 84 (ptrV b) (.pointer none)).run Tryz.prog w=.ok (.bool true) w:=by kernel_rfl
end SL
end Go.Proofs.YtimbeeiihbmofaaGreatDoor

namespace Go.Proofs.YtimbeeiihbmofaaGreatDoor
namespace SL
open DK SH SQ
/-- what stays of a cluster while its sequencer only rises -/
structure Up (M M':Cl):Prop where
 us:M'.us.length=M.us.length
 p:M'.p=M.p
 qe:M'.q.e=M.q.e
 qn:M.q.n≤M'.q.n
 ok:M'.ok
theorem Up.trans {M N K:Cl} (h:Up M N) (g:Up N K):Up M K:=⟨g.us.trans h.us,g.p.trans h.p,g.qe.trans h.qe,Int.le_trans h.qn g.qn,g.ok⟩
theorem Up.of {M M':Cl} (h:Stay M M') (hok:M'.ok):Up M M':=⟨h.us,h.p,by rw [h.q],by rw [h.q];exact Int.le_refl _,hok⟩
/-- between two acts: the sequencer is of the projection's epoch, the last address lies below it -/
structure Ris (M:Cl) (last:Int):Prop where
 ok:M.ok
 e:M.q.e=M.p.e
 lo:-1≤last
 hi:last<M.q.n
theorem Ris.tail {M:Cl} {last:Int} (h:Ris M last):M.tail=(0,M.q.n):=by
 unfold Cl.tail Q.tail Q.asks
 rw [h.e]
 simp
end SL
end Go.Proofs.YtimbeeiihbmofaaGreatDoor

namespace Go.Proofs.YtimbeeiihbmofaaGreatDoor
open Go.RowKit
namespace SL
open DK SH SQ
/-- an act of law 13, with where its rows lie -/
structure A13 where
 k:Int
 u:Int
 a:Int
 c:C
 da:Option Addr
 dc:Nat
 ks:List Bool
 ka:Option Addr
 kc:Nat
 sp:List Int
 sa:Option Addr
 sc:Nat
def a13V (x:A13):List Value:=[.int .i64 x.k,.int .i64 x.u,.int .i64 x.a,.int .i64 x.c.k,.slice x.da x.c.d.length x.dc,.slice x.ka x.ks.length x.kc,.slice x.sa x.sp.length x.sc]
structure A13At (w:World) (x:A13):Prop where
 d:Bytes w (.slice x.da x.c.d.length x.dc) x.c.d
 ks:SlV w (.slice x.ka x.ks.length x.kc) x.ks.length (bools x.ks)
 sp:Zs w (.slice x.sa x.sp.length x.sc) x.sp
 a:-9223372036854775808≤x.a∧x.a<9223372036854775808
theorem A13At.below {w w':World} {x:A13} (h:A13At w x) (hb:Below w.heap.size w w'):A13At w' x:=⟨SlV.below h.d (Nat.le_refl _) hb,SlV.below h.ks (Nat.le_refl _) hb,SlV.below h.sp (Nat.le_refl _) hb,h.a⟩
structure A13L (w:World) (a:Option Addr) (c:Nat) (X:List A13):Prop where
 row:SlV w (.slice a X.length c) X.length (X.flatMap a13V)
 each:∀ x∈X,A13At w x
theorem A13L.below {w w':World} {a:Option Addr} {c:Nat} {X:List A13} (h:A13L w a c X) (hb:Below w.heap.size w w'):A13L w' a c X:=⟨SlV.below h.row (Nat.le_refl _) hb,fun x hx=>(h.each x hx).below hb⟩
theorem A13L.len {w:World} {a:Option Addr} {c:Nat} {X:List A13} (h:A13L w a c X):X.length≤9223372036854775807:=by
 obtain ⟨_,_,he,h1,h2,_⟩:=h.row;cases he;unfold maxLen at h2;omega
theorem slv_le {w:World} {a:Option Addr} {n c:Nat} {xs:List Value} (h:SlV w (.slice a n c) n xs):n≤9223372036854775807:=by
 obtain ⟨_,_,he,h1,h2,_⟩:=h;cases he;unfold maxLen at h2;omega
def big13 (x:A13):Bool:=decide (100<x.c.d.length)||decide (60<x.ks.length)||decide (12<x.sp.length)
def long13 (X:List A13) (most:Nat):Bool:=X.any big13||decide (most<X.length)
theorem long13_no {X:List A13} {most:Nat} (h:long13 X most=false):X.length≤most∧∀ x∈X,x.c.d.length≤100∧x.ks.length≤60∧x.sp.length≤12:=by
 unfold long13 at h
 rw [Bool.or_eq_false_iff] at h
 refine ⟨by have:=h.2;simpa using this,fun x hx=>?_⟩
 have:=List.any_eq_false.1 h.1 x hx
 unfold big13 at this
 simpa [Nat.not_lt,and_assoc] using this
set_option maxHeartbeats 4000000 in
theorem long13_any (X:List A13) (most:Nat) (hmost:most≤1000) (a:Option Addr) (c:Nat) (W:World) (h:A13L W a c X) :
  Calls Tryz.prog 5 #[.slice a X.length c,.int .i64 most] W fun e w'=>e=.returned (.bool (long13 X most))∧Below W.heap.size W w':=by
 have HS:=Lib.hid' h
 have hlen:=h.len
 clear h
 go_enter Tryz.func5, Tryz.ntmps5
 go_wp2_with fail
 go_loopw [9] (fun v9 wr=>∃ k:Nat,v9=.int .i64 k∧k≤X.length∧(X.take k).any big13=false∧Below W.heap.size W wr) (fun v9 _=>X.length - (intOf v9).toNat)
 case atStart=>exact ⟨0,rfl,Nat.zero_le _,by simp,Below.refl _ _⟩
 case round =>
  obtain ⟨k,rfl,hk,hno,hbw⟩:=hrel
  have HNO:=Lib.hid' hno
  have HBW:=Lib.hid' hbw
  clear hno hbw
  by_cases hlt:k<X.length
  ·obtain ⟨hsl,hby⟩:=HS.out.below HBW.out
   obtain ⟨b,off,rfl,hb,hc⟩:=SlV.row (s:=7) (fun _=>rfl) (by decide) hsl hlt
   have c0:=hc 0 _ rfl;have c1:=hc 1 _ rfl;have c2:=hc 2 _ rfl;have c3:=hc 3 _ rfl;have c4:=hc 4 _ rfl;have c5:=hc 5 _ rfl;have c6:=hc 6 _ rfl
   simp only [Nat.add_zero] at c0
   have hat:=hby _ (List.getElem_mem hlt)
   have hd1:=slv_le hat.d;have hd2:=slv_le hat.ks;have hd3:=slv_le hat.sp
   have HTK:=Zh (take_any big13 X k hlt)
   have HMEM:=Zh (List.getElem_mem hlt)
   clear hc hsl hby hat
   generalize X[k]=x at *
   obtain ⟨xk,xu,xa,xc,da,dc,ks,ka,kc,sp,sa,sc⟩:=x
   simp only at c0 c1 c2 c3 c4 c5 c6 hd1 hd2 hd3
   by_cases hq:big13 ⟨xk,xu,xa,xc,da,dc,ks,ka,kc,sp,sa,sc⟩=true
   ·have HF:=Zh (show long13 X most=true by unfold long13;rw [List.any_eq_true.2 ⟨_,HMEM.out,hq⟩];rfl)
    have hqq:100<xc.d.length∨(¬100<xc.d.length∧60<ks.length)∨(¬100<xc.d.length∧¬60<ks.length∧12<sp.length):=by
     unfold big13 at hq
     simp only [Bool.or_eq_true,decide_eq_true_eq] at hq
     omega
    clear hq HTK HMEM
    rcases hqq with h1 | ⟨h1,h2⟩ | ⟨h1,h2,h3⟩
    all_goals
     go_wp2_with fail
     go_ret
     exact ⟨ret_eq (by rw [HF.out];rfl),HBW.out.trans ((show Below wr.heap.size wr _ by go_grown).mono HBW.out.size)⟩
   ·have HT:=Zh (show (X.take (k+1)).any big13=false by
     rw [HTK.out,HNO.out,show big13 ⟨xk,xu,xa,xc,da,dc,ks,ka,kc,sp,sa,sc⟩=false by simpa using hq];rfl)
    have hqq:¬100<xc.d.length∧¬60<ks.length∧¬12<sp.length:=by
     unfold big13 at hq
     simp only [Bool.or_eq_true,decide_eq_true_eq] at hq
     omega
    obtain ⟨h1,h2,h3⟩:=hqq
    clear HTK hq
    go_wp2_with fail
    go_roundw
    case rel=>exact ⟨k+1,by go_num,by omega,HT.out,HBW.out.trans ((show Below wr.heap.size wr _ by go_grown).mono HBW.out.size)⟩
    case measure=>simp [intOf];omega
  ·have HF:=Zh (show X.any big13=false by
    have:=HNO.out;rwa [List.take_of_length_le (by omega)] at this)
   by_cases hm:most<X.length
   ·have HM:=Lib.hid' hm
    go_wp2_with fail
    go_ret
    exact ⟨ret_eq (by unfold long13;rw [HF.out];simp [HM.out]),HBW.out⟩
   ·have HM:=Lib.hid' hm
    go_wp2_with fail
    go_ret
    exact ⟨ret_eq (by unfold long13;rw [HF.out];simp [HM.out]),HBW.out⟩
end SL
end Go.Proofs.YtimbeeiihbmofaaGreatDoor

namespace Go.Proofs.YtimbeeiihbmofaaGreatDoor
open Go.RowKit
namespace SL
open DK SH SQ
theorem sbrok_any {q p bu bm N:Nat} {S:Sf} (w:World) (h:ShIn q p bu bm N S w):Calls Tryz.prog 81 #[ptrV q] w fun e w'=>e=.returned (.bool S.br)∧w=w':=by
 obtain ⟨c0,c1,c2,c3,d0,lq,lp⟩:=h
 generalize S.br=br at *
 clear c0 c1 c2 d0
 go_enter Tryz.func81, Tryz.ntmps81
 go_wp2_with fail
 go_ret
 exact ⟨rfl,rfl⟩
theorem kbrok_any {q N:Nat} {S:Sf} {D:Dk} {vs:PoolL} {L:List Asn} {W:World} (w:World) (h:ShAt q N S D vs L NoF W w) :
  Calls Tryz.prog 81 #[ptrV q] w fun e w'=>e=.returned (.bool S.br)∧w=w':=by
 obtain ⟨F',h1,_⟩:=h.enter
 obtain ⟨p,bu,bm,G1,Z,H⟩:=sh_open h1
 exact sbrok_any w (sh_in H)
theorem kepoch_any {q N:Nat} {S:Sf} {D:Dk} {vs:PoolL} {L:List Asn} {W:World} (w:World) (h:ShAt q N S D vs L NoF W w) :
  Calls Tryz.prog 83 #[ptrV q] w fun e w'=>e=.returned (.int .i64 S.u.e)∧w=w':=by
 obtain ⟨F',h1,_⟩:=h.enter
 obtain ⟨p,bu,bm,G1,Z,H⟩:=sh_open h1
 have HE:=Zh (Go.Proofs.YtimbeeiihbmofaaGreatDoor.epoch_any w (Sep.unitAt H))
 have c1:=(sh_in H).c1
 have lq:=(sh_in H).lq
 clear h h1 H
 go_enter Tryz.func83, Tryz.ntmps83
 go_wp2_with fail
 refine HE.out.mono ?_
 rintro en wz ⟨rfl,rfl⟩
 go_wp2_with fail
 go_ret
 exact ⟨rfl,rfl⟩
/-- is a unit able? -/
def Cl.able (M:Cl) (u:Int):Bool:=if M.has u≠0 then false else match M.us[u.toNat]? with
 | some ⟨D,some S⟩=>!S.br&&!D.down
 | _=>false
set_option maxHeartbeats 8000000 in
theorem Able_any {c:Nat} {M:Cl} {J:CJ} {L:List Asn} {W:World} (u:Int) (w:World) (h:ClAt c M J L W w) (hm:M.us.length≤8) :
  Calls Tryz.prog 36 #[ptrV c,.int .i64 u] w fun e w'=>e=.returned (.bool (M.able u))∧w=w':=by
 have HH:=Zh (has_any u w h hm)
 have hF:M.able u=if M.has u≠0 then false else match M.us[u.toNat]? with
  | some ⟨D,some S⟩=>!S.br&&!D.down
  | _=>false:=rfl
 rcases has_cases M u with hz | hz
 rotate_left
 ·have HR:=Zh (hF.trans (if_pos (by rw [hz];decide)))
  rw [hz] at HH
  clear hz h hm hF
  go_enter Tryz.func36, Tryz.ntmps36
  go_wp2_with fail
  refine HH.out.mono ?_
  rintro en wz ⟨rfl,rfl⟩
  rw [errV_pos (by decide)]
  go_wp2_with fail
  go_ret
  rw [HR.out]
  exact ⟨rfl,rfl⟩
 have hu:=has_zero hz
 obtain ⟨k,rfl⟩:∃ k:Nat,u=k:=⟨u.toNat,by omega⟩
 obtain ⟨⟨b,dv,sv,Us,J',Z0,vs⟩,rfl,hP,H⟩:=h
 obtain ⟨y,hy,hus,⟨g,n,cap,hsv,hun,hgl,hgc⟩,⟨gd,nd,cd,hdv,hdn,hdl,hdc⟩⟩:=cl_at hP H (u:=k) (by omega)
 simp only at hsv hdv hy
 subst hsv hdv
 have c0:=H.cell 0 rfl 0 rfl;have c1:=H.cell 0 rfl 1 rfl;have cl:=H.lt 0 rfl
 have c02:w.cell? ⟨c,0,none⟩=some (.slice (some ⟨gd,0,none⟩) nd cd):=c0
 have c12:w.cell? ⟨c,1,none⟩=some (.slice (some ⟨g,0,none⟩) n cap):=c1
 rw [hz] at HH
 obtain ⟨N,Q,⟨D,s⟩,G⟩:=y
 simp only at hus hgc hdc
 cases s with
 | none =>
  obtain ⟨K,hI,_⟩:=(cl_pull hy H).unpack
  obtain rfl:=unI_none hI
  have HR:=Zh (hF.trans ((if_neg (by rw [hz];decide)).trans (by rw [Int.toNat_natCast,hus]:_=false)))
  have hgc2:w.cell? ⟨g,k,none⟩=some (.pointer none):=hgc
  clear hz hF hP H hy hus hgc hdc c0 c1 hI hm
  go_enter Tryz.func36, Tryz.ntmps36
  go_wp2_with fail
  refine HH.out.mono ?_
  rintro en wz ⟨rfl,rfl⟩
  rw [errV_0]
  go_wp2_with fail
  go_ret
  rw [HR.out]
  exact ⟨rfl,rfl⟩
 | some S =>
  obtain ⟨q,rfl⟩:∃ q,Q=some q:=by
   cases Q with
   | some q=>exact ⟨q,rfl⟩
   | none=>have h2:=cl_off hy rfl H;cases h2
  obtain ⟨S',hS,hsh,_⟩:=cl_on hP hy rfl H
  cases hS
  have HBk:=Zh (kbrok_any w hsh)
  have HDn:=Zh (kdown_any w hsh)
  have HR:=Zh (hF.trans ((if_neg (by rw [hz];decide)).trans (by rw [Int.toNat_natCast,hus]:_=(!S.br&&!D.down))))
  have hgc2:w.cell? ⟨g,k,none⟩=some (ptrV q):=hgc
  simp only at HBk HDn
  clear hz hF hP H hy hus hgc c0 c1 hm hsh
  generalize S.br=br at *
  generalize D.down=dn at *
  go_enter Tryz.func36, Tryz.ntmps36
  go_wp2_with fail
  refine HH.out.mono ?_
  rintro en wz ⟨rfl,rfl⟩
  rw [errV_0]
  go_wp2_with fail
  refine HBk.out.mono ?_
  rintro en wz ⟨rfl,rfl⟩
  cases br with
  | true =>
   go_wp2_with fail
   go_ret
   rw [HR.out]
   exact ⟨rfl,rfl⟩
  | false =>
   go_wp2_with fail
   refine HDn.out.mono ?_
   rintro en wz ⟨rfl,rfl⟩
   cases dn with
   | true =>
    go_wp2_with fail
    go_ret
    rw [HR.out]
    exact ⟨rfl,rfl⟩
   | false =>
    go_wp2_with fail
    go_ret
    rw [HR.out]
    exact ⟨rfl,rfl⟩
/-- a unit's epoch; none: 0 -/
def Cl.epochU (M:Cl) (u:Int):Int:=match M.us[u.toNat]? with
 | some ⟨_,some S⟩=>S.u.e
 | _=>0
def Cl.maxE (M:Cl) (l:List Int) (e:Int):Int:=l.foldl (fun e u=>max e (M.epochU u)) e
def Cl.later (M:Cl) (l:List Int):Int:=M.maxE l M.p.e+1
theorem maxE_take {M:Cl} {l:List Int} {k:Nat} (hk:k<l.length) (e:Int):M.maxE (l.take (k+1)) e=max (M.maxE (l.take k) e) (M.epochU l[k]):=by
 unfold Cl.maxE
 rw [List.take_succ_eq_append_getElem hk,List.foldl_append]
 rfl
theorem kepoch_ok {q N:Nat} {S:Sf} {D:Dk} {vs:PoolL} {L:List Asn} {W w:World} (h:ShAt q N S D vs L NoF W w):0≤S.u.e∧S.u.e≤1099511627776:=by
 obtain ⟨F',h1,_⟩:=h.enter
 obtain ⟨p,bu,bm,G1,Z,H⟩:=sh_open h1
 have:=(Sep.unitAt H).ok
 exact ⟨this.e0,this.e1⟩
theorem nilsh_epoch (w:World):Calls Tryz.prog 83 #[.pointer none] w fun e w'=>e=.returned (.int .i64 0)∧w=w':=by
 go_enter Tryz.func83, Tryz.ntmps83
 go_wp2_with fail
 go_ret
 exact ⟨rfl,rfl⟩
/-- a unit's epoch, asked -/
theorem ClAt.epochAt {c:Nat} {M:Cl} {J:CJ} {L:List Asn} {W w:World} (h:ClAt c M J L W w) {u:Nat} (hu:u<M.us.length):∃ g n cap v,w.cell? ⟨c,1,none⟩=some (.slice (some ⟨g,0,none⟩) n cap)∧u<n∧g<w.heap.size∧w.cell? ⟨g,u,none⟩=some v ∧
  Calls Tryz.prog 83 #[v] w (fun e w'=>e=.returned (.int .i64 (M.epochU u))∧w=w')∧0≤M.epochU u∧M.epochU u≤1099511627776:=by
 obtain ⟨P,rfl,hP,H⟩:=h
 obtain ⟨y,hy,hus,⟨g,n,cap,hsv,hun,hgl,hgc⟩,_⟩:=cl_at hP H hu
 have c1:=H.cell 0 rfl 1 rfl
 rw [hsv] at c1
 obtain ⟨N,Q,⟨D,s⟩,G⟩:=y
 simp only at hus hgc
 cases s with
 | none =>
  obtain ⟨K,hI,_⟩:=(cl_pull hy H).unpack
  obtain rfl:=unI_none hI
  have he:M.epochU u=0:=by unfold Cl.epochU;rw [Int.toNat_natCast,hus]
  exact ⟨g,n,cap,_,c1,hun,hgl,hgc,by rw [he];exact nilsh_epoch w,by omega,by omega⟩
 | some S =>
  obtain ⟨q,rfl⟩:∃ q,Q=some q:=by
   cases Q with
   | some q=>exact ⟨q,rfl⟩
   | none=>have h2:=cl_off hy rfl H;cases h2
  obtain ⟨S',hS,hsh,_⟩:=cl_on hP hy rfl H
  cases hS
  have he:M.epochU u=S.u.e:=by unfold Cl.epochU;rw [Int.toNat_natCast,hus]
  have hb:=kepoch_ok hsh
  exact ⟨g,n,cap,_,c1,hun,hgl,hgc,by rw [he];exact kepoch_any w hsh,by rw [he];exact hb.1,by rw [he];exact hb.2⟩
set_option maxHeartbeats 8000000 in
theorem later_any {c:Nat} {M:Cl} {J:CJ} {L:List Asn} {W:World} (l:List Int) (ua:Option Addr) (uc:Nat) (w:World) (h:ClAt c M J L W w) (hok:M.ok) (hZ:Zs w (.slice ua l.length uc) l) (hu:∀ u∈l,0≤u∧u<(M.us.length:Int)) :
  Calls Tryz.prog 37 #[ptrV c,.slice ua l.length uc] w fun e w'=>e=.returned (.int .i64 (M.later l))∧Below w.heap.size w w':=by
 have H:=Lib.hid' h
 have HZ:=Lib.hid' hZ
 have HU:=Lib.hid' hu
 have hpe:=(pj_ok hok.proj).e
 have hc2:=h.c2.1;have hcl:=h.c2.2
 have hll:=hZ.len
 have HL:=Zh (show M.later l=M.maxE l M.p.e+1 from rfl)
 clear h hZ hu hok
 go_enter Tryz.func37, Tryz.ntmps37
 go_wp2_with fail
 go_loopw [5,15] (fun v5 v15 wr=>∃ (k:Nat) (m:Int),v5=.int .i64 m∧v15=.int .i64 k∧k≤l.length∧Hid (m=M.maxE (l.take k) M.p.e)∧0≤m∧m≤1099511627776∧Hid (Below w.heap.size w wr)) (fun _ v15 _=>l.length - (intOf v15).toNat)
 case atStart=>exact ⟨0,M.p.e,rfl,rfl,Nat.zero_le _,Lib.hid' rfl,hpe.1,hpe.2,Zh (Below.refl _ _)⟩
 case round =>
  obtain ⟨k,m,rfl,rfl,hk,HM,hm0,hm1,HB⟩:=hrel
  by_cases hlt:k<l.length
  ·obtain ⟨b,off,rfl,hb,hc⟩:=(show Zs wr _ _ from SlV.below HZ.out (Nat.le_refl _) HB.out).at hlt
   have hin:=HU.out _ (List.getElem_mem hlt)
   have HT:=Zh (maxE_take (M:=M) hlt M.p.e)
   generalize l[k]=u at *
   obtain ⟨j,rfl⟩:∃ j:Nat,u=j:=⟨u.toNat,by omega⟩
   obtain ⟨g,n,cap,v,c1,hgn,hgl,hgc,HC,he0,he1⟩:=(H.out.below HB.out).epochAt (u:=j) (by omega)
   have HCC:=Lib.hid' HC
   have HM2:=Zh (show max m (M.epochU (j:Int))=M.maxE (l.take (k+1)) M.p.e by rw [HT.out,HM.out])
   have hcl2:=(H.out.below HB.out).c2.2
   clear HC HT HM
   generalize M.epochU (j:Int)=ee at *
   go_wp2_with fail
   refine HCC.out.mono ?_
   rintro en wz ⟨rfl,rfl⟩
   go_wp2_with fail
   go_roundw
   case rel=>exact ⟨k+1,max m ee,rfl,by go_num,by omega,HM2,by omega,by omega,HB⟩
   case measure=>simp [intOf];omega
  ·have HR:=Zh (show M.later l=m+1 by rw [HL.out,HM.out,List.take_of_length_le (by omega)])
   go_wp2_with fail
   go_ret
   rw [HR.out]
   exact ⟨rfl,HB.out⟩
end SL
end Go.Proofs.YtimbeeiihbmofaaGreatDoor

namespace Go.Proofs.YtimbeeiihbmofaaGreatDoor
open Go.RowKit
namespace SL
open DK SH SQ
/-- a unit that is on, apart -/
theorem ClAt.unitOf {c:Nat} {M:Cl} {J:CJ} {L:List Asn} {W w:World} (h:ClAt c M J L W w) {u:Nat} {D:Dk} {S:Sf} (hon:M.us[u]?=some ⟨D,some S⟩):∃ g n cap q,w.cell? ⟨c,1,none⟩=some (.slice (some ⟨g,0,none⟩) n cap)∧u<n∧g<w.heap.size∧w.cell? ⟨g,u,none⟩=some (ptrV q) ∧
  ∀ wq,Below w.heap.size w wq→Calls Tryz.prog 39 #[ptrV q] wq (fun e w'=>∃ bu bm us A,e=.returned (ptrV bu)∧ClAt c M J (.unit bu bm S.u us::L) W w'∧UnitAt A w' bu bm S.u):=by
 obtain ⟨P,rfl,hP,H⟩:=h
 have hu:u<M.us.length:=(List.getElem?_eq_some_iff.1 hon).1
 obtain ⟨y,hy,hus,⟨g,n,cap,hsv,hun,hgl,hgc⟩,_⟩:=cl_at hP H hu
 have c1:=H.cell 0 rfl 1 rfl
 rw [hsv] at c1
 obtain ⟨N,Q,⟨D',s⟩,G⟩:=y
 rw [hon] at hus
 cases hus
 obtain ⟨q,rfl⟩:∃ q,Q=some q:=by
  cases Q with
  | some q=>exact ⟨q,rfl⟩
  | none=>have h2:=cl_off hy rfl H;cases h2
 obtain ⟨S',hS,hsh,hback⟩:=cl_on hP hy rfl H
 cases hS
 refine ⟨g,n,cap,q,c1,hun,hgl,hgc,fun wq hb=>?_⟩
 refine (kunit_any wq (hsh.below hb)).mono ?_
 rintro e w' ⟨bu,bm,us,rfl,hs,h2⟩
 have h3:=hback S D us w' [.unit bu bm S.u us] hs h2
 rw [show M.put u ⟨D,some S⟩=M by unfold Cl.put;rw [set_same hon]] at h3
 obtain ⟨G1,G2,Z,h4⟩:=h2
 exact ⟨bu,bm,us,_,rfl,h3,Sep.unitAt (show Sep W NoF [Asn.unit bu bm S.u us,Asn.pool Z us] w' from h4.pick [3,2] (by decide) rfl)⟩
theorem able_on {M:Cl} {u:Nat} (h:M.able u=true):∃ D S,M.us[u]?=some ⟨D,some S⟩:=by
 unfold Cl.able at h
 split at h
 ·cases h
 ·rw [Int.toNat_natCast] at h
  split at h
  ·rename_i D S hx;exact ⟨D,S,hx⟩
  ·cases h
/-- a unit's low mark; none: 0 -/
def Cl.lowU (M:Cl) (u:Int):Int:=match M.us[u.toNat]? with
 | some ⟨_,some S⟩=>S.u.l
 | _=>0
/-- a unit is sealed and cut -/
def Cl.cutS (e a:Int) (M:Cl) (u:Int):Nat×Cl:=if (M.do u.toNat ⟨1,e,0,[]⟩).1≠0 then ((M.do u.toNat ⟨1,e,0,[]⟩).1,(M.do u.toNat ⟨1,e,0,[]⟩).2.2) else
 (((M.do u.toNat ⟨1,e,0,[]⟩).2.2.do u.toNat ⟨5,e,a,[]⟩).1,((M.do u.toNat ⟨1,e,0,[]⟩).2.2.do u.toNat ⟨5,e,a,[]⟩).2.2)
def cutEnd (e a:Int) (r:Nat×Cl):Nat×Cl:=if r.1≠0 then r else ((r.2.q.set e a).1,{ r.2 with p:=⟨e,r.2.p.cs⟩,q:=(r.2.q.set e a).2 })
def Cl.cut (M:Cl) (a:Int):Nat×Cl:=if inB a 1048576=false then (1,M) else
 if M.units.any (fun u=>!M.able u)=true then (14,M) else
 if M.units.any (fun u=>decide (a<M.lowU u))=true then (9,M) else
 if 1099511627776<M.later M.units then (5,M) else cutEnd (M.later M.units) a (allC (Cl.cutS (M.later M.units) a) M.units M)
theorem cutS_stay {M s:Cl} {e a:Int} {u:Int} (h:Stay M s∧s.ok):Stay M (Cl.cutS e a s u).2∧(Cl.cutS e a s u).2.ok:=by
 unfold Cl.cutS
 split
 ·exact ⟨h.1.do _ _,h.2.do _ _⟩
 ·exact ⟨(h.1.do _ _).do _ _,(h.2.do _ _).do _ _⟩
set_option maxHeartbeats 4000000 in
theorem cut1_any {c N1 N2 N3:Nat} {M:Cl} {J:CJ} {L:List Asn} {W:World} (u e a:Int) (w:World) (hp:Pow W) (h:ClAt c M J (intB N3 e::intB N2 a::ptrB N1 c::L) W w) (hu:0≤u∧u<(M.us.length:Int)) (hok:M.ok) :
  Calls Tryz.prog 78 #[.int .i64 u,ptrV N1,ptrV N3,ptrV N2] w fun en w'=>en=.returned (errV (Cl.cutS e a M u).1)∧ClAt c (Cl.cutS e a M u).2 J (intB N3 e::intB N2 a::ptrB N1 c::L) W w':=by
 obtain ⟨k,rfl⟩:∃ k:Nat,u=k:=⟨u.toNat,by omega⟩
 have HD:=Zh (do_any k ⟨1,e,0,[]⟩ none 0 w hp h (by omega) hok (SlV.of_own (own_nil _ 0 0 0)))
 have HD2:=Zh (fun wq hq=>do_any (c:=c) (M:=(M.do k ⟨1,e,0,[]⟩).2.2) (J:=J) (L:=intB N3 e::intB N2 a::ptrB N1 c::L) (W:=W) k ⟨5,e,a,[]⟩ none 0 wq hp hq (by rw [(Cl.do_len _ _ _).1];omega) (hok.do _ _) (SlV.of_own (own_nil _ 0 0 0)))
 have hs:=h.side
 have c0:=hs.cell 2 rfl 0 rfl;have c1:=hs.cell 1 rfl 0 rfl;have c2:=hs.cell 0 rfl 0 rfl
 have l0:=hs.lt 2 rfl;have l1:=hs.lt 1 rfl;have l2:=hs.lt 0 rfl
 have HW:=Zh (show Cl.cutS e a M (k:Int)=if (M.do k ⟨1,e,0,[]⟩).1≠0 then ((M.do k ⟨1,e,0,[]⟩).1,(M.do k ⟨1,e,0,[]⟩).2.2) else
  (((M.do k ⟨1,e,0,[]⟩).2.2.do k ⟨5,e,a,[]⟩).1,((M.do k ⟨1,e,0,[]⟩).2.2.do k ⟨5,e,a,[]⟩).2.2) from rfl)
 rw [show ac9V (⟨1,e,0,[]⟩:Ac) none 0=.agg #[.int .i64 1,.int .i64 e,.int .i64 0,.slice none 0 0] from rfl] at HD
 rw [show ac9V (⟨5,e,a,[]⟩:Ac) none 0=.agg #[.int .i64 5,.int .i64 e,.int .i64 a,.slice none 0 0] from rfl] at HD2
 clear h hu hok hs hp
 generalize M.do k ⟨1,e,0,[]⟩=r at *
 obtain ⟨z,n1,M1⟩:=r
 simp only at HD HD2 HW
 go_enter Tryz.func78, Tryz.ntmps78
 go_wp2_with fail
 refine HD.out.mono ?_
 clear HD c0 c1 c2 l0 l1 l2
 rintro en w2 ⟨rfl,h2⟩
 have H2:=Lib.hid' h2
 have c0:=h2.side.cell 2 rfl 0 rfl;have c1:=h2.side.cell 1 rfl 0 rfl;have c2:=h2.side.cell 0 rfl 0 rfl
 have l0:=h2.side.lt 2 rfl;have l1:=h2.side.lt 1 rfl;have l2:=h2.side.lt 0 rfl
 clear h2
 by_cases hz:z=0
 rotate_left
 ·have HR:=Zh (HW.out.trans (if_pos hz))
  have HZ:=Lib.hid' hz
  rw [errV_pos hz]
  clear hz HW HD2
  go_wp2_with fail
  go_ret
  rw [HR.out]
  exact ⟨by rw [errV_pos HZ.out];rfl,H2.out⟩
 have HR:=Zh (HW.out.trans (if_neg (by simp [hz])))
 subst hz
 rw [errV_0]
 have HD3:=Zh (HD2.out _ H2.out)
 clear HW HD2
 go_wp2_with fail
 refine HD3.out.mono ?_
 clear HD3 c0 c1 c2 l0 l1 l2
 rintro en w3 ⟨rfl,h3⟩
 go_wp2_with fail
 go_ret
 rw [HR.out]
 exact ⟨rfl,h3⟩
theorem cf_cut (args:Array Value) (w:World):(callFunc 78 args).run Tryz.prog w=.ok (.enter 78 args) w:=by kernel_rfl
/-- the projection's epoch is set -/
theorem ClAt.setE {c:Nat} {M:Cl} {J:CJ} {L:List Asn} {W w:World} (h:ClAt c M J L W w) (e:Int):ClAt c { M with p:=⟨e,M.p.cs⟩} J L W (w.setCell ⟨c,2,none⟩ (.int .i64 e))∧w.frozen? ⟨c,2,none⟩=false:=by
 obtain ⟨P,rfl,hP,H⟩:=h
 exact ⟨⟨P,rfl,⟨hP.us,hP.cs⟩,H.set 0 rfl 2 (.int .i64 e)⟩,H.free 0 rfl 2⟩
theorem maxE_le {M:Cl} {l:List Int} {e:Int} (h:∀ u∈l,M.epochU u≤1099511627776) (he:e≤1099511627776):M.maxE l e≤1099511627776:=by
 unfold Cl.maxE
 induction l generalizing e with
 | nil=>exact he
 | cons u l ih=>exact ih (fun v hv=>h v (List.mem_cons_of_mem _ hv)) (by have:=h u List.mem_cons_self;show max e (M.epochU u)≤_;omega)
theorem ClAt.permL {c:Nat} {M:Cl} {J:CJ} {L L':List Asn} {W w:World} (h:ClAt c M J L W w) (hp:L.Perm L'):ClAt c M J L' W w:=by
 obtain ⟨P,hJ,hP,H⟩:=h
 refine ⟨P,hJ,hP,H.perm ?_⟩
 unfold clL
 exact (((hp.append_left _).cons _).append_left _)
theorem any_take_no {f:Int→Bool} {l:List Int} {k:Nat} (hk:k<l.length) (h:∀ u∈l.take k,f u=false) (h2:f l[k]=false):∀ u∈l.take (k+1),f u=false:=by
 intro u hu
 rw [List.take_succ_eq_append_getElem hk] at hu
 rcases List.mem_append.1 hu with hu | hu
 ·exact h u hu
 ·obtain rfl:=List.mem_singleton.1 hu;exact h2
theorem any_none {f:Int→Bool} {l:List Int} (h:∀ u∈l.take l.length,f u=false):¬l.any f=true:=by
 rw [List.take_length] at h
 rw [List.any_eq_true]
 rintro ⟨u,hu,hf⟩
 rw [h u hu] at hf;cases hf
set_option maxHeartbeats 16000000 in
theorem Cut_any {c:Nat} {M:Cl} {J:CJ} {L:List Asn} {W:World} (a:Int) (w:World) (hp:Pow W) (h:ClAt c M J L W w) (hok:M.ok) :
  Calls Tryz.prog 31 #[ptrV c,.int .i64 a] w fun e w'=>e=.returned (errV (M.cut a).1)∧ClAt c (M.cut a).2 J L W w':=by
 have HP:=Lib.hid' hp
 have HOK:=Lib.hid' hok
 have HUF:=Zh (units_facts hok)
 have HF:=Zh (show M.cut a=if inB a 1048576=false then (1,M) else
  if M.units.any (fun u=>!M.able u)=true then (14,M) else
  if M.units.any (fun u=>decide (a<M.lowU u))=true then (9,M) else
  if 1099511627776<M.later M.units then (5,M) else cutEnd (M.later M.units) a (allC (Cl.cutS (M.later M.units) a) M.units M) from rfl)
 have h1:=(h.allocB w.heap.size [ptrV c] 31 rfl).allocB (w.heap.size+1) [.int .i64 a] 3 (by simp)
 obtain ⟨w1,hw1⟩:∃ w1,(w.alloc (.cells #[ptrV c] 31)).alloc (.cells #[.int .i64 a] 3)=w1:=⟨_,rfl⟩
 have h1':ClAt c M J (intB (w.heap.size+1) a::ptrB w.heap.size c::L) W w1:=by rw [←hw1];exact h1
 obtain ⟨N1,hN1⟩:∃ n,n=w.heap.size:=⟨_,rfl⟩
 obtain ⟨N2,hN2⟩:∃ n,n=w.heap.size+1:=⟨_,rfl⟩
 rw [←hN2,←hN1] at h1'
 have H1:=Lib.hid' h1'
 clear h h1 h1' hp hok
 go_enter Tryz.func31, Tryz.ntmps31
 go_upto_region 1 with fail
 try rw [hw1]
 rw [←hN2,←hN1]
 clear hw1 hN1 hN2
 have q1:=H1.out.side.cell 1 rfl 0 rfl;have q2:=H1.out.side.cell 0 rfl 0 rfl;have ql1:=H1.out.side.lt 1 rfl;have ql2:=H1.out.side.lt 0 rfl
 refine startD (S:=(fun w'=>w'.cell? ⟨N1,0,none⟩=some (ptrV c)∧w'.cell? ⟨N2,0,none⟩=some (.int .i64 a)∧N1<w'.heap.size∧N2<w'.heap.size)) (by kernel_rfl) ⟨q1,q2,ql1,ql2⟩ (fun hH0=>?_)
 simp only [List.length_cons,List.length_nil,Nat.reduceAdd,List.replicate_succ,List.replicate_zero]
 refine tD 0 13 (.pointer (some ⟨c,0,none⟩)) rfl rfl [(2,.pointer (some ⟨N1,0,none⟩))] hH0 ?_
 dsimp only [sZ,sS]
 refine tD 1 14 (.int .i64 a) rfl rfl [(3,.pointer (some ⟨N2,0,none⟩))] hH0 ?_
 dsimp only [sZ,sS]
 refine rD 2 rfl (fun K hK=>?_)
 go_simp
 refine (in2_any a 1048576 _).mono ?_
 rintro en wz ⟨rfl,rfl⟩
 refine hK.out _ _ ?_ (fun hH1=>?_)
 ·exact ⟨q1,q2,ql1,ql2⟩
 clear hK K
 try simp only [Act.put,gA,gZ,gS,sA,sZ,sS]
 refine rD 3 rfl (fun K hK=>?_)
 go_simp
 refine (ask_any c _ _).mono ?_
 rintro en wz ⟨rfl,rfl⟩
 refine hK.out _ _ ?_ (fun hH2=>?_)
 ·exact ⟨q1,q2,ql1,ql2⟩
 clear hK K
 try simp only [Act.put,gA,gZ,gS,sA,sZ,sS]
 refine tD 4 5 (errV (if inB a 1048576=true then 0 else 1)) rfl rfl [(16,errV (if inB a 1048576=true then 0 else 1))] hH2 ?_
 dsimp only [sZ,sS]
 refine wpAnyH_done (by kernel_rfl) ?_ _
 have H1d:=Zh (H1.out.below (show Below w1.heap.size w1 w1.drew from (Below.refl _ _).drew))
 clear q1 q2 ql1 ql2 H1
 generalize w1.drew=wa at *
 have q1:=H1d.out.side.cell 1 rfl 0 rfl;have q2:=H1d.out.side.cell 0 rfl 0 rfl;have ql1:=H1d.out.side.lt 1 rfl;have ql2:=H1d.out.side.lt 0 rfl
 by_cases hin:inB a 1048576=true
 rotate_left
 ·have hin0:inB a 1048576=false:=by simpa using hin
  have HR:=Zh (HF.out.trans (if_pos hin0))
  rw [if_neg hin,errV_pos (by decide)]
  clear hin hin0
  go_wp2_with fail
  go_ret
  rw [HR.out]
  exact ⟨rfl,ClAt.less (K:=[_,_]) H1d.out⟩
 have HF1:=Zh (HF.out.trans (if_neg (by rw [hin];decide)))
 rw [if_pos hin,errV_0]
 clear hin HF
 have c2:=H1d.out.c2.1;have cl:=H1d.out.c2.2;have c3:=H1d.out.chs.2.2
 go_wp2_with fail
 refine (unitsR_any wa H1d.out HOK.out).mono ?_
 rintro en wb ⟨ua,uc,rfl,hb⟩
 have HB:=Lib.hid' hb
 have hul:=HUF.out.1
 clear hb c2 cl c3 q1 q2 ql1 ql2 H1d
 have q1:=HB.out.side.cell 2 rfl 0 rfl;have q2:=HB.out.side.cell 1 rfl 0 rfl;have ql1:=HB.out.side.lt 2 rfl;have ql2:=HB.out.side.lt 1 rfl
 have HLA:=Zh (maxE_le (M:=M) (l:=M.units) (e:=M.p.e))
 generalize hml:M.units=l at *
 go_wp2_with fail
 go_loopw [27] (fun v27 wr=>∃ k:Nat,v27=.int .i64 k∧k≤l.length∧Hid (∀ u∈l.take k,(fun u=>!M.able u) u=false)∧wr=wb) (fun v27 _=>l.length - (intOf v27).toNat)
 case atStart=>exact ⟨0,rfl,Nat.zero_le _,Zh (by simp),rfl⟩
 case round =>
  obtain ⟨k,rfl,hk,HNO,rfl⟩:=hrel
  by_cases hlt:k<l.length
  ·obtain ⟨b,off,rfl,hgb,hgc⟩:=(show Zs wr (.slice ua l.length uc) l from SlV.of_own (HB.out.side.row 0 rfl)).at hlt
   have HM:=Zh (List.getElem_mem hlt)
   have HT:=Zh (fun h2=>any_take_no (f:=fun u=>!M.able u) hlt HNO.out h2)
   generalize l[k]=u at *
   have HAB:=Zh (Able_any u wr HB.out HOK.out.many)
   cases hab:M.able u with
   | true =>
    rw [hab] at HAB
    have HT2:=Zh (HT.out (by simp [hab]))
    clear HT hab HNO
    go_wp2_with fail
    refine HAB.out.mono ?_
    rintro en wz ⟨rfl,rfl⟩
    go_wp2_with fail
    go_roundw
    case rel=>exact ⟨k+1,by go_num,by omega,HT2,trivial⟩
    case measure=>simp [intOf];omega
   | false =>
    rw [hab] at HAB
    have HR:=Zh (HF1.out.trans (if_pos (List.any_eq_true.2 ⟨u,HM.out,by simp [hab]⟩)))
    clear HT hab HNO
    go_wp2_with fail
    refine HAB.out.mono ?_
    rintro en wz ⟨rfl,rfl⟩
    go_wp2_with fail
    go_ret
    rw [HR.out]
    exact ⟨rfl,ClAt.less (K:=[_,_,_]) HB.out⟩
  obtain rfl:k=l.length:=by omega
  have HABL:=Zh (fun u (hu:u∈l)=>show M.able u=true from by
   have:=HNO.out u (by rw [List.take_length];exact hu)
   simpa using this)
  have HF2:=Zh (HF1.out.trans (if_neg (any_none HNO.out)))
  clear HF1 HNO hk hlt
  go_wp2_with fail
  go_loopw [39] (fun v39 wr=>∃ k:Nat,v39=.int .i64 k∧k≤l.length∧Hid (∀ u∈l.take k,(fun u=>decide (a<M.lowU u)) u=false)∧Hid (ClAt c M J (.row 3 1 (.slice ua l.length uc) l.length (zVs l)::intB N2 a::ptrB N1 c::L) W wr)) (fun v39 _=>l.length - (intOf v39).toNat)
  case atStart=>exact ⟨0,rfl,Nat.zero_le _,Zh (by simp),HB⟩
  case round =>
   clear HB q1 q2 ql1 ql2
   obtain ⟨k,rfl,hk,HNO,HC⟩:=hrel
   have q1:=HC.out.side.cell 2 rfl 0 rfl;have q2:=HC.out.side.cell 1 rfl 0 rfl;have ql1:=HC.out.side.lt 2 rfl;have ql2:=HC.out.side.lt 1 rfl
   by_cases hlt:k<l.length
   ·obtain ⟨b,off,rfl,hgb,hgc⟩:=(show Zs _ (.slice ua l.length uc) l from SlV.of_own (HC.out.side.row 0 rfl)).at hlt
    have HM:=Zh (List.getElem_mem hlt)
    have HT:=Zh (fun h2=>any_take_no (f:=fun u=>decide (a<M.lowU u)) hlt HNO.out h2)
    generalize l[k]=u at *
    have hu:=HUF.out.2 u HM.out
    obtain ⟨j,rfl⟩:∃ j:Nat,u=j:=⟨u.toNat,by omega⟩
    obtain ⟨D,S,hus⟩:=able_on (HABL.out _ HM.out)
    have HLO:=Zh (show M.lowU (j:Int)=S.u.l by unfold Cl.lowU;rw [Int.toNat_natCast,hus])
    obtain ⟨g,n,cap,q,c1,hgn,hgl,hgc3,HUN⟩:=HC.out.unitOf hus
    have HUNh:=Lib.hid' HUN
    have cl:=HC.out.c2.2
    clear hus HUN HNO hu
    go_upto_region 14 with fail
    have HCd:=Zh (HC.out.below (Below.refl _ _).drew)
    refine startD (S:=(fun w'=>w'.cell? ⟨N1,0,none⟩=some (ptrV c)∧w'.cell? ⟨N2,0,none⟩=some (.int .i64 a)∧N1<w'.heap.size∧N2<w'.heap.size)) (by kernel_rfl) ⟨q1,q2,ql1,ql2⟩ (fun hH0=>?_)
    simp only [List.length_cons,List.length_nil,Nat.reduceAdd,List.replicate_succ,List.replicate_zero]
    refine tD 0 43 (.int .i64 a) rfl rfl [(3,.pointer (some ⟨N2,0,none⟩))] hH0 ?_
    dsimp only [sZ,sS]
    refine tD 1 44 (.pointer (some ⟨c,0,none⟩)) rfl rfl [(2,.pointer (some ⟨N1,0,none⟩))] hH0 ?_
    dsimp only [sZ,sS]
    refine tD 2 45 (.pointer (some ⟨c,0,none⟩)) rfl rfl [(44,.pointer (some ⟨c,0,none⟩))] hH0 ?_
    dsimp only [sZ,sS]
    refine tD 3 46 (.pointer (some ⟨c,1,none⟩)) rfl rfl [(45,.pointer (some ⟨c,0,none⟩))] hH0 ?_
    dsimp only [sZ,sS]
    refine tD 5 48 (.int .i64 (j:Int)) rfl rfl [(10,.int .i64 (j:Int))] hH0 ?_
    dsimp only [sZ,sS]
    refine rD 4 rfl (fun K hK=>?_)
    go_simp
    refine hK.out _ _ ?_ (fun hH1=>?_)
    ·exact hH0
    clear hK K
    try simp only [Act.put,gA,gZ,gS,sA,sZ,sS]
    refine rD 6 rfl (fun K hK=>?_)
    go_simp
    refine hK.out _ _ ?_ (fun hH2=>?_)
    ·exact hH1
    clear hK K
    try simp only [Act.put,gA,gZ,gS,sA,sZ,sS]
    refine rD 7 rfl (fun K hK=>?_)
    go_simp
    refine hK.out _ _ ?_ (fun hH3=>?_)
    ·exact hH2
    clear hK K
    try simp only [Act.put,gA,gZ,gS,sA,sZ,sS]
    refine rD 8 rfl (fun K hK=>?_)
    go_simp
    refine (HUNh.out _ (Below.refl _ _).drew).mono ?_
    rintro e w5 ⟨bu,bm,us,A,rfl,h5,hU5⟩
    have H5:=Lib.hid' h5
    have HU5:=Lib.hid' hU5
    have HF5:w5.cell? ⟨N1,0,none⟩=some (ptrV c)∧w5.cell? ⟨N2,0,none⟩=some (.int .i64 a)∧N1<w5.heap.size∧N2<w5.heap.size:=⟨h5.side.cell 3 rfl 0 rfl,h5.side.cell 2 rfl 0 rfl,h5.side.lt 3 rfl,h5.side.lt 2 rfl⟩
    clear h5 hU5
    refine hK.out _ _ ?_ (fun hH4=>?_)
    ·exact HF5
    clear hK K
    try simp only [Act.put,gA,gZ,gS,sA,sZ,sS]
    refine rD 9 rfl (fun K hK=>?_)
    go_simp
    refine (low_any w5 HU5.out).mono ?_
    rintro e wz ⟨rfl,rfl⟩
    refine hK.out _ _ ?_ (fun hH5=>?_)
    ·exact HF5
    clear hK K
    try simp only [Act.put,gA,gZ,gS,sA,sZ,sS]
    refine tD 10 53 (.bool (decide (a<S.u.l))) rfl rfl [(43,.int .i64 a),(52,.int .i64 S.u.l)] hH5 ?_
    dsimp only [sZ,sS]
    refine wpAnyH_done (by kernel_rfl) ?_ _
    clear HF5 q1 q2 ql1 ql2 c1 cl hgl hgc3 HCd HUNh HU5
    by_cases hal:a<S.u.l
    ·have HR:=Zh (HF2.out.trans (if_pos (List.any_eq_true.2 ⟨_,HM.out,by rw [HLO.out];simpa using hal⟩)))
     rw [decide_eq_true hal]
     clear hal HT
     go_wp2_with fail
     go_ret
     rw [HR.out]
     exact ⟨rfl,ClAt.less (K:=[_,_,_,_]) H5.out⟩
    ·have HT2:=Zh (HT.out (by rw [HLO.out];simpa using hal))
     rw [decide_eq_false hal]
     clear hal HT
     go_wp2_with fail
     go_roundw
     case rel=>exact ⟨k+1,by go_num,by omega,HT2,Zh (ClAt.less (K:=[_]) H5.out)⟩
     case measure=>simp [intOf];omega
   obtain rfl:k=l.length:=by omega
   have HF3:=Zh (HF2.out.trans (if_neg (any_none HNO.out)))
   obtain ⟨e,he⟩:∃ e,M.later l=e:=⟨_,rfl⟩
   have HLT:=Zh (later_any l ua uc _ HC.out HOK.out (SlV.of_own (HC.out.side.row 0 rfl)) HUF.out.2)
   rw [he] at HLT HF3
   clear HF2 HNO hk hlt
   go_wp2_with fail
   refine HLT.out.mono ?_
   clear HLT
   rintro en w6 ⟨rfl,hb6⟩
   have H6:=Zh (((HC.out.below hb6).allocB w6.heap.size [.int .i64 e] 3 rfl).permL (L':=intB w6.heap.size e::intB N2 a::ptrB N1 c::.row 3 1 (.slice ua l.length uc) l.length (zVs l)::L) (List.Perm.cons _ (List.perm_middle (l₁:=[_,_])).symm))
   clear hb6 HC q1 q2 ql1 ql2
   have e0:w6.alloc (.cells [Value.int .i64 e].toArray 3)=w6.alloc (.cells #[.int .i64 e] 3):=rfl
   rw [e0] at H6
   clear e0
   have q1:=H6.out.side.cell 2 rfl 0 rfl;have q2:=H6.out.side.cell 1 rfl 0 rfl;have q3:=H6.out.side.cell 0 rfl 0 rfl;have ql1:=H6.out.side.lt 2 rfl;have ql2:=H6.out.side.lt 1 rfl;have ql3:=H6.out.side.lt 0 rfl
   go_upto_region 18 with fail
   generalize w6.alloc (.cells #[.int .i64 e] 3)=w7 at *
   generalize w6.heap.size=N3 at *
   by_cases hbig:1099511627776<e
   ·have HR:=Zh (HF3.out.trans (if_pos hbig))
    clear HF3
    go_wp2_with fail
    go_ret
    rw [HR.out]
    exact ⟨rfl,ClAt.less (K:=[_,_,_,_]) H6.out⟩
   have HF4:=Zh (HF3.out.trans (if_neg hbig))
   clear HF3
   have HI:=Zh (show ClAt c M J (intB N3 e::intB N2 a::ptrB N1 c::.row 3 1 (.slice ua l.length uc) l.length (zVs l)::L) W w7∧M.ok∧Stay M M from ⟨H6.out,HOK.out,Stay.refl M⟩)
   have HDO:=Zh (show DoesU 78 #[ptrV N1,ptrV N3,ptrV N2] (Cl.cutS e a) (fun (s:Cl) (w:World)=>ClAt c s J (intB N3 e::intB N2 a::ptrB N1 c::.row 3 1 (.slice ua l.length uc) l.length (zVs l)::L) W w∧s.ok∧Stay M s) l from fun s v w hv hI=>by
    refine (cut1_any (N1:=N1) (N2:=N2) (N3:=N3) v e a w HP.out hI.1 (by rw [hI.2.2.us];exact HUF.out.2 v hv) hI.2.1).mono ?_
    rintro en w' ⟨rfl,h'⟩
    have:=cutS_stay (e:=e) (a:=a) (u:=v) ⟨hI.2.2,hI.2.1⟩
    exact ⟨rfl,h',this.2,this.1⟩)
   have HALL:=Zh (all_any 78 #[ptrV N1,ptrV N3,ptrV N2] (Cl.cutS e a) (fun (s:Cl) (w:World)=>ClAt c s J (intB N3 e::intB N2 a::ptrB N1 c::.row 3 1 (.slice ua l.length uc) l.length (zVs l)::L) W w∧s.ok∧Stay M s) l ua uc M w7 (by omega) (fun s w hI=>SlV.of_own (hI.1.side.row 3 rfl)) cf_cut HDO.out HI.out)
   clear HI HDO H6
   generalize allC (Cl.cutS e a) l M=r at *
   obtain ⟨z,M2⟩:=r
   go_wp2_with fail
   refine HALL.out.mono ?_
   clear HALL q1 q2 q3 ql1 ql2 ql3
   rintro en w8 ⟨rfl,h8,hok8,hst8⟩
   have H8:=Lib.hid' h8
   simp only at H8 ⊢
   clear h8 hok8 hst8
   have q1:=H8.out.side.cell 2 rfl 0 rfl;have q2:=H8.out.side.cell 1 rfl 0 rfl;have q3:=H8.out.side.cell 0 rfl 0 rfl;have ql1:=H8.out.side.lt 2 rfl;have ql2:=H8.out.side.lt 1 rfl;have ql3:=H8.out.side.lt 0 rfl
   by_cases hz:z=0
   rotate_left
   ·have HR:=Zh (HF4.out.trans (if_pos hz))
    have HZ:=Lib.hid' hz
    rw [errV_pos hz]
    clear hz HF4
    go_wp2_with fail
    go_ret
    rw [HR.out]
    exact ⟨by rw [errV_pos HZ.out];rfl,ClAt.less (K:=[_,_,_,_]) H8.out⟩
   have HR:=Zh (HF4.out.trans (if_neg (by simp [hz])))
   subst hz
   rw [errV_0]
   have hcl:=H8.out.c2.2
   have hc2:=H8.out.c2.1
   have hse:=H8.out.setE e
   have hfz:=hse.2
   have H9:=Lib.hid' hse.1
   clear HF4 hse H8
   go_upto_region 24 with fail
   generalize World.setCell _ _ _=w9 at *
   clear q1 q2 q3 ql1 ql2 ql3 hcl hc2 hfz
   have q1:=H9.out.side.cell 2 rfl 0 rfl;have q2:=H9.out.side.cell 1 rfl 0 rfl;have q3:=H9.out.side.cell 0 rfl 0 rfl;have ql1:=H9.out.side.lt 2 rfl;have ql2:=H9.out.side.lt 1 rfl;have ql3:=H9.out.side.lt 0 rfl
   obtain ⟨bq,Kq,hb4,hsq,_,hback⟩:=H9.out.seqd
   have hcl:=H9.out.c2.2
   have HSQ:=Lib.hid' hsq
   have HBK:=Lib.hid' hback
   clear hsq hback H9
   refine startD (S:=(fun w'=>w'.cell? ⟨N1,0,none⟩=some (ptrV c)∧w'.cell? ⟨N2,0,none⟩=some (.int .i64 a)∧w'.cell? ⟨N3,0,none⟩=some (.int .i64 e)∧w'.cell? ⟨c,4,none⟩=some (ptrV bq)∧N1<w'.heap.size∧N2<w'.heap.size∧N3<w'.heap.size∧c<w'.heap.size)) (by kernel_rfl) ⟨q1,q2,q3,hb4,ql1,ql2,ql3,hcl⟩ (fun hH0=>?_)
   simp only [List.length_cons,List.length_nil,Nat.reduceAdd,List.replicate_succ,List.replicate_zero]
   refine tD 0 73 (.pointer (some ⟨c,0,none⟩)) rfl rfl [(2,.pointer (some ⟨N1,0,none⟩))] hH0 ?_
   dsimp only [sZ,sS]
   refine tD 1 74 (.pointer (some ⟨c,0,none⟩)) rfl rfl [(73,.pointer (some ⟨c,0,none⟩))] hH0 ?_
   dsimp only [sZ,sS]
   refine tD 2 75 (.pointer (some ⟨c,4,none⟩)) rfl rfl [(74,.pointer (some ⟨c,0,none⟩))] hH0 ?_
   dsimp only [sZ,sS]
   refine tD 3 76 (ptrV bq) rfl rfl [(75,.pointer (some ⟨c,4,none⟩))] hH0 ?_
   dsimp only [sZ,sS]
   refine tD 4 77 (.int .i64 e) rfl rfl [(11,.pointer (some ⟨N3,0,none⟩))] hH0 ?_
   dsimp only [sZ,sS]
   refine tD 5 78 (.int .i64 a) rfl rfl [(3,.pointer (some ⟨N2,0,none⟩))] hH0 ?_
   dsimp only [sZ,sS]
   refine rD 6 rfl (fun K hK=>?_)
   go_simp
   refine (SQ.set_any e a HSQ.out.drew).mono ?_
   rintro en wz ⟨rfl,hsz⟩
   obtain ⟨hz1,hz4⟩:=HBK.out _ _ hsz
   have HZ1:=Lib.hid' hz1
   have HFZ:wz.cell? ⟨N1,0,none⟩=some (ptrV c)∧wz.cell? ⟨N2,0,none⟩=some (.int .i64 a)∧wz.cell? ⟨N3,0,none⟩=some (.int .i64 e)∧wz.cell? ⟨c,4,none⟩=some (ptrV bq)∧N1<wz.heap.size∧N2<wz.heap.size∧N3<wz.heap.size∧c<wz.heap.size:=⟨hz1.side.cell 2 rfl 0 rfl,hz1.side.cell 1 rfl 0 rfl,hz1.side.cell 0 rfl 0 rfl,hz4,hz1.side.lt 2 rfl,hz1.side.lt 1 rfl,hz1.side.lt 0 rfl,hz1.c2.2⟩
   clear hsz hz1 hz4
   refine hK.out _ _ ?_ (fun hH1=>?_)
   ·exact HFZ
   clear hK K
   try simp only [Act.put,gA,gZ,gS,sA,sZ,sS]
   refine tD 7 4 (errV (M2.q.set e a).1) rfl rfl [(79,errV (M2.q.set e a).1)] hH1 ?_
   dsimp only [sZ,sS]
   refine wpAnyH_done (by kernel_rfl) ?_ _
   clear HFZ q1 q2 q3 ql1 ql2 ql3 hb4 hcl
   go_wp2_with fail
   go_ret
   rw [HR.out]
   exact ⟨rfl,ClAt.less (K:=[_,_,_,_]) HZ1.out⟩
end SL
end Go.Proofs.YtimbeeiihbmofaaGreatDoor
