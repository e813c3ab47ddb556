/- Proved here: a part of the proof (29 of 35). -/
import Derived.Test.YtaodldbgikiekaaGreatDoorW26
import Derived.Test.YtaodldbgikiekaaGreatDoorW2
import Derived.Lib.IfaceNeq
import Derived.Deep.DeepCutAuto
import Derived.Deep.CutBlock
import Derived.Test.YtaodldbgikiekaaGreatDoorW25
import Derived.Test.YtaodldbgikiekaaGreatDoorW16
import Derived.Test.YtaodldbgikiekaaGreatDoorW30
import Derived.Test.YtaodldbgikiekaaGreatDoorW12
import Derived.Test.YtaodldbgikiekaaGreatDoorW1
import Derived.Test.YtaodldbgikiekaaGreatDoorW8
import Derived.Test.YtaodldbgikiekaaGreatDoorW11
set_option linter.unusedSimpArgs false
set_option linter.unusedVariables false
set_option maxRecDepth 100000
namespace Go.Proofs.YtaodldbgikiekaaGreatDoor
open Go.RowKit
namespace SL
open DK SH SQ
@[go_sem] theorem neq_err (w:World) (a b:Int):(binOp .neq 40 (.iface 70 (.int .i64 a)) (.iface 70 (.int .i64 b))).run Tryz.prog w=.ok (.bool (!(a==b))) w:=Go.Lib.run_neq_iface_int w a b undErr (by kernel_rfl) Tryz.underlying70
@[go_sem] theorem neq_nilerr (w:World) (u:TypeId) (x:Value):(binOp .neq 40 .nilIface (.iface u x)).run Tryz.prog w=.ok (.bool true) w:=by
 have h:∀ d:Nat,(Op.equalIn (d+1) 40 .nilIface (.iface u x)).run Tryz.prog w=.ok false w:=fun d=>by simp [Op.equalIn,run_underlying undErr]
 simp only [binOp]
 simp [Op.equal,Op.maxDepth,h 9999]
def putA (e a:Int) (x:C):Ac:=if x.k=1 then ⟨2,e,a,x.d⟩ else ⟨3,e,a,[]⟩
/-- a cell is put into a unit -/
def Cl.putC (e a:Int) (x:C) (M:Cl) (u:Int):Nat×Cl :=
 if x.k=1∧(M.do u.toNat (putA e a x)).1=8∧((M.do u.toNat (putA e a x)).2.2.readU u.toNat e a).1=0∧((M.do u.toNat (putA e a x)).2.2.readU u.toNat e a).2=x then (0,(M.do u.toNat (putA e a x)).2.2)
 else ((M.do u.toNat (putA e a x)).1,(M.do u.toNat (putA e a x)).2.2)
theorem do_was_on {M:Cl} {u:Nat} {x:Ac} (h:(M.do u x).1≠14) (hu:u<M.us.length):∃ D S,(M.do u x).2.2.us[u]?=some ⟨D,some S⟩:=by
 obtain ⟨⟨D,s⟩,hx⟩:∃ x,M.us[u]?=some x:=⟨M.us[u],List.getElem?_eq_getElem hu⟩
 cases s with
 | none=>rw [do_off x hx] at h;exact absurd rfl h
 | some S =>
  rw [do_on x hx]
  exact ⟨_,_,by show (M.us.set u _)[u]?=_;rw [List.getElem?_set_self hu]⟩
/-- a unit's shelf, where the cluster has it -/
theorem ClAt.shelf {c:Nat} {M:Cl} {J:CJ} {L:List Asn} {W w:World} (h:ClAt c M J L W w) {u:Nat} (hu:u<M.us.length):∃ g n cap Q,w.cell? ⟨c,1,none⟩=some (.slice (some ⟨g,0,none⟩) n cap)∧u<n∧g<w.heap.size∧w.cell? ⟨g,u,none⟩=some (optV Q) ∧
  (Q=none→∃ D,M.us[u]?=some ⟨D,none⟩)∧(∀ q,Q=some q→∃ D S,M.us[u]?=some ⟨D,some S⟩∧∀ (e a:Int) (wq:World),Below w.heap.size w wq→Calls Tryz.prog 107 #[ptrV q,.int .i64 e,.int .i64 a] wq (ReadR (readS S D e a).1 (readS S D e a).2 wq)):=by
 obtain ⟨P,rfl,hP,H⟩:=h
 obtain ⟨y,hy,hus,⟨g,n,cap,hsv,hun,hgl,hgc⟩,_⟩:=cl_at hP H hu
 have c1:=H.cell 0 rfl 1 rfl
 rw [hsv] at c1
 refine ⟨g,n,cap,y.Q,c1,hun,hgl,hgc,fun hq=>?_,fun q hq=>?_⟩
 ·have hoff:=cl_off hy hq H
  exact ⟨y.x.d,by rw [hus];cases hyx:y.x with | mk D s=>rw [hyx] at hoff;simp only at hoff;rw [hoff]⟩
 ·obtain ⟨S,hS,hsh,_⟩:=cl_on hP hy hq H
  refine ⟨y.x.d,S,by rw [hus];cases hyx:y.x with | mk D s=>rw [hyx] at hS;simp only at hS;rw [hS],fun e a wq hb=>kread_any e a wq (hsh.below hb)⟩
theorem optV_on {Q:Option Nat} {M:Cl} {u:Nat} {D:Dk} {S:Sf} (h:M.us[u]?=some ⟨D,some S⟩) (h0:Q=none→∃ D,M.us[u]?=some ⟨D,none⟩):∃ q,Q=some q:=by
 cases Q with
 | some q=>exact ⟨q,rfl⟩
 | none=>obtain ⟨D',h2⟩:=h0 rfl;rw [h] at h2;cases h2
set_option maxHeartbeats 8000000 in
theorem sput_any {c:Nat} {M:Cl} {J:CJ} {L:List Asn} {W:World} (u:Int) (e a:Int) (x:C) (xa:Option Addr) (xc:Nat) (w:World) (hp:Pow W) (h:ClAt c M J L W w) (hu:0≤u∧u<(M.us.length:Int)) (hok:M.ok) (hB:∀ M' w',ClAt c M' J L W w'→Bytes w' (.slice xa x.d.length xc) x.d) :
  Calls Tryz.prog 127 #[ptrV c,.int .i64 u,.int .i64 e,.int .i64 a,.agg #[.int .i64 x.k,.slice xa x.d.length xc]] w fun en w'=>en=.returned (errV (Cl.putC e a x M u).1)∧ClAt c (Cl.putC e a x M u).2 J L W w':=by
 obtain ⟨u,rfl⟩:∃ k:Nat,u=k:=⟨u.toNat,by omega⟩
 have hun:u<M.us.length:=by omega
 have HB:=Lib.hid' hB
 have hF:Cl.putC e a x M (u:Int)=if x.k=1∧(M.do u (putA e a x)).1=8∧((M.do u (putA e a x)).2.2.readU u e a).1=0∧((M.do u (putA e a x)).2.2.readU u e a).2=x then (0,(M.do u (putA e a x)).2.2) else ((M.do u (putA e a x)).1,(M.do u (putA e a x)).2.2):=rfl
 by_cases hk:x.k=1
 rotate_left
 ·have HF:=Zh (hF.trans (if_neg (fun h=>hk h.1)))
  have hA:putA e a x=⟨3,e,a,[]⟩:=if_neg hk
  rw [hA] at HF
  have h2:=Zh ((h.allocB w.heap.size [.int .i64 x.k,.slice xa x.d.length xc] 28 rfl).allocB (w.heap.size+1) [.int .i64 3,.int .i64 e,.int .i64 a,.slice none 0 0] 154 (by simp))
  have HD:=Zh (do_any u ⟨3,e,a,[]⟩ none 0 _ hp h2.out hun hok (SlV.of_own (own_nil _ 0 0 0)))
  rw [show ac9V (⟨3,e,a,[]⟩:Ac) none 0=.agg #[.int .i64 3,.int .i64 e,.int .i64 a,.slice none 0 0] from rfl] at HD
  have x0:=h2.out.side.cell 1 rfl 0 rfl;have xl:=h2.out.side.lt 1 rfl
  have a0:=h2.out.side.cell 0 rfl 0 rfl;have a1:=h2.out.side.cell 0 rfl 1 rfl;have a2:=h2.out.side.cell 0 rfl 2 rfl;have a3:=h2.out.side.cell 0 rfl 3 rfl;have al:=h2.out.side.lt 0 rfl
  have hkb:(x.k==1)=false:=by simpa using hk
  have hkn:(x.k != 1)=true:=by simpa using hk
  generalize x.k=xk at *
  generalize M.do u ⟨3,e,a,[]⟩=r at *
  obtain ⟨z,n,M2⟩:=r
  have HK:=Lib.hid' hk
  clear hF hA h hB hok hk h2 hp
  go_enter Tryz.func127, Tryz.ntmps127
  go_upto_region 2 with fail
  generalize (w.alloc _).alloc _=w2 at *
  go_wp2_with fail
  refine HD.out.mono ?_
  rintro en w3 ⟨rfl,h3⟩
  have H3:=Lib.hid' h3
  have b0:=h3.side.cell 1 rfl 0 rfl;have bl:=h3.side.lt 1 rfl
  clear h3 HD a0 a1 a2 a3 al x0 xl
  rw [show errV z=errV z from rfl]
  by_cases hz:z=0
  ·subst hz
   rw [errV_0]
   go_wp2_with fail
   go_ret
   rw [HF.out]
   exact ⟨rfl,H3.out.sub ((List.Sublist.refl L).cons _ |>.cons _)⟩
  by_cases hz8:z=8
  ·subst hz8
   rw [errV_pos (by decide)]
   go_wp2_with fail
   go_ret
   rw [HF.out]
   exact ⟨rfl,H3.out.sub ((List.Sublist.refl L).cons _ |>.cons _)⟩
  ·have HZ:=Lib.hid' hz
   rw [errV_pos hz]
   go_wp2_with fail
   go_ret
   rw [HF.out]
   exact ⟨by rw [errV_pos HZ.out];rfl,H3.out.sub ((List.Sublist.refl L).cons _ |>.cons _)⟩
 ·have hA:putA e a x=⟨2,e,a,x.d⟩:=if_pos hk
  rw [hA] at hF
  have h2:=(h.allocB w.heap.size [.int .i64 x.k,.slice xa x.d.length xc] 28 rfl).allocB (w.heap.size+1) [.int .i64 3,.int .i64 e,.int .i64 a,.slice none 0 0] 154 (by simp)
  have HX:=Zh (show ∀ wq,ClAt c M J (.box (w.heap.size+1) [.int .i64 2,.int .i64 e,.int .i64 a,.slice xa x.d.length xc] 154::.box w.heap.size [.int .i64 x.k,.slice xa x.d.length xc] 28::L) W wq→Calls Tryz.prog 89 #[ptrV c,.int .i64 u,ac9V ⟨2,e,a,x.d⟩ xa xc] wq (ClR c (M.do u ⟨2,e,a,x.d⟩).2.2 J (.tuple #[.int .i64 (M.do u ⟨2,e,a,x.d⟩).2.1,errV (M.do u ⟨2,e,a,x.d⟩).1]) (.box (w.heap.size+1) [.int .i64 2,.int .i64 e,.int .i64 a,.slice xa x.d.length xc] 154::.box w.heap.size [.int .i64 x.k,.slice xa x.d.length xc] 28::L) W) from
   fun wq hq=>do_any u ⟨2,e,a,x.d⟩ xa xc wq hp hq hun hok (hB _ _ (hq.sub ((List.Sublist.refl L).cons _ |>.cons _))))
  have HON:=Zh (fun (h14:(M.do u ⟨2,e,a,x.d⟩).1≠14)=>do_was_on h14 hun)
  have HLEN:=Zh (Cl.do_len M u ⟨2,e,a,x.d⟩).1
  have HUN:=Lib.hid' hun
  rw [show ac9V (⟨2,e,a,x.d⟩:Ac) xa xc=.agg #[.int .i64 2,.int .i64 e,.int .i64 a,.slice xa x.d.length xc] from rfl] at HX
  obtain ⟨xk,xd⟩:=x
  obtain rfl:xk=1:=hk
  simp only at hF HX HON HLEN HB h2 ⊢
  have HF:=Lib.hid' hF
  have H2:=Lib.hid' h2
  have x0:=h2.side.cell 1 rfl 0 rfl;have x1:=h2.side.cell 1 rfl 1 rfl;have xl:=h2.side.lt 1 rfl
  have a0:=h2.side.cell 0 rfl 0 rfl;have a1:=h2.side.cell 0 rfl 1 rfl;have a2:=h2.side.cell 0 rfl 2 rfl;have a3:=h2.side.cell 0 rfl 3 rfl;have al:=h2.side.lt 0 rfl
  clear hF hA h hB hok h2 hp hun hu
  generalize M.do u ⟨2,e,a,xd⟩=r at *
  obtain ⟨z,n,M2⟩:=r
  simp only at HX HON HLEN HF
  go_enter Tryz.func127, Tryz.ntmps127
  go_upto_region 2 with fail
  generalize hw2:(w.alloc _).alloc _=w2 at *
  clear hw2
  go_upto_region 3 with fail
  have fz0:=H2.out.side.free 0 rfl 0;have fz3a:=H2.out.side.free 0 rfl 3
  refine startD (S:=(fun w'=>w'.cell? ⟨w.heap.size,1,none⟩=some (.slice xa xd.length xc))) (by kernel_rfl) x1 (fun hH0=>?_)
  simp only [List.length_cons,List.length_nil,Nat.reduceAdd,List.replicate_succ,List.replicate_zero]
  refine tD 0 22 (.pointer (some ⟨w.heap.size,1,none⟩)) rfl rfl [(9,.pointer (some ⟨w.heap.size,0,none⟩))] hH0 ?_
  dsimp only [sZ,sS]
  refine tD 1 23 (.slice xa xd.length xc) rfl rfl [(22,.pointer (some ⟨w.heap.size,1,none⟩))] hH0 ?_
  dsimp only [sZ,sS]
  refine tD 2 24 (.pointer (some ⟨(w.heap.size+1),0,none⟩)) rfl rfl [(11,.pointer (some ⟨(w.heap.size+1),0,none⟩))] hH0 ?_
  dsimp only [sZ,sS]
  refine rD 3 rfl (fun K hK=>?_)
  go_simp
  have H3:=Zh (H2.out.setB 0 (.int .i64 2))
  simp only [List.set_cons_zero,List.set_cons_succ] at H3
  have fz3:=H3.out.side.free 0 rfl 3
  refine hK.out _ _ ?_ (fun hH1=>?_)
  ·exact (H3.out.below (Below.refl _ _).drew).side.cell 1 rfl 1 rfl
  clear hK K
  try simp only [Act.put,gA,gZ,gS,sA,sZ,sS]
  refine tD 4 25 (.pointer (some ⟨(w.heap.size+1),3,none⟩)) rfl rfl [(11,.pointer (some ⟨(w.heap.size+1),0,none⟩))] hH1 ?_
  dsimp only [sZ,sS]
  refine rD 5 rfl (fun K hK=>?_)
  go_simp
  have H4:=Zh (H3.out.setB 3 (.slice xa xd.length xc))
  simp only [List.set_cons_zero,List.set_cons_succ] at H4
  refine hK.out _ _ ?_ (fun hH2=>?_)
  ·exact (H4.out.below (Below.refl _ _).drew).side.cell 1 rfl 1 rfl
  clear hK K
  refine wpAnyH_done (by kernel_rfl) ?_ _
  clear H3 fz0 fz3 fz3a x0 x1 xl a0 a1 a2 a3 al H2
  have H5:=Zh (H4.out.below (Below.refl _ _).drew)
  clear H4
  have H4:=H5
  clear H5
  have b0:=H4.out.side.cell 1 rfl 0 rfl;have b1:=H4.out.side.cell 1 rfl 1 rfl;have bl:=H4.out.side.lt 1 rfl
  have a0:=H4.out.side.cell 0 rfl 0 rfl;have a1:=H4.out.side.cell 0 rfl 1 rfl;have a2:=H4.out.side.cell 0 rfl 2 rfl;have a3:=H4.out.side.cell 0 rfl 3 rfl;have al:=H4.out.side.lt 0 rfl
  have HD:=Zh (HX.out _ H4.out)
  generalize World.drew _=w3 at *
  clear H4 HX
  go_wp2_with fail
  refine HD.out.mono ?_
  clear HD
  rintro en w4 ⟨rfl,h4⟩
  have HS4:=Zh (h4.sub (L':=L) ((List.Sublist.refl L).cons _ |>.cons _))
  have H4:=Lib.hid' h4
  clear a0 a1 a2 a3 al b0 b1 bl
  have b0:=h4.side.cell 1 rfl 0 rfl;have b1:=h4.side.cell 1 rfl 1 rfl;have bl:=h4.side.lt 1 rfl
  clear h4
  simp only
  by_cases hz:z=0
  ·have HF2:=Zh (HF.out.trans (if_neg (by rw [hz];simp)))
   subst hz
   rw [errV_0]
   go_wp2_with fail
   go_ret
   rw [HF2.out]
   exact ⟨rfl,HS4.out⟩
  by_cases hz8:z=8
  rotate_left
  ·have HF2:=Zh (HF.out.trans (if_neg (fun h=>hz8 h.2.1)))
   have HZ:=Lib.hid' hz
   rw [errV_pos hz]
   go_wp2_with fail
   go_ret
   rw [HF2.out]
   exact ⟨by rw [errV_pos HZ.out];rfl,HS4.out⟩
  subst hz8
  obtain ⟨D,S,hon⟩:=HON.out (by decide)
  obtain ⟨g,gn,gcap,Q,c1,hgn,hgl,hgc,hq0,hq1⟩:=H4.out.shelf (u:=u) (by rw [HLEN.out];exact HUN.out)
  obtain ⟨q,rfl⟩:=optV_on hon hq0
  obtain ⟨D',S',hon2,hrd⟩:=hq1 q rfl
  have HRU:=Zh (show M2.readU u e a=readS S' D' e a from readU_on e a hon2)
  have HRD:=Zh (hrd e a w4 (Below.refl _ _))
  rw [←HRU.out] at HRD
  have hcl:=H4.out.c2.2
  have hgc2:w4.cell? ⟨g,u,none⟩=some (ptrV q):=hgc
  clear hon hq0 hq1 hon2 hrd hgc HON HLEN HUN hz HRU
  rw [errV_pos (by decide)]
  generalize M2.readU u e a=rd at *
  obtain ⟨y,cd⟩:=rd
  go_wp2_with fail
  refine HRD.out.mono ?_
  clear HRD
  rintro en w5 ⟨ra,rc,rfl,hro,hb5⟩
  have HS5:=Zh (HS4.out.below hb5)
  have H5:=Zh (H4.out.below hb5)
  have HRO:=Zh (show Bytes w5 (.slice ra cd.d.length rc) cd.d from SlV.of_own hro)
  clear hro hb5 HS4 H4 hgc2 hcl c1 b0 b1 bl
  have b0:=H5.out.side.cell 1 rfl 0 rfl;have b1:=H5.out.side.cell 1 rfl 1 rfl;have bl:=H5.out.side.lt 1 rfl
  simp only
  have hb6:Below w5.heap.size w5 (w5.alloc (.cells #[.int .i64 cd.k,.slice ra cd.d.length rc] 28)):=by go_grown
  by_cases hy:y=0
  rotate_left
  ·have HF2:=Zh (HF.out.trans (if_neg (fun h=>hy h.2.2.1)))
   have HZ:=Lib.hid' hy
   rw [errV_pos hy]
   clear hy
   go_wp2_with fail
   go_ret
   rw [HF2.out]
   exact ⟨rfl,HS5.out.below hb6⟩
  subst hy
  rw [errV_0]
  have hbx:=HB.out _ _ (HS5.out.below hb6)
  have HSM:=Zh (same_any (.agg #[.int .i64 cd.k,.slice ra cd.d.length rc]) (.agg #[.int .i64 1,.slice xa xd.length xc]) cd ⟨1,xd⟩ _ ⟨ra,rc,rfl,SlV.below HRO.out (Nat.le_refl _) hb6⟩ ⟨xa,xc,rfl,hbx⟩)
  clear hbx
  go_wp2_with fail
  refine HSM.out.mono ?_
  rintro en w6 ⟨rfl,hb7⟩
  have HS6:=Zh ((HS5.out.below hb6).below hb7)
  clear hb7 hb6 HSM b0 b1 bl
  by_cases hs:cd=⟨1,xd⟩
  ·have HF2:=Zh (HF.out.trans (if_pos (by simp [hs])))
   rw [show decide (cd=(⟨1,xd⟩:C))=true from decide_eq_true hs]
   clear hs
   go_wp2_with fail
   go_ret
   rw [HF2.out]
   exact ⟨rfl,HS6.out⟩
  ·have HF2:=Zh (HF.out.trans (if_neg (fun h=>hs h.2.2.2)))
   rw [show decide (cd=(⟨1,xd⟩:C))=false from decide_eq_false hs]
   clear hs
   go_wp2_with fail
   go_ret
   rw [HF2.out]
   exact ⟨rfl,HS6.out⟩
def Cl.raise (M:Cl) (n:Int):Nat×Cl:=((M.q.raise M.p.e n).1,{ M with q:=(M.q.raise M.p.e n).2 })
set_option maxHeartbeats 4000000 in
theorem craise_any {c:Nat} {M:Cl} {J:CJ} {L:List Asn} {W:World} (n:Int) (w:World) (h:ClAt c M J L W w) :
  Calls Tryz.prog 94 #[ptrV c,.int .i64 n] w fun e w'=>e=.returned (errV (M.raise n).1)∧ClAt c (M.raise n).2 J L W w':=by
 obtain ⟨b,K,hb4,hsq,_,hback⟩:=h.seqd
 obtain ⟨hc2,hl2⟩:=h.c2
 have HSQ:=Lib.hid' hsq
 have HBK:=Lib.hid' hback
 have HF:=Zh (show M.raise n=((M.q.raise M.p.e n).1,{ M with q:=(M.q.raise M.p.e n).2 }) from rfl)
 clear hsq hback h
 go_enter Tryz.func94, Tryz.ntmps94
 go_upto_region 1 with fail
 refine startD (S:=(fun w'=>w'.cell? ⟨c,2,none⟩=some (.int .i64 M.p.e)∧w'.cell? ⟨c,4,none⟩=some (ptrV b)∧c<w'.heap.size)) (by kernel_rfl) ⟨hc2,hb4,hl2⟩ (fun hH0=>?_)
 simp only [List.length_cons,List.length_nil,Nat.reduceAdd,List.replicate_succ,List.replicate_zero]
 refine tD 0 5 (.pointer (some ⟨c,0,none⟩)) rfl rfl [(0,.pointer (some ⟨c,0,none⟩))] hH0 ?_
 dsimp only [sZ,sS]
 refine tD 1 6 (.pointer (some ⟨c,0,none⟩)) rfl rfl [(5,.pointer (some ⟨c,0,none⟩))] hH0 ?_
 dsimp only [sZ,sS]
 refine tD 2 7 (.pointer (some ⟨c,4,none⟩)) rfl rfl [(6,.pointer (some ⟨c,0,none⟩))] hH0 ?_
 dsimp only [sZ,sS]
 refine tD 3 8 (ptrV b) rfl rfl [(7,.pointer (some ⟨c,4,none⟩))] hH0 ?_
 dsimp only [sZ,sS]
 refine tD 4 9 (.pointer (some ⟨c,0,none⟩)) rfl rfl [(0,.pointer (some ⟨c,0,none⟩))] hH0 ?_
 dsimp only [sZ,sS]
 refine tD 5 10 (.pointer (some ⟨c,0,none⟩)) rfl rfl [(9,.pointer (some ⟨c,0,none⟩))] hH0 ?_
 dsimp only [sZ,sS]
 refine tD 6 11 (.pointer (some ⟨c,2,none⟩)) rfl rfl [(10,.pointer (some ⟨c,0,none⟩))] hH0 ?_
 dsimp only [sZ,sS]
 refine tD 7 12 (.pointer (some ⟨c,2,none⟩)) rfl rfl [(11,.pointer (some ⟨c,2,none⟩))] hH0 ?_
 dsimp only [sZ,sS]
 refine tD 8 13 (.int .i64 M.p.e) rfl rfl [(12,.pointer (some ⟨c,2,none⟩))] hH0 ?_
 dsimp only [sZ,sS]
 refine tD 9 14 (.int .i64 n) rfl rfl [(1,.int .i64 n)] hH0 ?_
 dsimp only [sZ,sS]
 refine rD 10 rfl (fun K hK=>?_)
 go_simp
 refine (SQ.raise_any M.p.e n HSQ.out.drew).mono ?_
 rintro e w2 ⟨rfl,hs2⟩
 obtain ⟨h2,hb42⟩:=HBK.out _ _ hs2
 have H2:=Lib.hid' h2
 have HF2:w2.cell? ⟨c,2,none⟩=some (.int .i64 M.p.e)∧w2.cell? ⟨c,4,none⟩=some (ptrV b)∧c<w2.heap.size:=⟨h2.c2.1,hb42,h2.c2.2⟩
 clear hs2 h2 hb42
 refine hK.out _ _ ?_ (fun hH1=>?_)
 ·exact HF2
 clear hK K
 try simp only [Act.put,gA,gZ,gS,sA,sZ,sS]
 refine tD 11 4 (errV (M.q.raise M.p.e n).1) rfl rfl [(15,errV (M.q.raise M.p.e n).1)] hH1 ?_
 dsimp only [sZ,sS]
 refine wpAnyH_done (by kernel_rfl) ?_ _
 clear HF2 hb4 hc2
 go_wp2_with fail
 go_ret
 rw [HF.out]
 exact ⟨rfl,H2.out⟩
set_option maxHeartbeats 4000000 in
theorem ctail_any {c:Nat} {M:Cl} {J:CJ} {L:List Asn} {W:World} (w:World) (h:ClAt c M J L W w) :
  Calls Tryz.prog 7 #[ptrV c] w fun e w'=>e=.returned (.tuple #[.int .i64 M.tail.2,errV M.tail.1])∧ClAt c M J L W w':=by
 obtain ⟨b,K,hb4,hsq,_,hback⟩:=h.seqd
 obtain ⟨hc2,hl2⟩:=h.c2
 have HSQ:=Lib.hid' hsq
 have H:=Lib.hid' h
 have HF:=Zh (show M.tail=M.q.tail M.p.e from rfl)
 clear hsq hback h
 go_enter Tryz.func7, Tryz.ntmps7
 go_upto_region 3 with fail
 refine startD (S:=(fun w'=>w'.cell? ⟨c,2,none⟩=some (.int .i64 M.p.e)∧w'.cell? ⟨c,4,none⟩=some (ptrV b)∧c<w'.heap.size)) (by kernel_rfl) ⟨hc2,hb4,hl2⟩ (fun hH0=>?_)
 simp only [List.length_cons,List.length_nil,Nat.reduceAdd,List.replicate_succ,List.replicate_zero]
 refine tD 0 7 (.pointer (some ⟨c,0,none⟩)) rfl rfl [(0,.pointer (some ⟨c,0,none⟩))] hH0 ?_
 dsimp only [sZ,sS]
 refine tD 1 8 (.pointer (some ⟨c,0,none⟩)) rfl rfl [(7,.pointer (some ⟨c,0,none⟩))] hH0 ?_
 dsimp only [sZ,sS]
 refine tD 2 9 (.pointer (some ⟨c,4,none⟩)) rfl rfl [(8,.pointer (some ⟨c,0,none⟩))] hH0 ?_
 dsimp only [sZ,sS]
 refine tD 3 10 (ptrV b) rfl rfl [(9,.pointer (some ⟨c,4,none⟩))] hH0 ?_
 dsimp only [sZ,sS]
 refine tD 4 11 (.pointer (some ⟨c,0,none⟩)) rfl rfl [(0,.pointer (some ⟨c,0,none⟩))] hH0 ?_
 dsimp only [sZ,sS]
 refine tD 5 12 (.pointer (some ⟨c,0,none⟩)) rfl rfl [(11,.pointer (some ⟨c,0,none⟩))] hH0 ?_
 dsimp only [sZ,sS]
 refine tD 6 13 (.pointer (some ⟨c,2,none⟩)) rfl rfl [(12,.pointer (some ⟨c,0,none⟩))] hH0 ?_
 dsimp only [sZ,sS]
 refine tD 7 14 (.pointer (some ⟨c,2,none⟩)) rfl rfl [(13,.pointer (some ⟨c,2,none⟩))] hH0 ?_
 dsimp only [sZ,sS]
 refine tD 8 15 (.int .i64 M.p.e) rfl rfl [(14,.pointer (some ⟨c,2,none⟩))] hH0 ?_
 dsimp only [sZ,sS]
 refine rD 9 rfl (fun K hK=>?_)
 go_simp
 refine (SQ.tail_any M.p.e HSQ.out.drew 0 rfl).mono ?_
 rintro e w2 ⟨rfl,hs2⟩
 subst hs2
 refine hK.out _ _ ?_ (fun hH1=>?_)
 ·exact ⟨hc2,hb4,hl2⟩
 clear hK K
 try simp only [Act.put,gA,gZ,gS,sA,sZ,sS]
 refine tD 10 17 (.int .i64 (M.q.tail M.p.e).2) rfl rfl [(16,.tuple #[.int .i64 (M.q.tail M.p.e).2,errV (M.q.tail M.p.e).1])] hH1 ?_
 dsimp only [sZ,sS]
 refine tD 11 18 (errV (M.q.tail M.p.e).1) rfl rfl [(16,.tuple #[.int .i64 (M.q.tail M.p.e).2,errV (M.q.tail M.p.e).1])] hH1 ?_
 dsimp only [sZ,sS]
 refine tD 12 2 (.int .i64 (M.q.tail M.p.e).2) rfl rfl [(17,.int .i64 (M.q.tail M.p.e).2)] hH1 ?_
 dsimp only [sZ,sS]
 refine tD 13 3 (errV (M.q.tail M.p.e).1) rfl rfl [(18,errV (M.q.tail M.p.e).1)] hH1 ?_
 dsimp only [sZ,sS]
 refine wpAnyH_done (by kernel_rfl) ?_ _
 clear hb4 hc2
 go_wp2_with fail
 go_ret2
 rw [HF.out]
 exact ⟨rfl,H.out.below (by go_grown)⟩
/-- a cell, or an act, is spread over units -/
def Cl.putS (a:Int) (x:C) (M:Cl) (u:Int):Nat×Cl:=Cl.putC M.p.e a x M u
abbrev intB (N:Nat) (a:Int):Asn:=.box N [.int .i64 a] 3
abbrev cellB1 (N:Nat) (x:C) (xa:Option Addr) (xc:Nat):Asn:=.box N [.int .i64 x.k,.slice xa x.d.length xc] 28
theorem putC_len (e a:Int) (x:C) (M:Cl) (u:Int):(Cl.putC e a x M u).2=(M.do u.toNat (putA e a x)).2.2:=by unfold Cl.putC;split<;>rfl
theorem putC_ok {M:Cl} (h:M.ok) (e a:Int) (x:C) (u:Int):(Cl.putC e a x M u).2.ok:=by rw [putC_len];exact h.do _ _
set_option maxHeartbeats 4000000 in
theorem spread1_any {c N1 N2 N3:Nat} {M:Cl} {J:CJ} {L:List Asn} {W:World} (u a:Int) (x:C) (xa:Option Addr) (xc:Nat) (w:World) (hp:Pow W) (h:ClAt c M J (cellB1 N3 x xa xc::intB N2 a::ptrB N1 c::L) W w) (hu:0≤u∧u<(M.us.length:Int)) (hok:M.ok) (hB:∀ M' w',ClAt c M' J L W w'→Bytes w' (.slice xa x.d.length xc) x.d) :
  Calls Tryz.prog 126 #[.int .i64 u,ptrV N1,ptrV N2,ptrV N3] w fun e w'=>e=.returned (errV (Cl.putS a x M u).1)∧ClAt c (Cl.putS a x M u).2 J (cellB1 N3 x xa xc::intB N2 a::ptrB N1 c::L) W w':=by
 have HP:=Zh (fun (wq:World) (hq:ClAt c M J (cellB1 N3 x xa xc::intB N2 a::ptrB N1 c::L) W wq)=>sput_any u M.p.e a x xa xc wq hp hq hu hok (fun M' w' h'=>hB M' w' (h'.sub (((List.Sublist.refl L).cons _ |>.cons _) |>.cons _))))
 have H:=Lib.hid' h
 have hs:=h.side
 have HFX:=Zh (show ∀ (M':Cl) (wq:World),ClAt c M' J (cellB1 N3 x xa xc::intB N2 a::ptrB N1 c::L) W wq→wq.cell? ⟨N1,0,none⟩=some (ptrV c)∧wq.cell? ⟨N2,0,none⟩=some (.int .i64 a)∧wq.cell? ⟨N3,0,none⟩=some (.int .i64 x.k)∧wq.cell? ⟨N3,1,none⟩=some (.slice xa x.d.length xc)∧wq.cell? ⟨c,2,none⟩=some (.int .i64 M'.p.e)∧N1<wq.heap.size∧N2<wq.heap.size∧N3<wq.heap.size∧c<wq.heap.size from
  fun M' wq hq=>⟨hq.side.cell 2 rfl 0 rfl,hq.side.cell 1 rfl 0 rfl,hq.side.cell 0 rfl 0 rfl,hq.side.cell 0 rfl 1 rfl,hq.c2.1,hq.side.lt 2 rfl,hq.side.lt 1 rfl,hq.side.lt 0 rfl,hq.c2.2⟩)
 have hF:=HFX.out M w h
 have hpe:=Zh (show (Cl.putC M.p.e a x M u).2.p.e=M.p.e by rw [putC_len,(Cl.do_len _ _ _).2.1])
 have HPS:=Zh (show Cl.putS a x M u=Cl.putC M.p.e a x M u from rfl)
 rw [HPS.out]
 clear h hs hok hB hu hp HPS
 go_enter Tryz.func126, Tryz.ntmps126
 go_upto_region 1 with fail
 refine startD (S:=(fun w'=>w'.cell? ⟨N1,0,none⟩=some (ptrV c)∧w'.cell? ⟨N2,0,none⟩=some (.int .i64 a)∧w'.cell? ⟨N3,0,none⟩=some (.int .i64 x.k)∧w'.cell? ⟨N3,1,none⟩=some (.slice xa x.d.length xc)∧w'.cell? ⟨c,2,none⟩=some (.int .i64 M.p.e)∧N1<w'.heap.size∧N2<w'.heap.size∧N3<w'.heap.size∧c<w'.heap.size)) (by kernel_rfl) hF (fun hH0=>?_)
 simp only [List.length_cons,List.length_nil,Nat.reduceAdd,List.replicate_succ,List.replicate_zero]
 refine tD 0 6 (.pointer (some ⟨c,0,none⟩)) rfl rfl [(1,.pointer (some ⟨N1,0,none⟩))] hH0 ?_
 dsimp only [sZ,sS]
 refine tD 1 7 (.int .i64 u) rfl rfl [(0,.int .i64 u)] hH0 ?_
 dsimp only [sZ,sS]
 refine tD 2 8 (.pointer (some ⟨c,0,none⟩)) rfl rfl [(1,.pointer (some ⟨N1,0,none⟩))] hH0 ?_
 dsimp only [sZ,sS]
 refine tD 3 9 (.pointer (some ⟨c,0,none⟩)) rfl rfl [(8,.pointer (some ⟨c,0,none⟩))] hH0 ?_
 dsimp only [sZ,sS]
 refine tD 4 10 (.pointer (some ⟨c,2,none⟩)) rfl rfl [(9,.pointer (some ⟨c,0,none⟩))] hH0 ?_
 dsimp only [sZ,sS]
 refine tD 5 11 (.pointer (some ⟨c,2,none⟩)) rfl rfl [(10,.pointer (some ⟨c,2,none⟩))] hH0 ?_
 dsimp only [sZ,sS]
 refine tD 6 12 (.int .i64 M.p.e) rfl rfl [(11,.pointer (some ⟨c,2,none⟩))] hH0 ?_
 dsimp only [sZ,sS]
 refine tD 7 13 (.int .i64 a) rfl rfl [(2,.pointer (some ⟨N2,0,none⟩))] hH0 ?_
 dsimp only [sZ,sS]
 refine tD 8 14 (.agg #[.int .i64 x.k,.slice xa x.d.length xc]) rfl rfl [(3,.pointer (some ⟨N3,0,none⟩))] hH0 ?_
 dsimp only [sZ,sS]
 refine rD 9 rfl (fun K hK=>?_)
 go_simp
 refine (HP.out _ (H.out.below (Below.refl _ _).drew)).mono ?_
 rintro e w2 ⟨rfl,h2⟩
 have H2:=Lib.hid' h2
 have HF2:=HFX.out _ _ h2
 rw [hpe.out] at HF2
 clear h2
 refine hK.out _ _ ?_ (fun hH1=>?_)
 ·exact HF2
 clear hK K
 try simp only [Act.put,gA,gZ,gS,sA,sZ,sS]
 refine tD 10 5 (errV (Cl.putC M.p.e a x M u).1) rfl rfl [(15,errV (Cl.putC M.p.e a x M u).1)] hH1 ?_
 dsimp only [sZ,sS]
 refine wpAnyH_done (by kernel_rfl) ?_ _
 clear HF2 hF
 go_wp2_with fail
 go_ret
 exact ⟨rfl,H2.out⟩
theorem cf_spread (args:Array Value) (w:World):(callFunc 126 args).run Tryz.prog w=.ok (.enter 126 args) w:=by kernel_rfl
def Cl.spread (l:List Int) (a:Int) (x:C) (M:Cl):Nat×Cl:=if (allC (Cl.putS a x) l M).1≠0 then allC (Cl.putS a x) l M else (allC (Cl.putS a x) l M).2.raise (a+1)
/-- what stays as it is while cells are put -/
structure Stay (M M':Cl):Prop where
 us:M'.us.length=M.us.length
 p:M'.p=M.p
 q:M'.q=M.q
theorem Stay.refl (M:Cl):Stay M M:=⟨rfl,rfl,rfl⟩
theorem Stay.do {M M':Cl} (h:Stay M M') (u:Nat) (x:Ac):Stay M (M'.do u x).2.2:=by
 have:=Cl.do_len M' u x
 exact ⟨this.1.trans h.us,this.2.1.trans h.p,this.2.2.trans h.q⟩
theorem Stay.put {M M':Cl} (h:Stay M M') (e a:Int) (x:C) (u:Int):Stay M (Cl.putC e a x M' u).2:=by rw [putC_len];exact h.do _ _
set_option maxHeartbeats 4000000 in
theorem spread_any {c:Nat} {M:Cl} {J:CJ} {L:List Asn} {W:World} (l:List Int) (ua:Option Addr) (uc:Nat) (a:Int) (x:C) (xa:Option Addr) (xc:Nat) (w:World) (hp:Pow W) (h:ClAt c M J L W w) (hok:M.ok) (hl:l.length≤1048576) (hu:∀ u∈l,0≤u∧u<(M.us.length:Int))
  (ha0:0≤a) (ha:a<1048576) (hZ:∀ M' w',ClAt c M' J L W w'→Zs w' (.slice ua l.length uc) l) (hB:∀ M' w',ClAt c M' J L W w'→Bytes w' (.slice xa x.d.length xc) x.d) :
  Calls Tryz.prog 91 #[ptrV c,.slice ua l.length uc,.int .i64 a,.agg #[.int .i64 x.k,.slice xa x.d.length xc]] w fun e w'=>e=.returned (errV (M.spread l a x).1)∧ClAt c (M.spread l a x).2 J L W w':=by
 have h3:=((h.allocB w.heap.size [ptrV c] 42 rfl).allocB (w.heap.size+1) [.int .i64 a] 3 (by simp)).allocB (w.heap.size+2) [.int .i64 x.k,.slice xa x.d.length xc] 28 (by simp)
 have hsub:List.Sublist L (cellB1 (w.heap.size+2) x xa xc::intB (w.heap.size+1) a::ptrB w.heap.size c::L):=((List.Sublist.refl L).cons _ |>.cons _) |>.cons _
 obtain ⟨w3,hw3⟩:∃ w3,((w.alloc (.cells #[ptrV c] 42)).alloc (.cells #[.int .i64 a] 3)).alloc (.cells #[.int .i64 x.k,.slice xa x.d.length xc] 28)=w3:=⟨_,rfl⟩
 have h3':ClAt c M J (cellB1 (w.heap.size+2) x xa xc::intB (w.heap.size+1) a::ptrB w.heap.size c::L) W w3:=by rw [←hw3];exact h3
 have HF:=Zh (show M.spread l a x=if (allC (Cl.putS a x) l M).1≠0 then allC (Cl.putS a x) l M else (allC (Cl.putS a x) l M).2.raise (a+1) from rfl)
 clear h h3
 obtain ⟨N1,hN1⟩:∃ n,n=w.heap.size:=⟨_,rfl⟩
 obtain ⟨N2,hN2⟩:∃ n,n=w.heap.size+1:=⟨_,rfl⟩
 obtain ⟨N3,hN3⟩:∃ n,n=w.heap.size+2:=⟨_,rfl⟩
 rw [←hN3,←hN2,←hN1] at h3' hsub
 have HI:=Zh (show ClAt c M J (cellB1 N3 x xa xc::intB N2 a::ptrB N1 c::L) W w3∧M.ok∧Stay M M from ⟨h3',hok,Stay.refl M⟩)
 have HDO:=Zh (show DoesU 126 #[ptrV N1,ptrV N2,ptrV N3] (Cl.putS a x) (fun (s:Cl) (w:World)=>ClAt c s J (cellB1 N3 x xa xc::intB N2 a::ptrB N1 c::L) W w∧s.ok∧Stay M s) l from fun s v w hv hI=>by
  refine (spread1_any (N1:=N1) (N2:=N2) (N3:=N3) v a x xa xc w hp hI.1 (by rw [hI.2.2.us];exact hu v hv) hI.2.1 hB).mono ?_
  rintro e w' ⟨rfl,h'⟩
  exact ⟨rfl,h',putC_ok hI.2.1 _ _ _ _,hI.2.2.put _ _ _ _⟩)
 have HALL:=Zh (all_any 126 #[ptrV N1,ptrV N2,ptrV N3] (Cl.putS a x) (fun (s:Cl) (w:World)=>ClAt c s J (cellB1 N3 x xa xc::intB N2 a::ptrB N1 c::L) W w∧s.ok∧Stay M s) l ua uc M w3 hl (fun s w hI=>hZ _ _ (hI.1.sub hsub)) cf_spread HDO.out HI.out)
 have HSUB:=Lib.hid' hsub
 clear hok hp hu hZ hB h3' HI HDO hl hsub
 generalize allC (Cl.putS a x) l M=r at *
 obtain ⟨z,M2⟩:=r
 go_enter Tryz.func91, Tryz.ntmps91
 go_upto_region 1 with fail
 try rw [hw3]
 rw [←hN3,←hN2,←hN1]
 clear hw3 hN1 hN2 hN3
 go_wp2_with fail
 refine HALL.out.mono ?_
 rintro e w4 ⟨rfl,h4,hok4,hst⟩
 simp only at h4 ⊢
 have H4:=Lib.hid' h4
 have hn1:=h4.side.cell 2 rfl 0 rfl
 have hn2:=h4.side.cell 1 rfl 0 rfl
 have hl1:=h4.side.lt 2 rfl
 have hl2:=h4.side.lt 1 rfl
 clear h4 hok4 hst HALL
 by_cases hz:z=0
 ·subst hz
  have HR:=Zh (HF.out.trans (if_neg (by simp)))
  have HRA:=Zh (craise_any (a+1) w4 H4.out)
  rw [errV_0]
  clear HF H4
  go_wp2_with fail
  refine HRA.out.mono ?_
  clear HRA
  rintro e w5 ⟨rfl,h5⟩
  go_wp2_with fail
  go_ret
  rw [HR.out]
  exact ⟨rfl,h5.sub HSUB.out⟩
 ·have HR:=Zh (HF.out.trans (if_pos hz))
  have HZ:=Lib.hid' hz
  rw [errV_pos hz]
  clear HF hz
  go_wp2_with fail
  go_ret
  rw [HR.out]
  exact ⟨by rw [errV_pos HZ.out];rfl,H4.out.sub HSUB.out⟩
/-- units are trimmed -/
def Cl.trimS (e b:Int) (M:Cl) (u:Int):Nat×Cl:=((M.do u.toNat ⟨4,e,b,[]⟩).1,(M.do u.toNat ⟨4,e,b,[]⟩).2.2)
set_option maxHeartbeats 4000000 in
theorem trim1_any {c N1 N2 N3:Nat} {M:Cl} {J:CJ} {L:List Asn} {W:World} (u e b:Int) (w:World) (hp:Pow W) (h:ClAt c M J (intB N3 b::intB N2 e::ptrB N1 c::L) W w) (hu:0≤u∧u<(M.us.length:Int)) (hok:M.ok) :
  Calls Tryz.prog 128 #[.int .i64 u,ptrV N1,ptrV N2,ptrV N3] w fun en w'=>en=.returned (errV (Cl.trimS e b M u).1)∧ClAt c (Cl.trimS e b M u).2 J (intB N3 b::intB N2 e::ptrB N1 c::L) W w':=by
 obtain ⟨k,rfl⟩:∃ k:Nat,u=k:=⟨u.toNat,by omega⟩
 have HD:=Zh (do_any k ⟨4,e,b,[]⟩ none 0 w hp h (by omega) hok (SlV.of_own (own_nil _ 0 0 0)))
 have hs:=h.side
 have c0:=hs.cell 2 rfl 0 rfl;have c1:=hs.cell 1 rfl 0 rfl;have c2:=hs.cell 0 rfl 0 rfl
 have l0:=hs.lt 2 rfl;have l1:=hs.lt 1 rfl;have l2:=hs.lt 0 rfl
 have HW:=Zh (show Cl.trimS e b M (k:Int)=((M.do k ⟨4,e,b,[]⟩).1,(M.do k ⟨4,e,b,[]⟩).2.2) from rfl)
 rw [show ac9V (⟨4,e,b,[]⟩:Ac) none 0=.agg #[.int .i64 4,.int .i64 e,.int .i64 b,.slice none 0 0] from rfl] at HD
 clear h hu hok hs hp
 go_enter Tryz.func128, Tryz.ntmps128
 go_wp2_with fail
 refine HD.out.mono ?_
 rintro en w2 ⟨rfl,h2⟩
 go_wp2_with fail
 go_ret
 rw [HW.out]
 exact ⟨rfl,h2⟩
theorem cf_trim (args:Array Value) (w:World):(callFunc 128 args).run Tryz.prog w=.ok (.enter 128 args) w:=by kernel_rfl
set_option maxHeartbeats 4000000 in
theorem trimAll_any {c:Nat} {M:Cl} {J:CJ} {L:List Asn} {W:World} (l:List Int) (ua:Option Addr) (uc:Nat) (e b:Int) (w:World) (hp:Pow W) (h:ClAt c M J L W w) (hok:M.ok) (hl:l.length≤1048576) (hu:∀ u∈l,0≤u∧u<(M.us.length:Int))
  (hZ:∀ M' w',ClAt c M' J L W w'→Zs w' (.slice ua l.length uc) l) :
  Calls Tryz.prog 93 #[ptrV c,.slice ua l.length uc,.int .i64 e,.int .i64 b] w fun en w'=>en=.returned (errV (allC (Cl.trimS e b) l M).1)∧ClAt c (allC (Cl.trimS e b) l M).2 J L W w'∧(allC (Cl.trimS e b) l M).2.ok∧Stay M (allC (Cl.trimS e b) l M).2:=by
 have h3:=((h.allocB w.heap.size [ptrV c] 42 rfl).allocB (w.heap.size+1) [.int .i64 e] 3 (by simp)).allocB (w.heap.size+2) [.int .i64 b] 3 (by simp)
 have hsub:List.Sublist L (intB (w.heap.size+2) b::intB (w.heap.size+1) e::ptrB w.heap.size c::L):=((List.Sublist.refl L).cons _ |>.cons _) |>.cons _
 obtain ⟨w3,hw3⟩:∃ w3,((w.alloc (.cells #[ptrV c] 42)).alloc (.cells #[.int .i64 e] 3)).alloc (.cells #[.int .i64 b] 3)=w3:=⟨_,rfl⟩
 have h3':ClAt c M J (intB (w.heap.size+2) b::intB (w.heap.size+1) e::ptrB w.heap.size c::L) W w3:=by rw [←hw3];exact h3
 clear h h3
 obtain ⟨N1,hN1⟩:∃ n,n=w.heap.size:=⟨_,rfl⟩
 obtain ⟨N2,hN2⟩:∃ n,n=w.heap.size+1:=⟨_,rfl⟩
 obtain ⟨N3,hN3⟩:∃ n,n=w.heap.size+2:=⟨_,rfl⟩
 rw [←hN3,←hN2,←hN1] at h3' hsub
 have HI:=Zh (show ClAt c M J (intB N3 b::intB N2 e::ptrB N1 c::L) W w3∧M.ok∧Stay M M from ⟨h3',hok,Stay.refl M⟩)
 have HDO:=Zh (show DoesU 128 #[ptrV N1,ptrV N2,ptrV N3] (Cl.trimS e b) (fun (s:Cl) (w:World)=>ClAt c s J (intB N3 b::intB N2 e::ptrB N1 c::L) W w∧s.ok∧Stay M s) l from fun s v w hv hI=>by
  refine (trim1_any (N1:=N1) (N2:=N2) (N3:=N3) v e b w hp hI.1 (by rw [hI.2.2.us];exact hu v hv) hI.2.1).mono ?_
  rintro e w' ⟨rfl,h'⟩
  exact ⟨rfl,h',hI.2.1.do _ _,hI.2.2.do _ _⟩)
 have HALL:=Zh (all_any 128 #[ptrV N1,ptrV N2,ptrV N3] (Cl.trimS e b) (fun (s:Cl) (w:World)=>ClAt c s J (intB N3 b::intB N2 e::ptrB N1 c::L) W w∧s.ok∧Stay M s) l ua uc M w3 hl (fun s w hI=>hZ _ _ (hI.1.sub hsub)) cf_trim HDO.out HI.out)
 have HSUB:=Lib.hid' hsub
 clear hok hp hu hZ h3' HI HDO hl hsub
 generalize allC (Cl.trimS e b) l M=r at *
 go_enter Tryz.func93, Tryz.ntmps93
 go_upto_region 1 with fail
 try rw [hw3]
 rw [←hN3,←hN2,←hN1]
 clear hw3 hN1 hN2 hN3
 go_wp2_with fail
 refine HALL.out.mono ?_
 rintro en w4 ⟨rfl,h4,hok4,hst⟩
 have H4:=Lib.hid' h4
 have HK:=Zh (And.intro hok4 hst)
 clear h4 hok4 hst HALL
 go_wp2_with fail
 go_ret
 exact ⟨rfl,H4.out.sub HSUB.out,HK.out⟩
theorem ClAt.belowRow {c:Nat} {M:Cl} {J:CJ} {L:List Asn} {W w w':World} (h:ClAt c M J L W w) {e size n:Nat} {v:Value} {xs:List Value} (hb:Below w.heap.size w w') (ho:w'.ownsRow w.heap.size e size v n xs):ClAt c M J (.row e size v n xs::L) W w':=by
 obtain ⟨P,hJ,hP,H⟩:=h
 refine ⟨P,hJ,hP,(H.belowRow hb ho).perm ?_⟩
 have e1:∀ L,clL c M P L=(clK c M P++(Asn.pool P.Z P.vs::P.Us.map (unA P.vs)))++L:=fun L=>by unfold clL;simp
 rw [e1 L,e1 (_::L)]
 exact List.perm_middle.symm
def Cl.putAt (M:Cl) (a:Int) (x:C):Nat×Cl:=if inB a 1048575=false then (1,M) else if x.check≠0 then (x.check,M) else if x.k≠1∧x.k≠2 then (2,M) else M.spread (M.home a) a x
def fillTo (M:Cl) (a:Int) (rd:Nat×C) (u:Int) (r:List Int):Nat×Cl :=
 if rd.1≠0 then (rd.1,M) else if rd.2.k=3 then (9,M) else if rd.2.k≠1 then M.spread (u::r) a ⟨2,[]⟩ else
 if (M.spread r a rd.2).1≠0 then M.spread r a rd.2 else (8,(M.spread r a rd.2).2)
def Cl.fill (M:Cl) (a:Int):Nat×Cl:=if inB a 1048575=false then (1,M) else match M.home a with
 | []=>(0,M)
 | u::r=>fillTo M a (M.readU u.toNat M.p.e a) u r
theorem inB_iff {a m:Int}:inB a m=true↔0≤a∧a≤m:=by unfold inB;simp
/-- a chain that is an address's home -/
theorem home_facts {M:Cl} (hok:M.ok) {l:List Int} (hm:l∈M.p.cs):1≤l.length∧l.length≤4∧∀ u∈l,0≤u∧u<(M.us.length:Int) :=
 ⟨((pj_ok hok.proj).each _ hm).1,((pj_ok hok.proj).each _ hm).2,fun u hu=>hok.there u (mem_all hm hu)⟩
set_option maxHeartbeats 8000000 in
theorem Put_any {c:Nat} {M:Cl} {J:CJ} {L:List Asn} {W:World} (a:Int) (x:C) (xa:Option Addr) (xc:Nat) (w:World) (hp:Pow W) (h:ClAt c M J L W w) (hok:M.ok) (hB:∀ M' w',ClAt c M' J L W w'→Bytes w' (.slice xa x.d.length xc) x.d) :
  Calls Tryz.prog 44 #[ptrV c,.int .i64 a,.agg #[.int .i64 x.k,.slice xa x.d.length xc]] w fun e w'=>e=.returned (errV (M.putAt a x).1)∧ClAt c (M.putAt a x).2 J L W w':=by
 have HP:=Lib.hid' hp
 have HB:=Lib.hid' hB
 have HOK:=Lib.hid' hok
 have H1:=Zh (h.allocB w.heap.size [.int .i64 x.k,.slice xa x.d.length xc] 28 rfl)
 have HF:=Zh (show M.putAt a x=if inB a 1048575=false then (1,M) else if x.check≠0 then (x.check,M) else if x.k≠1∧x.k≠2 then (2,M) else M.spread (M.home a) a x from rfl)
 have hl0:w.heap.size<(w.alloc (.cells #[.int .i64 x.k,.slice xa x.d.length xc] 28)).heap.size:=by simp
 clear hp hB hok h
 have b0:=H1.out.side.cell 0 rfl 0 rfl;have b1:=H1.out.side.cell 0 rfl 1 rfl
 have HX:=Zh (show Bytes (w.alloc (.cells #[.int .i64 x.k,.slice xa x.d.length xc] 28)) (.slice xa x.d.length xc) x.d from HB.out _ _ (ClAt.less (K:=[_]) H1.out))
 have HCK:=Zh (check_any (.agg #[.int .i64 x.k,.slice xa x.d.length xc]) x _ ⟨xa,xc,rfl,HX.out⟩)
 obtain ⟨w1,hw1⟩:∃ w1,w.alloc (.cells #[.int .i64 x.k,.slice xa x.d.length xc] 28)=w1:=⟨_,rfl⟩
 have e0:w.alloc (.cells [Value.int .i64 x.k,.slice xa x.d.length xc].toArray 28)=w1:=hw1
 rw [e0] at H1 b0 b1
 rw [hw1] at hl0 HX HCK
 clear e0
 go_enter Tryz.func44, Tryz.ntmps44
 go_upto_region 1 with fail
 try rw [hw1]
 clear hw1
 go_wp2_with fail
 refine (in2_any a 1048575 _).mono ?_
 rintro en wz ⟨rfl,rfl⟩
 go_wp2_with fail
 refine (ask_any c _ _).mono ?_
 rintro en wz ⟨rfl,rfl⟩
 by_cases hin:inB a 1048575=true
 rotate_left
 ·have hin0:inB a 1048575=false:=by simpa using hin
  have HR:=Zh (HF.out.trans (if_pos hin0))
  rw [if_neg hin,errV_pos (by decide)]
  clear hin hin0
  go_wp2_with fail
  go_ret
  rw [HR.out]
  exact ⟨rfl,ClAt.less (K:=[_]) H1.out⟩
 have HF1:=Zh (HF.out.trans (if_neg (by rw [hin];decide)))
 rw [if_pos hin,errV_0]
 have HA:=Zh (inB_iff.1 hin)
 clear hin HF
 go_wp2_with fail
 refine HCK.out.mono ?_
 clear HCK
 rintro en w2 ⟨rfl,hb2⟩
 have H2:=Zh (H1.out.below hb2)
 clear b0 b1 hl0 hb2 HX H1
 have b0:=H2.out.side.cell 0 rfl 0 rfl;have b1:=H2.out.side.cell 0 rfl 1 rfl;have hl0:=H2.out.side.lt 0 rfl
 by_cases hck:x.check=0
 rotate_left
 ·have HR:=Zh (HF1.out.trans (if_pos hck))
  have HZ:=Lib.hid' hck
  rw [errV_pos hck]
  clear hck
  go_wp2_with fail
  go_ret
  rw [HR.out]
  exact ⟨by rw [errV_pos HZ.out];rfl,ClAt.less (K:=[_]) H2.out⟩
 have HF2:=Zh (HF1.out.trans (if_neg (by simp [hck])))
 rw [hck,errV_0]
 clear hck HF1
 go_upto_region 7 with fail
 go_cut [28] (fun v28 wc=>v28=.bool (decide (x.k≠1∧x.k≠2))∧wc=w2)
 case first =>
  by_cases hk1:x.k=1
  ·have hkb:(x.k != 1)=false:=by simp [hk1]
   have hd:decide (x.k≠1∧x.k≠2)=false:=by simp [hk1]
   have HD:=Lib.hid' hd
   clear hk1 hd
   go_wp2_with fail
   go_meet
   exact ⟨by rw [HD.out],rfl⟩
  ·have hkb:(x.k != 1)=true:=by simpa using hk1
   have hd:decide (x.k≠1∧x.k≠2)=(x.k != 2):=by rw [Bool.eq_iff_iff];simp [hk1]
   have HD:=Lib.hid' hd
   clear hk1 hd
   go_wp2_with fail
   go_meet
   exact ⟨by rw [HD.out],rfl⟩
 case rest =>
 obtain ⟨rfl,rfl⟩:=hcut
 by_cases hk:x.k≠1∧x.k≠2
 ·have HR:=Zh (HF2.out.trans (if_pos hk))
  rw [decide_eq_true hk]
  clear hk
  go_wp2_with fail
  go_ret
  rw [HR.out]
  exact ⟨rfl,ClAt.less (K:=[_]) H2.out⟩
 have HR:=Zh (HF2.out.trans (if_neg hk))
 rw [decide_eq_false hk]
 clear hk HF2
 go_upto_region 9 with fail
 refine startD (S:=(fun w'=>w'.cell? ⟨w.heap.size,0,none⟩=some (.int .i64 x.k)∧w'.cell? ⟨w.heap.size,1,none⟩=some (.slice xa x.d.length xc)∧w.heap.size<w'.heap.size)) (by kernel_rfl) ⟨b0,b1,hl0⟩ (fun hH0=>?_)
 simp only [List.length_cons,List.length_nil,Nat.reduceAdd,List.replicate_succ,List.replicate_zero]
 refine tD 0 30 (.pointer (some ⟨c,0,none⟩)) rfl rfl [(0,.pointer (some ⟨c,0,none⟩))] hH0 ?_
 dsimp only [sZ,sS]
 refine tD 1 31 (.pointer (some ⟨c,0,none⟩)) rfl rfl [(0,.pointer (some ⟨c,0,none⟩))] hH0 ?_
 dsimp only [sZ,sS]
 refine tD 2 32 (.int .i64 a) rfl rfl [(1,.int .i64 a)] hH0 ?_
 dsimp only [sZ,sS]
 refine tD 4 34 (.int .i64 a) rfl rfl [(1,.int .i64 a)] hH0 ?_
 dsimp only [sZ,sS]
 refine tD 5 35 (.agg #[.int .i64 x.k,.slice xa x.d.length xc]) rfl rfl [(5,.pointer (some ⟨w.heap.size,0,none⟩))] hH0 ?_
 dsimp only [sZ,sS]
 refine rD 3 rfl (fun K hK=>?_)
 go_simp
 refine (home_any a _ (H2.out.below (Below.refl _ _).drew) HOK.out HA.out.1).mono ?_
 rintro e w3 ⟨⟨⟨l,ya,yc⟩,hy,rfl,hyh⟩,hb3⟩
 have H3:=Zh ((H2.out.below (Below.refl _ _).drew).below hb3)
 have HY:=Lib.hid' hy
 have HYH:=Zh (show l=M.home a from hyh)
 have HHF:=Zh (home_facts HOK.out (show l∈M.p.cs by rw [←show J.Ks.map (·.1)=M.p.cs from H2.out.csOf];exact List.mem_map_of_mem (f:=(·.1)) hy))
 rw [show chV (l,ya,yc)=.slice ya l.length yc from rfl]
 clear hy hyh hb3
 refine hK.out _ _ ?_ (fun hH1=>?_)
 ·exact ⟨H3.out.side.cell 0 rfl 0 rfl,H3.out.side.cell 0 rfl 1 rfl,H3.out.side.lt 0 rfl⟩
 clear hK K
 try simp only [Act.put,gA,gZ,gS,sA,sZ,sS]
 refine rD 6 rfl (fun K hK=>?_)
 go_simp
 refine (spread_any (L:=cellB1 w.heap.size x xa xc::L) l ya yc a x xa xc _ HP.out H3.out HOK.out (by have:=HHF.out.2.1;omega) HHF.out.2.2 HA.out.1 (by have:=HA.out.2;omega) (fun M' w' h'=>h'.chain HY.out) (fun M' w' h'=>HB.out _ _ (ClAt.less (K:=[_]) h'))).mono ?_
 rintro e w4 ⟨rfl,h4⟩
 rw [HYH.out] at h4 ⊢
 have H4:=Lib.hid' h4
 clear h4
 refine hK.out _ _ ?_ (fun hH2=>?_)
 ·exact ⟨H4.out.side.cell 0 rfl 0 rfl,H4.out.side.cell 0 rfl 1 rfl,H4.out.side.lt 0 rfl⟩
 clear hK K
 try simp only [Act.put,gA,gZ,gS,sA,sZ,sS]
 refine tD 7 6 (errV (M.spread (M.home a) a x).1) rfl rfl [(36,errV (M.spread (M.home a) a x).1)] hH2 ?_
 dsimp only [sZ,sS]
 refine wpAnyH_done (by kernel_rfl) ?_ _
 clear b0 b1 hl0
 go_wp2_with fail
 go_ret
 rw [HR.out]
 exact ⟨rfl,ClAt.less (K:=[_]) H4.out⟩
set_option maxHeartbeats 8000000 in
theorem Fill_any {c:Nat} {M:Cl} {J:CJ} {L:List Asn} {W:World} (a:Int) (w:World) (hp:Pow W) (h:ClAt c M J L W w) (hok:M.ok) :
  Calls Tryz.prog 43 #[ptrV c,.int .i64 a] w fun e w'=>e=.returned (errV (M.fill a).1)∧ClAt c (M.fill a).2 J L W w':=by
 have HP:=Lib.hid' hp
 have HOK:=Lib.hid' hok
 have H1:=Lib.hid' h
 have HF:=Zh (show M.fill a=if inB a 1048575=false then (1,M) else match M.home a with
  | []=>(0,M)
  | u::r=>fillTo M a (M.readU u.toNat M.p.e a) u r from rfl)
 clear hp hok h
 go_enter Tryz.func43, Tryz.ntmps43
 go_wp2_with fail
 refine (in2_any a 1048575 _).mono ?_
 rintro en wz ⟨rfl,rfl⟩
 go_wp2_with fail
 refine (ask_any c _ _).mono ?_
 rintro en wz ⟨rfl,rfl⟩
 by_cases hin:inB a 1048575=true
 rotate_left
 ·have hin0:inB a 1048575=false:=by simpa using hin
  have HR:=Zh (HF.out.trans (if_pos hin0))
  rw [if_neg hin,errV_pos (by decide)]
  clear hin hin0
  go_wp2_with fail
  go_ret
  rw [HR.out]
  exact ⟨rfl,H1.out⟩
 have HF1:=Zh (HF.out.trans (if_neg (by rw [hin];decide)))
 rw [if_pos hin,errV_0]
 have HA:=Zh (inB_iff.1 hin)
 clear hin HF
 go_wp2_with fail
 refine (home_any a _ H1.out HOK.out HA.out.1).mono ?_
 rintro e w2 ⟨⟨⟨l,ya,yc⟩,hy,rfl,hyh⟩,hb2⟩
 have H2:=Zh (H1.out.below hb2)
 have HY:=Lib.hid' hy
 have HHF:=Zh (home_facts HOK.out (show l∈M.p.cs by rw [←show J.Ks.map (·.1)=M.p.cs from H1.out.csOf];exact List.mem_map_of_mem (f:=(·.1)) hy))
 obtain ⟨u,r,rfl⟩:∃ u r,l=u::r:=by
  have:=HHF.out.1
  cases l with
  | nil=>simp at this
  | cons u r=>exact ⟨u,r,rfl⟩
 have HHM:=Zh (show M.home a=u::r from hyh.symm)
 have HF2:=Zh (HF1.out.trans (by rw [HHM.out]:_=fillTo M a (M.readU u.toNat M.p.e a) u r))
 obtain ⟨gb,go,hya,hgb,hgc⟩:=(H2.out.chain hy).at (k:=0) (by simp)
 have hgc2:w2.cell? ⟨gb,go,none⟩=some (.int .i64 u):=hgc
 simp only at hya
 subst hya
 rw [show chV (u::r,some ⟨gb,go,none⟩,yc)=.slice (some ⟨gb,go,none⟩) (r.length+1) yc from rfl]
 have hu0:=HHF.out.2.2 u List.mem_cons_self
 obtain ⟨k,rfl⟩:∃ k:Nat,u=k:=⟨u.toNat,by omega⟩
 have HRD:=Zh (read_any k a w2 H2.out (by omega))
 rw [show ((k:Nat):Int).toNat=k from rfl] at HF2
 have hlr:r.length≤3:=by have:=HHF.out.2.1;simp at this;omega
 clear hb2 hy hyh hgc HF1 H1 hu0
 generalize M.readU k M.p.e a=rd at *
 obtain ⟨z,x⟩:=rd
 go_wp2_with fail
 refine HRD.out.mono ?_
 clear HRD
 rintro en w3 ⟨xa,xc,rfl,ho,hb3⟩
 simp only at ho ⊢
 have H3:=Zh (H2.out.belowRow hb3 ho)
 have hx3:=bytes_len (show Bytes w3 (.slice xa x.d.length xc) x.d from SlV.of_own ho)
 have H4:=Zh (H3.out.allocB w3.heap.size [.int .i64 x.k,.slice xa x.d.length xc] 28 rfl)
 clear ho hb3 H2 hgc2 hgb
 by_cases hz:z=0
 rotate_left
 ·have HR:=Zh (HF2.out.trans (by unfold fillTo;rw [if_pos hz]:_=(z,M)))
  have HZ:=Lib.hid' hz
  rw [errV_pos hz]
  clear hz
  go_wp2_with fail
  go_ret
  rw [HR.out]
  exact ⟨by rw [errV_pos HZ.out];rfl,ClAt.less (K:=[_,_]) H4.out⟩
 subst hz
 rw [errV_0]
 have HF3:=Zh (HF2.out.trans (by unfold fillTo;rw [if_neg (by simp)]:_=if x.k=3 then (9,M) else if x.k≠1 then M.spread ((k:Int)::r) a ⟨2,[]⟩ else if (M.spread r a x).1≠0 then M.spread r a x else (8,(M.spread r a x).2)))
 clear HF2
 have b0:=H4.out.side.cell 0 rfl 0 rfl;have b1:=H4.out.side.cell 0 rfl 1 rfl;have bl:=H4.out.side.lt 0 rfl
 have e0:w3.alloc (.cells [Value.int .i64 x.k,.slice xa x.d.length xc].toArray 28)=w3.alloc (.cells #[.int .i64 x.k,.slice xa x.d.length xc] 28):=rfl
 rw [e0] at H4 b0 b1 bl
 clear e0
 go_upto_region 6 with fail
 generalize w3.alloc (.cells #[.int .i64 x.k,.slice xa x.d.length xc] 28)=w4 at *
 generalize w3.heap.size=N at *
 by_cases hk3:x.k=3
 ·have HR:=Zh (HF3.out.trans (if_pos hk3))
  have hkb:(x.k==3)=true:=by simpa using hk3
  clear hk3
  go_wp2_with fail
  go_ret
  rw [HR.out]
  exact ⟨rfl,ClAt.less (K:=[_,_]) H4.out⟩
 have HF4:=Zh (HF3.out.trans (if_neg hk3))
 have hkb3:(x.k==3)=false:=by simpa using hk3
 clear hk3 HF3
 by_cases hk1:x.k=1
 rotate_left
 ·have HR:=Zh (HF4.out.trans (if_pos hk1))
  have hkb:(x.k != 1)=true:=by simpa using hk1
  have HSP:=Zh (spread_any ((k:Int)::r) (some ⟨gb,go,none⟩) yc a ⟨2,[]⟩ none 0 _ HP.out H4.out HOK.out (by have:=HHF.out.2.1;omega) HHF.out.2.2 HA.out.1 (by have:=HA.out.2;omega) (fun M' w' h'=>h'.chain HY.out) (fun M' w' h'=>SlV.of_own (own_nil _ 0 0 0)))
  have HSP:Hid (Calls Tryz.prog 91 #[ptrV c,.slice (some ⟨gb,go,none⟩) (r.length+1) yc,.int .i64 a,.agg #[.int .i64 2,.slice none 0 0]] w4 fun e w'=>e=.returned (errV (M.spread ((k:Int)::r) a ⟨2,[]⟩).1)∧ClAt c (M.spread ((k:Int)::r) a ⟨2,[]⟩).2 J _ W w'):=HSP
  clear hk1
  go_wp2_with fail
  refine HSP.out.mono ?_
  clear HSP
  rintro en w5 ⟨rfl,h5⟩
  go_wp2_with fail
  go_ret
  rw [HR.out]
  exact ⟨rfl,ClAt.less (K:=[_,_]) h5⟩
 have HR:=Zh (HF4.out.trans (if_neg (fun h=>h hk1)))
 have hkb:(x.k != 1)=false:=by simp [hk1]
 clear hk1 HF4
 have HZS:=Zh (fun (s:Cl) (w:World) (hI:ClAt c s J (cellB1 N x xa xc::.row 5 1 (.slice xa x.d.length xc) x.d.length (byteVs x.d)::L) W w)=>zs_tail (hI.chain HY.out))
 have hcap:r.length+1≤yc:=(HZS.out _ _ H4.out).1
 have HBX:=Zh (fun (s:Cl) (w:World) (hI:ClAt c s J (cellB1 N x xa xc::.row 5 1 (.slice xa x.d.length xc) x.d.length (byteVs x.d)::L) W w)=>show Bytes w (.slice xa x.d.length xc) x.d from SlV.of_own (hI.side.row 1 rfl))
 go_upto_region 12 with fail
 by_cases hy1:yc=1
 ·subst hy1
  obtain rfl:r=[]:=List.eq_nil_of_length_eq_zero (by omega)
  refine startD (S:=(fun w'=>w'.cell? ⟨N,0,none⟩=some (.int .i64 x.k)∧w'.cell? ⟨N,1,none⟩=some (.slice xa x.d.length xc)∧N<w'.heap.size)) (by kernel_rfl) ⟨b0,b1,bl⟩ (fun hH0=>?_)
  simp only [List.length_cons,List.length_nil,Nat.reduceAdd,List.replicate_succ,List.replicate_zero]
  refine tD 0 47 (.pointer (some ⟨c,0,none⟩)) rfl rfl [(0,.pointer (some ⟨c,0,none⟩))] hH0 ?_
  dsimp only [sZ,sS]
  refine tD 1 48 (.slice (some ⟨gb,go,none⟩) (0+1) 1) rfl rfl [(6,.slice (some ⟨gb,go,none⟩) (0+1) 1)] hH0 ?_
  dsimp only [sZ,sS]
  refine tE 2 49 (.slice (some ⟨gb,go,none⟩) 0 0) rfl rfl [(48,.slice (some ⟨gb,go,none⟩) (0+1) 1)] hH0 ?_ ?_
  ·intro w hSw;go_simp;(try (intro h;exfalso;omega))
  dsimp only [sZ,sS]
  refine tD 3 50 (.int .i64 a) rfl rfl [(1,.int .i64 a)] hH0 ?_
  dsimp only [sZ,sS]
  refine tD 4 51 (.agg #[.int .i64 x.k,.slice xa x.d.length xc]) rfl rfl [(7,.pointer (some ⟨N,0,none⟩))] hH0 ?_
  dsimp only [sZ,sS]
  refine rD 5 rfl (fun K hK=>?_)
  go_simp
  refine (spread_any ([]:List Int) (some ⟨gb,go,none⟩) 0 a x xa xc _ HP.out (H4.out.below (Below.refl _ _).drew) HOK.out (by simp) (fun v hv=>by cases hv) HA.out.1 (by have:=HA.out.2;omega) (fun M' w' h'=>(HZS.out _ _ h').2.1 rfl) (fun M' w' h'=>HBX.out M' w' h')).mono ?_
  rintro e w5 ⟨rfl,h5⟩
  have H5:=Lib.hid' h5
  clear h5
  refine hK.out _ _ ?_ (fun hH1=>?_)
  ·exact ⟨H5.out.side.cell 0 rfl 0 rfl,H5.out.side.cell 0 rfl 1 rfl,H5.out.side.lt 0 rfl⟩
  clear hK K
  try simp only [Act.put,gA,gZ,gS,sA,sZ,sS]
  refine tD 6 9 (errV (M.spread [] a x).1) rfl rfl [(52,errV (M.spread [] a x).1)] hH1 ?_
  dsimp only [sZ,sS]
  refine wpAnyH_done (by kernel_rfl) ?_ _
  clear b0 b1 bl
  generalize M.spread [] a x=sp at *
  obtain ⟨zs,Ms⟩:=sp
  simp only at H5 ⊢
  by_cases hzs:zs=0
  ·have HR2:=Zh (HR.out.trans (if_neg (by simp [hzs])))
   subst hzs
   rw [errV_0]
   go_wp2_with fail
   go_ret
   rw [HR2.out]
   exact ⟨rfl,ClAt.less (K:=[_,_]) H5.out⟩
  ·have HR2:=Zh (HR.out.trans (if_pos hzs))
   have HZ:=Lib.hid' hzs
   rw [errV_pos hzs]
   clear hzs
   go_wp2_with fail
   go_ret
   rw [HR2.out]
   exact ⟨by rw [errV_pos HZ.out];rfl,ClAt.less (K:=[_,_]) H5.out⟩
 ·have hyc:¬yc=1:=hy1
  refine startD (S:=(fun w'=>w'.cell? ⟨N,0,none⟩=some (.int .i64 x.k)∧w'.cell? ⟨N,1,none⟩=some (.slice xa x.d.length xc)∧N<w'.heap.size)) (by kernel_rfl) ⟨b0,b1,bl⟩ (fun hH0=>?_)
  simp only [List.length_cons,List.length_nil,Nat.reduceAdd,List.replicate_succ,List.replicate_zero]
  refine tD 0 47 (.pointer (some ⟨c,0,none⟩)) rfl rfl [(0,.pointer (some ⟨c,0,none⟩))] hH0 ?_
  dsimp only [sZ,sS]
  refine tD 1 48 (.slice (some ⟨gb,go,none⟩) (r.length+1) yc) rfl rfl [(6,.slice (some ⟨gb,go,none⟩) (r.length+1) yc)] hH0 ?_
  dsimp only [sZ,sS]
  refine tE 2 49 (.slice (some ⟨gb,go+1,none⟩) r.length (yc - 1)) rfl rfl [(48,.slice (some ⟨gb,go,none⟩) (r.length+1) yc)] hH0 ?_ ?_
  ·intro w hSw;go_simp;(try (intro h;exfalso;omega))
  dsimp only [sZ,sS]
  refine tD 3 50 (.int .i64 a) rfl rfl [(1,.int .i64 a)] hH0 ?_
  dsimp only [sZ,sS]
  refine tD 4 51 (.agg #[.int .i64 x.k,.slice xa x.d.length xc]) rfl rfl [(7,.pointer (some ⟨N,0,none⟩))] hH0 ?_
  dsimp only [sZ,sS]
  refine rD 5 rfl (fun K hK=>?_)
  go_simp
  refine (spread_any r (some ⟨gb,go+1,none⟩) (yc - 1) a x xa xc _ HP.out (H4.out.below (Below.refl _ _).drew) HOK.out (by omega) (fun v hv=>HHF.out.2.2 v (List.mem_cons_of_mem _ hv)) HA.out.1 (by have:=HA.out.2;omega) (fun M' w' h'=>(HZS.out _ _ h').2.2) (fun M' w' h'=>HBX.out M' w' h')).mono ?_
  rintro e w5 ⟨rfl,h5⟩
  have H5:=Lib.hid' h5
  clear h5
  refine hK.out _ _ ?_ (fun hH1=>?_)
  ·exact ⟨H5.out.side.cell 0 rfl 0 rfl,H5.out.side.cell 0 rfl 1 rfl,H5.out.side.lt 0 rfl⟩
  clear hK K
  try simp only [Act.put,gA,gZ,gS,sA,sZ,sS]
  refine tD 6 9 (errV (M.spread r a x).1) rfl rfl [(52,errV (M.spread r a x).1)] hH1 ?_
  dsimp only [sZ,sS]
  refine wpAnyH_done (by kernel_rfl) ?_ _
  clear b0 b1 bl
  generalize M.spread r a x=sp at *
  obtain ⟨zs,Ms⟩:=sp
  simp only at H5 ⊢
  by_cases hzs:zs=0
  ·have HR2:=Zh (HR.out.trans (if_neg (by simp [hzs])))
   subst hzs
   rw [errV_0]
   go_wp2_with fail
   go_ret
   rw [HR2.out]
   exact ⟨rfl,ClAt.less (K:=[_,_]) H5.out⟩
  ·have HR2:=Zh (HR.out.trans (if_pos hzs))
   have HZ:=Lib.hid' hzs
   rw [errV_pos hzs]
   clear hzs
   go_wp2_with fail
   go_ret
   rw [HR2.out]
   exact ⟨by rw [errV_pos HZ.out];rfl,ClAt.less (K:=[_,_]) H5.out⟩
def Cl.units (M:Cl):List Int:=unitsOf M.p.all
def Cl.trim (M:Cl) (b:Int):Nat×Cl:=if inB b 1048576=false then (1,M) else if (allC (Cl.trimS M.p.e b) M.units M).1≠0 then allC (Cl.trimS M.p.e b) M.units M else (allC (Cl.trimS M.p.e b) M.units M).2.raise b
theorem ClAt.chs {c:Nat} {M:Cl} {J:CJ} {L:List Asn} {W w:World} (h:ClAt c M J L W w):Chs w J.a J.c J.Ks∧flatC J.Ks=M.p.all∧w.cell? ⟨c,3,none⟩=some (.slice J.a J.Ks.length J.c):=by
 have hch:=fun y hy=>h.chain (y:=y) hy
 have hcs:=h.csOf
 obtain ⟨P,rfl,hP,H⟩:=h
 exact ⟨⟨SlV.of_own (H.row 4 rfl),hch⟩,by unfold flatC Pj.all;rw [hcs],H.cell 0 rfl 3 rfl⟩
theorem flat_le {X:List (List Int)} (h:∀ x∈X,x.length≤4):X.flatten.length≤4*X.length:=by
 induction X with
 | nil=>simp
 | cons x X ih =>
  rw [List.flatten_cons,List.length_append,List.length_cons]
  have h1:=h x List.mem_cons_self
  have h2:=ih (fun y hy=>h y (List.mem_cons_of_mem _ hy))
  omega
theorem all_len {p:Pj} (h:PjOk p):p.all.length≤16:=by
 have h1:=flat_le (X:=p.cs) (fun x hx=>(h.each x hx).2)
 have h2:=h.n.2
 unfold Pj.all
 omega
theorem units_facts {M:Cl} (hok:M.ok):M.units.length≤16∧∀ u∈M.units,0≤u∧u<(M.us.length:Int) :=
 ⟨Nat.le_trans (unitsOf_len _) (all_len (pj_ok hok.proj)),fun u hu=>hok.there u ((unitsOf_mem u _).1 hu)⟩
theorem unitsR_any {c:Nat} {M:Cl} {J:CJ} {L:List Asn} {W:World} (w:World) (h:ClAt c M J L W w) (hok:M.ok) :
  Calls Tryz.prog 28 #[.agg #[.int .i64 M.p.e,.slice J.a J.Ks.length J.c]] w fun e w'=>∃ ua uc,e=.returned (.slice ua M.units.length uc)∧ClAt c M J (.row 3 1 (.slice ua M.units.length uc) M.units.length (zVs M.units)::L) W w':=by
 obtain ⟨h1,h2,_⟩:=h.chs
 have h3:=punits_any M.p.e J.a J.c J.Ks w h1 (by rw [h2];have:=all_len (pj_ok hok.proj);omega)
 rw [show pjV M.p.e J.a J.c J.Ks=.agg #[.int .i64 M.p.e,.slice J.a J.Ks.length J.c] from rfl] at h3
 refine h3.mono ?_
 intro e w' hE
 obtain ⟨ua,uc,rfl,ho,hb⟩:=hE
 rw [h2] at ho ⊢
 exact ⟨ua,uc,rfl,h.belowRow hb ho⟩
set_option maxHeartbeats 8000000 in
theorem Trim_any {c:Nat} {M:Cl} {J:CJ} {L:List Asn} {W:World} (a:Int) (w:World) (hp:Pow W) (h:ClAt c M J L W w) (hok:M.ok) :
  Calls Tryz.prog 45 #[ptrV c,.int .i64 a] w fun e w'=>e=.returned (errV (M.trim a).1)∧ClAt c (M.trim a).2 J L W w':=by
 have HP:=Lib.hid' hp
 have HOK:=Lib.hid' hok
 have H1:=Lib.hid' h
 have HF:=Zh (show M.trim a=if inB a 1048576=false then (1,M) else if (allC (Cl.trimS M.p.e a) M.units M).1≠0 then allC (Cl.trimS M.p.e a) M.units M else (allC (Cl.trimS M.p.e a) M.units M).2.raise a from rfl)
 have HUF:=Zh (units_facts hok)
 clear hp hok h
 go_enter Tryz.func45, Tryz.ntmps45
 go_wp2_with fail
 refine (in2_any a 1048576 _).mono ?_
 rintro en wz ⟨rfl,rfl⟩
 go_wp2_with fail
 refine (ask_any c _ _).mono ?_
 rintro en wz ⟨rfl,rfl⟩
 by_cases hin:inB a 1048576=true
 rotate_left
 ·have hin0:inB a 1048576=false:=by simpa using hin
  have HR:=Zh (HF.out.trans (if_pos hin0))
  rw [if_neg hin,errV_pos (by decide)]
  clear hin hin0
  go_wp2_with fail
  go_ret
  rw [HR.out]
  exact ⟨rfl,H1.out⟩
 have HF1:=Zh (HF.out.trans (if_neg (by rw [hin];decide)))
 rw [if_pos hin,errV_0]
 clear hin HF
 go_upto_region 4 with fail
 have c2:=H1.out.c2.1;have cl:=H1.out.c2.2;have c3:=H1.out.chs.2.2
 refine startD (S:=(fun w'=>w'.cell? ⟨c,2,none⟩=some (.int .i64 M.p.e)∧w'.cell? ⟨c,3,none⟩=some (.slice J.a J.Ks.length J.c)∧c<w'.heap.size)) (by kernel_rfl) ⟨c2,c3,cl⟩ (fun hH0=>?_)
 simp only [List.length_cons,List.length_nil,Nat.reduceAdd,List.replicate_succ,List.replicate_zero]
 refine tD 0 14 (.pointer (some ⟨c,0,none⟩)) rfl rfl [(0,.pointer (some ⟨c,0,none⟩))] hH0 ?_
 dsimp only [sZ,sS]
 refine tD 1 15 (.pointer (some ⟨c,0,none⟩)) rfl rfl [(0,.pointer (some ⟨c,0,none⟩))] hH0 ?_
 dsimp only [sZ,sS]
 refine tD 2 16 (.pointer (some ⟨c,0,none⟩)) rfl rfl [(15,.pointer (some ⟨c,0,none⟩))] hH0 ?_
 dsimp only [sZ,sS]
 refine tD 3 17 (.pointer (some ⟨c,2,none⟩)) rfl rfl [(16,.pointer (some ⟨c,0,none⟩))] hH0 ?_
 dsimp only [sZ,sS]
 refine tD 4 18 (.agg #[.int .i64 M.p.e,.slice J.a J.Ks.length J.c]) rfl rfl [(17,.pointer (some ⟨c,2,none⟩))] hH0 ?_
 dsimp only [sZ,sS]
 refine tD 6 20 (.pointer (some ⟨c,0,none⟩)) rfl rfl [(0,.pointer (some ⟨c,0,none⟩))] hH0 ?_
 dsimp only [sZ,sS]
 refine tD 7 21 (.pointer (some ⟨c,0,none⟩)) rfl rfl [(20,.pointer (some ⟨c,0,none⟩))] hH0 ?_
 dsimp only [sZ,sS]
 refine tD 8 22 (.pointer (some ⟨c,2,none⟩)) rfl rfl [(21,.pointer (some ⟨c,0,none⟩))] hH0 ?_
 dsimp only [sZ,sS]
 refine tD 9 23 (.pointer (some ⟨c,2,none⟩)) rfl rfl [(22,.pointer (some ⟨c,2,none⟩))] hH0 ?_
 dsimp only [sZ,sS]
 refine tD 10 24 (.int .i64 M.p.e) rfl rfl [(23,.pointer (some ⟨c,2,none⟩))] hH0 ?_
 dsimp only [sZ,sS]
 refine tD 11 25 (.int .i64 a) rfl rfl [(1,.int .i64 a)] hH0 ?_
 dsimp only [sZ,sS]
 refine rD 5 rfl (fun K hK=>?_)
 go_simp
 refine (unitsR_any _ (H1.out.below (Below.refl _ _).drew) HOK.out).mono ?_
 rintro e w2 ⟨ua,uc,rfl,h2⟩
 have H2:=Lib.hid' h2
 clear h2
 refine hK.out _ _ ?_ (fun hH1=>?_)
 ·exact ⟨H2.out.c2.1,H2.out.chs.2.2,H2.out.c2.2⟩
 clear hK K
 try simp only [Act.put,gA,gZ,gS,sA,sZ,sS]
 refine rD 12 rfl (fun K hK=>?_)
 go_simp
 refine (trimAll_any M.units ua uc M.p.e a _ HP.out H2.out HOK.out (by have:=HUF.out.1;omega) HUF.out.2 (fun M' w' h'=>SlV.of_own (h'.side.row 0 rfl))).mono ?_
 rintro e w4 ⟨rfl,h4,hok4,hst⟩
 have H4:=Lib.hid' h4
 have HS:=Lib.hid' hst
 clear h4 hok4 hst
 refine hK.out _ _ ?_ (fun hH2=>?_)
 ·exact ⟨by have:=H4.out.c2.1;rw [HS.out.p] at this;exact this,H4.out.chs.2.2,H4.out.c2.2⟩
 clear hK K
 try simp only [Act.put,gA,gZ,gS,sA,sZ,sS]
 refine tD 13 6 (errV (allC (Cl.trimS M.p.e a) M.units M).1) rfl rfl [(26,errV (allC (Cl.trimS M.p.e a) M.units M).1)] hH2 ?_
 dsimp only [sZ,sS]
 refine wpAnyH_done (by kernel_rfl) ?_ _
 clear c2 cl c3
 generalize allC (Cl.trimS M.p.e a) M.units M=r at *
 obtain ⟨z,M2⟩:=r
 simp only at H4 ⊢
 by_cases hz:z=0
 ·have HR:=Zh (HF1.out.trans (if_neg (by simp [hz])))
  subst hz
  rw [errV_0]
  have HRA:=Zh (craise_any a w4 H4.out)
  clear HF1
  go_wp2_with fail
  refine HRA.out.mono ?_
  clear HRA
  rintro en w5 ⟨rfl,h5⟩
  go_wp2_with fail
  go_ret
  rw [HR.out]
  exact ⟨rfl,ClAt.less (K:=[_]) h5⟩
 ·have HR:=Zh (HF1.out.trans (if_pos hz))
  have HZ:=Lib.hid' hz
  rw [errV_pos hz]
  clear hz HF1
  go_wp2_with fail
  go_ret
  rw [HR.out]
  exact ⟨by rw [errV_pos HZ.out];rfl,ClAt.less (K:=[_]) H4.out⟩
def Cl.has (M:Cl) (u:Int):Nat:=if inB u ((M.us.length:Int) - 1)=true then 0 else 1
/-- where the cluster has a unit's disk, and its shelf -/
theorem ClAt.rows {c:Nat} {M:Cl} {J:CJ} {L:List Asn} {W w:World} (h:ClAt c M J L W w):∃ a k,w.cell? ⟨c,0,none⟩=some (.slice a M.us.length k)∧c<w.heap.size:=by
 obtain ⟨P,rfl,hP,H⟩:=h
 have h0:=H.row 2 rfl
 have hl:P.Us.length=M.us.length:=by rw [←hP.us,List.length_map]
 obtain ⟨a,k,hv,_⟩:=SlV.of_own h0
 have c0:=H.cell 0 rfl 0 rfl
 rw [hv,hl] at c0
 exact ⟨a,k,c0,H.lt 0 rfl⟩
set_option maxHeartbeats 2000000 in
theorem has_any {c:Nat} {M:Cl} {J:CJ} {L:List Asn} {W:World} (u:Int) (w:World) (h:ClAt c M J L W w) (hm:M.us.length≤8) :
  Calls Tryz.prog 124 #[ptrV c,.int .i64 u] w fun e w'=>e=.returned (errV (M.has u))∧w=w':=by
 obtain ⟨a,k,c0,hl⟩:=h.rows
 have HF:=Zh (show M.has u=if inB u ((M.us.length:Int) - 1)=true then 0 else 1 from rfl)
 clear h
 generalize M.us.length=n at *
 go_enter Tryz.func124, Tryz.ntmps124
 go_wp2_with fail
 refine (in2_any u ((n:Int) - 1) _).mono ?_
 rintro en wz ⟨rfl,rfl⟩
 by_cases hin:inB u ((n:Int) - 1)=true
 ·rw [if_pos hin] at HF
  rw [hin]
  clear hin
  go_wp2_with fail
  go_ret
  rw [HF.out]
  exact ⟨rfl,rfl⟩
 ·rw [if_neg hin] at HF
  rw [show inB u ((n:Int) - 1)=false by simpa using hin]
  clear hin
  go_wp2_with fail
  go_ret
  rw [HF.out]
  exact ⟨rfl,rfl⟩
theorem unI_none {N:Nat} {Q:Option Nat} {D:Dk} {vs:PoolL} {K:List Asn} (h:unI N Q ⟨D,none⟩ vs K):Q=none:=by
 cases Q with
 | none=>rfl
 | some q=>exact (show False from h).elim
@[go_sem] theorem neq_shelf_nil (w:World):(binOp .neq 149 (.pointer none) (.pointer none)).run Tryz.prog w=.ok (.bool false) w:=by kernel_rfl
@[go_sem] theorem neq_shelf_ptr (b:Nat) (w:World):(binOp .neq 149 (ptrV b) (.pointer none)).run Tryz.prog w=.ok (.bool true) w:=by kernel_rfl
end SL
end Go.Proofs.YtaodldbgikiekaaGreatDoor

namespace Go.Proofs.YtaodldbgikiekaaGreatDoor
namespace SL
open DK SH SQ
/-- what stays of a cluster while its sequencer only rises -/
structure Up (M M':Cl):Prop where
 us:M'.us.length=M.us.length
 p:M'.p=M.p
 qe:M'.q.e=M.q.e
 qn:M.q.n≤M'.q.n
 ok:M'.ok
theorem Up.refl {M:Cl} (h:M.ok):Up M M:=⟨rfl,rfl,rfl,Int.le_refl _,h⟩
theorem Up.trans {M N K:Cl} (h:Up M N) (g:Up N K):Up M K:=⟨g.us.trans h.us,g.p.trans h.p,g.qe.trans h.qe,Int.le_trans h.qn g.qn,g.ok⟩
theorem Up.of {M M':Cl} (h:Stay M M') (hok:M'.ok):Up M M':=⟨h.us,h.p,by rw [h.q],by rw [h.q];exact Int.le_refl _,hok⟩
theorem raise_up {M:Cl} (h:M.ok) (n:Int):Up M (M.raise n).2:=by
 refine ⟨rfl,rfl,?_,?_,h.seqTo h.seq.raise⟩
 ·show (M.q.raise M.p.e n).2.e=M.q.e
  unfold Q.raise;split<;>rfl
 ·show M.q.n≤(M.q.raise M.p.e n).2.n
  unfold Q.raise
  split
  ·exact Int.le_refl _
  ·show M.q.n≤(if n≤M.q.n then M.q.n else n)
   split<;>omega
theorem allS_stay {M:Cl} (hok:M.ok) {f:Cl→Int→Nat×Cl} (hf:∀ s u,(Stay M s∧s.ok)→(Stay M (f s u).2∧(f s u).2.ok)) (l:List Int):Stay M (allC f l M).2∧(allC f l M).2.ok :=
 allC_inv (I:=fun s=>Stay M s∧s.ok) (fun s u _ h=>hf s u h) ⟨Stay.refl M,hok⟩
theorem spread_up {M:Cl} (h:M.ok) (l:List Int) (a:Int) (x:C):Up M (M.spread l a x).2:=by
 have h1:=allS_stay h (f:=Cl.putS a x) (fun s u hs=>⟨hs.1.put _ _ _ _,putC_ok hs.2 _ _ _ _⟩) l
 unfold Cl.spread
 split
 ·exact Up.of h1.1 h1.2
 ·exact (Up.of h1.1 h1.2).trans (raise_up h1.2 _)
theorem putAt_up {M:Cl} (h:M.ok) (a:Int) (x:C):Up M (M.putAt a x).2:=by
 unfold Cl.putAt
 split
 ·exact Up.refl h
 ·split
  ·exact Up.refl h
  ·split
   ·exact Up.refl h
   ·exact spread_up h _ _ _
theorem trim_up {M:Cl} (h:M.ok) (b:Int):Up M (M.trim b).2:=by
 have h1:=allS_stay h (f:=Cl.trimS M.p.e b) (fun s u hs=>⟨hs.1.do _ _,hs.2.do _ _⟩) M.units
 unfold Cl.trim
 split
 ·exact Up.refl h
 ·split
  ·exact Up.of h1.1 h1.2
  ·exact (Up.of h1.1 h1.2).trans (raise_up h1.2 _)
/-- between two acts: the sequencer is of the projection's epoch, the last address lies below it -/
structure Ris (M:Cl) (last:Int):Prop where
 ok:M.ok
 e:M.q.e=M.p.e
 lo:-1≤last
 hi:last<M.q.n
theorem Ris.tail {M:Cl} {last:Int} (h:Ris M last):M.tail=(0,M.q.n):=by
 unfold Cl.tail Q.tail Q.asks
 rw [h.e]
 simp
end SL
end Go.Proofs.YtaodldbgikiekaaGreatDoor

namespace Go.Proofs.YtaodldbgikiekaaGreatDoor
open Go.RowKit
namespace SL
open DK SH SQ
/-- an act of law 13, with where its rows lie -/
structure A13 where
 k:Int
 u:Int
 a:Int
 c:C
 da:Option Addr
 dc:Nat
 ks:List Bool
 ka:Option Addr
 kc:Nat
 sp:List Int
 sa:Option Addr
 sc:Nat
def a13V (x:A13):List Value:=[.int .i64 x.k,.int .i64 x.u,.int .i64 x.a,.int .i64 x.c.k,.slice x.da x.c.d.length x.dc,.slice x.ka x.ks.length x.kc,.slice x.sa x.sp.length x.sc]
structure A13At (w:World) (x:A13):Prop where
 d:Bytes w (.slice x.da x.c.d.length x.dc) x.c.d
 ks:SlV w (.slice x.ka x.ks.length x.kc) x.ks.length (bools x.ks)
 sp:Zs w (.slice x.sa x.sp.length x.sc) x.sp
 a:-9223372036854775808≤x.a∧x.a<9223372036854775808
theorem A13At.below {w w':World} {x:A13} (h:A13At w x) (hb:Below w.heap.size w w'):A13At w' x:=⟨SlV.below h.d (Nat.le_refl _) hb,SlV.below h.ks (Nat.le_refl _) hb,SlV.below h.sp (Nat.le_refl _) hb,h.a⟩
structure A13L (w:World) (a:Option Addr) (c:Nat) (X:List A13):Prop where
 row:SlV w (.slice a X.length c) X.length (X.flatMap a13V)
 each:∀ x∈X,A13At w x
theorem A13L.below {w w':World} {a:Option Addr} {c:Nat} {X:List A13} (h:A13L w a c X) (hb:Below w.heap.size w w'):A13L w' a c X:=⟨SlV.below h.row (Nat.le_refl _) hb,fun x hx=>(h.each x hx).below hb⟩
theorem A13L.len {w:World} {a:Option Addr} {c:Nat} {X:List A13} (h:A13L w a c X):X.length≤9223372036854775807:=by
 obtain ⟨_,_,he,h1,h2,_⟩:=h.row;cases he;unfold maxLen at h2;omega
theorem slv_le {w:World} {a:Option Addr} {n c:Nat} {xs:List Value} (h:SlV w (.slice a n c) n xs):n≤9223372036854775807:=by
 obtain ⟨_,_,he,h1,h2,_⟩:=h;cases he;unfold maxLen at h2;omega
def big13 (x:A13):Bool:=decide (100<x.c.d.length)||decide (60<x.ks.length)||decide (12<x.sp.length)
def long13 (X:List A13) (most:Nat):Bool:=X.any big13||decide (most<X.length)
set_option maxHeartbeats 4000000 in
theorem long13_any (X:List A13) (most:Nat) (hmost:most≤1000) (a:Option Addr) (c:Nat) (W:World) (h:A13L W a c X) :
  Calls Tryz.prog 6 #[.slice a X.length c,.int .i64 most] W fun e w'=>e=.returned (.bool (long13 X most))∧Below W.heap.size W w':=by
 have HS:=Lib.hid' h
 have hlen:=h.len
 clear h
 go_enter Tryz.func6, Tryz.ntmps6
 go_wp2_with fail
 go_loopw [9] (fun v9 wr=>∃ k:Nat,v9=.int .i64 k∧k≤X.length∧(X.take k).any big13=false∧Below W.heap.size W wr) (fun v9 _=>X.length - (intOf v9).toNat)
 case atStart=>exact ⟨0,rfl,Nat.zero_le _,by simp,Below.refl _ _⟩
 case round =>
  obtain ⟨k,rfl,hk,hno,hbw⟩:=hrel
  have HNO:=Lib.hid' hno
  have HBW:=Lib.hid' hbw
  clear hno hbw
  by_cases hlt:k<X.length
  ·obtain ⟨hsl,hby⟩:=HS.out.below HBW.out
   obtain ⟨b,off,rfl,hb,hc⟩:=SlV.row (s:=7) (fun _=>rfl) (by decide) hsl hlt
   have c0:=hc 0 _ rfl;have c1:=hc 1 _ rfl;have c2:=hc 2 _ rfl;have c3:=hc 3 _ rfl;have c4:=hc 4 _ rfl;have c5:=hc 5 _ rfl;have c6:=hc 6 _ rfl
   simp only [Nat.add_zero] at c0
   have hat:=hby _ (List.getElem_mem hlt)
   have hd1:=slv_le hat.d;have hd2:=slv_le hat.ks;have hd3:=slv_le hat.sp
   have HTK:=Zh (take_any big13 X k hlt)
   have HMEM:=Zh (List.getElem_mem hlt)
   clear hc hsl hby hat
   generalize X[k]=x at *
   obtain ⟨xk,xu,xa,xc,da,dc,ks,ka,kc,sp,sa,sc⟩:=x
   simp only at c0 c1 c2 c3 c4 c5 c6 hd1 hd2 hd3
   by_cases hq:big13 ⟨xk,xu,xa,xc,da,dc,ks,ka,kc,sp,sa,sc⟩=true
   ·have HF:=Zh (show long13 X most=true by unfold long13;rw [List.any_eq_true.2 ⟨_,HMEM.out,hq⟩];rfl)
    have hqq:100<xc.d.length∨(¬100<xc.d.length∧60<ks.length)∨(¬100<xc.d.length∧¬60<ks.length∧12<sp.length):=by
     unfold big13 at hq
     simp only [Bool.or_eq_true,decide_eq_true_eq] at hq
     omega
    clear hq HTK HMEM
    rcases hqq with h1 | ⟨h1,h2⟩ | ⟨h1,h2,h3⟩
    all_goals
     go_wp2_with fail
     go_ret
     exact ⟨ret_eq (by rw [HF.out];rfl),HBW.out.trans ((show Below wr.heap.size wr _ by go_grown).mono HBW.out.size)⟩
   ·have HT:=Zh (show (X.take (k+1)).any big13=false by
     rw [HTK.out,HNO.out,show big13 ⟨xk,xu,xa,xc,da,dc,ks,ka,kc,sp,sa,sc⟩=false by simpa using hq];rfl)
    have hqq:¬100<xc.d.length∧¬60<ks.length∧¬12<sp.length:=by
     unfold big13 at hq
     simp only [Bool.or_eq_true,decide_eq_true_eq] at hq
     omega
    obtain ⟨h1,h2,h3⟩:=hqq
    clear HTK hq
    go_wp2_with fail
    go_roundw
    case rel=>exact ⟨k+1,by go_num,by omega,HT.out,HBW.out.trans ((show Below wr.heap.size wr _ by go_grown).mono HBW.out.size)⟩
    case measure=>simp [intOf];omega
  ·have HF:=Zh (show X.any big13=false by
    have:=HNO.out;rwa [List.take_of_length_le (by omega)] at this)
   by_cases hm:most<X.length
   ·have HM:=Lib.hid' hm
    go_wp2_with fail
    go_ret
    exact ⟨ret_eq (by unfold long13;rw [HF.out];simp [HM.out]),HBW.out⟩
   ·have HM:=Lib.hid' hm
    go_wp2_with fail
    go_ret
    exact ⟨ret_eq (by unfold long13;rw [HF.out];simp [HM.out]),HBW.out⟩
end SL
end Go.Proofs.YtaodldbgikiekaaGreatDoor

namespace Go.Proofs.YtaodldbgikiekaaGreatDoor
namespace SL
open DK SH SQ
/-- an act with a unit that has never failed: an act that has an error leaves no file -/
theorem Fine.act2 {r:Int} {k:Nat} {u:U} {x:Un} (h:Fine r k u x) (hk:k<512) (hr:(200*k+200:Nat)≤r) (a:Ac) :
  ∃ S D S' D',x=⟨D,some S⟩∧doS S D a=((apU u a).1,if (apU u a).1=0 then (apU u a).2.1 else 0,S',D')∧Fine r (if (apU u a).1=0 then k+1 else k) (if (apU u a).1=0 then (apU u a).2.2 else u) ⟨D',some S'⟩:=by
 by_cases hx:(apU u a).1=0
 ·rw [if_pos hx,if_pos hx,if_pos hx]
  have:=h.act hk hr a
  rw [if_pos hx,if_pos hx] at this
  exact this
 ·obtain ⟨n,L,rfl,h2,h3,h4,h5,h6⟩:=h
  refine ⟨⟨u,n,false⟩,⟨r,L,L,[],-1,false⟩,⟨u,n,false⟩,⟨r,L,L,[],-1,false⟩,rfl,?_,?_⟩
  ·rw [if_neg hx]
   show doS ⟨u,n,false⟩ _ a=_
   unfold doS
   rw [if_neg (by simp),if_pos hx]
  ·rw [if_neg hx,if_neg hx]
   exact ⟨n,L,rfl,h2,h3,h4,h5,h6⟩
theorem write_e (u:U) (e a:Int) (d:List UInt8):(u.write e a d).2.e=u.e:=by unfold U.write;(repeat' split)<;>rfl
theorem fill_e (u:U) (e a:Int):(u.fill e a).2.e=u.e:=by unfold U.fill;(repeat' split)<;>rfl
theorem trim_e (u:U) (e a:Int):(u.trim e a).2.e=u.e:=by unfold U.trim;(repeat' split)<;>rfl
theorem ucut_e (u:U) (e a:Int):(u.cut e a).2.2.e=u.e:=by unfold U.cut;(repeat' split)<;>rfl
theorem ap_e {u:U} {x:Ac} (h:x.k≠1):(apU u x).2.2.e=u.e:=by
 unfold apU
 split
 ·rfl
 ·split
  ·exact write_e _ _ _ _
  ·split
   ·exact fill_e _ _ _
   ·split
    ·exact trim_e _ _ _
    ·exact ucut_e _ _ _
/-- no unit has ever failed; each has had at most k acts; their epochs are the projection's -/
structure Live (r:Int) (k:Nat) (M:Cl):Prop where
 ok:M.ok
 e:M.q.e=M.p.e
 each:∀ (i:Nat) (x:Un),M.us[i]?=some x→∃ u,Fine r k u x∧u.e=M.p.e
theorem Live.mono {r:Int} {k m:Nat} {M:Cl} (h:Live r k M) (hk:k≤m):Live r m M:=⟨h.ok,h.e,fun i x hx=>by obtain ⟨u,h1,h2⟩:=h.each i x hx;exact ⟨u,h1.mono hk,h2⟩⟩
theorem putA_k (e a:Int) (x:C):(putA e a x).k≠1:=by unfold putA;split<;>simp
theorem Live.tail {r:Int} {k:Nat} {M:Cl} (h:Live r k M):M.tail=(0,M.q.n):=by
 unfold Cl.tail Q.tail Q.asks
 rw [h.e]
 simp
theorem Live.read {r:Int} {k:Nat} {M:Cl} (h:Live r k M) {a:Int} (h0:0≤a) (h1:a≤1048575):(M.read a).1=0:=by
 obtain ⟨i,hi,_,hg⟩:=home_at (M:=M) (pj_ok h.ok.proj) h0
 have hl:=((pj_ok h.ok.proj).each _ (List.mem_of_getElem? hg))
 have hin:inB a 1048575=true:=inB_iff.2 ⟨h0,h1⟩
 unfold Cl.read
 rw [if_neg (by rw [hin];decide)]
 obtain ⟨v,hv⟩:∃ v,(M.home a).getLast?=some v:=by
  cases hq:(M.home a).getLast? with
  | some v=>exact ⟨v,rfl⟩
  | none=>rw [List.getLast?_eq_none_iff] at hq;rw [hq] at hl;simp at hl
 rw [hv]
 have hm:v∈M.p.all:=List.mem_flatten.2 ⟨_,List.mem_of_getElem? hg,List.mem_of_getLast? hv⟩
 have hb:=h.ok.there v hm
 have hlt:v.toNat<M.us.length:=by omega
 obtain ⟨u,hF,he⟩:=h.each v.toNat _ (List.getElem?_eq_getElem hlt)
 obtain ⟨S,D,hx,hr⟩:=hF.read
 show (M.readU v.toNat M.p.e a).1=0
 unfold Cl.readU
 rw [List.getElem?_eq_getElem hlt,hx]
 show (readS S D M.p.e a).1=0
 rw [hr]
 unfold U.read
 have:u.asks M.p.e (inR a 1048575)=0:=by
  unfold U.asks U.cur inR
  rw [he]
  simp [h0,h1]
 rw [if_neg (by rw [this];decide)]
theorem add_fine {r:Int} (h:400≤r∧r≤1073741824) (M:Cl):∃ x,Fine r 1 u1 x∧Sd x.d∧M.add r=(0,{ M with us:=M.us++[x]}):=by
 obtain ⟨S,D,S',D',hx,e,hF⟩:=(Fine.new r).act (by decide) (by omega) sealA
 have ha:(apU U.new sealA).1=0∧(apU U.new sealA).2.2=u1:=ap1
 have hsd:Sd D':=by
  have h2:=Sd.doS (D:=D) (S:=S) (by have:newD r=D:=congrArg Un.d hx;rw [←this];exact Sd.new ⟨by omega,h.2⟩) sealA
  rw [e] at h2;exact h2
 rw [ha.1,ha.2] at hF
 simp only [if_pos] at hF
 refine ⟨_,hF,hsd,?_⟩
 have hd:M.grow (newU r)={ M with us:=M.us++[⟨D,some S⟩]}:=by
  unfold Cl.grow newU
  rw [hx]
 unfold Cl.add
 rw [if_neg (by omega),hd]
 have hg:({ M with us:=M.us++[⟨D,some S⟩]}:Cl).us[M.us.length]?=some ⟨D,some S⟩:=by
  show (M.us++[⟨D,some S⟩])[M.us.length]?=_
  simp
 show (((({ M with us:=M.us++[⟨D,some S⟩]}:Cl).do M.us.length sealA).1,(({ M with us:=M.us++[⟨D,some S⟩]}:Cl).do M.us.length sealA).2.2):Nat×Cl)=_
 rw [do_on (u:=M.us.length) sealA hg,e]
 rw [ha.1]
 show ((0:Nat),({ M with us:=M.us++[⟨D,some S⟩]}:Cl).put M.us.length _)=_
 unfold Cl.put
 simp
theorem addN_fine {r:Int} (h:400≤r∧r≤1073741824):∀ (k:Nat) (M:Cl),∃ xs:List Un,xs.length=k∧(∀ x∈xs,Fine r 1 u1 x∧Sd x.d)∧Cl.addN r k M=(0,{ M with us:=M.us++xs })
 | 0,M=>⟨[],rfl,by simp,by simp [Cl.addN]⟩
 | k+1,M=>by
  obtain ⟨x,h1,h2,e⟩:=add_fine h M
  obtain ⟨xs,h3,h4,e2⟩:=addN_fine h k { M with us:=M.us++[x]}
  refine ⟨x::xs,by simp [h3],fun y hy=>?_,?_⟩
  ·rcases List.mem_cons.1 hy with rfl | hy
   ·exact ⟨h1,h2⟩
   ·exact h4 y hy
  ·rw [addN_step (by rw [e]),e,e2]
   simp
theorem new_live {r:Int} (h:400≤r∧r≤1073741824) {n:Int} {X:List (List Int)} (hn:1≤n∧n≤8) (hc:(⟨1,X⟩:Pj).check=0) (hu:∀ u∈(⟨1,X⟩:Pj).all,0≤u∧u<n) :
  ∃ M,newCl n r X=(0,M)∧Live r 1 M∧M.p=⟨1,X⟩∧M.q=⟨1,0⟩∧M.us.length=n.toNat:=by
 obtain ⟨xs,h1,h2,e⟩:=addN_fine h n.toNat (cl0 X)
 have e':Cl.addN r n.toNat (cl0 X)=(0,⟨xs,⟨1,X⟩,⟨0,0⟩⟩):=by rw [e];unfold cl0;simp
 refine ⟨⟨xs,⟨1,X⟩,⟨1,0⟩⟩,?_,⟨⟨hc,by show xs.length≤8;omega,fun u hm=>?_,⟨by show (0:Int)≤1∧(1:Int)≤_;decide,by show (0:Int)≤0∧(0:Int)≤_;decide⟩,fun x hx=>(h2 x hx).2⟩,rfl,fun i x hx=>⟨u1,(h2 x (List.mem_of_getElem? hx)).1,rfl⟩⟩,rfl,rfl,h1⟩
 ·unfold newCl
  rw [if_neg (by omega),if_neg (by rw [hc];decide),if_neg,e']
  ·rfl
  ·rw [List.any_eq_true]
   rintro ⟨u,hm,hd⟩
   have:=hu u ((unitsOf_mem u _).1 hm)
   have:n≤u:=by simpa using hd
   omega
 ·have:=hu u hm
  show 0≤u∧u<(xs.length:Int)
  rw [h1]
  omega
end SL
end Go.Proofs.YtaodldbgikiekaaGreatDoor

namespace Go.Proofs.YtaodldbgikiekaaGreatDoor
open Go.RowKit
namespace SL
open DK SH SQ
/-- a unit's epoch; none: 0 -/
def Cl.epochU (M:Cl) (u:Int):Int:=match M.us[u.toNat]? with
 | some ⟨_,some S⟩=>S.u.e
 | _=>0
def Cl.maxE (M:Cl) (l:List Int) (e:Int):Int:=l.foldl (fun e u=>max e (M.epochU u)) e
def Cl.later (M:Cl) (l:List Int):Int:=M.maxE l M.p.e+1
/-- a unit that is on, apart -/
theorem ClAt.unitOf {c:Nat} {M:Cl} {J:CJ} {L:List Asn} {W w:World} (h:ClAt c M J L W w) {u:Nat} {D:Dk} {S:Sf} (hon:M.us[u]?=some ⟨D,some S⟩):∃ g n cap q,w.cell? ⟨c,1,none⟩=some (.slice (some ⟨g,0,none⟩) n cap)∧u<n∧g<w.heap.size∧w.cell? ⟨g,u,none⟩=some (ptrV q) ∧
  ∀ wq,Below w.heap.size w wq→Calls Tryz.prog 125 #[ptrV q] wq (fun e w'=>∃ bu bm us A,e=.returned (ptrV bu)∧ClAt c M J (.unit bu bm S.u us::L) W w'∧UnitAt A w' bu bm S.u):=by
 obtain ⟨P,rfl,hP,H⟩:=h
 have hu:u<M.us.length:=(List.getElem?_eq_some_iff.1 hon).1
 obtain ⟨y,hy,hus,⟨g,n,cap,hsv,hun,hgl,hgc⟩,_⟩:=cl_at hP H hu
 have c1:=H.cell 0 rfl 1 rfl
 rw [hsv] at c1
 obtain ⟨N,Q,⟨D',s⟩,G⟩:=y
 rw [hon] at hus
 cases hus
 obtain ⟨q,rfl⟩:∃ q,Q=some q:=by
  cases Q with
  | some q=>exact ⟨q,rfl⟩
  | none=>have h2:=cl_off hy rfl H;cases h2
 obtain ⟨S',hS,hsh,hback⟩:=cl_on hP hy rfl H
 cases hS
 refine ⟨g,n,cap,q,c1,hun,hgl,hgc,fun wq hb=>?_⟩
 refine (kunit_any wq (hsh.below hb)).mono ?_
 rintro e w' ⟨bu,bm,us,rfl,hs,h2⟩
 have h3:=hback S D us w' [.unit bu bm S.u us] hs h2
 rw [show M.put u ⟨D,some S⟩=M by unfold Cl.put;rw [set_same hon]] at h3
 obtain ⟨G1,G2,Z,h4⟩:=h2
 exact ⟨bu,bm,us,_,rfl,h3,Sep.unitAt (show Sep W NoF [Asn.unit bu bm S.u us,Asn.pool Z us] w' from h4.pick [3,2] (by decide) rfl)⟩
/-- a unit's low mark; none: 0 -/
def Cl.lowU (M:Cl) (u:Int):Int:=match M.us[u.toNat]? with
 | some ⟨_,some S⟩=>S.u.l
 | _=>0
theorem ClAt.permL {c:Nat} {M:Cl} {J:CJ} {L L':List Asn} {W w:World} (h:ClAt c M J L W w) (hp:L.Perm L'):ClAt c M J L' W w:=by
 obtain ⟨P,hJ,hP,H⟩:=h
 refine ⟨P,hJ,hP,H.perm ?_⟩
 unfold clL
 exact (((hp.append_left _).cons _).append_left _)
theorem nilsh_unit (w:World):Calls Tryz.prog 125 #[.pointer none] w fun e w'=>e=.returned (.pointer none)∧w=w':=by
 go_enter Tryz.func125, Tryz.ntmps125
 go_wp2_with fail
 go_ret
 exact ⟨rfl,rfl⟩
theorem nilun_low (w:World):Calls Tryz.prog 84 #[.pointer none] w fun e w'=>e=.returned (.int .i64 0)∧w=w':=by
 go_enter Tryz.func84, Tryz.ntmps84
 go_wp2_with fail
 go_ret
 exact ⟨rfl,rfl⟩
/-- a unit's copy, and its low mark -/
def UnitR (c:Nat) (M:Cl) (J:CJ) (L:List Asn) (W:World) (u:Int) (e:Ending) (w':World):Prop:=∃ v,e=.returned v∧ClAt c M J L W w'∧Calls Tryz.prog 84 #[v] w' (fun e w''=>e=.returned (.int .i64 (M.lowU u))∧w'=w'')
set_option maxHeartbeats 4000000 in
theorem Unit_any {c:Nat} {M:Cl} {J:CJ} {L:List Asn} {W:World} (u:Int) (w:World) (h:ClAt c M J L W w) (hm:M.us.length≤8) (hu:0≤u∧u<(M.us.length:Int)) :
  Calls Tryz.prog 83 #[ptrV c,.int .i64 u] w (UnitR c M J L W u):=by
 have HH:=Zh (has_any u w h hm)
 obtain ⟨k,rfl⟩:∃ k:Nat,u=k:=⟨u.toNat,by omega⟩
 have hz:M.has (k:Int)=0:=by unfold Cl.has;rw [if_pos (inB_iff.2 ⟨hu.1,by omega⟩)]
 rw [hz] at HH
 have hlt:k<M.us.length:=by omega
 cases hus:M.us[k]? with
 | none=>rw [List.getElem?_eq_none_iff] at hus;omega
 | some x =>
 obtain ⟨D,s⟩:=x
 cases s with
 | some S =>
  have hlo:M.lowU (k:Int)=S.u.l:=by unfold Cl.lowU;rw [Int.toNat_natCast,hus]
  obtain ⟨g,n,cap,q,c1,hgn,hgl,hgc,HUN⟩:=h.unitOf hus
  have HUNh:=Zh (HUN w (Below.refl _ _))
  have cl:=h.c2.2
  have HLO:=Lib.hid' hlo
  clear h hm hu hz hlt hus hlo HUN
  go_enter Tryz.func83, Tryz.ntmps83
  go_wp2_with fail
  refine HH.out.mono ?_
  rintro en wz ⟨rfl,rfl⟩
  rw [errV_0]
  go_wp2_with fail
  refine HUNh.out.mono ?_
  rintro en w2 ⟨bu,bm,us,A,rfl,h2,hU⟩
  have H2:=Zh (show UnitR c M J L W (k:Int) (.returned (ptrV bu)) w2 from ⟨_,rfl,ClAt.less (K:=[_]) h2,by rw [HLO.out];exact low_any w2 hU⟩)
  clear h2 hU HUNh c1 cl hgl hgc HH HLO
  go_wp2_with fail
  go_ret
  exact H2.out
 | none =>
  have hlo:M.lowU (k:Int)=0:=by unfold Cl.lowU;rw [Int.toNat_natCast,hus]
  have H0:=Lib.hid' h
  obtain ⟨P,rfl,hP,H⟩:=h
  obtain ⟨y,hy,hus',⟨g,n,cap,hsv,hun,hgl,hgc⟩,_⟩:=cl_at hP H hlt
  have c1:=H.cell 0 rfl 1 rfl;have cl:=H.lt 0 rfl
  rw [hsv] at c1
  obtain ⟨N,Q,⟨D',s⟩,G⟩:=y
  rw [hus] at hus'
  cases hus'
  obtain ⟨K,hI,_⟩:=(cl_pull hy H).unpack
  obtain rfl:=unI_none hI
  have hgc2:w.cell? ⟨g,k,none⟩=some (.pointer none):=hgc
  have c12:w.cell? ⟨c,1,none⟩=some (.slice (some ⟨g,0,none⟩) n cap):=c1
  have HR:=Zh (show UnitR c M P.J L W (k:Int) (.returned (.pointer none)) w from ⟨_,rfl,H0.out,by rw [hlo];exact nilun_low w⟩)
  clear hm hu hz hlt hus hlo hP H hy hgc c1 hI H0 hsv
  go_enter Tryz.func83, Tryz.ntmps83
  go_wp2_with fail
  refine HH.out.mono ?_
  rintro en wz ⟨rfl,rfl⟩
  rw [errV_0]
  go_wp2_with fail
  refine (nilsh_unit _).mono ?_
  rintro en wz ⟨rfl,rfl⟩
  go_wp2_with fail
  go_ret
  exact HR.out
/-- a cluster's projection, apart, and its units -/
theorem Projection_any {c:Nat} {M:Cl} {J:CJ} {L:List Asn} {W:World} (w:World) (h:ClAt c M J L W w) (hok:M.ok) :
  Calls Tryz.prog 82 #[ptrV c] w fun en w'=>∃ a k Ks,en=.returned (.agg #[.int .i64 M.p.e,.slice a Ks.length k])∧Chs w' a k Ks∧Ks.map (·.1)=M.p.cs∧Below w.heap.size w w':=by
 obtain ⟨hX,_,c3⟩:=h.chs
 obtain ⟨c2,cl⟩:=h.c2
 have hcs:=h.csOf
 have hpj:=pj_ok hok.proj
 have hn:J.Ks.length=M.p.cs.length:=by rw [←hcs,List.length_map]
 have HC:=Zh (fun wq (hb:Below w.heap.size w wq)=>pcopy_any M.p.e J.a J.c J.Ks wq (hX.below (Nat.le_refl _) hb) (by have:=hpj.n;omega) (fun x hx=>by
  have:=(hpj.each x.1 (by rw [←hcs];exact List.mem_map_of_mem (f:=(·.1)) hx)).2;omega))
 have hs1:Sep w NoF [.box w.heap.size [.int .i64 0,.slice none 0 0] 74] (w.alloc (.cells #[.int .i64 0,.slice none 0 0] 74)):=(Sep.start w).allocAt w.heap.size [.int .i64 0,.slice none 0 0] 74 rfl
 obtain ⟨w1,hw1⟩:∃ w1,w.alloc (.cells #[.int .i64 0,.slice none 0 0] 74)=w1:=⟨_,rfl⟩
 rw [hw1] at hs1
 have H1:=Zh (h.below hs1.toBelow)
 have HS:=Lib.hid' hs1
 have HCS:=Lib.hid' hcs
 clear h hX c3 c2 cl hcs hpj hn hs1 hok
 go_enter Tryz.func82, Tryz.ntmps82
 go_upto_region 1 with fail
 try rw [hw1]
 clear hw1
 obtain ⟨_,_,c3⟩:=H1.out.chs
 obtain ⟨c2,cl⟩:=H1.out.c2
 have sl:=HS.out.lt 0 rfl
 go_wp2_with fail
 refine (HC.out _ HS.out.toBelow).mono ?_
 rintro en w2 ⟨a2,k2,K2,rfl,hJ2,hK2,hb2⟩
 rw [show pjV M.p.e a2 k2 K2=.agg #[.int .i64 M.p.e,.slice a2 K2.length k2] from rfl]
 have HK:=Zh (hK2.trans HCS.out)
 have HJ:=Lib.hid' hJ2
 have hs2:=HS.out.below hb2
 have HS2:=Lib.hid' hs2
 have f0:=hs2.free 0 rfl 0;have f1:=hs2.free 0 rfl 1;have q0:=hs2.cell 0 rfl 0 rfl;have q1:=hs2.cell 0 rfl 1 rfl;have sl2:=hs2.lt 0 rfl
 clear hJ2 hK2 hb2 hs2 c3 c2 cl sl HC
 go_wp2_with fail
 have h3:=(HS2.out.set 0 rfl 0 (.int .i64 M.p.e)).set 0 rfl 1 (.slice a2 K2.length k2)
 have hf:Fr (fun k=>k=w.heap.size) w2 ((w2.setCell ⟨w.heap.size,0,none⟩ (.int .i64 M.p.e)).setCell ⟨w.heap.size,1,none⟩ (.slice a2 K2.length k2)):=Fr.setH (Fr.setH (Fr.refl (fun k=>k=w.heap.size) w2) (show (fun k=>k=w.heap.size) w.heap.size from rfl) 0 _) (show (fun k=>k=w.heap.size) w.heap.size from rfl) 1 _
 have hl:=HS.out.lt 0 rfl
 have HX:=Zh ((HJ.out.fr hf (fun k hk=>by omega)).chs)
 have r0:=h3.cell 0 rfl 0 rfl;have r1:=h3.cell 0 rfl 1 rfl
 have HB:=Lib.hid' h3.toBelow
 clear h3 hf hl q0 q1 f0 f1 sl2 HS2
 generalize (w2.setCell ⟨w.heap.size,0,none⟩ (.int .i64 M.p.e)).setCell ⟨w.heap.size,1,none⟩ (.slice a2 K2.length k2)=w4 at *
 refine bodyPost_ret (v:=.agg #[.int .i64 M.p.e,.slice a2 K2.length k2]) (by simp [results,Tryz.results82,go_sem,r0,r1]) rfl ?_
 exact ⟨a2,k2,K2,rfl,HX.out,HK.out,HB.out⟩
theorem shin_any (x m:Int) (w:World):Calls Tryz.prog 39 #[.int .i64 x,.int .i64 m] w fun e w'=>e=.returned (.bool (inB x m))∧w=w':=by
 have HB:=Zh (show inB x m=(decide (0≤x)&&decide (x≤m)) from rfl)
 by_cases h0:0≤x
 ·by_cases h1:x≤m
  ·go_enter Tryz.func39, Tryz.ntmps39
   go_wp2
   go_ret
   rw [HB.out]
   exact ⟨by simp [h0,h1],rfl⟩
  ·go_enter Tryz.func39, Tryz.ntmps39
   go_wp2
   go_ret
   rw [HB.out]
   exact ⟨by simp [h0,h1],rfl⟩
 ·go_enter Tryz.func39, Tryz.ntmps39
  go_wp2
  go_ret
  rw [HB.out]
  exact ⟨by simp;omega,rfl⟩
/-- a shipper: its epoch, up to where all was applied -/
structure Sp where
 e:Int
 a:Int
abbrev _root_.Go.Proofs.YtaodldbgikiekaaGreatDoor.Asn.ship (s:Nat) (p:Sp):Asn:=.box s [.int .i64 p.e,.int .i64 p.a] 94
/-- a shipper is made -/
def NewSp (e a:Int) (w:World) (en:Ending) (w':World):Prop:=if inB e 1099511627776=false∨inB a 1048576=false then en=.returned (.tuple #[.pointer none,errV 1])∧w=w' else en=.returned (.tuple #[ptrV w.heap.size,.nilIface])∧Sep w NoF [Asn.ship w.heap.size ⟨e,a⟩] w'
set_option maxHeartbeats 4000000 in
theorem snew_any (e a:Int) (w:World):Calls Tryz.prog 15 #[.int .i64 e,.int .i64 a] w (NewSp e a w):=by
 have HN:=fun en w'=>Zh (show NewSp e a w en w'=if inB e 1099511627776=false∨inB a 1048576=false then en=.returned (.tuple #[.pointer none,errV 1])∧w=w' else en=.returned (.tuple #[ptrV w.heap.size,.nilIface])∧Sep w NoF [Asn.ship w.heap.size ⟨e,a⟩] w' from rfl)
 cases hi1:inB e 1099511627776 with
 | false =>
  have HR:=fun en w'=>Zh ((HN en w').out.trans (if_pos (.inl hi1)))
  go_enter Tryz.func15, Tryz.ntmps15
  go_wp2_with (go_at_call 39;refine (shin_any _ _ _).mono ?_;rintro en w' ⟨rfl,rfl⟩)
  go_ret2
  rw [(HR _ _).out]
  exact ⟨rfl,rfl⟩
 | true =>
  cases hi2:inB a 1048576 with
  | false =>
   have HR:=fun en w'=>Zh ((HN en w').out.trans (if_pos (.inr hi2)))
   go_enter Tryz.func15, Tryz.ntmps15
   go_wp2_with (go_at_call 39;refine (shin_any _ _ _).mono ?_;rintro en w' ⟨rfl,rfl⟩)
   go_ret2
   rw [(HR _ _).out]
   exact ⟨rfl,rfl⟩
  | true =>
   have HR:=fun en w'=>Zh ((HN en w').out.trans (if_neg (by rw [hi1,hi2];decide)))
   have hs1:Sep w NoF [.box w.heap.size [.int .i64 e,.int .i64 0] 94] (w.alloc (.cells #[.int .i64 e,.int .i64 0] 94)):=(Sep.start w).allocAt w.heap.size [.int .i64 e,.int .i64 0] 94 rfl
   have HS1:=Lib.hid' hs1
   have HS2:=Zh (hs1.set 0 rfl 1 (.int .i64 a))
   clear hs1
   go_enter Tryz.func15, Tryz.ntmps15
   go_upto_region 4 with (go_at_call 39;refine (shin_any _ _ _).mono ?_;rintro en w' ⟨rfl,rfl⟩)
   generalize w.alloc (.cells #[.int .i64 e,.int .i64 0] 94)=w1 at *
   generalize w.heap.size=N at *
   have sl:=HS1.out.lt 0 rfl
   go_wp2_with fail
   refine (astore_any (o:=1) _ (HS1.out.cell 0 rfl 1 rfl) (HS1.out.free 0 rfl 1)).mono ?_
   rintro en w2 ⟨rfl,rfl⟩
   go_wp2_with fail
   go_ret2
   rw [(HR _ _).out]
   exact ⟨rfl,HS2.out⟩
theorem sacked_any {s:Nat} {a:Int} (w:World) (c1:w.cell? ⟨s,1,none⟩=some (.int .i64 a)) (sl:s<w.heap.size):Calls Tryz.prog 10 #[ptrV s] w fun e w'=>e=.returned (.int .i64 a)∧w=w':=by
 have C1:=Lib.hid' c1
 clear c1
 go_enter Tryz.func10, Tryz.ntmps10
 go_wp2_with fail
 refine (aload_any (o:=1) _ C1.out).mono ?_
 rintro en wz ⟨rfl,rfl⟩
 go_wp2_with fail
 go_ret
 exact ⟨rfl,rfl⟩
/-- a receipt is taken -/
def takeSp (p:Sp) (e a:Int):Nat×Sp:=if inB a 1048576=false then (1,p) else if e≠p.e then (7,p) else (0,if a≤p.a then p else ⟨p.e,a⟩)
set_option maxHeartbeats 8000000 in
theorem stake_any {c:Nat} {M:Cl} {J:CJ} {L:List Asn} {W:World} {s:Nat} (p:Sp) (e a:Int) (w:World) (h:ClAt c M J (Asn.ship s p::L) W w) :
  Calls Tryz.prog 56 #[ptrV s,.agg #[.int .i64 e,.int .i64 a]] w fun en w'=>en=.returned (errV (takeSp p e a).1)∧ClAt c M J (Asn.ship s (takeSp p e a).2::L) W w':=by
 have HT:=Zh (show takeSp p e a=if inB a 1048576=false then (1,p) else if e≠p.e then (7,p) else (0,if a≤p.a then p else ⟨p.e,a⟩) from rfl)
 have h1:=h.allocB w.heap.size [.int .i64 e,.int .i64 a] 59 rfl
 obtain ⟨w1,hw1⟩:∃ w1,w.alloc (.cells #[.int .i64 e,.int .i64 a] 59)=w1:=⟨_,rfl⟩
 rw [show ([.int .i64 e,.int .i64 a]:List Value).toArray=#[.int .i64 e,.int .i64 a] from rfl,hw1] at h1
 have H1:=Lib.hid' h1
 obtain ⟨pe,pa⟩:=p
 clear h h1
 go_enter Tryz.func56, Tryz.ntmps56
 go_upto_region 1 with fail
 try rw [hw1]
 clear hw1
 have r0:=H1.out.side.cell 0 rfl 0 rfl;have r1:=H1.out.side.cell 0 rfl 1 rfl;have rl:=H1.out.side.lt 0 rfl
 have s0:=H1.out.side.cell 1 rfl 0 rfl;have sl:=H1.out.side.lt 1 rfl
 generalize w.heap.size=N at *
 cases hi1:inB a 1048576 with
 | false =>
  have HR:=Zh (HT.out.trans (if_pos hi1))
  clear HT
  go_wp2_with (go_at_call 39;refine (shin_any _ _ _).mono ?_;rintro en w' ⟨rfl,rfl⟩)
  go_ret
  rw [HR.out]
  exact ⟨rfl,ClAt.less (K:=[_]) H1.out⟩
 | true =>
 have HT1:=Zh (HT.out.trans (if_neg (by rw [hi1];decide)))
 clear HT
 by_cases he:e=pe
 rotate_left
 ·have HR:=Zh (HT1.out.trans (if_pos he))
  clear HT1
  go_upto_region 5 with (go_at_call 39;refine (shin_any _ _ _).mono ?_;rintro en w' ⟨rfl,rfl⟩)
  refine startD (S:=(fun w'=>w'.cell? ⟨N,0,none⟩=some (.int .i64 e)∧w'.cell? ⟨s,0,none⟩=some (.int .i64 pe)∧N<w'.heap.size∧s<w'.heap.size)) (by kernel_rfl) ⟨r0,s0,rl,sl⟩ (fun hH0=>?_)
  simp only [List.length_cons,List.length_nil,Nat.reduceAdd,List.replicate_succ,List.replicate_zero]
  refine tD 0 17 (.pointer (some ⟨N,0,none⟩)) rfl rfl [(3,.pointer (some ⟨N,0,none⟩))] hH0 ?_
  dsimp only [sZ,sS]
  refine tD 1 18 (.int .i64 e) rfl rfl [(17,.pointer (some ⟨N,0,none⟩))] hH0 ?_
  dsimp only [sZ,sS]
  refine tD 2 19 (.pointer (some ⟨s,0,none⟩)) rfl rfl [(0,.pointer (some ⟨s,0,none⟩))] hH0 ?_
  dsimp only [sZ,sS]
  refine tD 3 20 (.pointer (some ⟨s,0,none⟩)) rfl rfl [(19,.pointer (some ⟨s,0,none⟩))] hH0 ?_
  dsimp only [sZ,sS]
  refine tD 4 21 (.pointer (some ⟨s,0,none⟩)) rfl rfl [(20,.pointer (some ⟨s,0,none⟩))] hH0 ?_
  dsimp only [sZ,sS]
  refine tD 5 22 (.int .i64 pe) rfl rfl [(21,.pointer (some ⟨s,0,none⟩))] hH0 ?_
  dsimp only [sZ,sS]
  refine tD 6 23 (.bool true) rfl rfl [(18,.int .i64 e),(22,.int .i64 pe)] hH0 ?_
  dsimp only [sZ,sS]
  refine tD 7 16 (.bool true) rfl rfl [(23,.bool true)] hH0 ?_
  dsimp only [sZ,sS]
  refine wpAnyH_done (by kernel_rfl) ?_ _
  go_wp2_with fail
  go_ret
  rw [HR.out]
  exact ⟨rfl,ClAt.less (K:=[_]) (H1.out.below (Below.refl _ _).drew)⟩
 subst he
 have HT2:=Zh (HT1.out.trans (if_neg (by simp)))
 clear HT1
 go_upto_region 5 with (go_at_call 39;refine (shin_any _ _ _).mono ?_;rintro en w' ⟨rfl,rfl⟩)
 refine startD (S:=(fun w'=>w'.cell? ⟨N,0,none⟩=some (.int .i64 e)∧w'.cell? ⟨s,0,none⟩=some (.int .i64 e)∧N<w'.heap.size∧s<w'.heap.size)) (by kernel_rfl) ⟨r0,s0,rl,sl⟩ (fun hH0=>?_)
 simp only [List.length_cons,List.length_nil,Nat.reduceAdd,List.replicate_succ,List.replicate_zero]
 refine tD 0 17 (.pointer (some ⟨N,0,none⟩)) rfl rfl [(3,.pointer (some ⟨N,0,none⟩))] hH0 ?_
 dsimp only [sZ,sS]
 refine tD 1 18 (.int .i64 e) rfl rfl [(17,.pointer (some ⟨N,0,none⟩))] hH0 ?_
 dsimp only [sZ,sS]
 refine tD 2 19 (.pointer (some ⟨s,0,none⟩)) rfl rfl [(0,.pointer (some ⟨s,0,none⟩))] hH0 ?_
 dsimp only [sZ,sS]
 refine tD 3 20 (.pointer (some ⟨s,0,none⟩)) rfl rfl [(19,.pointer (some ⟨s,0,none⟩))] hH0 ?_
 dsimp only [sZ,sS]
 refine tD 4 21 (.pointer (some ⟨s,0,none⟩)) rfl rfl [(20,.pointer (some ⟨s,0,none⟩))] hH0 ?_
 dsimp only [sZ,sS]
 refine tD 5 22 (.int .i64 e) rfl rfl [(21,.pointer (some ⟨s,0,none⟩))] hH0 ?_
 dsimp only [sZ,sS]
 refine tD 6 23 (.bool false) rfl rfl [(18,.int .i64 e),(22,.int .i64 e)] hH0 ?_
 dsimp only [sZ,sS]
 refine tD 7 16 (.bool false) rfl rfl [(23,.bool false)] hH0 ?_
 dsimp only [sZ,sS]
 refine wpAnyH_done (by kernel_rfl) ?_ _
 have H2:=Zh (H1.out.below (Below.refl w1.heap.size w1).drew)
 clear r0 r1 rl s0 sl H1
 generalize w1.drew=w1 at *
 have r0:=H2.out.side.cell 0 rfl 0 rfl;have r1:=H2.out.side.cell 0 rfl 1 rfl;have rl:=H2.out.side.lt 0 rfl
 have s0:=H2.out.side.cell 1 rfl 0 rfl;have sl:=H2.out.side.lt 1 rfl
 have H1:=H2
 clear H2
 go_wp2_with fail
 go_loopw [] (fun wr=>Hid (w1=wr)) (fun _=>0)
 case atStart=>exact Lib.hid' rfl
 case round =>
  obtain rfl:=hrel.out
  go_wp2_with (go_at_call 24;refine (aload_any (o:=1) _ (H1.out.side.cell 1 rfl 1 rfl)).mono ?_;rintro en w' ⟨rfl,rfl⟩)
  by_cases hle:a≤pa
  ·have HR:=Zh (HT2.out.trans (by rw [if_pos hle]))
   clear HT2
   refine startD (S:=(fun w'=>w'.cell? ⟨N,1,none⟩=some (.int .i64 a)∧N<w'.heap.size)) (by kernel_rfl) ⟨r1,rl⟩ (fun hH0=>?_)
   simp only [List.length_cons,List.length_nil,Nat.reduceAdd,List.replicate_succ,List.replicate_zero]
   refine tD 0 29 (.pointer (some ⟨N,1,none⟩)) rfl rfl [(3,.pointer (some ⟨N,0,none⟩))] hH0 ?_
   dsimp only [sZ,sS]
   refine tD 1 30 (.int .i64 a) rfl rfl [(29,.pointer (some ⟨N,1,none⟩))] hH0 ?_
   dsimp only [sZ,sS]
   refine tD 2 31 (.int .i64 pa) rfl rfl [(5,.int .i64 pa)] hH0 ?_
   dsimp only [sZ,sS]
   refine tD 3 32 (.bool true) rfl rfl [(30,.int .i64 a),(31,.int .i64 pa)] hH0 ?_
   dsimp only [sZ,sS]
   refine tD 4 33 (.bool true) rfl rfl [(32,.bool true)] hH0 ?_
   dsimp only [sZ,sS]
   refine takeD (i:=5) (d:=34) (v:=undef) rfl rfl (by kernel_rfl) (by kernel_rfl) (by kernel_rfl) (fun _ _ _ h=>h) (Or.inr ⟨by kernel_rfl,rfl⟩) hH0 ?_
   dsimp only [sZ,sS]
   refine takeD (i:=6) (d:=35) (v:=undef) rfl rfl (by kernel_rfl) (by kernel_rfl) (by kernel_rfl) (fun _ _ _ h=>h) (Or.inr ⟨by kernel_rfl,rfl⟩) hH0 ?_
   dsimp only [sZ,sS]
   refine takeD (i:=7) (d:=36) (v:=undef) rfl rfl (by kernel_rfl) (by kernel_rfl) (by kernel_rfl) (fun _ _ _ h=>h) (Or.inr ⟨by kernel_rfl,rfl⟩) hH0 ?_
   dsimp only [sZ,sS]
   refine takeD (i:=8) (d:=37) (v:=undef) rfl rfl (by kernel_rfl) (by kernel_rfl) (by kernel_rfl) (fun _ _ _ h=>h) (Or.inr ⟨by kernel_rfl,rfl⟩) hH0 ?_
   dsimp only [sZ,sS]
   refine takeD (i:=9) (d:=38) (v:=undef) rfl rfl (by kernel_rfl) (by kernel_rfl) (by kernel_rfl) (fun _ _ _ h=>h) (Or.inr ⟨by kernel_rfl,rfl⟩) hH0 ?_
   dsimp only [sZ,sS]
   refine takeD (i:=10) (d:=39) (v:=undef) rfl rfl (by kernel_rfl) (by kernel_rfl) (by kernel_rfl) (fun _ _ _ h=>h) (Or.inr ⟨by kernel_rfl,rfl⟩) hH0 ?_
   dsimp only [sZ,sS]
   refine takeD (i:=11) (d:=40) (v:=undef) rfl rfl (by kernel_rfl) (by kernel_rfl) (by kernel_rfl) (fun _ _ _ h=>h) (Or.inr ⟨by kernel_rfl,rfl⟩) hH0 ?_
   dsimp only [sZ,sS]
   refine tD 12 41 (.bool true) rfl rfl [(33,.bool true),(40,undef)] hH0 ?_
   dsimp only [sZ,sS]
   refine wpAnyH_done (by kernel_rfl) ?_ _
   go_wp2_with fail
   go_ret
   rw [HR.out]
   exact ⟨rfl,ClAt.less (K:=[_]) (H1.out.below (Below.refl _ _).drew)⟩
  ·have HR:=Zh (HT2.out.trans (by rw [if_neg hle]))
   clear HT2
   have H3:=Zh (H1.out.below (Below.refl w1.heap.size w1).drew)
   refine startD (S:=(fun w'=>w'.cell? ⟨N,1,none⟩=some (.int .i64 a)∧N<w'.heap.size)) (by kernel_rfl) ⟨r1,rl⟩ (fun hH0=>?_)
   simp only [List.length_cons,List.length_nil,Nat.reduceAdd,List.replicate_succ,List.replicate_zero]
   refine tD 0 29 (.pointer (some ⟨N,1,none⟩)) rfl rfl [(3,.pointer (some ⟨N,0,none⟩))] hH0 ?_
   dsimp only [sZ,sS]
   refine tD 1 30 (.int .i64 a) rfl rfl [(29,.pointer (some ⟨N,1,none⟩))] hH0 ?_
   dsimp only [sZ,sS]
   refine tD 2 31 (.int .i64 pa) rfl rfl [(5,.int .i64 pa)] hH0 ?_
   dsimp only [sZ,sS]
   refine tD 3 32 (.bool false) rfl rfl [(30,.int .i64 a),(31,.int .i64 pa)] hH0 ?_
   dsimp only [sZ,sS]
   refine tD 4 33 (.bool false) rfl rfl [(32,.bool false)] hH0 ?_
   dsimp only [sZ,sS]
   refine tD 5 34 (.pointer (some ⟨s,0,none⟩)) rfl rfl [(0,.pointer (some ⟨s,0,none⟩))] hH0 ?_
   dsimp only [sZ,sS]
   refine tD 6 35 (.pointer (some ⟨s,0,none⟩)) rfl rfl [(34,.pointer (some ⟨s,0,none⟩))] hH0 ?_
   dsimp only [sZ,sS]
   refine tD 7 36 (.pointer (some ⟨s,1,none⟩)) rfl rfl [(35,.pointer (some ⟨s,0,none⟩))] hH0 ?_
   dsimp only [sZ,sS]
   refine tD 8 37 (.int .i64 pa) rfl rfl [(5,.int .i64 pa)] hH0 ?_
   dsimp only [sZ,sS]
   refine tD 9 38 (.pointer (some ⟨N,1,none⟩)) rfl rfl [(3,.pointer (some ⟨N,0,none⟩))] hH0 ?_
   dsimp only [sZ,sS]
   refine tD 10 39 (.int .i64 a) rfl rfl [(38,.pointer (some ⟨N,1,none⟩))] hH0 ?_
   dsimp only [sZ,sS]
   refine rD 11 rfl (fun K hK=>?_)
   go_simp
   refine (acas_any (o:=1) _ (H3.out.side.cell 1 rfl 1 rfl) (H3.out.side.free 1 rfl 1)).mono ?_
   rintro en w5 ⟨rfl,rfl⟩
   have H5:=Zh ((H3.out.swapB.setB 1 (.int .i64 a)).swapB)
   refine hK.out _ _ ?_ (fun hH1=>?_)
   ·exact ⟨H5.out.side.cell 0 rfl 1 rfl,H5.out.side.lt 0 rfl⟩
   clear hK K
   try simp only [Act.put,gA,gZ,gS,sA,sZ,sS]
   refine tD 12 41 (.bool true) rfl rfl [(33,.bool false),(40,.bool true)] hH1 ?_
   dsimp only [sZ,sS]
   refine wpAnyH_done (by kernel_rfl) ?_ _
   go_wp2_with fail
   go_ret
   rw [HR.out]
   exact ⟨rfl,ClAt.less (K:=[_]) H5.out⟩
/-- what a cluster goes on with, in its box -/
structure Bd where
 e:Int
 J:CJ
 sa:Option Addr
 sc:Nat
 st:List Int
 low:Int
/-- what a rebuilding's walk leans on: the rows of what comes next, and of what stays -/
structure BdOk (c:Nat) (n:Nat) (J:CJ) (L:List Asn) (W:World) (b:Bd):Prop where
 ch:∀ M' w',ClAt c M' J L W w'→Chs w' b.J.a b.J.c b.J.Ks
 st:∀ M' w',ClAt c M' J L W w'→Zs w' (.slice b.sa b.st.length b.sc) b.st
 pj:PjOk ⟨b.e,b.J.Ks.map (·.1)⟩
 us:∀ u∈(⟨b.e,b.J.Ks.map (·.1)⟩:Pj).all,0≤u∧u<(n:Int)
def Bd.units (b:Bd):List Int:=unitsOf (⟨b.e,b.J.Ks.map (·.1)⟩:Pj).all
theorem BdOk.uf {c n:Nat} {J:CJ} {L:List Asn} {W:World} {b:Bd} (h:BdOk c n J L W b):b.units.length≤16∧∀ u∈b.units,0≤u∧u<(n:Int) :=
 ⟨Nat.le_trans (unitsOf_len _) (all_len h.pj),fun u hu=>h.us u ((unitsOf_mem u _).1 hu)⟩
/-- cells of chains' units that stay: each address's first one -/
def addCell (s:List (Int×C)) (p:Int×C):List (Int×C):=if s.any (fun q=>q.1==p.1)=true then s else s++[p]
def Cl.unitU (M:Cl) (u:Int):U:=match M.us[u.toNat]? with
 | some ⟨_,some S⟩=>S.u
 | _=>⟨0,0,[]⟩
def cellsStep (M:Cl) (st:List Int) (s:List (Int×C)) (u:Int):List (Int×C):=if st.any (fun y=>u==y)=true then (sortC (M.unitU u).cells).foldl addCell s else s
def Cl.cells (M:Cl) (st chain:List Int):List (Int×C):=chain.foldl (cellsStep M st) []
theorem ClAt.front {c:Nat} {M:Cl} {J:CJ} {K L:List Asn} {W w:World} (h:ClAt c M J (K++L) W w):∃ P,P.J=J∧ClOK M P∧Sep W NoF (K++clL c M P L) w:=by
 obtain ⟨P,hJ,hP,H⟩:=h
 refine ⟨P,hJ,hP,H.perm ?_⟩
 have e1:∀ L,clL c M P L=(clK c M P++(Asn.pool P.Z P.vs::P.Us.map (unA P.vs)))++L:=fun L=>by unfold clL;simp
 rw [e1 L,e1 (K++L)]
 exact List.perm_append_comm_assoc _ _ _
theorem ClAt.unfront {c:Nat} {M:Cl} {P:ClP} {K L:List Asn} {W w:World} (hP:ClOK M P) (h:Sep W NoF (K++clL c M P L) w):ClAt c M P.J (K++L) W w:=by
 refine ⟨P,rfl,hP,h.perm ?_⟩
 have e1:∀ L,clL c M P L=(clK c M P++(Asn.pool P.Z P.vs::P.Us.map (unA P.vs)))++L:=fun L=>by unfold clL;simp
 rw [e1 L,e1 (K++L)]
 exact List.perm_append_comm_assoc _ _ _
end SL
end Go.Proofs.YtaodldbgikiekaaGreatDoor
