/- Proved here: a part of the proof (37 of 37). -/
import Derived.Test.YtimbeeiihbmofaaGreatDoorW33
import Derived.Test.YtimbeeiihbmofaaGreatDoorW35
import Derived.Test.YtimbeeiihbmofaaGreatDoorW36
import Derived.Test.YtimbeeiihbmofaaGreatDoorW22
import Derived.Deep.DeepCutAuto
import Derived.Deep.CutBlock
set_option linter.unusedSimpArgs false
set_option linter.unusedVariables false
set_option maxRecDepth 100000
namespace Go.Proofs.YtimbeeiihbmofaaGreatDoor
open Go.RowKit
namespace SL
open DK SH SQ
set_option maxHeartbeats 40000000 in
theorem modelIs_any (un rm:Int) (ca:Option Addr) (cc:Nat) (X:List Ch) (sa:Option Addr) (sc:Nat) (S:List A13) (rb:Int) (w:World) (hp:DK.Pow w) (hX:Chs w ca cc X) (hS:A13L w sa sc S) :
  Calls Tryz.prog 3 #[.agg #[.int .i64 un,.int .i64 rm,.slice ca X.length cc],.slice sa S.length sc,.int .i64 rb] w fun en w'=>en=.returned (.bool true)∧Below w.heap.size w w':=by
 have HP:=Lib.hid' hp
 have HX:=Lib.hid' hX
 have HS:=Lib.hid' hS
 have hSl:=hS.len
 have hs1:=(Sep.start w).allocAt w.heap.size [.int .i64 un,.int .i64 rm,.slice ca X.length cc] 24 rfl
 obtain ⟨w1,hw1⟩:∃ w1,w.alloc (.cells #[.int .i64 un,.int .i64 rm,.slice ca X.length cc] 24)=w1:=⟨_,rfl⟩
 have hs2:Sep w NoF [.box w.heap.size [.int .i64 un,.int .i64 rm,.slice ca X.length cc] 24] w1:=by rw [←hw1];exact hs1
 have H1:=Lib.hid' hs2
 have HA:=Zh (alive33_any w1)
 clear hs1 hs2 hp hX hS
 go_enter Tryz.func3, Tryz.ntmps3
 go_upto_region 1 with fail
 try rw [hw1]
 clear hw1
 go_wp2_with fail
 refine HA.out.mono ?_
 clear HA
 rintro en w2 ⟨rfl,hb2⟩
 have H2:=Zh (H1.out.below hb2)
 clear hb2 H1
 have HL:=Zh (long13_any S 60 (by decide) sa sc w2 (HS.out.below H2.out.toBelow))
 go_wp2_with fail
 refine HL.out.mono ?_
 clear HL
 rintro en w3 ⟨rfl,hb3⟩
 have H3:=Zh (H2.out.below hb3)
 clear hb3 H2
 have q0:=H3.out.cell 0 rfl 0 rfl;have q1:=H3.out.cell 0 rfl 1 rfl;have q2:=H3.out.cell 0 rfl 2 rfl;have ql:=H3.out.lt 0 rfl
 have hfree1:=H3.out.free 0 rfl 1
 cases hl3:long13 S 60 with
 | true =>
  clear q0 q1 q2 ql
  go_wp2_with fail
  go_ret
  exact ⟨rfl,H3.out.toBelow⟩
 | false =>
 have hsl60:=(long13_no hl3).1
 clear hl3
 have HL:=Zh (long11_any 0 ca cc X w3 (HX.out.below (Nat.le_refl _) H3.out.toBelow))
 rw [show pjV 0 ca cc X=.agg #[.int .i64 0,.slice ca X.length cc] from rfl] at HL
 go_wp2_with fail
 refine HL.out.mono ?_
 clear HL
 rintro en w5 ⟨rfl,hb5⟩
 have H5:=Zh (H3.out.below hb5)
 clear hb5 H3 q0 q1 q2 ql hfree1
 have q0:=H5.out.cell 0 rfl 0 rfl;have q1:=H5.out.cell 0 rfl 1 rfl;have q2:=H5.out.cell 0 rfl 2 rfl;have ql:=H5.out.lt 0 rfl
 have hfree1:=H5.out.free 0 rfl 1
 cases hl1:long11 X with
 | true =>
  clear q0 q1 q2 ql
  go_wp2_with fail
  go_ret
  exact ⟨rfl,H5.out.toBelow⟩
 | false =>
 have hfl:=(long11_flat hl1).1
 have H6:=Zh (H5.out.set 0 rfl 1 (.int .i64 16777216))
 clear hl1
 go_upto_region 6 with fail
 generalize w5.setCell ⟨w.heap.size,1,none⟩ (.int .i64 16777216)=w6 at *
 clear q0 q1 q2 ql hfree1
 have H6:=Zh (show Sep w NoF [.box w.heap.size [.int .i64 un,.int .i64 16777216,.slice ca X.length cc] 24] w6 from H6.out)
 have q0:=H6.out.cell 0 rfl 0 rfl;have q1:=H6.out.cell 0 rfl 1 rfl;have q2:=H6.out.cell 0 rfl 2 rfl;have ql:=H6.out.lt 0 rfl
 have HNW:=Zh (New_any un 16777216 ca cc X w6 HP.out H6.out (HX.out.below (Nat.le_refl _) H6.out.toBelow) (by omega))
 have HRI:=Zh (fun h=>new_is (r:=16777216) (n:=un) (X:=X.map (·.1)) (by decide) h)
 clear hfl
 generalize newCl un 16777216 (X.map (·.1))=r at *
 obtain ⟨zn,M0⟩:=r
 go_wp2_with fail
 refine HNW.out.mono ?_
 clear HNW q0 q1 q2 ql H5
 rintro en w7 (⟨h0,rfl,h7⟩ | ⟨h0,c,J,rfl,h7⟩)
 ·have HB:=Lib.hid' h7.toBelow
  simp only at h0
  rw [errV_pos h0]
  clear h7 h0 HRI H6
  go_wp2_with fail
  go_ret
  exact ⟨rfl,HB.out⟩
 have HR0:=Zh (HRI.out h0)
 have H7:=Lib.hid' h7
 simp only at HR0 H7
 clear h0 h7 HRI H6
 go_wp2_with fail
 refine (mnew_any w7).mono ?_
 rintro en w8 ⟨rfl,hb8,hs8,hL8⟩
 obtain ⟨Z,vs,h8⟩:=H7.out.mdlNew hb8 (by omega) (Nat.le_refl _) (hL8 _ (.inr (.inr rfl)) (.inr (.inl rfl)))
 have H8:=Lib.hid' h8
 clear h8 hb8 hs8 hL8 H7
 generalize w7.heap.size+1=bl0 at *
 generalize w7.heap.size=bm0 at *
 go_wp2_with fail
 go_loopw [9,50] (fun v9 v50 wr=>∃ (i bl bm:Nat) (M:Cl) (m:Go.Proofs.YtimbeeiihbmofaaGreatDoor.M) (J:CJ) (Z:Nat→Prop) (vs:PoolL),v9=.pointer (some ⟨bl,0,none⟩)∧v50=.int .i64 i∧i≤S.length∧Hid (ClAt c M J [Asn.mdl bl bm m vs,Asn.pool Z vs,.box w.heap.size [.int .i64 un,.int .i64 16777216,.slice ca X.length cc] 24] w wr)∧Hid (Is 16777216 (1+4*i) M m)) (fun _ v50 _=>S.length - (intOf v50).toNat)
 case atStart=>exact ⟨0,bl0,bm0,M0,M.new,J,Z,vs,rfl,rfl,Nat.zero_le _,H8,HR0⟩
 case round =>
  clear H8 HR0
  obtain ⟨i,bl,bm,M,m,J,Z,vs,rfl,rfl,hk,HC,HR⟩:=hrel
  by_cases hlt:i<S.length
  rotate_left
  ·go_wp2_with fail
   go_ret
   exact ⟨rfl,HC.out.toBelow⟩
  obtain ⟨hsl,hby⟩:=HS.out.below HC.out.toBelow
  obtain ⟨b,off,rfl,hb,hc⟩:=SlV.row (s:=7) (fun _=>rfl) (by decide) hsl hlt
  have c0:=hc 0 _ rfl;have c1:=hc 1 _ rfl;have c2:=hc 2 _ rfl;have c3:=hc 3 _ rfl;have c4:=hc 4 _ rfl;have c5:=hc 5 _ rfl;have c6:=hc 6 _ rfl
  simp only [Nat.add_zero] at c0
  have HAT:=Zh (HS.out.each _ (List.getElem_mem hlt))
  clear hc hsl hby
  generalize S[i]=x at *
  obtain ⟨xk,xu,xa,xc,da,dc,ks,ka,kc,sp,pa,pc⟩:=x
  simp only at c0 c1 c2 c3 c4 c5 c6
  go_upto_region 13 with fail
  have HB0:=HC.out.allocB wr.heap.size [.int .i64 xk,.int .i64 xu,.int .i64 xa,.int .i64 xc.k,.slice da xc.d.length dc,.slice ka ks.length kc,.slice pa sp.length pc] 44 rfl
  have e0:wr.alloc (.cells [Value.int .i64 xk,.int .i64 xu,.int .i64 xa,.int .i64 xc.k,.slice da xc.d.length dc,.slice ka ks.length kc,.slice pa sp.length pc].toArray 44)=wr.alloc (.cells #[.int .i64 xk,.int .i64 xu,.int .i64 xa,.int .i64 xc.k,.slice da xc.d.length dc,.slice ka ks.length kc,.slice pa sp.length pc] 44):=rfl
  rw [e0] at HB0
  clear e0 c0 c1 c2 c3 c4 c5 c6 hb HC
  generalize wr.alloc (.cells #[.int .i64 xk,.int .i64 xu,.int .i64 xa,.int .i64 xc.k,.slice da xc.d.length dc,.slice ka ks.length kc,.slice pa sp.length pc] 44)=wb at *
  generalize wr.heap.size=N at *
  have b0:=HB0.side.cell 0 rfl 0 rfl;have b1:=HB0.side.cell 0 rfl 1 rfl;have b2:=HB0.side.cell 0 rfl 2 rfl;have b3:=HB0.side.cell 0 rfl 3 rfl;have b4:=HB0.side.cell 0 rfl 4 rfl;have b5:=HB0.side.cell 0 rfl 5 rfl;have b6:=HB0.side.cell 0 rfl 6 rfl;have bl':=HB0.side.lt 0 rfl
  have HAN:=Zh (answers_any ⟨xk,xu,xa,xc,da,dc,ks,ka,kc,sp,pa,pc⟩ wb HP.out (ClAt.less (K:=[_]) HB0) HR.out (by omega) (by omega) HAT.out)
  rw [show (a13V ⟨xk,xu,xa,xc,da,dc,ks,ka,kc,sp,pa,pc⟩).toArray=#[.int .i64 xk,.int .i64 xu,.int .i64 xa,.int .i64 xc.k,.slice da xc.d.length dc,.slice ka ks.length kc,.slice pa sp.length pc] from rfl] at HAN
  clear HB0 HR
  go_wp2_with fail
  refine HAN.out.mono ?_
  clear HAN b0 b1 b2 b3 b4 b5 b6 bl'
  rintro en w9 ⟨M',m',Z',vs',rfl,h9,hI9⟩
  have H9:=Lib.hid' h9
  have HI:=Lib.hid' hI9
  clear h9 hI9
  go_wp2_with fail
  refine (mtail_any w9 (H9.out.mdlAt HI.out.ok)).mono ?_
  rintro en w10 ⟨rfl,rfl⟩
  by_cases ht:1000<m'.t
  ·go_wp2_with fail
   go_ret
   exact ⟨rfl,H9.out.toBelow⟩
  have HJ:=Zh (show Is 16777216 (1+4*(i+1)) M' m' from HI.out.mono (by omega))
  by_cases hrb:rb<1
  ·go_wp2_with fail
   go_roundw
   case rel=>exact ⟨i+1,bl,bm,M',m',J,Z',vs',rfl,by go_num,by omega,H9,HJ⟩
   case measure=>simp [intOf];omega
  have hmin:¬min rb 100=0:=by omega
  cases hmod:((i:Int) % min rb 100 != 0) with
  | true =>
   go_wp2_with fail
   go_roundw
   case rel=>exact ⟨i+1,bl,bm,M',m',J,Z',vs',rfl,by go_num,by omega,H9,HJ⟩
   case measure=>simp [intOf];omega
  | false =>
  clear HJ
  obtain ⟨c',er,hl,hq,hz,hI⟩:=HI.out.rebuild (by omega) (by omega)
  have HRB:=Zh (Rebuild_any [] none 0 w9 HP.out H9.out HI.out.mid.ok (fun M0 w0 h0=>SlV.of_own (own_nil w0 0 3 1)))
  rw [er] at HRB
  have HRC:=Zh (fun m1 h1 h2 h3 h4=>hI m1 h1 h2 h3 h4)
  obtain ⟨k1,k2,k3,k4⟩:=Go.Proofs.YtimbeeiihbmofaaGreatDoor.M.cutAt HI.out.ok hl hq hz
  have HK:=Zh (HRC.out (m'.cut c'.q.n).2 (Go.Proofs.YtimbeeiihbmofaaGreatDoor.M.ok_cut HI.out.ok _) k2 k3 k4)
  have HKE:=Zh (HRC.out (ofE (m'.cut c'.q.n).2) (ofE_ok (Go.Proofs.YtimbeeiihbmofaaGreatDoor.M.ok_cut HI.out.ok _)) k2 k3 (fun a=>by rw [ofE_at (Go.Proofs.YtimbeeiihbmofaaGreatDoor.M.ok_cut HI.out.ok _),k4]))
  have HC1:=Lib.hid' k1
  have HDF:=Zh (differ_same (a:=(m'.cut c'.q.n).2) (b:=ofE (m'.cut c'.q.n).2) rfl (fun p=>(ofE_at (Go.Proofs.YtimbeeiihbmofaaGreatDoor.M.ok_cut HI.out.ok _) p).symm))
  clear hI HRC k3 k4 er hz
  go_wp2_with fail
  refine HRB.out.mono ?_
  clear HRB
  rintro en w11 ⟨rfl,J2,h11⟩
  have H11:=Lib.hid' h11
  clear h11
  rw [errV_0]
  go_wp2_with fail
  refine (mof_any (m'.cut c'.q.n).2 w11 H11.out HK.out.mid.ok HK.out.ok (by rw [HK.out.ctail]) HK.out.read).mono ?_
  rintro en w12 ⟨b2,bm2,Z2,vs2,rfl,h12⟩
  have H12:=Lib.hid' h12
  clear h12 H11
  go_wp2_with fail
  refine (mtail_any w12 (H12.out.mdlAt HKE.out.ok)).mono ?_
  rintro en w13 ⟨rfl,rfl⟩
  have H13:=Zh ((H12.out.focus 3 rfl).focus 3 rfl)
  clear H12
  rw [show (ofE (m'.cut c'.q.n).2).t=c'.q.n from k2]
  go_wp2_with fail
  refine (mtail_any w12 (H13.out.mdlAt HI.out.ok)).mono ?_
  rintro en w14 ⟨rfl,rfl⟩
  have hgt:¬m'.t<c'.q.n:=by omega
  go_wp2_with fail
  refine (mCut_any c'.q.n w12 (H13.out.mdlAt HI.out.ok) (fun k hk=>hk.1)).mono ?_
  rintro en w15 ⟨rfl,hU,hf⟩
  obtain ⟨Z6,vs6,h15⟩:=H13.out.mdlCall hU hf
  have H15:=Lib.hid' h15
  clear h15 hU hf H13
  rw [HC1.out,errV_0]
  go_wp2_with fail
  have H16:=Zh ((H15.out.focus 3 rfl).focus 3 rfl)
  refine (mdiffer_any w15 (H15.out.mdlAt HK.out.ok) (H16.out.mdlAt HKE.out.ok) (Nat.le_trans (Go.Proofs.YtimbeeiihbmofaaGreatDoor.M.few (n:=1000) HK.out.ok (by rw [k2];omega)) (by decide)) (Nat.le_trans (Go.Proofs.YtimbeeiihbmofaaGreatDoor.M.few (n:=1000) HKE.out.ok (by show (m'.cut c'.q.n).2.t≤_;rw [k2];omega)) (by decide))).mono ?_
  rintro en w17 ⟨rfl,hb17⟩
  have H17:=Zh (ClAt.less (K:=[_,_]) (((H16.out.below hb17).focus 3 rfl).focus 3 rfl))
  have HKE2:=Zh (show Is 16777216 (1+4*(i+1)) c' (ofE (m'.cut c'.q.n).2) from HKE.out.mono (by omega))
  rw [HDF.out]
  clear hb17 H15 H16 HDF
  go_wp2_with fail
  go_roundw
  case rel=>exact ⟨i+1,b2,bm2,c',_,J2,_,_,rfl,by go_num,by omega,H17,HKE2⟩
  case measure=>simp [intOf];omega
end SL
end Go.Proofs.YtimbeeiihbmofaaGreatDoor
