/- Proved here: a part of the proof (18 of 35). -/
import Derived.Test.YtaodldbgikiekaaGreatDoorW16
import Derived.Test.YtaodldbgikiekaaGreatDoorW17
set_option linter.unusedSimpArgs false
set_option linter.unusedVariables false
set_option maxRecDepth 100000
namespace Go.Proofs.YtaodldbgikiekaaGreatDoor
open Go.RowKit
namespace DK
theorem DiskIn.below {N:Nat} {D:Dk} {bs bh:Nat} {v:Value} {k:Nat} {Ls Lh:List (ByteArray×Value)} {vs:Vs} {w w':World} (h:DiskIn N D bs bh v k Ls Lh vs w) (hb:Below w.heap.size w w'):DiskIn N D bs bh v k Ls Lh vs w' :=
 have cc:∀ j x,w.cell? ⟨N,j,none⟩=some x→w'.cell? ⟨N,j,none⟩=some x:=fun j x hx=>(hb.cell (p:=⟨N,j,none⟩) h.lt).trans hx
 ⟨cc 0 _ h.c0,cc 1 _ h.c1,cc 2 _ h.c2,cc 3 _ h.c3,cc 4 _ h.c4,cc 5 _ h.c5,Nat.lt_of_lt_of_le h.lt hb.size,h.ms.block (hb.block _ h.ms.lt),h.mh.block (hb.block _ h.mh.lt),h.fs,h.fh,fun x hx=>SlV.below (h.pool x hx) (Nat.le_refl _) hb,h.len⟩
theorem DiskR.added {N:Nat} {G G1:Nat→Prop} {D1:Dk} {c:Chg} {w w1 w2:World} (hk:Sep w G [Asn.disk N D1 G1] w1) (h:∃ G',Sep w1 (fun b=>G1 b∨(Value.slice none 0 0).ownBlock=some b) [Asn.disk N (addD D1 c) G'] w2):∃ G',Sep w G [Asn.disk N (addD D1 c) G'] w2:=by
 obtain ⟨G',h1⟩:=h
 exact ⟨G',hk.call (h1.under (fun b hb=>hb.elim id (fun h=>absurd h (nil_own b))))⟩
set_option maxHeartbeats 4000000 in
theorem rename_any {m N:Nat} {D:Dk} {G:Nat→Prop} (f t:Nm) (w:World) (h:(Asn.disk N D G).holds w) (ho:Ok m D) (hp:D.pend.length≤1073741824):Calls Tryz.prog 180 #[ptrV N,.string f,.string t] w (DiskR N G (renameD D f t).2 (errV (renameD D f t).1) w):=by
 have HW:=Zh (works_any w h ho)
 have hpw:=pend_works D
 have HT:=mtFiles
 clear h
 rcases works_err D with h0 | h0
 rotate_left
 ·have HF:=Zh (show renameD D f t=(14,(worksD D).2) by
   unfold renameD
   simp only
   rw [if_pos (by omega),←h0])
  have H0:=Lib.hid' h0
  clear h0 ho hp
  go_enter Tryz.func180, Tryz.ntmps180
  go_wp2_with (go_at_call 207;refine HW.out.mono ?_;rintro e w1 ⟨rfl,G1,hk⟩;rw [H0.out])
  go_ret
  rw [HF.out]
  exact ⟨rfl,G1,hk⟩
 have HF:=Zh (show renameD D f t=(if named f=false∨named t=false then (2,(worksD D).2) else if (getF (worksD D).2.shown f).isNone=true then (4,(worksD D).2) else (0,addD (worksD D).2 ⟨1,f,t,[]⟩)) by
  unfold renameD;simp only;rw [if_neg (by omega)])
 have H0:=Lib.hid' h0
 rw [←hpw] at hp
 clear h0 ho hpw
 generalize (worksD D).2=D1 at *
 cases hf:named f with
 | false =>
  go_enter Tryz.func180, Tryz.ntmps180
  go_wp2_with (first | (go_at_call 207;refine HW.out.mono ?_;rintro e w1 ⟨rfl,G1,hk⟩;rw [H0.out,errV_0]) | (go_at_call 208;refine (named_any f _).mono ?_;rintro e w2 ⟨rfl,hb2⟩;rw [hf]))
  go_ret
  rw [HF.out,if_pos (.inl hf)]
  exact DiskR.from hk hb2
 | true =>
 cases ht:named t with
 | false =>
  go_enter Tryz.func180, Tryz.ntmps180
  go_wp2_with (first | (go_at_call 207;refine HW.out.mono ?_;rintro e w1 ⟨rfl,G1,hk⟩;rw [H0.out,errV_0]) | (go_at_call 208;first | ((with_reducible refine (named_any f _).mono ?_);rintro e w2 ⟨rfl,hb2⟩;rw [hf]) | ((with_reducible refine (named_any t _).mono ?_);rintro e w3 ⟨rfl,hb3⟩;rw [ht])))
  go_ret
  rw [HF.out,if_pos (.inr ht)]
  exact DiskR.from (hk.below hb2) hb3
 | true =>
 have HF2:=Zh (show renameD D f t=(if (getF D1.shown f).isNone=true then (4,D1) else (0,addD D1 ⟨1,f,t,[]⟩)) by
  rw [HF.out,if_neg (by rw [hf,ht];simp)])
 clear HF
 go_enter Tryz.func180, Tryz.ntmps180
 go_upto_region 6 with (first | (go_at_call 207;refine HW.out.mono ?_;rintro e w1 ⟨rfl,G1,hk⟩;rw [H0.out,errV_0]) | (go_at_call 208;first | ((with_reducible refine (named_any f _).mono ?_);rintro e w2 ⟨rfl,hb2⟩;rw [hf]) | ((with_reducible refine (named_any t _).mono ?_);rintro e w3 ⟨rfl,hb3⟩;rw [ht])))
 have hk3:=(hk.below hb2).below hb3
 have HK:=Lib.hid' hk3
 obtain ⟨bs,bh,v,k,Ls,Lh,vs,hin⟩:=disk_in (hk3.at 0 rfl)
 have c2:=hin.c2
 have hl:=hin.lt
 have HM:=Lib.hid' hin.mh
 have hsome:=hin.isSome f
 obtain ⟨r,hr⟩:∃ r,MS.lookE Lh f=r:=⟨_,rfl⟩
 have HR:=Lib.hid' hr
 rw [hr] at hsome
 clear hr hin hk hk3 hb2 hb3 HW
 cases r with
 | none =>
  have HG:=Zh (show (getF D1.shown f).isNone=true by cases hg:getF D1.shown f with
   | none=>rfl
   | some d=>rw [hg] at hsome;cases hsome)
  clear hsome
  go_wp2_with (at_lookup;refine MS.wp_look_ok HT rfl (.tmp 28) (.tmp 29) rfl rfl f rfl HM.out ?_;rw [HR.out])
  go_ret
  rw [HF2.out,if_pos HG.out]
  exact DiskR.from HK.out (Below.refl _ _)
 | some x =>
  have HG:=Zh (show ¬(getF D1.shown f).isNone=true by cases hg:getF D1.shown f with
   | none=>rw [hg] at hsome;cases hsome
   | some d=>simp)
  clear hsome
  have HA:=Zh (add_any ⟨1,f,t,[]⟩ (.slice none 0 0) w3 (disk_nil HK.out) (by show (1:Nat)<3;decide) hp)
  go_wp2_with (first | (at_lookup;refine MS.wp_look_ok HT rfl (.tmp 28) (.tmp 29) rfl rfl f rfl HM.out ?_;rw [HR.out]) | (go_at_call 209;refine HA.out.mono ?_;rintro e w4 ⟨rfl,hk4⟩))
  go_ret
  rw [HF2.out,if_neg HG.out]
  exact ⟨rfl,DiskR.added HK.out hk4⟩
set_option maxHeartbeats 4000000 in
theorem remove_any {m N:Nat} {D:Dk} {G:Nat→Prop} (n:Nm) (w:World) (h:(Asn.disk N D G).holds w) (ho:Ok m D) (hp:D.pend.length≤1073741824):Calls Tryz.prog 163 #[ptrV N,.string n] w (DiskR N G (removeD D n).2 (errV (removeD D n).1) w):=by
 have HW:=Zh (works_any w h ho)
 have hpw:=pend_works D
 have HT:=mtFiles
 clear h
 rcases works_err D with h0 | h0
 rotate_left
 ·have HF:=Zh (show removeD D n=(14,(worksD D).2) by
   unfold removeD
   simp only
   rw [if_pos (by omega),←h0])
  have H0:=Lib.hid' h0
  clear h0 ho hp
  go_enter Tryz.func163, Tryz.ntmps163
  go_wp2_with (go_at_call 207;refine HW.out.mono ?_;rintro e w1 ⟨rfl,G1,hk⟩;rw [H0.out])
  go_ret
  rw [HF.out]
  exact ⟨rfl,G1,hk⟩
 have HF:=Zh (show removeD D n=(if named n=false then (2,(worksD D).2) else if (getF (worksD D).2.shown n).isNone=true then (4,(worksD D).2) else (0,addD (worksD D).2 ⟨2,n,⟨#[]⟩,[]⟩)) by
  unfold removeD;simp only;rw [if_neg (by omega)])
 have H0:=Lib.hid' h0
 rw [←hpw] at hp
 clear h0 ho hpw
 generalize (worksD D).2=D1 at *
 cases hf:named n with
 | false =>
  go_enter Tryz.func163, Tryz.ntmps163
  go_wp2_with (first | (go_at_call 207;refine HW.out.mono ?_;rintro e w1 ⟨rfl,G1,hk⟩;rw [H0.out,errV_0]) | (go_at_call 208;refine (named_any n _).mono ?_;rintro e w2 ⟨rfl,hb2⟩;rw [hf]))
  go_ret
  rw [HF.out,if_pos hf]
  exact DiskR.from hk hb2
 | true =>
 have HF2:=Zh (show removeD D n=(if (getF D1.shown n).isNone=true then (4,D1) else (0,addD D1 ⟨2,n,⟨#[]⟩,[]⟩)) by
  rw [HF.out,if_neg (by rw [hf];simp)])
 clear HF
 go_enter Tryz.func163, Tryz.ntmps163
 go_upto_region 6 with (first | (go_at_call 207;refine HW.out.mono ?_;rintro e w1 ⟨rfl,G1,hk⟩;rw [H0.out,errV_0]) | (go_at_call 208;(refine (named_any n _).mono ?_;rintro e w2 ⟨rfl,hb2⟩;rw [hf])))
 have hk3:=(hk.below hb2)
 have HK:=Lib.hid' hk3
 obtain ⟨bs,bh,v,k,Ls,Lh,vs,hin⟩:=disk_in (hk3.at 0 rfl)
 have c2:=hin.c2
 have hl:=hin.lt
 have HM:=Lib.hid' hin.mh
 have hsome:=hin.isSome n
 obtain ⟨r,hr⟩:∃ r,MS.lookE Lh n=r:=⟨_,rfl⟩
 have HR:=Lib.hid' hr
 rw [hr] at hsome
 clear hr hin hk hk3 hb2 HW
 cases r with
 | none =>
  have HG:=Zh (show (getF D1.shown n).isNone=true by cases hg:getF D1.shown n with
   | none=>rfl
   | some d=>rw [hg] at hsome;cases hsome)
  clear hsome
  go_wp2_with (at_lookup;refine MS.wp_look_ok HT rfl (.tmp 21) (.tmp 22) rfl rfl n rfl HM.out ?_;rw [HR.out])
  go_ret
  rw [HF2.out,if_pos HG.out]
  exact DiskR.from HK.out (Below.refl _ _)
 | some x =>
  have HG:=Zh (show ¬(getF D1.shown n).isNone=true by cases hg:getF D1.shown n with
   | none=>rw [hg] at hsome;cases hsome
   | some d=>simp)
  clear hsome
  have HA:=Zh (add_any ⟨2,n,⟨#[]⟩,[]⟩ (.slice none 0 0) w2 (disk_nil HK.out) (by show (2:Nat)<3;decide) hp)
  go_wp2_with (first | (at_lookup;refine MS.wp_look_ok HT rfl (.tmp 21) (.tmp 22) rfl rfl n rfl HM.out ?_;rw [HR.out]) | (go_at_call 209;refine HA.out.mono ?_;rintro e w4 ⟨rfl,hk4⟩))
  go_ret
  rw [HF2.out,if_neg HG.out]
  exact ⟨rfl,DiskR.added HK.out hk4⟩

def fullD (D1:Dk) (n:Nm) (d:List UInt8):Prop:=((getF D1.shown n).isNone=true∧512≤D1.shown.length)∨D1.room<(usedF D1.shown:Int) - oldLen D1.shown n+d.length
instance (D1:Dk) (n:Nm) (d:List UInt8):Decidable (fullD D1 n d):=by unfold fullD;infer_instance
theorem DiskR.wrote {N:Nat} {G G1:Nat→Prop} {D1 D2:Dk} {v:Value} {k:Nat} {xs:List Value} {w w5 w6 w7:World} (hk:Sep w G [Asn.disk N D1 G1] w5) (hb:Below w5.heap.size w5 w6) (ho:w6.ownsRow w5.heap.size 5 1 v k xs) (h:∃ G',Sep w6 (fun b=>G1 b∨v.ownBlock=some b) [Asn.disk N D2 G'] w7):∃ G',Sep w G [Asn.disk N D2 G'] w7:=by
 obtain ⟨G',h1⟩:=h
 exact ⟨G',((hk.belowRow hb ho).swap1.join).call h1⟩
theorem row_sep {N:Nat} {G G1:Nat→Prop} {D1:Dk} {v:Value} {k:Nat} {xs:List Value} {w w5 w6:World} (hk:Sep w G [Asn.disk N D1 G1] w5) (hb:Below w5.heap.size w5 w6) (ho:w6.ownsRow w5.heap.size 5 1 v k xs):((Asn.disk N D1 G1).sep (.row 5 1 v k xs)).holds w6:=((hk.belowRow hb ho).swap1.join).at 0 rfl
set_option maxHeartbeats 16000000 in
theorem write_any6 {m N:Nat} {D:Dk} {G:Nat→Prop} (n:Nm) (a:Option Addr) (c:Nat) (d:List UInt8) (w:World) (h:(Asn.disk N D G).holds w) (ho:Ok m D) (hm:m≤1073741824) (hp:D.pend.length≤1073741824) (hd:Bytes w (.slice a d.length c) d) (hout:SlIn (fun k=>¬G k) (.slice a d.length c)) :
  Calls Tryz.prog 179 #[ptrV N,.string n,.slice a d.length c] w (DiskR N G (writeD D n d).2 (errV (writeD D n d).1) w):=by
 have HW:=Zh (works_any w h ho)
 have hpw:=pend_works D
 have ho1:=ho.works
 have HT:=mtFiles
 have hdl:d.length≤maxLen:=by obtain ⟨_,_,e,h1,h2,_⟩:=id hd;cases e;omega
 have HBY:=Zh (fun (wq:World) (hf:Fr G w wq)=>show Bytes wq (.slice a d.length c) d from SlV.fr hd hf hout)
 clear h hd hout
 rcases works_err D with h0 | h0
 rotate_left
 ·have HF:=Zh (show writeD D n d=(14,(worksD D).2) by
   unfold writeD
   simp only
   rw [if_pos (by omega),←h0])
  clear ho1
  have H0:=Lib.hid' h0
  clear h0 ho hp
  go_enter Tryz.func179, Tryz.ntmps179
  go_wp2_with (go_at_call 207;refine HW.out.mono ?_;rintro e w1 ⟨rfl,G1,hk⟩;rw [H0.out])
  go_ret
  rw [HF.out]
  exact ⟨rfl,G1,hk⟩
 have HF:=Zh (show writeD D n d=(if named n=false then (2,(worksD D).2) else if 65536<d.length then (3,(worksD D).2) else if ((getF (worksD D).2.shown n).isNone=true∧512≤(worksD D).2.shown.length)∨(worksD D).2.room<(usedF (worksD D).2.shown:Int) - oldLen (worksD D).2.shown n+d.length then (5,(worksD D).2) else (0,addD (worksD D).2 ⟨0,n,⟨#[]⟩,d⟩)) by
  unfold writeD;simp only;rw [if_neg (by omega)])
 have H0:=Lib.hid' h0
 rw [←hpw] at hp
 clear h0 ho hpw
 generalize (worksD D).2=D1 at *
 go_enter Tryz.func179, Tryz.ntmps179
 go_upto_region 4 with (go_at_call 207;refine HW.out.mono ?_;rintro e w1 ⟨rfl,G1,hk⟩;rw [H0.out,errV_0])
 obtain ⟨bs,bh,v,k,Ls,Lh,vs,hin⟩:=disk_in (hk.at 0 rfl)
 have c2:=hin.c2
 have hl:=hin.lt
 have HM:=Lib.hid' hin.mh
 obtain ⟨r,hr⟩:∃ r,MS.lookE Lh n=r:=⟨_,rfl⟩
 have HR:=Lib.hid' hr
 cases hf:named n with
 | false =>
  go_wp2_with (first | (at_lookup;refine MS.wp_look_ok HT rfl (.tmp 19) (.tmp 20) rfl rfl n rfl HM.out ?_;rw [HR.out]) | (go_at_call 208;refine (named_any n _).mono ?_;rintro e w2 ⟨rfl,hb2⟩;rw [hf]))
  go_ret
  rw [HF.out,if_pos hf]
  exact DiskR.from hk hb2
 | true =>
 by_cases h6:65536<d.length
 ·have h6':(65536:Int)<(d.length:Int):=by omega
  have HF2:=Zh (show writeD D n d=(3,D1) by rw [HF.out,if_neg (by rw [hf];simp),if_pos h6])
  clear h6 HF
  go_wp2_with (first | (at_lookup;refine MS.wp_look_ok HT rfl (.tmp 19) (.tmp 20) rfl rfl n rfl HM.out ?_;rw [HR.out]) | (go_at_call 208;refine (named_any n _).mono ?_;rintro e w2 ⟨rfl,hb2⟩;rw [hf]))
  go_ret
  rw [HF2.out]
  exact DiskR.from hk hb2
 have h6':¬(65536:Int)<(d.length:Int):=by omega
 have HF2:=Zh (show writeD D n d=(if fullD D1 n d then (5,D1) else (0,addD D1 ⟨0,n,⟨#[]⟩,d⟩)) by rw [HF.out,if_neg (by rw [hf];simp),if_neg h6];rfl)
 clear HF
 go_upto_region 9 with (first | (at_lookup;refine MS.wp_look_ok HT rfl (.tmp 19) (.tmp 20) rfl rfl n rfl HM.out ?_;rw [HR.out]) | (go_at_call 208;refine (named_any n _).mono ?_;rintro e w2 ⟨rfl,hb2⟩;rw [hf]))
 clear h6'
 have hin2:=hin.below hb2
 have hk2:=hk.below hb2
 have HK2:=Lib.hid' hk2
 have hS:=hin2.fh.sum hin2.pool
 have hsl:=Zh (hin2.fh.sl hin2.pool)
 have hSb:sumV Lh≤70368744177664:=by
  rw [hS]
  have h1:=used_le ho1.shown ho1.fewS
  have h2:65536*m≤65536*1073741824:=Nat.mul_le_mul_left _ hm
  omega
 have HU:=Zh (fun (wq:World) (hq:MS.MapAt wq bh Lh)=>used_any bh Lh wq hq hsl.out (by omega))
 have hLl:=hin2.fh.len
 have HIN:=Lib.hid' hin2
 have hroom:=ho1.room
 have HAD:=Zh (fun (wq:World) (x:Value) (hq:((Asn.disk N D1 G1).sep (.row 5 1 x d.length (byteVs d))).holds wq)=>add_any ⟨0,n,⟨#[]⟩,d⟩ x wq hq (by show (0:Nat)<3;decide) hp)
 clear hk hin c2 hl HM hb2 HW HR
 obtain ⟨S,hSS⟩:∃ S,sumV Lh=S:=⟨_,rfl⟩
 rw [hSS] at hS hSb HU
 have HSS:=Lib.hid' hS
 obtain ⟨rm,hrm⟩:∃ x,D1.room=x:=⟨_,rfl⟩
 have e0:=hin2.c0
 rw [hrm] at e0 hroom
 have HRM:=Lib.hid' hrm
 obtain ⟨q,hq⟩:∃ q,Lh.length=q:=⟨_,rfl⟩
 rw [hq] at hLl
 have HQ:=Lib.hid' hq
 have HQL:=Lib.hid' hLl
 have e2:=hin2.c2
 have el:=hin2.lt
 have em:=Lib.hid' hin2.mh
 have hsome:=hin2.isSome n
 rw [hr] at hsome
 clear hS hSS hrm hq hLl hsl
 have hd16:d.length≤65536:=by omega
 clear h6

 cases r with
 | some x =>
  obtain ⟨oa,oc,od,rfl,hg,hob⟩:=look_some hin2 hr
  have hol:=(ho1.shown.get hg).2
  have HOL:=Zh (show oldLen D1.shown n=od.length by unfold oldLen;rw [hg])
  have HNN:=Zh (show ¬(getF D1.shown n).isNone=true by rw [hg];simp)
  clear hr hg hob hin2 hsome ho1
  by_cases hfu:rm<(S:Int) - (od.length:Int)+(d.length:Int)
  ·have HFU:=Zh (show fullD D1 n d by unfold fullD;rw [HOL.out,HRM.out,←HSS.out];exact .inr hfu)
   refine startD (S:=(fun w'=>w'.cell? ⟨N,2,none⟩=some (.map (some bh))∧w'.cell? ⟨N,0,none⟩=some (.int .i64 rm)∧N<w'.heap.size∧MS.MapAt w' bh Lh)) (by kernel_rfl) ⟨e2,e0,el,em.out.block rfl⟩ (fun hH0=>?_)
   simp only [List.length_cons,List.length_nil,Nat.reduceAdd,List.replicate_succ,List.replicate_zero]
   refine tD 0 35 (.bool true) rfl rfl [(9,.bool true)] hH0 ?_
   dsimp only [sZ,sS]
   refine tD 1 36 (.bool false) rfl rfl [(35,.bool true)] hH0 ?_
   dsimp only [sZ,sS]
   refine tD 2 37 (.bool false) rfl rfl [(36,.bool false)] hH0 ?_
   dsimp only [sZ,sS]
   refine takeD (i:=3) (d:=38) (v:=undef) rfl rfl (by kernel_rfl) (by kernel_rfl) (by kernel_rfl) (fun _ _ _ h=>h) (Or.inr ⟨by kernel_rfl,rfl⟩) hH0 ?_
   dsimp only [sZ,sS]
   refine takeD (i:=4) (d:=39) (v:=undef) rfl rfl (by kernel_rfl) (by kernel_rfl) (by kernel_rfl) (fun _ _ _ h=>h) (Or.inr ⟨by kernel_rfl,rfl⟩) hH0 ?_
   dsimp only [sZ,sS]
   refine takeD (i:=5) (d:=40) (v:=undef) rfl rfl (by kernel_rfl) (by kernel_rfl) (by kernel_rfl) (fun _ _ _ h=>h) (Or.inr ⟨by kernel_rfl,rfl⟩) hH0 ?_
   dsimp only [sZ,sS]
   refine takeD (i:=6) (d:=41) (v:=undef) rfl rfl (by kernel_rfl) (by kernel_rfl) (by kernel_rfl) (fun _ _ _ h=>h) (Or.inr ⟨by kernel_rfl,rfl⟩) hH0 ?_
   dsimp only [sZ,sS]
   refine takeD (i:=7) (d:=42) (v:=undef) rfl rfl (by kernel_rfl) (by kernel_rfl) (by kernel_rfl) (fun _ _ _ h=>h) (Or.inr ⟨by kernel_rfl,rfl⟩) hH0 ?_
   dsimp only [sZ,sS]
   refine takeD (i:=8) (d:=43) (v:=undef) rfl rfl (by kernel_rfl) (by kernel_rfl) (by kernel_rfl) (fun _ _ _ h=>h) (Or.inr ⟨by kernel_rfl,rfl⟩) hH0 ?_
   dsimp only [sZ,sS]
   refine tD 9 44 (.bool false) rfl rfl [(37,.bool false),(43,undef)] hH0 ?_
   dsimp only [sZ,sS]
   refine tD 10 45 (.bool false) rfl rfl [(44,.bool false)] hH0 ?_
   dsimp only [sZ,sS]
   refine tD 11 46 (.pointer (some ⟨N,0,none⟩)) rfl rfl [(0,.pointer (some ⟨N,0,none⟩))] hH0 ?_
   dsimp only [sZ,sS]
   refine tD 12 47 (.pointer (some ⟨N,0,none⟩)) rfl rfl [(46,.pointer (some ⟨N,0,none⟩))] hH0 ?_
   dsimp only [sZ,sS]
   refine tD 13 48 (.pointer (some ⟨N,2,none⟩)) rfl rfl [(47,.pointer (some ⟨N,0,none⟩))] hH0 ?_
   dsimp only [sZ,sS]
   refine tD 14 49 (.map (some bh)) rfl rfl [(48,.pointer (some ⟨N,2,none⟩))] hH0 ?_
   dsimp only [sZ,sS]
   refine tD 16 51 (.slice oa od.length oc) rfl rfl [(8,.slice oa od.length oc)] hH0 ?_
   dsimp only [sZ,sS]
   refine tD 17 52 (.int .i64 (od.length:Nat)) rfl rfl [(51,.slice oa od.length oc)] hH0 ?_
   dsimp only [sZ,sS]
   refine tD 19 54 (.slice a d.length c) rfl rfl [(2,.slice a d.length c)] hH0 ?_
   dsimp only [sZ,sS]
   refine tD 20 55 (.int .i64 (d.length:Nat)) rfl rfl [(54,.slice a d.length c)] hH0 ?_
   dsimp only [sZ,sS]
   refine tD 22 57 (.pointer (some ⟨N,0,none⟩)) rfl rfl [(0,.pointer (some ⟨N,0,none⟩))] hH0 ?_
   dsimp only [sZ,sS]
   refine tD 23 58 (.pointer (some ⟨N,0,none⟩)) rfl rfl [(57,.pointer (some ⟨N,0,none⟩))] hH0 ?_
   dsimp only [sZ,sS]
   refine tD 24 59 (.pointer (some ⟨N,0,none⟩)) rfl rfl [(58,.pointer (some ⟨N,0,none⟩))] hH0 ?_
   dsimp only [sZ,sS]
   refine tD 25 60 (.int .i64 rm) rfl rfl [(59,.pointer (some ⟨N,0,none⟩))] hH0 ?_
   dsimp only [sZ,sS]
   refine rD 15 rfl (fun K hK=>?_)
   go_simp
   refine (HU.out w2.drew (em.out.block rfl)).mono ?_
   rintro en w5 ⟨rfl,hb5⟩
   have hin5:=HIN.out.below ((Below.drew (Below.refl w2.heap.size w2)).trans (hb5.mono (by simp)))
   have g0:=hin5.c0
   rw [HRM.out] at g0
   refine hK.out _ _ ?_ (fun hH1=>?_)
   ·exact ⟨hin5.c2,g0,hin5.lt,hin5.mh⟩
   clear hK K
   try simp only [Act.put,gA,gZ,gS,sA,sZ,sS]
   refine tE 18 53 (.int .i64 (((S:Nat):Int) - ((od.length:Nat):Int))) rfl rfl [(50,.int .i64 (S:Nat)),(52,.int .i64 (od.length:Nat))] hH1 ?_ ?_
   ·intro w hSw;go_simp;exact IntWalk.i64_in _ (by omega)
   dsimp only [sZ,sS]
   refine tE 21 56 (.int .i64 ((((S:Nat):Int) - ((od.length:Nat):Int))+((d.length:Nat):Int))) rfl rfl [(53,.int .i64 (((S:Nat):Int) - ((od.length:Nat):Int))),(55,.int .i64 (d.length:Nat))] hH1 ?_ ?_
   ·intro w hSw;go_simp;exact IntWalk.i64_in _ (by omega)
   dsimp only [sZ,sS]
   refine tD 26 61 (.bool true) rfl rfl [(56,.int .i64 ((((S:Nat):Int) - ((od.length:Nat):Int))+((d.length:Nat):Int))),(60,.int .i64 rm)] hH1 ?_
   dsimp only [sZ,sS]
   refine tD 27 62 (.bool true) rfl rfl [(45,.bool false),(61,.bool true)] hH1 ?_
   dsimp only [sZ,sS]
   refine tD 28 34 (.bool true) rfl rfl [(62,.bool true)] hH1 ?_
   dsimp only [sZ,sS]
   refine wpAnyH_done (by kernel_rfl) ?_ _
   have HB5:=Zh ((Below.drew (Below.refl w2.heap.size w2)).trans (hb5.mono (by simp)))
   clear hb5
   go_wp2_with fail
   go_ret
   rw [HF2.out,if_pos HFU.out]
   exact DiskR.from HK2.out HB5.out

  ·have HFU:=Zh (show ¬fullD D1 n d by unfold fullD;rw [HOL.out,HRM.out,←HSS.out];rintro (h | h);exact HNN.out h.1;exact hfu h)
   refine startD (S:=(fun w'=>w'.cell? ⟨N,2,none⟩=some (.map (some bh))∧w'.cell? ⟨N,0,none⟩=some (.int .i64 rm)∧N<w'.heap.size∧MS.MapAt w' bh Lh)) (by kernel_rfl) ⟨e2,e0,el,em.out.block rfl⟩ (fun hH0=>?_)
   simp only [List.length_cons,List.length_nil,Nat.reduceAdd,List.replicate_succ,List.replicate_zero]
   refine tD 0 35 (.bool true) rfl rfl [(9,.bool true)] hH0 ?_
   dsimp only [sZ,sS]
   refine tD 1 36 (.bool false) rfl rfl [(35,.bool true)] hH0 ?_
   dsimp only [sZ,sS]
   refine tD 2 37 (.bool false) rfl rfl [(36,.bool false)] hH0 ?_
   dsimp only [sZ,sS]
   refine takeD (i:=3) (d:=38) (v:=undef) rfl rfl (by kernel_rfl) (by kernel_rfl) (by kernel_rfl) (fun _ _ _ h=>h) (Or.inr ⟨by kernel_rfl,rfl⟩) hH0 ?_
   dsimp only [sZ,sS]
   refine takeD (i:=4) (d:=39) (v:=undef) rfl rfl (by kernel_rfl) (by kernel_rfl) (by kernel_rfl) (fun _ _ _ h=>h) (Or.inr ⟨by kernel_rfl,rfl⟩) hH0 ?_
   dsimp only [sZ,sS]
   refine takeD (i:=5) (d:=40) (v:=undef) rfl rfl (by kernel_rfl) (by kernel_rfl) (by kernel_rfl) (fun _ _ _ h=>h) (Or.inr ⟨by kernel_rfl,rfl⟩) hH0 ?_
   dsimp only [sZ,sS]
   refine takeD (i:=6) (d:=41) (v:=undef) rfl rfl (by kernel_rfl) (by kernel_rfl) (by kernel_rfl) (fun _ _ _ h=>h) (Or.inr ⟨by kernel_rfl,rfl⟩) hH0 ?_
   dsimp only [sZ,sS]
   refine takeD (i:=7) (d:=42) (v:=undef) rfl rfl (by kernel_rfl) (by kernel_rfl) (by kernel_rfl) (fun _ _ _ h=>h) (Or.inr ⟨by kernel_rfl,rfl⟩) hH0 ?_
   dsimp only [sZ,sS]
   refine takeD (i:=8) (d:=43) (v:=undef) rfl rfl (by kernel_rfl) (by kernel_rfl) (by kernel_rfl) (fun _ _ _ h=>h) (Or.inr ⟨by kernel_rfl,rfl⟩) hH0 ?_
   dsimp only [sZ,sS]
   refine tD 9 44 (.bool false) rfl rfl [(37,.bool false),(43,undef)] hH0 ?_
   dsimp only [sZ,sS]
   refine tD 10 45 (.bool false) rfl rfl [(44,.bool false)] hH0 ?_
   dsimp only [sZ,sS]
   refine tD 11 46 (.pointer (some ⟨N,0,none⟩)) rfl rfl [(0,.pointer (some ⟨N,0,none⟩))] hH0 ?_
   dsimp only [sZ,sS]
   refine tD 12 47 (.pointer (some ⟨N,0,none⟩)) rfl rfl [(46,.pointer (some ⟨N,0,none⟩))] hH0 ?_
   dsimp only [sZ,sS]
   refine tD 13 48 (.pointer (some ⟨N,2,none⟩)) rfl rfl [(47,.pointer (some ⟨N,0,none⟩))] hH0 ?_
   dsimp only [sZ,sS]
   refine tD 14 49 (.map (some bh)) rfl rfl [(48,.pointer (some ⟨N,2,none⟩))] hH0 ?_
   dsimp only [sZ,sS]
   refine tD 16 51 (.slice oa od.length oc) rfl rfl [(8,.slice oa od.length oc)] hH0 ?_
   dsimp only [sZ,sS]
   refine tD 17 52 (.int .i64 (od.length:Nat)) rfl rfl [(51,.slice oa od.length oc)] hH0 ?_
   dsimp only [sZ,sS]
   refine tD 19 54 (.slice a d.length c) rfl rfl [(2,.slice a d.length c)] hH0 ?_
   dsimp only [sZ,sS]
   refine tD 20 55 (.int .i64 (d.length:Nat)) rfl rfl [(54,.slice a d.length c)] hH0 ?_
   dsimp only [sZ,sS]
   refine tD 22 57 (.pointer (some ⟨N,0,none⟩)) rfl rfl [(0,.pointer (some ⟨N,0,none⟩))] hH0 ?_
   dsimp only [sZ,sS]
   refine tD 23 58 (.pointer (some ⟨N,0,none⟩)) rfl rfl [(57,.pointer (some ⟨N,0,none⟩))] hH0 ?_
   dsimp only [sZ,sS]
   refine tD 24 59 (.pointer (some ⟨N,0,none⟩)) rfl rfl [(58,.pointer (some ⟨N,0,none⟩))] hH0 ?_
   dsimp only [sZ,sS]
   refine tD 25 60 (.int .i64 rm) rfl rfl [(59,.pointer (some ⟨N,0,none⟩))] hH0 ?_
   dsimp only [sZ,sS]
   refine rD 15 rfl (fun K hK=>?_)
   go_simp
   refine (HU.out w2.drew (em.out.block rfl)).mono ?_
   rintro en w5 ⟨rfl,hb5⟩
   have hin5:=HIN.out.below ((Below.drew (Below.refl w2.heap.size w2)).trans (hb5.mono (by simp)))
   have g0:=hin5.c0
   rw [HRM.out] at g0
   refine hK.out _ _ ?_ (fun hH1=>?_)
   ·exact ⟨hin5.c2,g0,hin5.lt,hin5.mh⟩
   clear hK K
   try simp only [Act.put,gA,gZ,gS,sA,sZ,sS]
   refine tE 18 53 (.int .i64 (((S:Nat):Int) - ((od.length:Nat):Int))) rfl rfl [(50,.int .i64 (S:Nat)),(52,.int .i64 (od.length:Nat))] hH1 ?_ ?_
   ·intro w hSw;go_simp;exact IntWalk.i64_in _ (by omega)
   dsimp only [sZ,sS]
   refine tE 21 56 (.int .i64 ((((S:Nat):Int) - ((od.length:Nat):Int))+((d.length:Nat):Int))) rfl rfl [(53,.int .i64 (((S:Nat):Int) - ((od.length:Nat):Int))),(55,.int .i64 (d.length:Nat))] hH1 ?_ ?_
   ·intro w hSw;go_simp;exact IntWalk.i64_in _ (by omega)
   dsimp only [sZ,sS]
   refine tD 26 61 (.bool false) rfl rfl [(56,.int .i64 ((((S:Nat):Int) - ((od.length:Nat):Int))+((d.length:Nat):Int))),(60,.int .i64 rm)] hH1 ?_
   dsimp only [sZ,sS]
   refine tD 27 62 (.bool false) rfl rfl [(45,.bool false),(61,.bool false)] hH1 ?_
   dsimp only [sZ,sS]
   refine tD 28 34 (.bool false) rfl rfl [(62,.bool false)] hH1 ?_
   dsimp only [sZ,sS]
   refine wpAnyH_done (by kernel_rfl) ?_ _
   have HB5:=Zh ((Below.drew (Below.refl w2.heap.size w2)).trans (hb5.mono (by simp)))
   clear hb5
   have HK5:=Zh (HK2.out.below HB5.out)
   have HBQ:=Zh (HBY.out _ HK5.out.fr)
   go_wp2_with (first | (go_at_call 49;refine (clone_any _ d _ HBQ.out (by omega)).mono ?_;rintro e w6 ⟨a6,c6,rfl,ho6,hb6⟩;have HA:=Zh (HAD.out _ _ (row_sep HK5.out hb6 ho6))) | (go_at_call 209;refine HA.out.mono ?_;rintro e w7 ⟨rfl,hk7⟩))
   go_ret
   rw [HF2.out,if_neg HFU.out]
   exact ⟨rfl,DiskR.wrote HK5.out hb6 ho6 hk7⟩

 | none =>
  have hgn:getF D1.shown n=none:=by cases hg:getF D1.shown n with
   | none=>rfl
   | some d=>rw [hg] at hsome;cases hsome
  have HOL:=Zh (show oldLen D1.shown n=0 by unfold oldLen;rw [hgn])
  have HNN:=Zh (show (getF D1.shown n).isNone=true by rw [hgn];rfl)
  clear hr hgn hin2 hsome ho1
  by_cases hbig:512≤q
  ·have hbig':(512:Int)≤(q:Int):=by omega
   have HFU:=Zh (show fullD D1 n d from .inl ⟨HNN.out,by rw [←HQL.out];exact hbig⟩)
   clear hbig
   refine startD (S:=(fun w'=>w'.cell? ⟨N,2,none⟩=some (.map (some bh))∧w'.cell? ⟨N,0,none⟩=some (.int .i64 rm)∧N<w'.heap.size∧MS.MapAt w' bh Lh)) (by kernel_rfl) ⟨e2,e0,el,em.out.block rfl⟩ (fun hH0=>?_)
   simp only [List.length_cons,List.length_nil,Nat.reduceAdd,List.replicate_succ,List.replicate_zero]
   refine tD 0 35 (.bool false) rfl rfl [(9,.bool false)] hH0 ?_
   dsimp only [sZ,sS]
   refine tD 1 36 (.bool true) rfl rfl [(35,.bool false)] hH0 ?_
   dsimp only [sZ,sS]
   refine tD 2 37 (.bool true) rfl rfl [(36,.bool true)] hH0 ?_
   dsimp only [sZ,sS]
   refine tD 3 38 (.pointer (some ⟨N,0,none⟩)) rfl rfl [(0,.pointer (some ⟨N,0,none⟩))] hH0 ?_
   dsimp only [sZ,sS]
   refine tD 4 39 (.pointer (some ⟨N,0,none⟩)) rfl rfl [(38,.pointer (some ⟨N,0,none⟩))] hH0 ?_
   dsimp only [sZ,sS]
   refine tD 5 40 (.pointer (some ⟨N,2,none⟩)) rfl rfl [(39,.pointer (some ⟨N,0,none⟩))] hH0 ?_
   dsimp only [sZ,sS]
   refine tD 6 41 (.map (some bh)) rfl rfl [(40,.pointer (some ⟨N,2,none⟩))] hH0 ?_
   dsimp only [sZ,sS]
   refine tE 7 42 (.int .i64 (q:Nat)) rfl rfl [(41,.map (some bh))] hH0 ?_ ?_
   ·intro w hSw;rw [←HQ.out];exact exec_len HT hSw.2.2.2 (.tmp 41) rfl rfl
   dsimp only [sZ,sS]
   refine tD 8 43 (.bool true) rfl rfl [(42,.int .i64 (q:Nat))] hH0 ?_
   dsimp only [sZ,sS]
   refine tD 9 44 (.bool true) rfl rfl [(37,.bool true),(43,.bool true)] hH0 ?_
   dsimp only [sZ,sS]
   refine tD 10 45 (.bool true) rfl rfl [(44,.bool true)] hH0 ?_
   dsimp only [sZ,sS]
   refine takeD (i:=11) (d:=46) (v:=undef) rfl rfl (by kernel_rfl) (by kernel_rfl) (by kernel_rfl) (fun _ _ _ h=>h) (Or.inr ⟨by kernel_rfl,rfl⟩) hH0 ?_
   dsimp only [sZ,sS]
   refine takeD (i:=12) (d:=47) (v:=undef) rfl rfl (by kernel_rfl) (by kernel_rfl) (by kernel_rfl) (fun _ _ _ h=>h) (Or.inr ⟨by kernel_rfl,rfl⟩) hH0 ?_
   dsimp only [sZ,sS]
   refine takeD (i:=13) (d:=48) (v:=undef) rfl rfl (by kernel_rfl) (by kernel_rfl) (by kernel_rfl) (fun _ _ _ h=>h) (Or.inr ⟨by kernel_rfl,rfl⟩) hH0 ?_
   dsimp only [sZ,sS]
   refine takeD (i:=14) (d:=49) (v:=undef) rfl rfl (by kernel_rfl) (by kernel_rfl) (by kernel_rfl) (fun _ _ _ h=>h) (Or.inr ⟨by kernel_rfl,rfl⟩) hH0 ?_
   dsimp only [sZ,sS]
   refine takeD (i:=15) (d:=50) (v:=undef) rfl rfl (by kernel_rfl) (by kernel_rfl) (by kernel_rfl) (fun _ _ _ h=>h) (Or.inr ⟨by kernel_rfl,rfl⟩) hH0 ?_
   dsimp only [sZ,sS]
   refine takeD (i:=16) (d:=51) (v:=undef) rfl rfl (by kernel_rfl) (by kernel_rfl) (by kernel_rfl) (fun _ _ _ h=>h) (Or.inr ⟨by kernel_rfl,rfl⟩) hH0 ?_
   dsimp only [sZ,sS]
   refine takeD (i:=17) (d:=52) (v:=undef) rfl rfl (by kernel_rfl) (by kernel_rfl) (by kernel_rfl) (fun _ _ _ h=>h) (Or.inr ⟨by kernel_rfl,rfl⟩) hH0 ?_
   dsimp only [sZ,sS]
   refine takeD (i:=18) (d:=53) (v:=undef) rfl rfl (by kernel_rfl) (by kernel_rfl) (by kernel_rfl) (fun _ _ _ h=>h) (Or.inr ⟨by kernel_rfl,rfl⟩) hH0 ?_
   dsimp only [sZ,sS]
   refine takeD (i:=19) (d:=54) (v:=undef) rfl rfl (by kernel_rfl) (by kernel_rfl) (by kernel_rfl) (fun _ _ _ h=>h) (Or.inr ⟨by kernel_rfl,rfl⟩) hH0 ?_
   dsimp only [sZ,sS]
   refine takeD (i:=20) (d:=55) (v:=undef) rfl rfl (by kernel_rfl) (by kernel_rfl) (by kernel_rfl) (fun _ _ _ h=>h) (Or.inr ⟨by kernel_rfl,rfl⟩) hH0 ?_
   dsimp only [sZ,sS]
   refine takeD (i:=21) (d:=56) (v:=undef) rfl rfl (by kernel_rfl) (by kernel_rfl) (by kernel_rfl) (fun _ _ _ h=>h) (Or.inr ⟨by kernel_rfl,rfl⟩) hH0 ?_
   dsimp only [sZ,sS]
   refine takeD (i:=22) (d:=57) (v:=undef) rfl rfl (by kernel_rfl) (by kernel_rfl) (by kernel_rfl) (fun _ _ _ h=>h) (Or.inr ⟨by kernel_rfl,rfl⟩) hH0 ?_
   dsimp only [sZ,sS]
   refine takeD (i:=23) (d:=58) (v:=undef) rfl rfl (by kernel_rfl) (by kernel_rfl) (by kernel_rfl) (fun _ _ _ h=>h) (Or.inr ⟨by kernel_rfl,rfl⟩) hH0 ?_
   dsimp only [sZ,sS]
   refine takeD (i:=24) (d:=59) (v:=undef) rfl rfl (by kernel_rfl) (by kernel_rfl) (by kernel_rfl) (fun _ _ _ h=>h) (Or.inr ⟨by kernel_rfl,rfl⟩) hH0 ?_
   dsimp only [sZ,sS]
   refine takeD (i:=25) (d:=60) (v:=undef) rfl rfl (by kernel_rfl) (by kernel_rfl) (by kernel_rfl) (fun _ _ _ h=>h) (Or.inr ⟨by kernel_rfl,rfl⟩) hH0 ?_
   dsimp only [sZ,sS]
   refine takeD (i:=26) (d:=61) (v:=undef) rfl rfl (by kernel_rfl) (by kernel_rfl) (by kernel_rfl) (fun _ _ _ h=>h) (Or.inr ⟨by kernel_rfl,rfl⟩) hH0 ?_
   dsimp only [sZ,sS]
   refine tD 27 62 (.bool true) rfl rfl [(45,.bool true),(61,undef)] hH0 ?_
   dsimp only [sZ,sS]
   refine tD 28 34 (.bool true) rfl rfl [(62,.bool true)] hH0 ?_
   dsimp only [sZ,sS]
   refine wpAnyH_done (by kernel_rfl) ?_ _
   have HB5:=Zh (Below.drew (Below.refl w2.heap.size w2))
   go_wp2_with fail
   go_ret
   rw [HF2.out,if_pos HFU.out]
   exact DiskR.from HK2.out HB5.out

  have hbig':¬(512:Int)≤(q:Int):=by omega
  by_cases hfu:rm<(S:Int)+(d.length:Int)
  ·have HFU:=Zh (show fullD D1 n d by unfold fullD;rw [HOL.out,HRM.out,←HSS.out];exact .inr (by omega))
   clear hbig
   refine startD (S:=(fun w'=>w'.cell? ⟨N,2,none⟩=some (.map (some bh))∧w'.cell? ⟨N,0,none⟩=some (.int .i64 rm)∧N<w'.heap.size∧MS.MapAt w' bh Lh)) (by kernel_rfl) ⟨e2,e0,el,em.out.block rfl⟩ (fun hH0=>?_)
   simp only [List.length_cons,List.length_nil,Nat.reduceAdd,List.replicate_succ,List.replicate_zero]
   refine tD 0 35 (.bool false) rfl rfl [(9,.bool false)] hH0 ?_
   dsimp only [sZ,sS]
   refine tD 1 36 (.bool true) rfl rfl [(35,.bool false)] hH0 ?_
   dsimp only [sZ,sS]
   refine tD 2 37 (.bool true) rfl rfl [(36,.bool true)] hH0 ?_
   dsimp only [sZ,sS]
   refine tD 3 38 (.pointer (some ⟨N,0,none⟩)) rfl rfl [(0,.pointer (some ⟨N,0,none⟩))] hH0 ?_
   dsimp only [sZ,sS]
   refine tD 4 39 (.pointer (some ⟨N,0,none⟩)) rfl rfl [(38,.pointer (some ⟨N,0,none⟩))] hH0 ?_
   dsimp only [sZ,sS]
   refine tD 5 40 (.pointer (some ⟨N,2,none⟩)) rfl rfl [(39,.pointer (some ⟨N,0,none⟩))] hH0 ?_
   dsimp only [sZ,sS]
   refine tD 6 41 (.map (some bh)) rfl rfl [(40,.pointer (some ⟨N,2,none⟩))] hH0 ?_
   dsimp only [sZ,sS]
   refine tE 7 42 (.int .i64 (q:Nat)) rfl rfl [(41,.map (some bh))] hH0 ?_ ?_
   ·intro w hSw;rw [←HQ.out];exact exec_len HT hSw.2.2.2 (.tmp 41) rfl rfl
   dsimp only [sZ,sS]
   refine tD 8 43 (.bool false) rfl rfl [(42,.int .i64 (q:Nat))] hH0 ?_
   dsimp only [sZ,sS]
   refine tD 9 44 (.bool false) rfl rfl [(37,.bool true),(43,.bool false)] hH0 ?_
   dsimp only [sZ,sS]
   refine tD 10 45 (.bool false) rfl rfl [(44,.bool false)] hH0 ?_
   dsimp only [sZ,sS]
   refine tD 11 46 (.pointer (some ⟨N,0,none⟩)) rfl rfl [(0,.pointer (some ⟨N,0,none⟩))] hH0 ?_
   dsimp only [sZ,sS]
   refine tD 12 47 (.pointer (some ⟨N,0,none⟩)) rfl rfl [(46,.pointer (some ⟨N,0,none⟩))] hH0 ?_
   dsimp only [sZ,sS]
   refine tD 13 48 (.pointer (some ⟨N,2,none⟩)) rfl rfl [(47,.pointer (some ⟨N,0,none⟩))] hH0 ?_
   dsimp only [sZ,sS]
   refine tD 14 49 (.map (some bh)) rfl rfl [(48,.pointer (some ⟨N,2,none⟩))] hH0 ?_
   dsimp only [sZ,sS]
   refine tD 16 51 (.slice none 0 0) rfl rfl [(8,.slice none 0 0)] hH0 ?_
   dsimp only [sZ,sS]
   refine tD 17 52 (.int .i64 0) rfl rfl [(51,.slice none 0 0)] hH0 ?_
   dsimp only [sZ,sS]
   refine tD 19 54 (.slice a d.length c) rfl rfl [(2,.slice a d.length c)] hH0 ?_
   dsimp only [sZ,sS]
   refine tD 20 55 (.int .i64 (d.length:Nat)) rfl rfl [(54,.slice a d.length c)] hH0 ?_
   dsimp only [sZ,sS]
   refine tD 22 57 (.pointer (some ⟨N,0,none⟩)) rfl rfl [(0,.pointer (some ⟨N,0,none⟩))] hH0 ?_
   dsimp only [sZ,sS]
   refine tD 23 58 (.pointer (some ⟨N,0,none⟩)) rfl rfl [(57,.pointer (some ⟨N,0,none⟩))] hH0 ?_
   dsimp only [sZ,sS]
   refine tD 24 59 (.pointer (some ⟨N,0,none⟩)) rfl rfl [(58,.pointer (some ⟨N,0,none⟩))] hH0 ?_
   dsimp only [sZ,sS]
   refine tD 25 60 (.int .i64 rm) rfl rfl [(59,.pointer (some ⟨N,0,none⟩))] hH0 ?_
   dsimp only [sZ,sS]
   refine rD 15 rfl (fun K hK=>?_)
   go_simp
   refine (HU.out w2.drew (em.out.block rfl)).mono ?_
   rintro en w5 ⟨rfl,hb5⟩
   have hin5:=HIN.out.below ((Below.drew (Below.refl w2.heap.size w2)).trans (hb5.mono (by simp)))
   have g0:=hin5.c0
   rw [HRM.out] at g0
   refine hK.out _ _ ?_ (fun hH1=>?_)
   ·exact ⟨hin5.c2,g0,hin5.lt,hin5.mh⟩
   clear hK K
   try simp only [Act.put,gA,gZ,gS,sA,sZ,sS]
   refine tE 18 53 (.int .i64 ((S:Nat):Int)) rfl rfl [(50,.int .i64 (S:Nat)),(52,.int .i64 0)] hH1 ?_ ?_
   ·intro w hSw;go_simp;exact IntWalk.i64_in _ (by omega)
   dsimp only [sZ,sS]
   refine tE 21 56 (.int .i64 (((S:Nat):Int)+((d.length:Nat):Int))) rfl rfl [(53,.int .i64 ((S:Nat):Int)),(55,.int .i64 (d.length:Nat))] hH1 ?_ ?_
   ·intro w hSw;go_simp;exact IntWalk.i64_in _ (by omega)
   dsimp only [sZ,sS]
   refine tD 26 61 (.bool true) rfl rfl [(56,.int .i64 (((S:Nat):Int)+((d.length:Nat):Int))),(60,.int .i64 rm)] hH1 ?_
   dsimp only [sZ,sS]
   refine tD 27 62 (.bool true) rfl rfl [(45,.bool false),(61,.bool true)] hH1 ?_
   dsimp only [sZ,sS]
   refine tD 28 34 (.bool true) rfl rfl [(62,.bool true)] hH1 ?_
   dsimp only [sZ,sS]
   refine wpAnyH_done (by kernel_rfl) ?_ _
   have HB5:=Zh ((Below.drew (Below.refl w2.heap.size w2)).trans (hb5.mono (by simp)))
   clear hb5
   go_wp2_with fail
   go_ret
   rw [HF2.out,if_pos HFU.out]
   exact DiskR.from HK2.out HB5.out

  ·have HFU:=Zh (show ¬fullD D1 n d by unfold fullD;rw [HOL.out,HRM.out,←HSS.out,←HQL.out];rintro (h | h);exact hbig h.2;omega)
   clear hbig
   refine startD (S:=(fun w'=>w'.cell? ⟨N,2,none⟩=some (.map (some bh))∧w'.cell? ⟨N,0,none⟩=some (.int .i64 rm)∧N<w'.heap.size∧MS.MapAt w' bh Lh)) (by kernel_rfl) ⟨e2,e0,el,em.out.block rfl⟩ (fun hH0=>?_)
   simp only [List.length_cons,List.length_nil,Nat.reduceAdd,List.replicate_succ,List.replicate_zero]
   refine tD 0 35 (.bool false) rfl rfl [(9,.bool false)] hH0 ?_
   dsimp only [sZ,sS]
   refine tD 1 36 (.bool true) rfl rfl [(35,.bool false)] hH0 ?_
   dsimp only [sZ,sS]
   refine tD 2 37 (.bool true) rfl rfl [(36,.bool true)] hH0 ?_
   dsimp only [sZ,sS]
   refine tD 3 38 (.pointer (some ⟨N,0,none⟩)) rfl rfl [(0,.pointer (some ⟨N,0,none⟩))] hH0 ?_
   dsimp only [sZ,sS]
   refine tD 4 39 (.pointer (some ⟨N,0,none⟩)) rfl rfl [(38,.pointer (some ⟨N,0,none⟩))] hH0 ?_
   dsimp only [sZ,sS]
   refine tD 5 40 (.pointer (some ⟨N,2,none⟩)) rfl rfl [(39,.pointer (some ⟨N,0,none⟩))] hH0 ?_
   dsimp only [sZ,sS]
   refine tD 6 41 (.map (some bh)) rfl rfl [(40,.pointer (some ⟨N,2,none⟩))] hH0 ?_
   dsimp only [sZ,sS]
   refine tE 7 42 (.int .i64 (q:Nat)) rfl rfl [(41,.map (some bh))] hH0 ?_ ?_
   ·intro w hSw;rw [←HQ.out];exact exec_len HT hSw.2.2.2 (.tmp 41) rfl rfl
   dsimp only [sZ,sS]
   refine tD 8 43 (.bool false) rfl rfl [(42,.int .i64 (q:Nat))] hH0 ?_
   dsimp only [sZ,sS]
   refine tD 9 44 (.bool false) rfl rfl [(37,.bool true),(43,.bool false)] hH0 ?_
   dsimp only [sZ,sS]
   refine tD 10 45 (.bool false) rfl rfl [(44,.bool false)] hH0 ?_
   dsimp only [sZ,sS]
   refine tD 11 46 (.pointer (some ⟨N,0,none⟩)) rfl rfl [(0,.pointer (some ⟨N,0,none⟩))] hH0 ?_
   dsimp only [sZ,sS]
   refine tD 12 47 (.pointer (some ⟨N,0,none⟩)) rfl rfl [(46,.pointer (some ⟨N,0,none⟩))] hH0 ?_
   dsimp only [sZ,sS]
   refine tD 13 48 (.pointer (some ⟨N,2,none⟩)) rfl rfl [(47,.pointer (some ⟨N,0,none⟩))] hH0 ?_
   dsimp only [sZ,sS]
   refine tD 14 49 (.map (some bh)) rfl rfl [(48,.pointer (some ⟨N,2,none⟩))] hH0 ?_
   dsimp only [sZ,sS]
   refine tD 16 51 (.slice none 0 0) rfl rfl [(8,.slice none 0 0)] hH0 ?_
   dsimp only [sZ,sS]
   refine tD 17 52 (.int .i64 0) rfl rfl [(51,.slice none 0 0)] hH0 ?_
   dsimp only [sZ,sS]
   refine tD 19 54 (.slice a d.length c) rfl rfl [(2,.slice a d.length c)] hH0 ?_
   dsimp only [sZ,sS]
   refine tD 20 55 (.int .i64 (d.length:Nat)) rfl rfl [(54,.slice a d.length c)] hH0 ?_
   dsimp only [sZ,sS]
   refine tD 22 57 (.pointer (some ⟨N,0,none⟩)) rfl rfl [(0,.pointer (some ⟨N,0,none⟩))] hH0 ?_
   dsimp only [sZ,sS]
   refine tD 23 58 (.pointer (some ⟨N,0,none⟩)) rfl rfl [(57,.pointer (some ⟨N,0,none⟩))] hH0 ?_
   dsimp only [sZ,sS]
   refine tD 24 59 (.pointer (some ⟨N,0,none⟩)) rfl rfl [(58,.pointer (some ⟨N,0,none⟩))] hH0 ?_
   dsimp only [sZ,sS]
   refine tD 25 60 (.int .i64 rm) rfl rfl [(59,.pointer (some ⟨N,0,none⟩))] hH0 ?_
   dsimp only [sZ,sS]
   refine rD 15 rfl (fun K hK=>?_)
   go_simp
   refine (HU.out w2.drew (em.out.block rfl)).mono ?_
   rintro en w5 ⟨rfl,hb5⟩
   have hin5:=HIN.out.below ((Below.drew (Below.refl w2.heap.size w2)).trans (hb5.mono (by simp)))
   have g0:=hin5.c0
   rw [HRM.out] at g0
   refine hK.out _ _ ?_ (fun hH1=>?_)
   ·exact ⟨hin5.c2,g0,hin5.lt,hin5.mh⟩
   clear hK K
   try simp only [Act.put,gA,gZ,gS,sA,sZ,sS]
   refine tE 18 53 (.int .i64 ((S:Nat):Int)) rfl rfl [(50,.int .i64 (S:Nat)),(52,.int .i64 0)] hH1 ?_ ?_
   ·intro w hSw;go_simp;exact IntWalk.i64_in _ (by omega)
   dsimp only [sZ,sS]
   refine tE 21 56 (.int .i64 (((S:Nat):Int)+((d.length:Nat):Int))) rfl rfl [(53,.int .i64 ((S:Nat):Int)),(55,.int .i64 (d.length:Nat))] hH1 ?_ ?_
   ·intro w hSw;go_simp;exact IntWalk.i64_in _ (by omega)
   dsimp only [sZ,sS]
   refine tD 26 61 (.bool false) rfl rfl [(56,.int .i64 (((S:Nat):Int)+((d.length:Nat):Int))),(60,.int .i64 rm)] hH1 ?_
   dsimp only [sZ,sS]
   refine tD 27 62 (.bool false) rfl rfl [(45,.bool false),(61,.bool false)] hH1 ?_
   dsimp only [sZ,sS]
   refine tD 28 34 (.bool false) rfl rfl [(62,.bool false)] hH1 ?_
   dsimp only [sZ,sS]
   refine wpAnyH_done (by kernel_rfl) ?_ _
   have HB5:=Zh ((Below.drew (Below.refl w2.heap.size w2)).trans (hb5.mono (by simp)))
   clear hb5
   have HK5:=Zh (HK2.out.below HB5.out)
   have HBQ:=Zh (HBY.out _ HK5.out.fr)
   go_wp2_with (first | (go_at_call 49;refine (clone_any _ d _ HBQ.out (by omega)).mono ?_;rintro e w6 ⟨a6,c6,rfl,ho6,hb6⟩;have HA:=Zh (HAD.out _ _ (row_sep HK5.out hb6 ho6))) | (go_at_call 209;refine HA.out.mono ?_;rintro e w7 ⟨rfl,hk7⟩))
   go_ret
   rw [HF2.out,if_neg HFU.out]
   exact ⟨rfl,DiskR.wrote HK5.out hb6 ho6 hk7⟩

end DK
end Go.Proofs.YtaodldbgikiekaaGreatDoor
