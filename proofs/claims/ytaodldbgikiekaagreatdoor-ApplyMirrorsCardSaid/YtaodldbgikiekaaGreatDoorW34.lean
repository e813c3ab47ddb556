/- Proved here: a part of the proof (34 of 35). -/
import Derived.Test.YtaodldbgikiekaaGreatDoorW33
import Derived.Test.YtaodldbgikiekaaGreatDoorW32
import Derived.Test.YtaodldbgikiekaaGreatDoorW11
import Derived.Test.YtaodldbgikiekaaGreatDoorW29
import Derived.Test.YtaodldbgikiekaaGreatDoorW3
import Derived.Test.YtaodldbgikiekaaGreatDoorW31
import Derived.Deep.DeepCutAuto
import Derived.Deep.CutBlock
set_option linter.unusedSimpArgs false
set_option linter.unusedVariables false
set_option maxRecDepth 100000
namespace Go.Proofs.YtaodldbgikiekaaGreatDoor
open Go.RowKit
namespace SL
open DK SH SQ
set_option maxHeartbeats 4000000 in
theorem tadd3_any {w0:World} {F:Nat→Prop} {L:List Asn} {t:Nat} {q:Tn} {X:List Ms} {a:Option Addr} {k:Nat} (x:Ms) (w:World) (h:Sep w0 F (lnB t q a X.length k::lnR X a k::L) w) (hl:X.length≤64) :
  Calls Tryz.prog 48 #[ptrV t,msV x,.pointer (some ⟨t,3,none⟩)] w fun e w'=>(64≤X.length∧e=.returned (errV 5)∧Sep w0 F (lnB t q a X.length k::lnR X a k::L) w')∨(X.length<64∧e=.returned .nilIface∧∃ q' a' k',Sep w0 F (lnB t q' a' (X.length+1) k'::lnR (X++[x]) a' k'::L) w'):=by
 have H:=Lib.hid' h
 obtain ⟨xa,xk,xd⟩:=x
 rw [show msV ⟨xa,xk,xd⟩=.slice xa xd.length xk from rfl]
 have c4:=h.cell 0 rfl 4 rfl;have tl:=h.lt 0 rfl
 clear h
 by_cases hf:64≤X.length
 ·go_enter Tryz.func48, Tryz.ntmps48
  go_wp2_with fail
  go_ret
  exact .inl ⟨hf,rfl,H.out⟩
 go_enter Tryz.func48, Tryz.ntmps48
 have hX:X.length<64:=by omega
 have f4:=H.out.free 0 rfl 4
 have H1:=H.out.allocAt w.heap.size [.slice xa xd.length xk] 26 rfl
 go_upto_region 4 with (at_builtin;refine Sep.append etMsg rfl (.tmp 18) (.tmp 20) rfl [.slice xa xd.length xk] rfl H.out 1 rfl rfl rfl (by simp [Value.oneCell']) (by omega) ?_;intro a7 c7 w7 H7;have p3:=H7.cell 1 rfl 4 rfl;have pf:=H7.free 1 rfl 4;have pl:=H7.lt 1 rfl)
 have H8:=H7.set 1 rfl 4 (.slice a7 (X.length+1) c7)
 rw [show Asn.row 26 1 (.slice a7 (X.length+1) c7) (X.length+1) (X.map msV++[.slice xa xd.length xk])=lnR (X++[⟨xa,xk,xd⟩]) a7 c7 by
  show _=Asn.row _ _ _ _ _
  rw [List.length_append,List.map_append]
  rfl] at H8
 have HB:=Zh (show Sep w0 F (lnB t q a7 (X.length+1) c7::lnR (X++[⟨xa,xk,xd⟩]) a7 c7::L) (w7.setCell ⟨t,4,none⟩ (.slice a7 (X.length+1) c7)) from H8)
 clear H7 H8 p3 pf pl f4 c4 tl H1 H
 generalize w7.setCell ⟨t,4,none⟩ (.slice a7 (X.length+1) c7)=w8 at *
 have HA:=Zh (aadd_any w8 (HB.out.cell 0 rfl 3 rfl) (HB.out.free 0 rfl 3))
 go_wp2_with fail
 refine HA.out.mono ?_
 rintro en w9 ⟨rfl,rfl⟩
 have H9:=Zh (HB.out.set 0 rfl 3 (.int .i64 (wrap64 (q.t+1))))
 generalize w8.setCell ⟨t,3,none⟩ (.int .i64 (wrap64 (q.t+1)))=w9 at *
 clear HA HB
 go_wp2_with fail
 go_ret
 exact .inr ⟨hX,rfl,q.up 3,a7,c7,H9.out⟩
def LineR (w0:World) (F:Nat→Prop) (L:List Asn) (t:Nat) (D:List (List UInt8)) (en:Ending) (w':World):Prop:=∃ v G',en=.returned v∧Sep w0 F (lineA t D G'::L) w'
def twiceS (D:List (List UInt8)) (i:Int):List (List UInt8):=if 0≤i∧i<(D.length:Int) then (if 64≤D.length then D else D++[D.getD i.toNat []]) else D
set_option maxHeartbeats 4000000 in
theorem line_twice {w0:World} {F G:Nat→Prop} {L:List Asn} {t:Nat} {D:List (List UInt8)} (i:Int) (w:World) (h:Sep w0 F (lineA t D G::L) w) :
  Calls Tryz.prog 52 #[ptrV t,.int .i64 i] w (LineR w0 F L t (twiceS D i)):=by
 have H:=Lib.hid' h
 obtain ⟨K,⟨q,X,a,k,Z,vs,rfl,rfl,hv,hl,hb⟩,h1⟩:=h.unpack
 have HH:=Zh (thas_any i w h1)
 have tl:=h1.lt 0 rfl
 unfold twiceS
 rw [List.length_map]
 by_cases hi:0≤i∧i<(X.length:Int)
 ·rw [if_pos hi] at HH ⊢
  obtain ⟨n,rfl⟩:∃ n:Nat,i=n:=⟨i.toNat,by omega⟩
  have hn:n<X.length:=by omega
  obtain ⟨g,cur,rfl,_⟩:=(own_cases (h1.row 1 rfl)).resolve_left (by rintro ⟨_,h0,_⟩;omega)
  have hr:Hid (∀ wq,Sep w0 F (lnB t q (some ⟨g,0,none⟩) X.length k::lnR X (some ⟨g,0,none⟩) k::Asn.pool Z vs::L) wq→wq.cell? ⟨g,n,none⟩=some (msV X[n])):=fun wq hq=>by
   obtain ⟨p,he,hc⟩:=slv_at (SlV.of_own (hq.row 1 rfl)) (j:=n) (u:=msV X[n]) (by rw [List.getElem?_map,List.getElem?_eq_getElem hn];rfl)
   cases he
   rwa [Addr.add_lit,Nat.zero_add] at hc
  have HFU:=Zh (fun (hf:64≤X.length) (w':World) (hh:Sep w0 F (lnB t q (some ⟨g,0,none⟩) X.length k::lnR X (some ⟨g,0,none⟩) k::Asn.pool Z vs::L) w')=>show ∃ G',Sep w0 F (lineA t (X.map (·.d)) G'::L) w' from Sep.pack (I:=lineI t (X.map (·.d))) [lnB t q (some ⟨g,0,none⟩) X.length k,lnR X (some ⟨g,0,none⟩) k,Asn.pool Z vs] (L:=L) hh ⟨q,X,_,k,Z,vs,rfl,rfl,hv,hl,hb⟩)
  have HAD:=Zh (fun (hf:X.length<64) (q':Tn) (a':Option Addr) (k':Nat) (w':World) (hh:Sep w0 F (lnB t q' a' (X.length+1) k'::lnR (X++[X[n]]) a' k'::Asn.pool Z vs::L) w')=>show ∃ G',Sep w0 F (lineA t (X.map (·.d)++[X[n].d]) G'::L) w' from Sep.pack (I:=lineI t (X.map (·.d)++[X[n].d])) [lnB t q' a' (X++[X[n]]).length k',lnR (X++[X[n]]) a' k',Asn.pool Z vs] (L:=L) (by rw [List.length_append];exact hh) ⟨q',X++[X[n]],a',k',Z,vs,rfl,by rw [List.map_append];rfl,fun x hx=>by
    rcases List.mem_append.1 hx with hx | hx
    ·exact hv x hx
    ·obtain rfl:=List.mem_singleton.1 hx;exact hv _ (List.getElem_mem hn),by simp;omega,fun x hx=>by
    rcases List.mem_append.1 hx with hx | hx
    ·exact hb x hx
    ·obtain rfl:=List.mem_singleton.1 hx;exact hb _ (List.getElem_mem hn)⟩)
  have HGD:=Zh (show (X.map (·.d)).getD n []=X[n].d by rw [List.getD_eq_getElem?_getD,List.getElem?_map,List.getElem?_eq_getElem hn];rfl)
  rw [Int.toNat_natCast,HGD.out]
  obtain ⟨DD,hDD⟩:∃ DD,(if 64≤X.length then X.map (·.d) else X.map (·.d)++[X[n].d])=DD:=⟨_,rfl⟩
  rw [hDD]
  have HDD:=Lib.hid' hDD
  clear hDD
  have HX:=Lib.hid' h1
  have HT:=Zh (fun w (hh:Sep w0 F (lnB t q (some ⟨g,0,none⟩) X.length k::lnR X (some ⟨g,0,none⟩) k::Asn.pool Z vs::L) w)=>tadd3_any X[n] w hh hl)
  clear hi hv hb h h1 HGD hl H
  generalize X[n]=y at *
  obtain ⟨ya,yk,yd⟩:=y
  rw [show msV ⟨ya,yk,yd⟩=.slice ya yd.length yk from rfl] at *
  go_enter Tryz.func52, Tryz.ntmps52
  go_wp2_with fail
  refine HH.out.mono ?_
  rintro en wz ⟨rfl,rfl⟩
  rw [errV_0]
  clear HH
  have HW:=Lib.hid' HX.out.drew
  clear HX
  have hn2:(n:Int)<X.length:=by omega
  have q4:=HW.out.cell 0 rfl 4 rfl;have tl2:=HW.out.lt 0 rfl;have qn:=hr.out _ HW.out
  go_upto_region 4 with fail
  refine startD (S:=(fun w'=>t<w'.heap.size)) (by kernel_rfl) tl2 (fun hH0=>?_)
  simp only [List.length_cons,List.length_nil,Nat.reduceAdd,List.replicate_succ,List.replicate_zero]
  refine tD 0 12 (.pointer (some ⟨t,0,none⟩)) rfl rfl [(0,.pointer (some ⟨t,0,none⟩))] hH0 ?_
  dsimp only [sZ,sS]
  refine tD 1 13 (.pointer (some ⟨t,0,none⟩)) rfl rfl [(0,.pointer (some ⟨t,0,none⟩))] hH0 ?_
  dsimp only [sZ,sS]
  refine tD 2 14 (.pointer (some ⟨t,0,none⟩)) rfl rfl [(13,.pointer (some ⟨t,0,none⟩))] hH0 ?_
  dsimp only [sZ,sS]
  refine tD 3 15 (.pointer (some ⟨t,4,none⟩)) rfl rfl [(14,.pointer (some ⟨t,0,none⟩))] hH0 ?_
  dsimp only [sZ,sS]
  refine tD 5 17 (.int .i64 (n:Int)) rfl rfl [(1,.int .i64 (n:Int))] hH0 ?_
  dsimp only [sZ,sS]
  refine tD 8 20 (.pointer (some ⟨t,0,none⟩)) rfl rfl [(0,.pointer (some ⟨t,0,none⟩))] hH0 ?_
  dsimp only [sZ,sS]
  refine tD 9 21 (.pointer (some ⟨t,0,none⟩)) rfl rfl [(20,.pointer (some ⟨t,0,none⟩))] hH0 ?_
  dsimp only [sZ,sS]
  refine tD 10 22 (.pointer (some ⟨t,0,none⟩)) rfl rfl [(21,.pointer (some ⟨t,0,none⟩))] hH0 ?_
  dsimp only [sZ,sS]
  refine tD 11 23 (.pointer (some ⟨t,3,none⟩)) rfl rfl [(22,.pointer (some ⟨t,0,none⟩))] hH0 ?_
  dsimp only [sZ,sS]
  refine rD 4 rfl (fun K hK=>?_)
  go_simp
  refine hK.out _ _ ?_ (fun hH1=>?_)
  ·exact tl2
  clear hK K
  try simp only [Act.put,gA,gZ,gS,sA,sZ,sS]
  refine tD 6 18 (.pointer (some ⟨g,n,none⟩)) rfl rfl [(16,.slice (some ⟨g,0,none⟩) X.length k),(17,.int .i64 (n:Int))] hH1 ?_
  dsimp only [sZ,sS]
  refine rD 7 rfl (fun K hK=>?_)
  go_simp
  refine hK.out _ _ ?_ (fun hH2=>?_)
  ·exact tl2
  clear hK K
  try simp only [Act.put,gA,gZ,gS,sA,sZ,sS]
  refine rD 12 rfl (fun K hK=>?_)
  go_simp
  refine (HT.out _ HW.out).mono ?_
  rintro en w5 hor
  obtain ⟨v5,G5,rfl,h5⟩:∃ v G',en=.returned v∧Sep w0 F (lineA t DD G'::L) w5:=by
   rcases hor with ⟨g1,rfl,g3⟩ | ⟨g1,rfl,q',a',k',g3⟩
   ·obtain ⟨G',h4⟩:=HFU.out g1 _ g3
    rw [←HDD.out,if_pos g1];exact ⟨_,G',rfl,h4⟩
   ·obtain ⟨G',h4⟩:=HAD.out g1 _ _ _ _ g3
    rw [←HDD.out,if_neg (by omega)];exact ⟨_,G',rfl,h4⟩
  have H5:=Lib.hid' h5
  have tl5:t<w5.heap.size:=hor.elim (fun h=>h.2.2.lt 0 rfl) (fun h=>by obtain ⟨_,_,_,_,_,h⟩:=h;exact h.lt 0 rfl)
  clear hor h5 HT HFU HAD
  refine hK.out _ _ ?_ (fun hH3=>?_)
  ·exact tl5
  clear hK K
  try simp only [Act.put,gA,gZ,gS,sA,sZ,sS]
  refine tD 13 4 (v5) rfl rfl [(24,v5)] hH3 ?_
  dsimp only [sZ,sS]
  refine wpAnyH_done (by kernel_rfl) ?_ _
  go_wp2_with fail
  go_ret
  exact ⟨v5,G5,rfl,H5.out⟩
 ·rw [if_neg hi] at HH ⊢
  clear hi h1 hv hb
  generalize X.map (·.d)=D at *
  go_enter Tryz.func52, Tryz.ntmps52
  go_wp2_with fail
  refine HH.out.mono ?_
  rintro en wz ⟨rfl,rfl⟩
  go_wp2_with fail
  go_ret
  exact ⟨_,G,rfl,H.out⟩
end SL
end Go.Proofs.YtaodldbgikiekaaGreatDoor

namespace Go.Proofs.YtaodldbgikiekaaGreatDoor
theorem look_put_eq {L:List (Int×C)} (hn:(L.map (·.1)).Nodup) (a:Int) (c:C):lookC (putC L a c) a=c:=by
 refine lookC_of_mem (p:=(a,c)) (putC_keys _ _ _ hn) ?_
 unfold putC
 split
 ·rename_i h
  obtain ⟨p,hp,hpa⟩:=List.any_eq_true.1 h
  exact List.mem_map.2 ⟨p,hp,by rw [if_pos (by simpa using hpa)]⟩
 ·exact List.mem_append_right _ (by simp)
theorem look_filt {L:List (Int×C)} (hn:(L.map (·.1)).Nodup) (f:Int→Bool) (b:Int):lookC (L.filter (fun p=>f p.1)) b=if f b=true then lookC L b else ⟨0,[]⟩:=by
 by_cases hb:f b=true
 ·rw [if_pos hb]
  by_cases hq:L.any (·.1==b)=true
  ·have:=look_filter L (fun p=>f p.1) hn (lookC_mem hq) hb
   exact this
  ·have hq':L.any (·.1==b)=false:=by simpa only [Bool.not_eq_true] using hq
   rw [lookC_none hq',lookC_none]
   rw [List.any_eq_false] at hq' ⊢
   exact fun x hx=>hq' x (List.mem_filter.1 hx).1
 ·rw [if_neg hb,lookC_none]
  rw [List.any_eq_false]
  intro x hx hxb
  have h1:=(List.mem_filter.1 hx).2
  rw [show x.1=b by simpa using hxb] at h1
  exact hb h1
theorem at_put {u:U} (h:u.ok) {a:Int} (c:C) (hl:u.l≤a) (b:Int):({ u with cells:=putC u.cells a c }:U).at b=if b=a then c else u.at b:=by
 unfold U.at
 simp only
 by_cases hb:b=a
 ·subst hb
  rw [if_pos rfl,if_neg (by omega),look_put_eq h.nodup]
 ·rw [if_neg hb,look_put _ _ _ _ hb]
theorem at_trim {u:U} (h:u.ok) (m b:Int) (hm:u.l≤m):({ u with l:=m,cells:=u.cells.filter (fun p=>!decide (p.1<m))}:U).at b=if b<m then ⟨3,[]⟩ else u.at b:=by
 unfold U.at
 simp only
 split
 ·rfl
 ·rename_i hb
  rw [if_neg (by omega),look_filt h.nodup (fun x=>!decide (x<m)),if_pos (by simp;omega)]
namespace SL
open DK SH SQ
/-- what a unit shows: its epoch, its low mark, its cells -/
structure Sees (u:U) (e l:Int) (f:Int→C):Prop where
 ok:u.ok
 e:u.e=e
 l:u.l=l
 see:∀ a,u.at a=f a
def upC (f:Int→C) (a:Int) (c:C):Int→C:=fun b=>if b=a then c else f b
/-- what a put answers where a cell stands -/
def putZ (c x:C):Nat:=if c.k=3 then 9 else if c.k=0∨c=x then 0 else 8
theorem Sees.kind {u:U} {e l:Int} {f:Int→C} (h:Sees u e l f) (a:Int):(f a).k=3∧(f a).d=[]∨(f a).k=0∧(f a).d=[]∨(((f a).k=1∨(f a).k=2∧(f a).d=[])∧(f a).d.length≤64):=by
 rw [←h.see];exact at_kind h.ok a
theorem Sees.low {u:U} {e l:Int} {f:Int→C} (h:Sees u e l f) {a:Int} (h3:(f a).k≠3):u.l≤a:=at_low (by rw [h.see];exact h3)
theorem Sees.cur {u:U} {e l:Int} {f:Int→C} (h:Sees u e l f):u.cur e=0:=by unfold U.cur;rw [h.e];simp
theorem Sees.rng {u:U} {e l:Int} {f:Int→C} (h:Sees u e l f):0≤e∧e≤1099511627776:=by rw [←h.e];exact ⟨h.ok.e0,h.ok.e1⟩
theorem Sees.read {u:U} {e l:Int} {f:Int→C} (h:Sees u e l f) {a:Int} (h0:0≤a) (h1:a≤1048575):u.read e a=(0,f a):=by
 unfold U.read U.asks inR
 rw [h.cur,h.see]
 simp [h0,h1]
theorem chk_write {e a:Int} {d:List UInt8} (he:0≤e∧e≤1099511627776) (h0:0≤a) (h1:a≤1048575) (hd:d.length≤64):(⟨2,e,a,d⟩:Ac).check=0:=by
 unfold Ac.check
 rw [if_neg (by simp;omega),if_neg (by simp;omega),if_neg (by simp;omega),if_neg (by simp)]
theorem chk_fill {e a:Int} (he:0≤e∧e≤1099511627776) (h0:0≤a) (h1:a≤1048575):(⟨3,e,a,[]⟩:Ac).check=0:=by
 unfold Ac.check
 rw [if_neg (by simp;omega),if_neg (by simp;omega),if_neg (by simp),if_neg (by simp)]
theorem Sees.write {u:U} {e l:Int} {f:Int→C} (h:Sees u e l f) {a:Int} (h0:0≤a) (h1:a≤1048575) {d:List UInt8} (hd:d.length≤64) :
  ∃ v,apU u ⟨2,e,a,d⟩=(if (f a).k=3 then 9 else if (f a).k=0 then 0 else 8,0,v)∧Sees v e l (if (f a).k=0 then upC f a ⟨1,d⟩ else f):=by
 have hin:inR a 1048575=true:=by unfold inR;simp [h0,h1]
 have e1:apU u ⟨2,e,a,d⟩=((u.write e a d).1,0,(u.write e a d).2):=by
  unfold apU
  rw [if_neg (by rw [chk_write h.rng h0 h1 hd];decide)]
  simp
 rw [e1]
 unfold U.write
 rw [hin,h.cur,h.see]
 simp only [Bool.not_true,Bool.false_eq_true,if_false,ne_eq,not_true_eq_false]
 rw [if_neg (by omega)]
 by_cases h3:(f a).k=3
 ·rw [if_pos h3,if_pos h3,if_neg (by omega)]
  exact ⟨u,rfl,h⟩
 rw [if_neg h3,if_neg h3]
 by_cases hz:(f a).k=0
 ·rw [if_pos hz,if_pos hz,if_pos hz]
  have hl:=h.low h3
  exact ⟨_,rfl,⟨U.ok_put h.ok hl (by omega) ⟨.inl rfl,hd⟩,h.e,h.l,fun b=>by rw [at_put h.ok _ hl];unfold upC;rw [h.see]⟩⟩
 ·rw [if_neg hz,if_neg hz,if_neg hz]
  exact ⟨u,rfl,h⟩
theorem Sees.fill {u:U} {e l:Int} {f:Int→C} (h:Sees u e l f) {a:Int} (h0:0≤a) (h1:a≤1048575) :
  ∃ v,apU u ⟨3,e,a,[]⟩=(if (f a).k=3 then 9 else if (f a).k=1 then 8 else 0,0,v)∧Sees v e l (if (f a).k=3∨(f a).k=1 then f else upC f a ⟨2,[]⟩):=by
 have hin:inR a 1048575=true:=by unfold inR;simp [h0,h1]
 have e1:apU u ⟨3,e,a,[]⟩=((u.fill e a).1,0,(u.fill e a).2):=by
  unfold apU
  rw [if_neg (by rw [chk_fill h.rng h0 h1];decide)]
  simp
 have ha:u.asks e (inR a 1048575)=0:=by unfold U.asks;rw [hin,h.cur];rfl
 rw [e1]
 unfold U.fill
 rw [ha,h.see]
 simp only [ne_eq,not_true_eq_false,if_false]
 by_cases h3:(f a).k=3
 ·rw [if_pos h3,if_pos h3,if_pos (.inl h3)]
  exact ⟨u,rfl,h⟩
 rw [if_neg h3,if_neg h3]
 by_cases hz:(f a).k=1
 ·rw [if_pos hz,if_pos hz,if_pos (.inr hz)]
  exact ⟨u,rfl,h⟩
 ·rw [if_neg hz,if_neg hz,if_neg (by omega)]
  have hl:=h.low h3
  exact ⟨_,rfl,⟨U.ok_put h.ok hl (by omega) ⟨.inr ⟨rfl,rfl⟩,by simp⟩,h.e,h.l,fun b=>by rw [at_put h.ok _ hl];unfold upC;rw [h.see]⟩⟩
theorem Sees.trim {u:U} {e l:Int} {f:Int→C} (h:Sees u e l f) {b:Int} (hb:0≤b∧b≤1048576) :
  ∃ v,apU u ⟨4,e,b,[]⟩=(0,0,v)∧Sees v e (max l b) (fun a=>if a<max l b then ⟨3,[]⟩ else f a):=by
 have hin:inR b 1048576=true:=by unfold inR;simp [hb.1,hb.2]
 have hc:(⟨4,e,b,[]⟩:Ac).check=0:=by
  have:=h.rng
  unfold Ac.check
  rw [if_neg (by simp;omega),if_neg (by simp),if_neg (by simp),if_neg (by simp)]
 have e1:apU u ⟨4,e,b,[]⟩=((u.trim e b).1,0,(u.trim e b).2):=by
  unfold apU
  rw [if_neg (by rw [hc];decide)]
  simp
 have ha:u.asks e (inR b 1048576)=0:=by unfold U.asks;rw [hin,h.cur];rfl
 have hok:=U.ok_trim h.ok e b
 rw [e1]
 unfold U.trim at hok ⊢
 rw [ha] at hok ⊢
 simp only [ne_eq,not_true_eq_false,if_false] at hok ⊢
 exact ⟨_,rfl,⟨hok,h.e,by show max u.l b=_;rw [h.l],fun a=>by rw [at_trim h.ok _ _ (by omega),h.see,h.l]⟩⟩
end SL
end Go.Proofs.YtaodldbgikiekaaGreatDoor

namespace Go.Proofs.YtaodldbgikiekaaGreatDoor
namespace SL
open DK SH SQ
/-- what a unit is told to show, and how many acts it has had at most -/
structure Sh where
 k:Nat
 e:Int
 l:Int
 f:Int→C
def upS (D:Nat→Sh) (i:Nat) (d:Sh):Nat→Sh:=fun j=>if j=i then d else D j
theorem upS_at (D:Nat→Sh) (i:Nat) (d:Sh):upS D i d i=d:=if_pos rfl
theorem upS_ne (D:Nat→Sh) {i j:Nat} (d:Sh) (h:j≠i):upS D i d j=D j:=if_neg h
theorem upS_same (D:Nat→Sh) (i:Nat):upS D i (D i)=D:=by
 funext j
 unfold upS
 split
 ·rename_i h;rw [h]
 ·rfl
/-- a cluster on the way: what each unit shows -/
structure Mid (r:Int) (c s:Cl) (D:Nat→Sh):Prop where
 ok:s.ok
 stay:Stay c s
 each:∀ (i:Nat) (x:Un),s.us[i]?=some x→∃ u,Fine r (D i).k u x∧Sees u (D i).e (D i).l (D i).f
theorem Mid.weak {r:Int} {c s:Cl} {D D':Nat→Sh} (h:Mid r c s D) (hw:∀ i:Nat,i<s.us.length→(D i).k≤(D' i).k∧(D i).e=(D' i).e∧(D i).l=(D' i).l∧(D i).f=(D' i).f):Mid r c s D' :=
 ⟨h.ok,h.stay,fun i x hx=>by
  obtain ⟨u,h1,h2⟩:=h.each i x hx
  obtain ⟨w1,w2,w3,w4⟩:=hw i (List.getElem?_eq_some_iff.1 hx).1
  exact ⟨u,h1.mono w1,by rw [←w2,←w3,←w4];exact h2⟩⟩
theorem Mid.has {r:Int} {c s:Cl} {D:Nat→Sh} (h:Mid r c s D) {u:Int} (hu:0≤u∧u<(c.us.length:Int)):∃ x v,s.us[u.toNat]?=some x∧Fine r (D u.toNat).k v x∧Sees v (D u.toNat).e (D u.toNat).l (D u.toNat).f:=by
 have hlt:u.toNat<s.us.length:=by have:=h.stay.us;omega
 obtain ⟨v,h1,h2⟩:=h.each _ _ (List.getElem?_eq_getElem hlt)
 exact ⟨_,v,List.getElem?_eq_getElem hlt,h1,h2⟩
theorem Mid.act {r:Int} {c s:Cl} {D:Nat→Sh} (h:Mid r c s D) {u:Int} (hu:0≤u∧u<(c.us.length:Int)) (hk:(D u.toNat).k<512) (hr:((200*(D u.toNat).k+200:Nat):Int)≤r) (x:Ac) :
  ∃ v,Sees v (D u.toNat).e (D u.toNat).l (D u.toNat).f∧(s.do u.toNat x).1=(apU v x).1∧(s.do u.toNat x).2.1=(if (apU v x).1=0 then (apU v x).2.1 else 0) ∧
   ∀ d:Sh,(if (apU v x).1=0 then (D u.toNat).k+1 else (D u.toNat).k)≤d.k→Sees (if (apU v x).1=0 then (apU v x).2.2 else v) d.e d.l d.f→Mid r c (s.do u.toNat x).2.2 (upS D u.toNat d):=by
 obtain ⟨y,v,hy,hF,hS⟩:=h.has hu
 obtain ⟨S1,D1,S2,D2,rfl,e,hF2⟩:=hF.act2 hk hr x
 have hd:=do_on x hy
 rw [e] at hd
 refine ⟨v,hS,by rw [hd],by rw [hd],fun d hdk hds=>⟨h.ok.do _ _,h.stay.do _ _,fun i z hz=>?_⟩⟩
 rw [hd] at hz
 have hz':(s.us.set u.toNat ⟨D2,some S2⟩)[i]?=some z:=hz
 rw [List.getElem?_set] at hz'
 split at hz'
 ·rename_i hi
  split at hz'
  ·simp only [Option.some.injEq] at hz'
   subst hz'
   rw [←hi,upS_at]
   exact ⟨_,hF2.mono hdk,hds⟩
  ·cases hz'
 ·rename_i hi
  rw [upS_ne _ _ (fun e=>hi e.symm)]
  exact h.each i z hz'
theorem Mid.read {r:Int} {c s:Cl} {D:Nat→Sh} (h:Mid r c s D) {u:Int} (hu:0≤u∧u<(c.us.length:Int)) {a:Int} (h0:0≤a) (h1:a≤1048575):s.readU u.toNat (D u.toNat).e a=(0,(D u.toNat).f a):=by
 obtain ⟨y,v,hy,hF,hS⟩:=h.has hu
 obtain ⟨S,K,rfl,hr⟩:=hF.read
 rw [readU_on _ _ hy,hr,hS.read h0 h1]
theorem Mid.kind {r:Int} {c s:Cl} {D:Nat→Sh} (h:Mid r c s D) {u:Int} (hu:0≤u∧u<(c.us.length:Int)) (a:Int):((D u.toNat).f a).k=3∧((D u.toNat).f a).d=[]∨((D u.toNat).f a).k=0∧((D u.toNat).f a).d=[]∨((((D u.toNat).f a).k=1∨((D u.toNat).f a).k=2∧((D u.toNat).f a).d=[])∧((D u.toNat).f a).d.length≤64):=by
 obtain ⟨y,v,hy,hF,hS⟩:=h.has hu
 exact hS.kind a
theorem upC_same {f:Int→C} {a:Int} {x:C} (h:f a=x):upC f a x=f:=by
 funext b
 unfold upC
 split
 ·rename_i hb;rw [hb,h]
 ·rfl
/-- a cell is put into a unit -/
theorem Mid.put {r:Int} {c s:Cl} {D:Nat→Sh} (h:Mid r c s D) {u:Int} (hu:0≤u∧u<(c.us.length:Int)) (hk:(D u.toNat).k<512) (hr:((200*(D u.toNat).k+200:Nat):Int)≤r) {a:Int} (h0:0≤a) (h1:a≤1048575) {x:C} (hx:x.k=1∧x.d.length≤64∨x=⟨2,[]⟩) :
  ∃ s',Cl.putC (D u.toNat).e a x s u=(putZ ((D u.toNat).f a) x,s')∧Mid r c s' (if putZ ((D u.toNat).f a) x=0 then upS D u.toNat ⟨(D u.toNat).k+1,(D u.toNat).e,(D u.toNat).l,upC (D u.toNat).f a x⟩ else D):=by
 have hkd:=h.kind hu a
 have hst:=fun d=>h.act hu hk hr d
 obtain ⟨d,hd⟩:∃ d,D u.toNat=d:=⟨_,rfl⟩
 rcases hx with ⟨hx,hxl⟩ | rfl
 ·have e1:putA (D u.toNat).e a x=⟨2,(D u.toNat).e,a,x.d⟩:=by unfold putA;rw [if_pos hx]
  have ex:(⟨1,x.d⟩:C)=x:=by rw [←hx]
  obtain ⟨v,hv,q1,q2,q3⟩:=hst (putA (D u.toNat).e a x)
  rw [e1] at q1 q3
  obtain ⟨v',e2,hv'⟩:=hv.write h0 h1 hxl
  rw [e2] at q1 q3
  simp only at q1 q3
  rw [←e1] at q1 q3
  unfold Cl.putC
  by_cases h3:((D u.toNat).f a).k=3
  ·rw [if_pos h3] at q1 q3
   have hz:putZ ((D u.toNat).f a) x=9:=by unfold putZ;rw [if_pos h3]
   rw [if_neg (by rintro ⟨_,h8,_⟩;rw [q1] at h8;cases h8),q1,hz]
   have:=q3 (D u.toNat) (by simp) (by simpa using hv)
   rw [upS_same] at this
   exact ⟨_,rfl,by simpa using this⟩
  rw [if_neg h3] at q1 q3
  by_cases hz0:((D u.toNat).f a).k=0
  ·rw [if_pos hz0] at q1 q3 hv'
   have hz:putZ ((D u.toNat).f a) x=0:=by unfold putZ;rw [if_neg h3,if_pos (.inl hz0)]
   rw [if_neg (by rintro ⟨_,h8,_⟩;rw [q1] at h8;cases h8),q1,hz,if_pos rfl]
   rw [ex] at hv'
   exact ⟨_,rfl,q3 ⟨_,_,_,_⟩ (by simp) (by simpa using hv')⟩
  ·rw [if_neg hz0] at q1 q3
   have hm:=q3 (D u.toNat) (by simp) (by simpa using hv)
   rw [upS_same] at hm
   have hrd:=hm.read hu h0 h1
   rw [hrd,q1]
   by_cases he:(D u.toNat).f a=x
   ·have hz:putZ ((D u.toNat).f a) x=0:=by unfold putZ;rw [if_neg h3,if_pos (.inr he)]
    rw [if_pos ⟨hx,rfl,rfl,he⟩,hz,if_pos rfl]
    refine ⟨_,rfl,hm.weak (fun i _=>?_)⟩
    by_cases hi:i=u.toNat
    ·rw [hi,upS_at]
     exact ⟨Nat.le_succ _,rfl,rfl,(upC_same he).symm⟩
    ·rw [upS_ne _ _ hi]
     exact ⟨Nat.le_refl _,rfl,rfl,rfl⟩
   ·have hz:putZ ((D u.toNat).f a) x=8:=by unfold putZ;rw [if_neg h3,if_neg (by rintro (h | h);exact hz0 h;exact he h)]
    rw [if_neg (by rintro ⟨_,_,_,h⟩;exact he h),hz]
    exact ⟨_,rfl,by simpa using hm⟩
 ·have e1:putA (D u.toNat).e a ⟨2,[]⟩=⟨3,(D u.toNat).e,a,[]⟩:=by unfold putA;rw [if_neg (by decide)]
  obtain ⟨v,hv,q1,q2,q3⟩:=hst (putA (D u.toNat).e a ⟨2,[]⟩)
  rw [e1] at q1 q3
  obtain ⟨v',e2,hv'⟩:=hv.fill h0 h1
  rw [e2] at q1 q3
  simp only at q1 q3
  rw [←e1] at q1 q3
  unfold Cl.putC
  rw [if_neg (by rintro ⟨h,_⟩;cases h),q1]
  by_cases h3:((D u.toNat).f a).k=3
  ·rw [if_pos h3] at q3 ⊢
   have hz:putZ ((D u.toNat).f a) ⟨2,[]⟩=9:=by unfold putZ;rw [if_pos h3]
   rw [hz]
   have:=q3 (D u.toNat) (by simp) (by simpa using hv)
   rw [upS_same] at this
   exact ⟨_,rfl,by simpa using this⟩
  rw [if_neg h3] at q3 ⊢
  by_cases hz1:((D u.toNat).f a).k=1
  ·rw [if_pos hz1] at q3 ⊢
   have hz:putZ ((D u.toNat).f a) ⟨2,[]⟩=8:=by
    unfold putZ
    rw [if_neg h3,if_neg]
    rintro (h | h)
    ·omega
    ·rw [h] at hz1;cases hz1
   rw [hz]
   have:=q3 (D u.toNat) (by simp) (by simpa using hv)
   rw [upS_same] at this
   exact ⟨_,rfl,by simpa using this⟩
  ·rw [if_neg hz1] at q3 ⊢
   rw [if_neg (by omega)] at hv'
   have hz:putZ ((D u.toNat).f a) ⟨2,[]⟩=0:=by
    unfold putZ
    rw [if_neg h3,if_pos]
    rcases hkd with h | h | h
    ·omega
    ·exact .inl h.1
    ·right
     rcases h.1 with h2 | h2
     ·omega
     ·obtain ⟨q,p⟩:=h2
      generalize (D u.toNat).f a=y at *
      obtain ⟨yk,yd⟩:=y
      simp only at q p
      rw [q,p]
   rw [hz,if_pos rfl]
   exact ⟨_,rfl,q3 ⟨_,_,_,_⟩ (by simp) (by simpa using hv')⟩
/-- a thing is done with units, each once: it goes well with each -/
theorem Mid.all {r:Int} {c:Cl} {f:Cl→Int→Nat×Cl} {B:Nat→Sh}:∀ {l:List Int} {s:Cl} {D:Nat→Sh},l.Nodup→(∀ u∈l,0≤u) →
  (∀ (s:Cl) (D':Nat→Sh) (u:Int),u∈l→Mid r c s D'→D' u.toNat=D u.toNat→∃ s',f s u=(0,s')∧Mid r c s' (upS D' u.toNat (B u.toNat))) →
  Mid r c s D→∃ s',allC f l s=(0,s')∧Mid r c s' (fun i=>if (i:Int)∈l then B i else D i)
 | [],s,D,_,_,_,h=>⟨s,rfl,by simpa using h⟩
 | u::l,s,D,hn,h0,hf,h=>by
  have hnd:=List.nodup_cons.1 hn
  obtain ⟨s1,e1,h1⟩:=hf s D u List.mem_cons_self h rfl
  obtain ⟨s2,e2,h2⟩:=Mid.all (l:=l) (s:=s1) (D:=upS D u.toNat (B u.toNat)) hnd.2 (fun v hv=>h0 v (List.mem_cons_of_mem _ hv)) (fun s D' v hv hm hd=>hf s D' v (List.mem_cons_of_mem _ hv) hm (by
   rw [hd,upS_ne]
   intro e
   have a1:=h0 v (List.mem_cons_of_mem _ hv)
   have a2:=h0 u List.mem_cons_self
   exact hnd.1 (by rw [show u=v by omega];exact hv))) h1
  refine ⟨s2,?_,?_⟩
  ·unfold allC
   rw [e1]
   simpa using e2
  ·have:(fun i:Nat=>if (i:Int)∈l then B i else upS D u.toNat (B u.toNat) i)=(fun i:Nat=>if (i:Int)∈u::l then B i else D i):=by
    funext i
    have a2:=h0 u List.mem_cons_self
    by_cases hi:(i:Int)∈l
    ·rw [if_pos hi,if_pos (List.mem_cons_of_mem _ hi)]
    ·rw [if_neg hi]
     by_cases hiu:i=u.toNat
     ·rw [hiu,upS_at,if_pos (by rw [show ((u.toNat:Nat):Int)=u by omega];exact List.mem_cons_self)]
     ·rw [upS_ne _ _ hiu,if_neg]
      rw [List.mem_cons]
      rintro (e | e)
      ·exact hiu (by omega)
      ·exact hi e
   rw [←this]
   exact h2
/-- a cell is put into units that all show the same there -/
theorem Mid.puts {r:Int} {c s:Cl} {D:Nat→Sh} (h:Mid r c s D) {l:List Int} (hn:l.Nodup) (hu:∀ u∈l,0≤u∧u<(c.us.length:Int)) {k:Nat} (hk:k<512) (hr:((200*k+200:Nat):Int)≤r) {a:Int} (h0:0≤a) (h1:a≤1048575) {x y:C} (hx:x.k=1∧x.d.length≤64∨x=⟨2,[]⟩)
  (hd:∀ u∈l,(D u.toNat).k≤k∧(D u.toNat).e=c.p.e∧(D u.toNat).f a=y) :
  (putZ y x=0→∃ s',allC (Cl.putS a x) l s=(0,s')∧Mid r c s' (fun i=>if (i:Int)∈l then ⟨(D i).k+1,(D i).e,(D i).l,upC (D i).f a x⟩ else D i)) ∧
  (putZ y x≠0→l≠[]→∃ s',allC (Cl.putS a x) l s=(putZ y x,s')∧Mid r c s' D):=by
 refine ⟨fun hz=>?_,fun hz hl=>?_⟩
 ·refine Mid.all (B:=fun i=>⟨(D i).k+1,(D i).e,(D i).l,upC (D i).f a x⟩) hn (fun u hm=>(hu u hm).1) (fun s D' u hm hs hD=>?_) h
  obtain ⟨d1,d2,d3⟩:=hd u hm
  obtain ⟨s',e,hs'⟩:=hs.put (hu u hm) (by rw [hD];omega) (by rw [hD];omega) h0 h1 hx
  rw [hD,d3,if_pos hz] at hs'
  rw [hD,d3,d2,hz] at e
  refine ⟨s',?_,hs'⟩
  unfold Cl.putS
  rw [hs.stay.p]
  exact e
 ·cases l with
  | nil=>exact absurd rfl hl
  | cons u l =>
   obtain ⟨d1,d2,d3⟩:=hd u List.mem_cons_self
   obtain ⟨s',e,hs'⟩:=h.put (hu u List.mem_cons_self) (by omega) (by omega) h0 h1 hx
   rw [d3,if_neg hz] at hs'
   rw [d3,d2] at e
   have e2:Cl.putS a x s u=(putZ y x,s'):=by unfold Cl.putS;rw [h.stay.p];exact e
   refine ⟨s',?_,hs'⟩
   unfold allC
   rw [e2,if_pos hz]
/-- what a unit of a cluster shows that is as a model -/
def shD (c:Cl) (k:Nat) (m:M) (i:Nat):Sh:=if (i:Int)∈c.p.all then ⟨k,c.p.e,m.u.l,fun a=>if a<m.u.l∨(i:Int)∈c.home a then m.u.at a else ⟨0,[]⟩⟩ else ⟨k,1,0,fun a=>if a<0 then ⟨3,[]⟩ else ⟨0,[]⟩⟩
/-- a cluster is as a model -/
structure Is (r:Int) (k:Nat) (c:Cl) (m:M):Prop where
 mid:Mid r c c (shD c k m)
 qe:c.q.e=c.p.e
 e:1≤c.p.e∧c.p.e≤k
 nd:c.p.all.Nodup
 tail:c.q.n=m.t
 ok:m.ok
theorem shD_at {c:Cl} {k:Nat} {m:M} {u a:Int} (h0:0≤u) (hu:u∈c.home a):(shD c k m u.toNat).k=k∧(shD c k m u.toNat).e=c.p.e∧(shD c k m u.toNat).f a=m.u.at a∧(shD c k m u.toNat).l=m.u.l:=by
 unfold shD
 rw [show ((u.toNat:Nat):Int)=u by omega,if_pos (home_mem hu)]
 exact ⟨rfl,rfl,if_pos (.inr hu),rfl⟩
theorem shD_all {c:Cl} {k:Nat} {m:M} {u:Int} (h0:0≤u) (hu:u∈c.p.all):shD c k m u.toNat=⟨k,c.p.e,m.u.l,fun a=>if a<m.u.l∨u∈c.home a then m.u.at a else ⟨0,[]⟩⟩:=by
 unfold shD
 rw [show ((u.toNat:Nat):Int)=u by omega,if_pos hu]
theorem home_ne {c:Cl} (h:c.ok) {a:Int} (ha:0≤a):∃ u r,c.home a=u::r:=by
 obtain ⟨i,hi,_,hg⟩:=home_at (M:=c) (pj_ok h.proj) ha
 have hl:=(pj_ok h.proj).each _ (List.mem_of_getElem? hg)
 cases hh:c.home a with
 | nil=>rw [hh] at hl;simp at hl
 | cons u r=>exact ⟨u,r,rfl⟩
theorem Is.rng {r:Int} {k:Nat} {c:Cl} {m:M} (h:Is r k c m) {u:Int} (hu:u∈c.p.all):0≤u∧u<(c.us.length:Int):=h.mid.ok.there u hu
theorem Is.home {r:Int} {k:Nat} {c:Cl} {m:M} (h:Is r k c m) {u a:Int} (hu:u∈c.home a):0≤u∧u<(c.us.length:Int):=h.rng (home_mem hu)
theorem Stay.all {c s:Cl} (h:Stay c s):s.p.all=c.p.all:=by rw [h.p]
/-- a cluster with another sequencer -/
theorem Mid.q {r:Int} {c s:Cl} {D:Nat→Sh} (h:Mid r c s D) {q:Q} (hq:q.ok):Mid r { s with q:=q } { s with q:=q } D :=
 ⟨⟨h.ok.proj,h.ok.many,h.ok.there,hq,h.ok.disk⟩,Stay.refl _,h.each⟩
/-- where the units then show another model -/
theorem Mid.is {r:Int} {k:Nat} {c s:Cl} {D:Nat→Sh} {m':M} {q:Q} (h:Mid r c s D) (hq:q.ok) (hqe:q.e=c.p.e) (he:1≤c.p.e∧c.p.e≤k) (hnd:c.p.all.Nodup) (ht:q.n=m'.t) (hm:m'.ok)
  (hD:∀ i:Nat,(D i).k≤k∧(D i).e=(shD c k m' i).e∧(D i).l=(shD c k m' i).l∧∀ a,(D i).f a=(shD c k m' i).f a):Is r k { s with q:=q } m' :=
 ⟨(h.q hq).weak (fun i hi=>by
   have e:shD { s with q:=q } k m' i=shD c k m' i:=by
    have h3:({ s with q:=q }:Cl).p=c.p:=h.stay.p
    unfold shD Cl.home
    rw [h3]
   rw [e]
   obtain ⟨g1,g2,g3,g4⟩:=hD i
   refine ⟨?_,g2,g3,funext g4⟩
   unfold shD
   split<;>exact g1),
  by show q.e=s.p.e;rw [h.stay.p];exact hqe,by show 1≤s.p.e∧s.p.e≤_;rw [h.stay.p];exact he,by show s.p.all.Nodup;rw [h.stay.p];exact hnd,ht,hm⟩
theorem Is.mono {r:Int} {k k':Nat} {c:Cl} {m:M} (h:Is r k c m) (hk:k≤k'):Is r k' c m :=
 ⟨h.mid.weak (fun i _=>by unfold shD;split<;>exact ⟨hk,rfl,rfl,rfl⟩),h.qe,⟨h.e.1,by have:=h.e.2;omega⟩,h.nd,h.tail,h.ok⟩
theorem Is.read {r:Int} {k:Nat} {c:Cl} {m:M} (h:Is r k c m) (a:Int):c.read a=m.rd a:=by
 unfold Cl.read M.rd
 have hi:inB a 1048575=inR a 1048575:=rfl
 rw [hi]
 cases hq:inR a 1048575 with
 | false=>simp
 | true =>
  have ⟨h0,h1⟩:=inB_iff.1 (hi.trans hq)
  obtain ⟨u,rs,hh⟩:=home_ne h.mid.ok h0
  simp only [Bool.not_true,Bool.false_eq_true,if_false,reduceCtorEq]
  obtain ⟨v,hv⟩:∃ v,(c.home a).getLast?=some v:=⟨_,by rw [hh];exact List.getLast?_cons⟩
  have hvm:v∈c.home a:=List.mem_of_getLast? hv
  have hr:=h.home hvm
  obtain ⟨s1,s2,s3,s4⟩:=shD_at (k:=k) (m:=m) hr.1 hvm
  rw [hv]
  show c.readU v.toNat c.p.e a=_
  have:=h.mid.read hr h0 h1
  rw [s2,s3] at this
  exact this
theorem Q.ok_raise {q:Q} (h:q.ok) {n:Int} (hn:0≤n∧n≤1048576):(⟨q.e,max q.n n⟩:Q).ok:=⟨h.e,by have:=h.n;show 0≤max q.n n∧max q.n n≤1048576;omega⟩
/-- the sequencer is raised -/
theorem raise_eq {s:Cl} (hq:s.q.e=s.p.e) {n:Int} (hn:0≤n∧n≤1048576):s.raise n=(0,{ s with q:=⟨s.q.e,max s.q.n n⟩}):=by
 unfold Cl.raise Q.raise Q.asks
 rw [inB_iff.2 hn,hq]
 simp only [Bool.true_eq_false,if_false,Int.lt_irrefl,ne_eq,not_true_eq_false]
 have:(if n≤s.q.n then s.q.n else n)=max s.q.n n:=by split<;>omega
 rw [this]
/-- what is left where a cell was put into its home -/
theorem put_sh {c:Cl} {k:Nat} {m:M} (hok:m.ok) (h:c.ok) {a:Int} {x:C} (ha:m.u.l≤a) (i:Nat) :
  (if (i:Int)∈c.home a then (⟨(shD c k m i).k+1,(shD c k m i).e,(shD c k m i).l,upC (shD c k m i).f a x⟩:Sh) else shD c k m i).k≤k+1 ∧
  (if (i:Int)∈c.home a then (⟨(shD c k m i).k+1,(shD c k m i).e,(shD c k m i).l,upC (shD c k m i).f a x⟩:Sh) else shD c k m i).e=(shD c (k+1) (m.put' a x) i).e ∧
  (if (i:Int)∈c.home a then (⟨(shD c k m i).k+1,(shD c k m i).e,(shD c k m i).l,upC (shD c k m i).f a x⟩:Sh) else shD c k m i).l=(shD c (k+1) (m.put' a x) i).l ∧
  ∀ b,(if (i:Int)∈c.home a then (⟨(shD c k m i).k+1,(shD c k m i).e,(shD c k m i).l,upC (shD c k m i).f a x⟩:Sh) else shD c k m i).f b=(shD c (k+1) (m.put' a x) i).f b:=by
 by_cases hi:(i:Int)∈c.home a
 ·have hall:=home_mem hi
  simp only [if_pos hi]
  unfold shD
  simp only [if_pos hall]
  refine ⟨Nat.le_refl _,trivial,rfl,fun b=>?_⟩
  unfold upC
  show (if b=a then x else _)=if b<m.u.l∨(i:Int)∈c.home b then ({ m.u with cells:=putC m.u.cells a x }:U).at b else _
  rw [at_put hok.u x ha]
  by_cases hb:b=a
  ·rw [if_pos hb,if_pos hb,if_pos (.inr (by rw [hb];exact hi))]
  ·rw [if_neg hb,if_neg hb]
 ·simp only [if_neg hi]
  unfold shD
  by_cases hall:(i:Int)∈c.p.all
  ·simp only [if_pos hall]
   refine ⟨Nat.le_succ _,trivial,rfl,fun b=>?_⟩
   show _=if b<m.u.l∨(i:Int)∈c.home b then ({ m.u with cells:=putC m.u.cells a x }:U).at b else _
   rw [at_put hok.u x ha]
   by_cases hb:b=a
   ·subst hb
    rw [if_neg (by rintro (h | h);omega;exact hi h),if_neg (by rintro (h | h);omega;exact hi h)]
   ·rw [if_neg hb]
  ·simp only [if_neg hall]
   exact ⟨Nat.le_succ _,trivial,trivial,fun b=>trivial⟩
theorem putZ_zero {c x:C}:putZ c x=0↔c.k≠3∧(c.k=0∨c=x):=by
 unfold putZ
 by_cases h3:c.k=3
 ·rw [if_pos h3];exact ⟨fun h=>(by cases h),fun h=>absurd h3 h.1⟩
 ·rw [if_neg h3]
  by_cases h0:c.k=0∨c=x
  ·rw [if_pos h0];exact ⟨fun _=>⟨h3,h0⟩,fun _=>rfl⟩
  ·rw [if_neg h0];exact ⟨fun h=>(by cases h),fun h=>absurd h.2 h0⟩
theorem at_ge {m:M} {a:Int} (h3:(m.u.at a).k≠3):m.u.l≤a:=at_low h3
/-- a cell is put into its home, or into what is left of it -/
theorem Is.spread {r:Int} {k:Nat} {c:Cl} {m:M} (h:Is r k c m) (hk:k<512) (hr:((200*k+200:Nat):Int)≤r) {a:Int} (h0:0≤a) (h1:a≤1048575) {x:C} (hx:x.k=1∧x.d.length≤64∨x=⟨2,[]⟩) :
  (putZ (m.u.at a) x=0→∃ c',c.spread (c.home a) a x=(0,c')∧Is r (k+1) c' (m.put' a x)) ∧
  (putZ (m.u.at a) x≠0→∃ c',c.spread (c.home a) a x=(putZ (m.u.at a) x,c')∧Is r k c' m):=by
 obtain ⟨p1,p2⟩:=h.mid.puts (home_nodup h.nd a) (fun u hu=>h.home hu) hk hr h0 h1 hx (y:=m.u.at a) (fun u hu=>by
  obtain ⟨s1,s2,s3,s4⟩:=shD_at (k:=k) (m:=m) (h.home hu).1 hu
  exact ⟨by omega,s2,s3⟩)
 refine ⟨fun hz=>?_,fun hz=>?_⟩
 ·obtain ⟨s',e,hs⟩:=p1 hz
  have hz2:=putZ_zero.1 hz
  have hse:s'.q.e=s'.p.e:=by rw [hs.stay.q,hs.stay.p];exact h.qe
  refine ⟨{ s' with q:=⟨s'.q.e,max s'.q.n (a+1)⟩},?_,?_⟩
  ·unfold Cl.spread
   rw [e,if_neg (by simp),raise_eq hse ⟨by omega,by omega⟩]
  ·refine hs.is (Q.ok_raise hs.ok.seq ⟨by omega,by omega⟩) (by show s'.q.e=_;rw [hs.stay.q];exact h.qe) ⟨h.e.1,by have:=h.e.2;omega⟩ h.nd ?_ ?_ (put_sh h.ok h.mid.ok (at_ge hz2.1))
   ·show max s'.q.n (a+1)=max m.t (a+1)
    rw [hs.stay.q,h.tail]
   ·exact M.ok_put h.ok (by unfold inR;simp [h0,h1]) hz2.1 (by
     rcases hx with hx | rfl
     ·exact ⟨.inl hx.1,hx.2⟩
     ·exact ⟨.inr ⟨rfl,rfl⟩,by simp⟩)
 ·obtain ⟨u,rs,hh⟩:=home_ne h.mid.ok h0
  obtain ⟨s',e,hs⟩:=p2 hz (by rw [hh];simp)
  refine ⟨s',?_,?_⟩
  ·unfold Cl.spread
   rw [e,if_pos hz]
  ·have:=hs.is (k:=k) (m':=m) (q:=s'.q) hs.ok.seq (by rw [hs.stay.q];exact h.qe) h.e h.nd (by rw [hs.stay.q];exact h.tail) h.ok (fun i=>by unfold shD;split<;>exact ⟨Nat.le_refl _,rfl,rfl,fun _=>rfl⟩)
   exact this
theorem may_iff {c x:C} (hc:c.check=0) (hx:x.check=0) (hk:x.k≠3):C.may c x=true↔c.k=0∨c=x:=by
 unfold C.may
 rw [hc,hx]
 simp only [ne_eq,not_true_eq_false,false_or,if_false]
 by_cases h:c.k=0∨c=x
 ·rw [if_pos h];exact ⟨fun _=>h,fun _=>rfl⟩
 ·rw [if_neg h];exact ⟨fun h2=>absurd (by simpa using h2) hk,fun h2=>absurd h2 h⟩
theorem chk_cell {x:C} (h:x.check=0) (hk:x.k=1∨x.k=2):x.k=1∧x.d.length≤64∨x=⟨2,[]⟩:=by
 unfold C.check at h
 split at h
 ·cases h
 ·split at h
  ·cases h
  ·split at h
   ·cases h
   ·rename_i h1 h2 h3
    rcases hk with hk | hk
    ·exact .inl ⟨hk,by omega⟩
    ·right
     obtain ⟨xk,xd⟩:=x
     simp only at hk h3
     subst hk
     have:xd=[]:=List.eq_nil_of_length_eq_zero (by omega)
     rw [this]
theorem Is.putAt {r:Int} {k:Nat} {c:Cl} {m:M} (h:Is r k c m) (hk:k<512) (hr:((200*k+200:Nat):Int)≤r) (a:Int) (x:C):∃ c',c.putAt a x=((m.put a x).1,c')∧Is r (k+1) c' (m.put a x).2:=by
 have hst:=h.mono (Nat.le_succ k)
 unfold Cl.putAt M.put
 have hi:inB a 1048575=inR a 1048575:=rfl
 rw [hi]
 cases hq:inR a 1048575 with
 | false=>exact ⟨c,by simp,by simpa using hst⟩
 | true =>
  have ⟨h0,h1⟩:=inB_iff.1 (hi.trans hq)
  simp only [Bool.not_true,Bool.false_eq_true,if_false,reduceCtorEq]
  by_cases hc:x.check=0
  rotate_left
  ·rw [if_pos hc,if_pos hc];exact ⟨c,rfl,hst⟩
  have hc':¬x.check≠0:=fun h=>h hc
  rw [if_neg hc',if_neg hc']
  by_cases hkk:x.k≠1∧x.k≠2
  ·rw [if_pos hkk,if_pos hkk];exact ⟨c,rfl,hst⟩
  rw [if_neg hkk,if_neg hkk]
  have hx:=chk_cell hc (by omega)
  obtain ⟨p1,p2⟩:=h.spread hk hr h0 h1 hx
  by_cases h3:(m.u.at a).k=3
  ·rw [if_pos h3]
   have hz:putZ (m.u.at a) x=9:=by unfold putZ;rw [if_pos h3]
   obtain ⟨c',e,hc'⟩:=p2 (by rw [hz];decide)
   exact ⟨c',by rw [e,hz],hc'.mono (Nat.le_succ k)⟩
  rw [if_neg h3]
  have hmi:=may_iff (c:=m.u.at a) (at_check h.ok.u a) hc (by omega)
  by_cases hm:C.may (m.u.at a) x=true
  ·have hz:putZ (m.u.at a) x=0:=putZ_zero.2 ⟨h3,hmi.1 hm⟩
   obtain ⟨c',e,hc'⟩:=p1 hz
   rw [hm]
   exact ⟨c',by rw [e];simp,by simpa using hc'⟩
  ·have hz:putZ (m.u.at a) x=8:=by unfold putZ;rw [if_neg h3,if_neg (fun h=>hm (hmi.2 h))]
   obtain ⟨c',e,hc'⟩:=p2 (by rw [hz];decide)
   have hm':C.may (m.u.at a) x=false:=by simpa only [Bool.not_eq_true] using hm
   rw [hm']
   exact ⟨c',by rw [e,hz];simp,by simpa using hc'.mono (Nat.le_succ k)⟩
theorem u1_sees:Sees u1 1 0 (fun a=>if a<0 then ⟨3,[]⟩ else ⟨0,[]⟩) :=
 ⟨⟨by decide,by decide,by decide,by decide,by simp [u1],by simp [u1],by simp [u1]⟩,rfl,rfl,fun a=>by
  show (if a<0 then (⟨3,[]⟩:C) else lookC [] a)=_
  by_cases h:a<0
  ·simp [h]
  ·simp [h,lookC]⟩
theorem new_is {r:Int} (h:400≤r∧r≤1073741824) {n:Int} {X:List (List Int)} (hz:(newCl n r X).1=0):Is r 1 (newCl n r X).2 Go.Proofs.YtaodldbgikiekaaGreatDoor.M.new:=by
 obtain ⟨h1,h2,h3⟩:(1≤n∧n≤8)∧(⟨1,X⟩:Pj).check=0∧(unitsOf (⟨1,X⟩:Pj).all).any (fun u=>decide (n≤u))=false:=by
  unfold newCl at hz
  split at hz
  ·cases hz
  ·rename_i q1
   split at hz
   ·rename_i q2;exact absurd hz q2
   ·rename_i q2
    split at hz
    ·cases hz
    ·rename_i q3
     exact ⟨by omega,by simpa using q2,by simpa using q3⟩
 have hP:=Pj.ok_of h2
 obtain ⟨xs,g1,g2,e⟩:=addN_fine h n.toNat (cl0 X)
 have e':Cl.addN r n.toNat (cl0 X)=(0,⟨xs,⟨1,X⟩,⟨0,0⟩⟩):=by rw [e];unfold cl0;simp
 have hu:∀ u∈(⟨1,X⟩:Pj).all,0≤u∧u<n:=fun u hu=>⟨(hP.u u hu).1,by
  have:=List.any_eq_false.1 h3 u ((unitsOf_mem u _).2 hu)
  simp at this;omega⟩
 have e2:(newCl n r X).2=⟨xs,⟨1,X⟩,⟨1,0⟩⟩:=by
  unfold newCl
  rw [if_neg (by omega),if_neg (by rw [h2];decide),if_neg (by rw [h3];decide),e']
  rfl
 rw [e2]
 have hok:(⟨xs,⟨1,X⟩,⟨1,0⟩⟩:Cl).ok:=⟨h2,by show xs.length≤8;omega,fun u hm=>by
  have:=hu u hm
  show 0≤u∧u<(xs.length:Int)
  rw [g1];omega,⟨by show (0:Int)≤1∧(1:Int)≤_;decide,by show (0:Int)≤0∧(0:Int)≤_;decide⟩,fun x hx=>(g2 x hx).2⟩
 refine ⟨⟨hok,Stay.refl _,fun i x hx=>⟨u1,?_,?_⟩⟩,rfl,⟨Int.le_refl _,Int.le_refl _⟩,hP.nodup,rfl,M.ok_new⟩
 ·have hx':=(g2 x (List.mem_of_getElem? hx)).1
  unfold shD
  split<;>exact hx'
 ·have hs:=u1_sees
  unfold shD
  split
  ·refine ⟨hs.ok,rfl,rfl,fun a=>?_⟩
   rw [hs.see a]
   by_cases h:a<0
   ·simp [h,M.new,U.new,U.at]
   ·simp [h,M.new,U.new,U.at,lookC]
  ·exact hs
theorem Is.fill {r:Int} {k:Nat} {c:Cl} {m:M} (h:Is r k c m) (hk:k<512) (hr:((200*k+200:Nat):Int)≤r) (a:Int):∃ c',c.fill a=((m.fil a).1,c')∧Is r (k+1) c' (m.fil a).2:=by
 have hst:=h.mono (Nat.le_succ k)
 unfold Cl.fill M.fil
 have hi:inB a 1048575=inR a 1048575:=rfl
 rw [hi]
 cases hq:inR a 1048575 with
 | false=>exact ⟨c,by simp,by simpa using hst⟩
 | true =>
  have ⟨h0,h1⟩:=inB_iff.1 (hi.trans hq)
  obtain ⟨u,rs,hh⟩:=home_ne h.mid.ok h0
  have hum:u∈c.home a:=by rw [hh];exact List.mem_cons_self
  have hrg:=h.home hum
  obtain ⟨s1,s2,s3,s4⟩:=shD_at (k:=k) (m:=m) hrg.1 hum
  have hrd:=h.mid.read hrg h0 h1
  rw [s2,s3] at hrd
  simp only [Bool.not_true,Bool.false_eq_true,if_false,reduceCtorEq,hh]
  unfold fillTo
  rw [hrd]
  simp only [ne_eq,not_true_eq_false,if_false]
  by_cases h3:(m.u.at a).k=3
  ·rw [if_pos h3,if_pos h3];exact ⟨c,rfl,hst⟩
  rw [if_neg h3,if_neg h3]
  by_cases hk1:(m.u.at a).k=1
  ·rw [if_neg (by simpa using hk1),if_pos hk1]
   -- the rest of the home has it, too
   have hx:(m.u.at a).k=1∧(m.u.at a).d.length≤64∨m.u.at a=⟨2,[]⟩:=by
    rcases at_kind h.ok.u a with h | h | h
    ·omega
    ·omega
    ·exact .inl ⟨hk1,h.2⟩
   have hz:putZ (m.u.at a) (m.u.at a)=0:=putZ_zero.2 ⟨h3,.inr rfl⟩
   have hnd:=home_nodup h.nd a
   rw [hh] at hnd
   obtain ⟨p1,_⟩:=h.mid.puts (l:=rs) (List.nodup_cons.1 hnd).2 (fun v hv=>h.home (by rw [hh];exact List.mem_cons_of_mem _ hv)) hk hr h0 h1 hx (y:=m.u.at a) (fun v hv=>by
    have hvm:v∈c.home a:=by rw [hh];exact List.mem_cons_of_mem _ hv
    obtain ⟨s1,s2,s3,s4⟩:=shD_at (k:=k) (m:=m) (h.home hvm).1 hvm
    exact ⟨by omega,s2,s3⟩)
   obtain ⟨s',e,hs⟩:=p1 hz
   have hse:s'.q.e=s'.p.e:=by rw [hs.stay.q,hs.stay.p];exact h.qe
   have hsp:c.spread rs a (m.u.at a)=(0,{ s' with q:=⟨s'.q.e,max s'.q.n (a+1)⟩}):=by
    unfold Cl.spread
    rw [e,if_neg (by simp),raise_eq hse ⟨by omega,by omega⟩]
   rw [hsp]
   simp only [ne_eq,not_true_eq_false,if_false]
   refine ⟨_,rfl,?_⟩
   have hput:=put_same h.ok.u h3 (by omega)
   refine hs.is (Q.ok_raise hs.ok.seq ⟨by omega,by omega⟩) (by show s'.q.e=_;rw [hs.stay.q];exact h.qe) ⟨h.e.1,by have:=h.e.2;omega⟩ h.nd ?_ ?_ (fun i=>?_)
   ·show max s'.q.n (a+1)=max m.t (a+1)
    rw [hs.stay.q,h.tail]
   ·exact M.ok_put h.ok (by unfold inR;simp [h0,h1]) h3 (by
     rcases hx with hx | hx
     ·exact ⟨.inl hx.1,hx.2⟩
     ·rw [hx];exact ⟨.inr ⟨rfl,rfl⟩,by simp⟩)
   ·have hm:(m.put' a (m.u.at a)).u=m.u:=by
     show ({ m.u with cells:=putC m.u.cells a (m.u.at a)}:U)=m.u
     rw [hput]
    have hsame:∀ k',shD c k' (m.put' a (m.u.at a)) i=shD c k' m i:=by
     intro k'
     unfold shD
     rw [hm]
    rw [hsame]
    have hk2:(shD c k m i).k=k:=by unfold shD;split<;>rfl
    have he2:(shD c (k+1) m i).e=(shD c k m i).e∧(shD c (k+1) m i).l=(shD c k m i).l∧(shD c (k+1) m i).f=(shD c k m i).f:=by
     unfold shD;split<;>exact ⟨rfl,rfl,rfl⟩
    by_cases hi:(i:Int)∈rs
    ·simp only [if_pos hi]
     have him:(i:Int)∈c.home a:=by rw [hh];exact List.mem_cons_of_mem _ hi
     have:=shD_at (k:=k) (m:=m) (u:=(i:Int)) (by omega) him
     rw [Int.toNat_natCast] at this
     rw [upC_same this.2.2.1,he2.1,he2.2.1,he2.2.2]
     exact ⟨by omega,rfl,rfl,fun _=>rfl⟩
    ·simp only [if_neg hi]
     rw [he2.1,he2.2.1,he2.2.2]
     exact ⟨by omega,rfl,rfl,fun _=>rfl⟩
  ·rw [if_pos (by simpa using hk1),if_neg hk1]
   have hz:putZ (m.u.at a) ⟨2,[]⟩=0:=by
    refine putZ_zero.2 ⟨h3,?_⟩
    rcases at_kind h.ok.u a with h | h | h
    ·omega
    ·exact .inl h.1
    ·right
     rcases h.1 with h | h
     ·omega
     ·obtain ⟨q,p⟩:=h
      generalize m.u.at a=y at *
      obtain ⟨yk,yd⟩:=y
      simp only at q p
      rw [q,p]
   obtain ⟨c',e,hc'⟩:=(h.spread hk hr h0 h1 (x:=⟨2,[]⟩) (.inr rfl)).1 hz
   rw [hh] at e
   exact ⟨c',e,hc'⟩
theorem Is.append {r:Int} {k:Nat} {c:Cl} {m:M} (h:Is r k c m) (hk:k<512) (hr:((200*k+200:Nat):Int)≤r) (d:List UInt8):∃ c',c.append d=((m.app d).1,(m.app d).2.1,c')∧Is r (k+1) c' (m.app d).2.2:=by
 have hst:=h.mono (Nat.le_succ k)
 unfold Cl.append M.app
 by_cases hd:64<d.length
 ·rw [if_pos hd,if_pos hd];exact ⟨c,rfl,hst⟩
 rw [if_neg hd,if_neg hd]
 have hqn:=h.mid.ok.seq.n
 obtain ⟨fu,hfu⟩:∃ f,c.fuel=f+1:=⟨c.fuel - 1,by unfold Cl.fuel;omega⟩
 rw [hfu]
 show ∃ c',(if (c.try d).1=true then c.try d |>.2.2.2.appendF d fu else (c.try d).2)=_∧_
 by_cases ht:1048576≤m.t
 ·rw [if_pos ht]
  have e1:c.q.take c.p.e 1=(5,0,c.q):=by
   unfold Q.take Q.asks
   rw [h.qe]
   simp only [show (decide ((1:Int)≤1)&&decide ((1:Int)≤64))=true from by decide,Bool.true_eq_false,if_false,Int.lt_irrefl,ne_eq,not_true_eq_false]
   rw [if_pos (by rw [h.tail];omega)]
  rw [try_seq e1 (by decide)]
  exact ⟨c,rfl,hst⟩
 rw [if_neg ht]
 have e1:c.q.take c.p.e 1=(0,m.t,⟨c.q.e,m.t+1⟩):=by
  unfold Q.take Q.asks
  rw [h.qe]
  simp only [show (decide ((1:Int)≤1)&&decide ((1:Int)≤64))=true from by decide,Bool.true_eq_false,if_false,Int.lt_irrefl,ne_eq,not_true_eq_false]
  rw [if_neg (by rw [h.tail];omega),h.tail]
 have hl:=h.ok.lt
 have hl0:=h.ok.u.l0
 have h0:0≤m.t:=by omega
 have h1:m.t≤1048575:=by omega
 have hq2:(⟨c.q.e,m.t+1⟩:Q).ok:=⟨h.mid.ok.seq.e,by show 0≤m.t+1∧m.t+1≤1048576;omega⟩
 obtain ⟨u,rs,hh⟩:=home_ne h.mid.ok h0
 have hnd:=home_nodup h.nd m.t
 have hat:=M.at_tail h.ok
 -- each unit of the home writes it
 have hm0:=h.mid.q hq2
 have hall:∃ s',allC (Cl.write ⟨2,c.p.e,m.t,d⟩) (c.home m.t) { c with q:=⟨c.q.e,m.t+1⟩}=(0,s')∧Mid r { c with q:=⟨c.q.e,m.t+1⟩} s' (fun i=>if (i:Int)∈c.home m.t then ⟨(shD c k m i).k+1,(shD c k m i).e,(shD c k m i).l,upC (shD c k m i).f m.t ⟨1,d⟩⟩ else shD c k m i):=by
  refine Mid.all (B:=fun i=>⟨(shD c k m i).k+1,(shD c k m i).e,(shD c k m i).l,upC (shD c k m i).f m.t ⟨1,d⟩⟩) hnd (fun v hv=>(h.home hv).1) (fun s D' v hv hs hD=>?_) hm0
  have hrg:=h.home hv
  obtain ⟨s1,s2,s3,s4⟩:=shD_at (k:=k) (m:=m) hrg.1 hv
  obtain ⟨w,hw,q1,q2,q3⟩:=hs.act (u:=v) hrg (by rw [hD];omega) (by rw [hD];omega) ⟨2,c.p.e,m.t,d⟩
  rw [hD,s2] at hw
  obtain ⟨w',e2,hw'⟩:=hw.write h0 h1 (d:=d) (by omega)
  rw [s3,hat] at e2 hw'
  simp only [show ¬((0:Int)=3) by decide,if_false,if_true] at e2 hw'
  rw [e2] at q1 q3
  simp only [if_true] at q3
  refine ⟨_,Prod.ext q1 rfl,q3 _ (by rw [hD];exact Nat.le_refl _) ?_⟩
  rw [s2]
  exact hw'
 obtain ⟨s',e2,hs'⟩:=hall
 rw [hh] at e2
 have e3:(Cl.write ⟨2,c.p.e,m.t,d⟩ { c with q:=⟨c.q.e,m.t+1⟩} u).1=0∧allC (Cl.write ⟨2,c.p.e,m.t,d⟩) rs (Cl.write ⟨2,c.p.e,m.t,d⟩ { c with q:=⟨c.q.e,m.t+1⟩} u).2=(0,s'):=by
  unfold allC at e2
  split at e2
  ·rename_i hz
   exact absurd (congrArg Prod.fst e2) hz
  ·rename_i hz
   exact ⟨by omega,e2⟩
 rw [try_rest e1 hh e3.1,e3.2]
 simp only [ne_eq,not_true_eq_false,if_false,Bool.false_eq_true]
 refine ⟨s',rfl,?_⟩
 have hsq:s'={ s' with q:=⟨c.q.e,m.t+1⟩}:=by
  have:=hs'.stay.q
  cases s'
  simp only at this
  rw [this]
 rw [hsq]
 refine Mid.is (c:={ c with q:=⟨c.q.e,m.t+1⟩}) hs' hq2 h.qe ⟨h.e.1,by have:=h.e.2;show c.p.e≤_;omega⟩ h.nd ?_ ?_ (put_sh h.ok h.mid.ok hl)
 ·show m.t+1=max m.t (m.t+1);omega
 ·exact M.ok_put h.ok (by unfold inR;simp [h0,h1]) (by rw [hat];decide) ⟨.inl rfl,by simp;omega⟩
theorem units_nodup (c:Cl):c.units.Nodup:=by
 unfold Cl.units
 exact (List.Pairwise.imp (fun {a b} hab e=>by omega) (dedS_rise (sortI c.p.all) (sortI_sorted _)))
theorem mem_units {c:Cl} {u:Int}:u∈c.units↔u∈c.p.all:=unitsOf_mem _ _
theorem Is.trim {r:Int} {k:Nat} {c:Cl} {m:M} (h:Is r k c m) (hk:k<512) (hr:((200*k+200:Nat):Int)≤r) (b:Int):∃ c',c.trim b=((m.trim b).1,c')∧Is r (k+1) c' (m.trim b).2:=by
 have hst:=h.mono (Nat.le_succ k)
 have hok:=M.ok_trim h.ok b
 unfold Cl.trim M.trim at *
 have hi:inB b 1048576=inR b 1048576:=rfl
 rw [hi]
 cases hq:inR b 1048576 with
 | false=>exact ⟨c,by simp,by simpa using hst⟩
 | true =>
  have hb:=inB_iff.1 (hi.trans hq)
  rw [hq] at hok
  simp only [Bool.not_true,Bool.false_eq_true,if_false,reduceCtorEq] at hok ⊢
  obtain ⟨s',e,hs⟩:=Mid.all (r:=r) (c:=c) (f:=Cl.trimS c.p.e b) (B:=fun i=>⟨k+1,c.p.e,max m.u.l b,fun a=>if a<max m.u.l b then ⟨3,[]⟩ else (shD c k m i).f a⟩) (units_nodup c) (fun u hu=>(h.rng (mem_units.1 hu)).1) (fun s D' u hu hs hD=>by
   have hrg:=h.rng (mem_units.1 hu)
   have hsh:=shD_all (k:=k) (m:=m) hrg.1 (mem_units.1 hu)
   obtain ⟨v,hv,q1,q2,q3⟩:=hs.act hrg (by rw [hD,hsh];exact hk) (by rw [hD,hsh];exact hr) ⟨4,c.p.e,b,[]⟩
   rw [hD] at hv q3
   have hv2:Sees v c.p.e m.u.l (shD c k m u.toNat).f:=by rw [hsh] at hv ⊢;exact hv
   obtain ⟨v',e2,hv'⟩:=hv2.trim hb
   rw [e2] at q1 q3
   simp only [if_true] at q3
   refine ⟨_,Prod.ext q1 rfl,q3 _ (by rw [hsh];exact Nat.le_refl _) hv'⟩) h.mid
  have hse:s'.q.e=s'.p.e:=by rw [hs.stay.q,hs.stay.p];exact h.qe
  refine ⟨{ s' with q:=⟨s'.q.e,max s'.q.n b⟩},?_,?_⟩
  ·rw [e,if_neg (by simp),raise_eq hse hb]
  ·refine hs.is (Q.ok_raise hs.ok.seq hb) (by show s'.q.e=_;rw [hs.stay.q];exact h.qe) ⟨h.e.1,by have:=h.e.2;omega⟩ h.nd ?_ hok (fun i=>?_)
   ·show max s'.q.n b=max m.t b
    rw [hs.stay.q,h.tail]
   ·by_cases hi:(i:Int)∈c.p.all
    ·have hiu:(i:Int)∈c.units:=mem_units.2 hi
     simp only [if_pos hiu]
     unfold shD
     simp only [if_pos hi]
     refine ⟨Nat.le_refl _,trivial,rfl,fun a=>?_⟩
     show _=if a<max m.u.l b∨(i:Int)∈c.home a then ({ m.u with l:=max m.u.l b,cells:=m.u.cells.filter (fun p=>!decide (p.1<max m.u.l b))}:U).at a else _
     rw [at_trim h.ok.u _ _ (by omega)]
     by_cases ha:a<max m.u.l b
     ·rw [if_pos ha,if_pos (.inl ha),if_pos ha]
     ·rw [if_neg ha]
      by_cases hh:(i:Int)∈c.home a
      ·rw [if_pos (.inr hh),if_pos (.inr hh),if_neg ha]
      ·rw [if_neg (by rintro (h | h);omega;exact hh h),if_neg (by rintro (h | h);exact ha h;exact hh h)]
    ·have hiu:¬(i:Int)∈c.units:=fun h=>hi (mem_units.1 h)
     simp only [if_neg hiu]
     unfold shD
     simp only [if_neg hi]
     exact ⟨Nat.le_succ _,trivial,trivial,fun _=>trivial⟩
theorem Is.lowU {r:Int} {k:Nat} {c:Cl} {m:M} (h:Is r k c m) {u:Int} (hu:u∈c.p.all):c.lowU u=m.u.l:=by
 have hr:=h.rng hu
 obtain ⟨x,v,hx,hF,hS⟩:=h.mid.has hr
 have:=hF.lowU hx
 rw [show ((u.toNat:Nat):Int)=u by omega] at this
 rw [this,hS.l,shD_all hr.1 hu]
theorem minLow_eq {c:Cl} {q:Int}:∀ (l:List Int) (t:Int),(∀ u∈l,c.lowU u=q)→q≤t→(l≠[]∨t=q)→minLow c l t=q
 | [],t,_,_,h=>by rcases h with h | h;exact absurd rfl h;exact h
 | u::l,t,hl,ht,_=>by
  show minLow c l (min t (c.lowU u))=q
  rw [hl u List.mem_cons_self]
  exact minLow_eq l _ (fun v hv=>hl v (List.mem_cons_of_mem _ hv)) (by omega) (.inr (by omega))
theorem Is.minLow {r:Int} {k:Nat} {c:Cl} {m:M} (h:Is r k c m):SL.minLow c c.units 1048576=m.u.l:=by
 refine minLow_eq _ _ (fun u hu=>h.lowU (mem_units.1 hu)) (by have:=h.ok.lt;have:=h.ok.t1;omega) (.inl ?_)
 obtain ⟨u,rs,hh⟩:=home_ne h.mid.ok (a:=0) (by omega)
 have hm:u∈c.units:=mem_units.2 (home_mem (a:=0) (by rw [hh];exact List.mem_cons_self))
 intro he
 rw [he] at hm
 cases hm
theorem Is.tailS {r:Int} {k:Nat} {c:Cl} {m:M} (h:Is r k c m):c.tail=(0,m.t):=by
 unfold Cl.tail Q.tail Q.asks
 rw [h.qe,←h.tail]
 simp
theorem Is.nextR {r:Int} {k:Nat} {c:Cl} {m:M} (h:Is r k c m):∀ (K:Nat) (a:Int) (X:List C),0≤a→a+K≤1048576→∃ Y:List C,SL.nextR c K a X=(0,X++Y)∧Y.length≤K∧∀ (j:Nat) (hj:j<Y.length),Y[j]=m.u.at (a+j)∧(Y[j]).k≠0
 | 0,a,X,_,_=>⟨[],by simp [SL.nextR],by simp,fun j hj=>by simp at hj⟩
 | K+1,a,X,h0,h1=>by
  have hr:c.read a=(0,m.u.at a):=by
   rw [h.read a]
   unfold M.rd
   rw [if_neg]
   unfold inR
   simp
   omega
  by_cases h2:(m.u.at a).k=0
  ·exact ⟨[],by rw [nextR_end (by rw [hr]) (by rw [hr];exact h2)];simp,by simp,fun j hj=>by simp at hj⟩
  ·obtain ⟨Y,e,hl,hY⟩:=Is.nextR h K (a+1) (X++[m.u.at a]) (by omega) (by omega)
   refine ⟨m.u.at a::Y,?_,by simp only [List.length_cons];omega,fun j hj=>?_⟩
   ·rw [nextR_on (by rw [hr]) (by rw [hr];exact h2),hr]
    simp only
    rw [e,List.append_assoc]
    rfl
   ·cases j with
    | zero=>exact ⟨by simp,by simpa using h2⟩
    | succ j =>
     simp only [List.length_cons] at hj
     have:=hY j (by omega)
     simp only [List.getElem_cons_succ]
     rw [show a+((j+1:Nat):Int)=a+1+j by omega]
     exact this
theorem Is.next {r:Int} {k:Nat} {c:Cl} {m:M} (h:Is r k c m) {f:Int} (h0:0≤f) (h1:f≤m.t):∃ Y:List C,nextS c f=(0,m.u.l,Y)∧Y.length≤64∧f+Y.length≤m.t∧∀ (j:Nat) (hj:j<Y.length),Y[j]=m.u.at (f+j)∧(Y[j]).k≠0:=by
 have ht:=h.ok.t1
 have hm:((many64 f m.t:Nat):Int)=min (f+64) m.t - f:=by unfold many64;omega
 obtain ⟨Y,e,hl,hY⟩:=h.nextR (many64 f m.t) f [] h0 (by omega)
 refine ⟨Y,?_,by omega,by omega,hY⟩
 unfold nextS
 rw [h.tailS]
 simp only [ne_eq,not_true_eq_false,if_false]
 rw [e]
 simp only [ne_eq,not_true_eq_false,if_false,List.nil_append]
 rw [h.minLow]
def _root_.Go.Proofs.YtaodldbgikiekaaGreatDoor.M.mark (m:M) (b:Int):M:=if b≤m.u.l then m else m.trim' b
theorem mat_trim {m:M} (h:m.ok) (b a:Int):(m.trim' b).u.at a=if a<max m.u.l b then ⟨3,[]⟩ else m.u.at a:=at_trim h.u (max m.u.l b) a (by omega)
theorem at_mark {m:M} (h:m.ok) (b a:Int):(m.mark b).u.at a=if a<b then ⟨3,[]⟩ else m.u.at a:=by
 unfold M.mark
 split
 ·rename_i hb
  split
  ·unfold U.at;rw [if_pos (by omega)]
  ·rfl
 ·rename_i hb
  rw [mat_trim h]
  split
  ·rename_i h1
   rw [if_pos (by omega)]
  ·rename_i h1
   rw [if_neg (by omega)]
theorem Is.markS {r:Int} {k:Nat} {c:Cl} {m:M} (h:Is r k c m) (hk:k<512) (hr:((200*k+200:Nat):Int)≤r) {b:Int} (hb:0≤b∧b≤1048576):∃ c',SL.markS c b=(0,c')∧Is r (k+1) c' (m.mark b):=by
 unfold SL.markS M.mark
 rw [h.minLow]
 split
 ·exact ⟨c,rfl,h.mono (Nat.le_succ k)⟩
 ·obtain ⟨c',e,h'⟩:=h.trim hk hr b
  have ht:m.trim b=(0,m.trim' b):=by
   unfold M.trim inR
   rw [if_neg (by simp;omega)]
  rw [ht] at e h'
  exact ⟨c',e,h'⟩
theorem M.mark_ok {m:M} (h:m.ok) {b:Int} (hb:0≤b∧b≤1048576):(m.mark b).ok:=by
 unfold M.mark
 split
 ·exact h
 ·have:=M.ok_trim h b
  unfold M.trim inR at this
  rw [if_neg (by simp;omega)] at this
  exact this
/-- a mirror's model: what one more cell makes of it -/
def oneM (m:M) (a:Int) (x:C):M:=if x.k=3 then m else (m.put a x).2
theorem Is.one {r:Int} {k:Nat} {c:Cl} {m:M} (h:Is r k c m) (hk:k<512) (hr:((200*k+200:Nat):Int)≤r) {a:Int} (ha:0≤a∧a≤1048575) {x:C} (hx:x.check=0) (hx0:x.k≠0) (hc:(m.u.at a).k=0∨(m.u.at a).k=3∨x.k=3∨m.u.at a=x) :
  ∃ c',oneS c a x=(0,c')∧Is r (if x.k=3 then k else k+1) c' (oneM m a x):=by
 unfold oneS oneM
 by_cases h3:x.k=3
 ·rw [if_pos h3,if_pos h3,if_pos h3]
  exact ⟨c,rfl,h⟩
 rw [if_neg h3,if_neg h3,if_neg h3]
 obtain ⟨c',e,h'⟩:=h.putAt hk hr a x
 have hkk:0≤x.k∧x.k≤3:=by
  unfold C.check at hx
  split at hx
  ·cases hx
  ·omega
 have hin:inR a 1048575=true:=by unfold inR;simp;omega
 have hx12:x.k=1∨x.k=2:=by omega
 rw [e]
 by_cases hm3:(m.u.at a).k=3
 ·have hp:m.put a x=(9,m):=by
   unfold M.put
   rw [hin,if_neg (by simp),if_neg (by rw [hx];decide),if_neg (by omega),if_pos hm3]
  rw [hp] at h' ⊢
  rw [if_neg (by simp)]
  have hl:a<m.u.l:=at_three h.ok.u hm3
  have:SL.markS c' (a+1)=(0,c'):=by
   unfold SL.markS
   rw [h'.minLow,if_pos (by show a+1≤m.u.l;omega)]
  rw [this]
  exact ⟨c',rfl,h'⟩
 ·have hmay:C.may (m.u.at a) x=true:=(may_iff (at_check h.ok.u a) hx h3).2 (by
   rcases hc with hc | hc | hc | hc
   ·exact .inl hc
   ·exact absurd hc hm3
   ·exact absurd hc h3
   ·exact .inr hc)
  have hp:m.put a x=(0,m.put' a x):=by
   unfold M.put
   rw [hin,if_neg (by simp),if_neg (by rw [hx];decide),if_neg (by omega),if_neg hm3,hmay,if_neg (by simp)]
  rw [hp] at h' ⊢
  rw [if_pos (by simp)]
  exact ⟨c',rfl,h'⟩
/-- .. and more cells -/
def onesM:List C→M→Int→M
 | [],m,_=>m
 | x::X,m,a=>onesM X (oneM m a x) (a+1)
def dataN (X:List C):Nat:=(X.filter (fun x=>x.k != 3)).length
theorem dataN_cons (x:C) (X:List C):dataN (x::X)=(if x.k=3 then 0 else 1)+dataN X:=by
 unfold dataN
 by_cases h:x.k=3
 ·rw [List.filter_cons_of_neg (by simp [h]),if_pos h];omega
 ·rw [List.filter_cons_of_pos (by simpa using h),if_neg h,List.length_cons];omega
theorem mput_at {m:M} (h:m.ok) {a:Int} (x:C) (h3:(m.u.at a).k≠3) (b:Int):(m.put' a x).u.at b=if b=a then x else m.u.at b:=at_put h.u x (at_ge h3) b
theorem mput_yes {m:M} {a:Int} {x:C} (ha:0≤a∧a≤1048575) (hx:x.check=0) (hx0:x.k≠0) (hx3:x.k≠3) (hm3:(m.u.at a).k≠3) (hc:(m.u.at a).k=0∨m.u.at a=x) (hok:m.ok):m.put a x=(0,m.put' a x):=by
 have hkk:0≤x.k∧x.k≤3:=by
  unfold C.check at hx
  split at hx
  ·cases hx
  ·omega
 have hin:inR a 1048575=true:=by unfold inR;simp;omega
 unfold M.put
 rw [hin,if_neg (by simp),if_neg (by rw [hx];decide),if_neg (by omega),if_neg hm3,(may_iff (at_check hok.u a) hx hx3).2 hc,if_neg (by simp)]
theorem mput_no {m:M} {a:Int} {x:C} (ha:0≤a∧a≤1048575) (hx:x.check=0) (hx0:x.k≠0) (hx3:x.k≠3) (hm3:(m.u.at a).k=3):m.put a x=(9,m):=by
 have hkk:0≤x.k∧x.k≤3:=by
  unfold C.check at hx
  split at hx
  ·cases hx
  ·omega
 have hin:inR a 1048575=true:=by unfold inR;simp;omega
 unfold M.put
 rw [hin,if_neg (by simp),if_neg (by rw [hx];decide),if_neg (by omega),if_pos hm3]
theorem one_at {m:M} (h:m.ok) {a:Int} (ha:0≤a∧a≤1048575) {x:C} (hx:x.check=0) (hx0:x.k≠0) (hc:(m.u.at a).k=0∨(m.u.at a).k=3∨x.k=3∨m.u.at a=x) (b:Int) :
  (oneM m a x).u.at b=if b=a∧x.k≠3∧(m.u.at a).k≠3 then x else m.u.at b:=by
 unfold oneM
 by_cases h3:x.k=3
 ·rw [if_pos h3,if_neg (fun h=>h.2.1 h3)]
 ·rw [if_neg h3]
  by_cases hm3:(m.u.at a).k=3
  ·rw [mput_no ha hx hx0 h3 hm3,if_neg (fun h=>h.2.2 hm3)]
  ·rw [mput_yes ha hx hx0 h3 hm3 (by rcases hc with hc | hc | hc | hc;exact .inl hc;exact absurd hc hm3;exact absurd hc h3;exact .inr hc) h,mput_at h x hm3]
   by_cases hb:b=a
   ·rw [if_pos hb,if_pos ⟨hb,h3,hm3⟩]
   ·rw [if_neg hb,if_neg (fun h=>hb h.1)]
theorem one_ok {m:M} (h:m.ok) (a:Int) (x:C):(oneM m a x).ok:=by
 unfold oneM
 split
 ·exact h
 ·exact M.ok_putx h a x
/-- cells of a parcel may be put where the mirror is empty, trimmed, or as they are -/
def Fits (m:M) (a:Int) (X:List C):Prop:=∀ (j:Nat) (hj:j<X.length),(X[j]).check=0∧(X[j]).k≠0∧((m.u.at (a+j)).k=0∨(m.u.at (a+j)).k=3∨(X[j]).k=3∨m.u.at (a+j)=X[j])
theorem Fits.tail {m:M} (h:m.ok) {a:Int} {x:C} {X:List C} (hf:Fits m a (x::X)) (ha:0≤a∧a≤1048575):Fits (oneM m a x) (a+1) X:=fun j hj=>by
 obtain ⟨h1,h2,h3⟩:=hf (j+1) (by simp only [List.length_cons];omega)
 obtain ⟨g1,g2,g3⟩:=hf 0 (by simp)
 simp only [List.getElem_cons_zero,Int.natCast_zero,Int.add_zero] at g1 g2 g3
 simp only [List.getElem_cons_succ] at h1 h2 h3
 refine ⟨h1,h2,?_⟩
 rw [show a+1+(j:Int)=a+((j+1:Nat):Int) by omega,one_at h ha g1 g2 (by simpa using g3),if_neg (fun h=>by have:=h.1;omega)]
 exact h3
theorem ones_at:∀ (X:List C) {m:M} (a:Int),m.ok→Fits m a X→0≤a→a+X.length≤1048576→(onesM X m a).ok∧∀ b,(onesM X m a).u.at b=if h:a≤b∧b<a+X.length then (if (X[(b - a).toNat]'(by omega)).k≠3∧(m.u.at b).k≠3 then X[(b - a).toNat]'(by omega) else m.u.at b) else m.u.at b
 | [],m,a,h,_,_,_=>⟨h,fun b=>by
  rw [dif_neg (by simp only [List.length_nil];omega)]
  rfl⟩
 | x::X,m,a,h,hf,h0,h1=>by
  simp only [List.length_cons] at h1
  have ha:0≤a∧a≤1048575:=by omega
  obtain ⟨g1,g2,g3⟩:=hf 0 (by simp)
  simp only [List.getElem_cons_zero,Int.natCast_zero,Int.add_zero] at g1 g2 g3
  have g3':(m.u.at a).k=0∨(m.u.at a).k=3∨x.k=3∨m.u.at a=x:=by simpa using g3
  obtain ⟨ih1,ih2⟩:=ones_at X (m:=oneM m a x) (a+1) (one_ok h a x) (hf.tail h ha) (by omega) (by omega)
  refine ⟨ih1,fun b=>?_⟩
  show (onesM X (oneM m a x) (a+1)).u.at b=_
  rw [ih2 b]
  by_cases hb:b=a
  ·subst hb
   rw [dif_neg (by omega),dif_pos ⟨by omega,by simp only [List.length_cons];omega⟩,one_at h ha g1 g2 g3']
   simp only [Int.sub_self,Int.toNat_zero,List.getElem_cons_zero]
   by_cases hc:x.k≠3∧(m.u.at b).k≠3
   ·rw [if_pos ⟨trivial,hc⟩,if_pos hc]
   ·rw [if_neg (fun h=>hc h.2),if_neg hc]
  ·have e1:(oneM m a x).u.at b=m.u.at b:=by rw [one_at h ha g1 g2 g3',if_neg (fun h=>hb h.1)]
   rw [e1]
   by_cases hr:a+1≤b∧b<a+1+X.length
   ·rw [dif_pos hr,dif_pos ⟨by omega,by simp only [List.length_cons];omega⟩]
    have e2:∀ (hh:(b - a).toNat<(x::X).length),(x::X)[(b - a).toNat]=X[(b - (a+1)).toNat]'(by omega):=fun hh=>by
     have:(b - a).toNat=(b - (a+1)).toNat+1:=by omega
     simp only [this,List.getElem_cons_succ]
    rw [e2]
   ·rw [dif_neg hr,dif_neg (by simp only [List.length_cons];omega)]
theorem Is.ones {r:Int}:∀ (X:List C) {k:Nat} {c:Cl} {m:M} (a:Int),Is r k c m→k+dataN X≤512→((200*(k+dataN X)+200:Nat):Int)≤r→Fits m a X→0≤a→a+X.length≤1048576→∃ c',onesS X c a=(0,c',a+X.length)∧Is r (k+dataN X) c' (onesM X m a)
 | [],k,c,m,a,h,_,_,_,_,_=>⟨c,by simp [onesS],h⟩
 | x::X,k,c,m,a,h,hk,hr,hf,h0,h1=>by
  simp only [List.length_cons] at h1
  have ha:0≤a∧a≤1048575:=by omega
  obtain ⟨g1,g2,g3⟩:=hf 0 (by simp)
  simp only [List.getElem_cons_zero,Int.natCast_zero,Int.add_zero] at g1 g2 g3
  rw [dataN_cons] at hk hr ⊢
  have hstep:∃ c',oneS c a x=(0,c')∧Is r (if x.k=3 then k else k+1) c' (oneM m a x):=by
   by_cases h3:x.k=3
   ·unfold oneS oneM
    rw [if_pos h3,if_pos h3,if_pos h3]
    exact ⟨c,rfl,h⟩
   ·rw [if_neg h3] at hk hr
    exact h.one (by omega) (by omega) ha g1 g2 (by simpa using g3)
  obtain ⟨c1,e1,i1⟩:=hstep
  have hkk:(if x.k=3 then k else k+1)+dataN X=k+((if x.k=3 then 0 else 1)+dataN X):=by split<;>omega
  obtain ⟨c2,e2,i2⟩:=Is.ones X (a+1) i1 (by rw [hkk];exact hk) (by rw [hkk];exact hr) (hf.tail h.ok ha) (by omega) (by omega)
  refine ⟨c2,?_,by rw [←hkk];exact i2⟩
  unfold onesS
  rw [e1]
  simp only [ne_eq,not_true_eq_false,if_false]
  rw [e2]
  simp only [List.length_cons]
  congr 2
  omega
def takeM (m:M) (app t f:Int) (Y:List C):M×Int :=
 if app<f then (m,app) else
 let N:=Y.drop (app - f).toNat
 let m1:=onesM N (m.mark (lowL app N)) app
 (m1.mark (min t (app+N.length)),app+N.length)
theorem news_full {f a:Int} {X:List CE} (h0:∀ x∈X,x.c.k≠0) (hf:f≤a):(newsS f X a).map (·.c)=(X.map (·.c)).drop (a - f).toNat:=by
 unfold newsS
 by_cases h1:f+X.length≤a
 ·rw [if_pos h1,List.drop_eq_nil_of_le (by rw [List.length_map];omega)];rfl
 ·rw [if_neg h1]
  have hi:idxB emptyC (X.drop (a - f).toNat)=-1:=idxB_none (fun y hy=>by
   have:=h0 y (List.mem_of_mem_drop hy)
   unfold emptyC
   simpa using this)
  rw [hi,if_neg (by decide),List.map_drop]
theorem lowL_hit {a:Int} (ha:0≤a) {X:List C} {j:Nat} (hj:j<X.length) (h3:(X[j]).k=3):a+j<lowL a X:=by
 have key:∀ (X:List C) (s:Int×Int) (j:Nat) (hj:j<X.length),0≤s.1→(X[j]).k=3→a+s.1+j<(X.foldl (lowF a) s).2:=by
  intro X
  induction X with
  | nil=>intro s j hj;simp at hj
  | cons x X ih =>
   intro s j hj h0 h3
   simp only [List.foldl_cons]
   have hge:∀ (Z:List C) (s:Int×Int),0≤s.1→s.2≤a+s.1→s.2≤(Z.foldl (lowF a) s).2:=by
    intro Z
    induction Z with
    | nil=>intro s _ _;exact Int.le_refl _
    | cons z Z ihz =>
     intro s q0 q1
     simp only [List.foldl_cons]
     have:=ihz (lowF a s z) (by unfold lowF;simp;omega) (by unfold lowF;simp only;split<;>omega)
     refine Int.le_trans ?_ this
     unfold lowF
     simp only
     split<;>omega
   cases j with
   | zero =>
    simp only [List.getElem_cons_zero] at h3
    have:=hge X (lowF a s x) (by unfold lowF;simp;omega) (by unfold lowF;simp only;rw [if_pos h3];omega)
    have e:(lowF a s x).2=a+s.1+1:=by unfold lowF;simp only;rw [if_pos h3]
    omega
   | succ j =>
    simp only [List.getElem_cons_succ] at h3
    simp only [List.length_cons] at hj
    have:=ih (lowF a s x) j (by omega) (by unfold lowF;simp;omega) h3
    have e:(lowF a s x).1=s.1+1:=rfl
    rw [e] at this
    omega
 have:=key X (0,0) j hj (Int.le_refl _) h3
 unfold lowL
 simpa using this
theorem Is.take {r:Int} {k:Nat} {c:Cl} {m:M} (h:Is r k c m) {app t f:Int} {X:List CE} {Y:List C} (hY:X.map (·.c)=Y) (hc:pclC 1 t f Y=0) (hn0:∀ y∈Y,y.k≠0) (ha:0≤app∧app≤1048576)
  (hk:k+dataN Y+2≤512) (hr:((200*(k+dataN Y+2)+200:Nat):Int)≤r) (hfit:f≤app→Fits (m.mark (lowL app (Y.drop (app - f).toNat))) app (Y.drop (app - f).toNat)) :
  ∃ c',takeA c ⟨1,app⟩ 1 t f X=(0,c',⟨1,(takeM m app t f Y).2⟩)∧Is r (k+dataN Y+2) c' (takeM m app t f Y).1:=by
 subst hY
 obtain ⟨p1,p2,p3⟩:=pclC_zero hc
 obtain ⟨q1,q2,q3,q4,q5⟩:=segC_zero p3
 have ht:=inB_iff.1 p2
 unfold takeA takeM
 rw [if_neg (by rw [hc];decide),if_neg (by simp)]
 simp only
 by_cases hf:app<f
 ·rw [if_pos hf,if_pos hf]
  exact ⟨c,rfl,h.mono (by omega)⟩
 rw [if_neg hf,if_neg hf]
 have hnw:(newsS f X app).map (·.c)=(X.map (·.c)).drop (app - f).toNat:=news_full (fun x hx=>hn0 x.c (List.mem_map_of_mem hx)) (by omega)
 rw [hnw]
 have hfit:=hfit (by omega)
 obtain ⟨N,hN⟩:∃ N,N=(X.map (·.c)).drop (app - f).toNat:=⟨_,rfl⟩
 rw [←hN] at hfit ⊢
 have hlr:=lowL_rng ha.1 N
 have hNl:app+N.length≤1048576:=by
  rw [hN,List.length_drop]
  omega
 have hdn:dataN N≤dataN (X.map (·.c)):=by
  rw [hN]
  unfold dataN
  exact ((List.drop_sublist _ _).filter _).length_le
 obtain ⟨c1,e1,i1⟩:=h.markS (by omega) (by omega) (b:=lowL app N) ⟨by omega,by omega⟩
 obtain ⟨c2,e2,i2⟩:=Is.ones N app i1 (by omega) (by omega) hfit ha.1 hNl
 have hcs:cellsS c app N=(0,c2,app+N.length):=by
  unfold cellsS
  rw [e1]
  simp only [ne_eq,not_true_eq_false,if_false]
  exact e2
 obtain ⟨c3,e3,i3⟩:=i2.markS (by omega) (by omega) (b:=min t (app+N.length)) ⟨by omega,by omega⟩
 rw [hcs]
 simp only [ne_eq,not_true_eq_false,if_false]
 rw [e3]
 exact ⟨c3,rfl,i3.mono (by omega)⟩

end SL
end Go.Proofs.YtaodldbgikiekaaGreatDoor

namespace Go.Proofs.YtaodldbgikiekaaGreatDoor
open Go.RowKit
namespace SL
open DK SH SQ
theorem two_fill {Z:List Asn} {a b:Nat} {Ma Mb:Cl} {W:World} (n:Int) (w:World) (hp:Pow W) (h:Two Z a Ma b Mb W w) (hok:Ma.ok):Calls Tryz.prog 43 #[ptrV a,.int .i64 n] w fun e w'=>e=.returned (errV (Ma.fill n).1)∧Two Z a (Ma.fill n).2 b Mb W w':=by
 obtain ⟨J,Pb,h1,hback⟩:=h.fst
 exact (Fill_any n w hp h1 hok).mono fun e w' ⟨he,h2⟩=>⟨he,hback _ _ h2⟩
theorem two_trim {Z:List Asn} {a b:Nat} {Ma Mb:Cl} {W:World} (n:Int) (w:World) (hp:Pow W) (h:Two Z a Ma b Mb W w) (hok:Ma.ok):Calls Tryz.prog 45 #[ptrV a,.int .i64 n] w fun e w'=>e=.returned (errV (Ma.trim n).1)∧Two Z a (Ma.trim n).2 b Mb W w':=by
 obtain ⟨J,Pb,h1,hback⟩:=h.fst
 exact (Trim_any n w hp h1 hok).mono fun e w' ⟨he,h2⟩=>⟨he,hback _ _ h2⟩
theorem two_put {Z:List Asn} {a b:Nat} {Ma Mb:Cl} {W:World} (n:Int) (x:C) (xa:Option Addr) (xc:Nat) (w:World) (hp:Pow W) (h:Two Z a Ma b Mb W w) (hok:Ma.ok) (hB:∀ {L:List Asn} (w':World),Sep W NoF (Z++L) w'→Bytes w' (.slice xa x.d.length xc) x.d):Calls Tryz.prog 44 #[ptrV a,.int .i64 n,.agg #[.int .i64 x.k,.slice xa x.d.length xc]] w fun e w'=>e=.returned (errV (Ma.putAt n x).1)∧Two Z a (Ma.putAt n x).2 b Mb W w':=by
 obtain ⟨J,Pb,h1,hback⟩:=h.fst
 exact (Put_any n x xa xc w hp h1 hok (fun M' w' h'=>hB w' h'.side)).mono fun e w' ⟨he,h2⟩=>⟨he,hback _ _ h2⟩
/-- what a log's writing makes of its model -/
structure Grow (m m':Go.Proofs.YtaodldbgikiekaaGreatDoor.M):Prop where
 three:∀ a,(m.u.at a).k=3→(m'.u.at a).k=3
 keep:∀ a,(m.u.at a).k≠0→m'.u.at a=m.u.at a∨(m'.u.at a).k=3
 t:m.t≤m'.t
 n:m'.u.cells.length≤m.u.cells.length+1
theorem Grow.refl (m:Go.Proofs.YtaodldbgikiekaaGreatDoor.M):Grow m m:=⟨fun _ h=>h,fun _ _=>.inl rfl,Int.le_refl _,Nat.le_succ _⟩
theorem Grow.put' {m:Go.Proofs.YtaodldbgikiekaaGreatDoor.M} (h:m.ok) {a:Int} {x:C} (h3:(m.u.at a).k≠3) (h0:(m.u.at a).k=0∨m.u.at a=x):Grow m (m.put' a x):=by
 have e:=fun b=>mput_at h x h3 b
 refine ⟨fun b hb=>?_,fun b hb=>?_,by show m.t≤max m.t (a+1);omega,Go.Proofs.YtaodldbgikiekaaGreatDoor.putC_len _ _ _⟩
 ·rw [e b,if_neg (fun hba=>by rw [hba] at hb;exact h3 hb)];exact hb
 ·rw [e b]
  split
  ·rename_i hba
   subst hba
   rcases h0 with h0 | h0
   ·exact absurd h0 hb
   ·exact .inl h0.symm
  ·exact .inl rfl
theorem Grow.app {m:Go.Proofs.YtaodldbgikiekaaGreatDoor.M} (h:m.ok) (d:List UInt8):Grow m (m.app d).2.2:=by
 unfold M.app
 split
 ·exact Grow.refl m
 ·split
  ·exact Grow.refl m
  ·have h0:m.u.at m.t=⟨0,[]⟩:=by
    unfold U.at
    rw [if_neg (by have:=h.lt;omega)]
    refine lookC_none ?_
    rw [List.any_eq_false]
    intro p hp hpt
    have:=h.below p hp
    have:p.1=m.t:=by simpa using hpt
    omega
   exact Grow.put' h (by rw [h0];decide) (.inl (by rw [h0]))
theorem Grow.fil {m:Go.Proofs.YtaodldbgikiekaaGreatDoor.M} (h:m.ok) (a:Int):Grow m (m.fil a).2:=by
 unfold M.fil
 split
 ·exact Grow.refl m
 ·split
  ·exact Grow.refl m
  ·rename_i h3
   split
   ·exact Grow.put' h h3 (.inr rfl)
   ·rename_i h1
    refine Grow.put' h h3 ?_
    rcases at_kind h.u a with hk | hk | hk
    ·exact absurd hk.1 h3
    ·exact .inl hk.1
    ·right
     rcases hk.1 with hk | hk
     ·exact absurd hk h1
     ·generalize m.u.at a=y at *
      obtain ⟨yk,yd⟩:=y
      obtain ⟨q,p⟩:=hk
      simp only at q p
      rw [q,p]
theorem Grow.put {m:Go.Proofs.YtaodldbgikiekaaGreatDoor.M} (h:m.ok) (a:Int) (x:C):Grow m (m.put a x).2:=by
 unfold M.put
 split
 ·exact Grow.refl m
 ·split
  ·exact Grow.refl m
  ·rename_i hc
   have hc0:x.check=0:=Decidable.not_not.1 hc
   split
   ·exact Grow.refl m
   ·rename_i hk
    split
    ·exact Grow.refl m
    ·rename_i h3
     split
     ·exact Grow.refl m
     ·rename_i hm
      have hm':C.may (m.u.at a) x=true:=by simpa using hm
      exact Grow.put' h h3 ((may_iff (at_check h.u a) hc0 (by intro h;apply hk;constructor<;>omega)).1 hm')
theorem Grow.trim {m:Go.Proofs.YtaodldbgikiekaaGreatDoor.M} (h:m.ok) (b:Int):Grow m (m.trim b).2:=by
 unfold M.trim
 split
 ·exact Grow.refl m
 ·refine ⟨fun a ha=>?_,fun a _=>?_,by show m.t≤max m.t b;omega,?_⟩
  ·show ((m.trim' b).u.at a).k=3
   rw [mat_trim h]
   split
   ·rfl
   ·exact ha
  ·show (m.trim' b).u.at a=_∨((m.trim' b).u.at a).k=3
   rw [mat_trim h]
   split
   ·exact .inr rfl
   ·exact .inl rfl
  ·exact Nat.le_succ_of_le (List.length_filter_le _ _)
abbrev mirB (N log copy s b u d:Nat):Asn:=.box N [ptrV log,ptrV copy,ptrV s,ptrV b,ptrV u,ptrV d] 47
set_option maxHeartbeats 16000000 in
theorem mwrite_any {Z:List Asn} {N log copy s b u d:Nat} {Ml Mc:Cl} {W:World} {r:Int} {k:Nat} {ml:Go.Proofs.YtaodldbgikiekaaGreatDoor.M} (x:A13) (w:World) (hp:Pow W) (hx:A13At W x) (h:Two (mirB N log copy s b u d::Z) log Ml copy Mc W w) (hI:Is r k Ml ml) (hk:k<512) (hr:((200*k+200:Nat):Int)≤r) :
  Calls Tryz.prog 18 #[ptrV N,.agg (a13V x).toArray] w fun en w'=>en=.returned (.tuple #[])∧∃ Ml' ml',Is r (k+1) Ml' ml'∧Grow ml ml'∧Two (mirB N log copy s b u d::Z) log Ml' copy Mc W w':=by
 have HP:=Lib.hid' hp
 have HD:=Lib.hid' hx.d
 have h1:=h.boxZ w.heap.size (a13V x) 32 rfl
 have HOK:=Lib.hid' hI.mid.ok
 have HNO:=Zh (show Is r (k+1) Ml ml∧Grow ml ml from ⟨hI.mono (Nat.le_succ k),Grow.refl ml⟩)
 obtain ⟨Ma,ea,ia⟩:=hI.append hk hr x.c.d
 obtain ⟨Mf,ef,jf⟩:=hI.fill hk hr x.a
 obtain ⟨Mp,ep,ip⟩:=hI.putAt hk hr x.a x.c
 obtain ⟨Mt,et,it⟩:=hI.trim hk hr x.a
 have HIA:=Zh (show Is r (k+1) Ma (ml.app x.c.d).2.2∧Grow ml (ml.app x.c.d).2.2 from ⟨ia,Grow.app hI.ok _⟩)
 have HIF:=Zh (show Is r (k+1) Mf (ml.fil x.a).2∧Grow ml (ml.fil x.a).2 from ⟨jf,Grow.fil hI.ok _⟩)
 have HIP:=Zh (show Is r (k+1) Mp (ml.put x.a x.c).2∧Grow ml (ml.put x.a x.c).2 from ⟨ip,Grow.put hI.ok _ _⟩)
 have HIT:=Zh (show Is r (k+1) Mt (ml.trim x.a).2∧Grow ml (ml.trim x.a).2 from ⟨it,Grow.trim hI.ok _⟩)
 have HEA:=Lib.hid' ea
 have HEF:=Lib.hid' ef
 have HEP:=Lib.hid' ep
 have HET:=Lib.hid' et
 clear hI hk hr ea ef ep et ia jf ip it hp hx h
 obtain ⟨xk,xu,xa,xc,da,dc,ks,ka,kc,sp,pa,pc⟩:=x
 simp only at HD HIA HIF HIP HIT HEA HEF HEP HET
 obtain ⟨w1,hw1⟩:∃ w1,w.alloc (.cells (a13V ⟨xk,xu,xa,xc,da,dc,ks,ka,kc,sp,pa,pc⟩).toArray 32)=w1:=⟨_,rfl⟩
 rw [hw1] at h1
 have H1:=Zh (show Two [.box w.heap.size [.int .i64 xk,.int .i64 xu,.int .i64 xa,.int .i64 xc.k,.slice da xc.d.length dc,.slice ka ks.length kc,.slice pa sp.length pc] 32,mirB N log copy s b u d] log Ml copy Mc W w1∧Two (.box w.heap.size [.int .i64 xk,.int .i64 xu,.int .i64 xa,.int .i64 xc.k,.slice da xc.d.length dc,.slice ka ks.length kc,.slice pa sp.length pc] 32::mirB N log copy s b u d::Z) log Ml copy Mc W w1 from ⟨h1.subZ (((List.nil_sublist _).cons_cons _).cons_cons _),h1⟩)
 rw [show w.alloc (.cells (a13V ⟨xk,xu,xa,xc,da,dc,ks,ka,kc,sp,pa,pc⟩).toArray 32)=w.alloc (.cells #[.int .i64 xk,.int .i64 xu,.int .i64 xa,.int .i64 xc.k,.slice da xc.d.length dc,.slice ka ks.length kc,.slice pa sp.length pc] 32) from rfl] at hw1
 rw [show (a13V ⟨xk,xu,xa,xc,da,dc,ks,ka,kc,sp,pa,pc⟩).toArray=#[.int .i64 xk,.int .i64 xu,.int .i64 xa,.int .i64 xc.k,.slice da xc.d.length dc,.slice ka ks.length kc,.slice pa sp.length pc] from rfl]
 clear h1
 go_enter Tryz.func18, Tryz.ntmps18
 go_upto_region 1 with fail
 try rw [hw1]
 clear hw1
 generalize w.heap.size=B at *
 have H2:=Lib.hid' H1.out.2
 clear H1
 have b0:=H2.out.side.cell 0 rfl 0 rfl;have bl:=H2.out.side.lt 0 rfl
 go_upto_block 2 with fail
 ·skip
  go_upto_region 4 with fail
  have H2d:=H2.out.below (Below.refl _ _).drew
  clear b0 bl
  refine startD (S:=(fun w'=>BoxW B [.int .i64 xk,.int .i64 xu,.int .i64 xa,.int .i64 xc.k,.slice da xc.d.length dc,.slice ka ks.length kc,.slice pa sp.length pc] 32 w'∧BoxW N [ptrV log,ptrV copy,ptrV s,ptrV b,ptrV u,ptrV d] 47 w')) (by kernel_rfl) ⟨H2d.side.box 0 rfl,H2d.side.box 1 rfl⟩ (fun hH0=>?_)
  simp only [List.length_cons,List.length_nil,Nat.reduceAdd,List.replicate_succ,List.replicate_zero]
  refine tD 0 12 (.pointer (some ⟨N,0,none⟩)) rfl rfl [(0,.pointer (some ⟨N,0,none⟩))] hH0 ?_
  dsimp only [sZ,sS]
  refine tE 1 13 (.pointer (some ⟨N,0,none⟩)) rfl rfl [(12,.pointer (some ⟨N,0,none⟩))] hH0 ?_ ?_
  ·intro w hSw;have rl:=hSw.2.lt;go_simp
  dsimp only [sZ,sS]
  refine tD 2 14 (.pointer (some ⟨N,0,none⟩)) rfl rfl [(13,.pointer (some ⟨N,0,none⟩))] hH0 ?_
  dsimp only [sZ,sS]
  refine tE 3 15 (ptrV log) rfl rfl [(14,.pointer (some ⟨N,0,none⟩))] hH0 ?_ ?_
  ·intro w hSw;have r0:=hSw.2.box.1 0 _ rfl;have rl:=hSw.2.lt;go_simp
  dsimp only [sZ,sS]
  refine tD 4 16 (.pointer (some ⟨B,3,none⟩)) rfl rfl [(3,.pointer (some ⟨B,0,none⟩))] hH0 ?_
  dsimp only [sZ,sS]
  refine tD 5 17 (.pointer (some ⟨B,4,none⟩)) rfl rfl [(16,.pointer (some ⟨B,3,none⟩))] hH0 ?_
  dsimp only [sZ,sS]
  refine tE 6 18 (.slice da xc.d.length dc) rfl rfl [(17,.pointer (some ⟨B,4,none⟩))] hH0 ?_ ?_
  ·intro w hSw;have q4:=hSw.1.box.1 4 _ rfl;have ql:=hSw.1.lt;go_simp
  dsimp only [sZ,sS]
  refine rD 7 rfl (fun K hK=>?_)
  go_simp
  have ha:=two_append xc.d da dc _ HP.out H2d HOK.out (fun w' h'=>SlV.below HD.out (Nat.le_refl _) h'.toBelow)
  rw [HEA.out] at ha
  refine ha.mono ?_
  rintro en w5 ⟨rfl,H3⟩
  clear ha
  refine hK.out _ _ ?_ (fun hH1=>?_)
  ·exact ⟨H3.side.box 0 rfl,H3.side.box 1 rfl⟩
  clear hK K
  try simp only [Act.put,gA,gZ,gS,sA,sZ,sS]
  refine tD 8 11 (.tuple #[.int .i64 (ml.app xc.d).2.1,errV (ml.app xc.d).1]) rfl rfl [(19,.tuple #[.int .i64 (ml.app xc.d).2.1,errV (ml.app xc.d).1])] hH1 ?_
  dsimp only [sZ,sS]
  refine tD 9 20 (.int .i64 (ml.app xc.d).2.1) rfl rfl [(11,.tuple #[.int .i64 (ml.app xc.d).2.1,errV (ml.app xc.d).1])] hH1 ?_
  dsimp only [sZ,sS]
  refine tD 10 21 (errV (ml.app xc.d).1) rfl rfl [(11,.tuple #[.int .i64 (ml.app xc.d).2.1,errV (ml.app xc.d).1])] hH1 ?_
  dsimp only [sZ,sS]
  refine wpAnyH_done (by kernel_rfl) ?_ _
  go_wp2_with fail
  go_end0
  exact ⟨rfl,Ma,_,HIA.out.1,HIA.out.2,H3.subZ (List.sublist_cons_self _ _)⟩
 ·skip
  go_upto_region 4 with fail
  have H2d:=H2.out.below (Below.refl _ _).drew
  clear b0 bl
  refine startD (S:=(fun w'=>BoxW B [.int .i64 xk,.int .i64 xu,.int .i64 xa,.int .i64 xc.k,.slice da xc.d.length dc,.slice ka ks.length kc,.slice pa sp.length pc] 32 w'∧BoxW N [ptrV log,ptrV copy,ptrV s,ptrV b,ptrV u,ptrV d] 47 w')) (by kernel_rfl) ⟨H2d.side.box 0 rfl,H2d.side.box 1 rfl⟩ (fun hH0=>?_)
  simp only [List.length_cons,List.length_nil,Nat.reduceAdd,List.replicate_succ,List.replicate_zero]
  refine tD 0 12 (.pointer (some ⟨N,0,none⟩)) rfl rfl [(0,.pointer (some ⟨N,0,none⟩))] hH0 ?_
  dsimp only [sZ,sS]
  refine tE 1 13 (.pointer (some ⟨N,0,none⟩)) rfl rfl [(12,.pointer (some ⟨N,0,none⟩))] hH0 ?_ ?_
  ·intro w hSw;have rl:=hSw.2.lt;go_simp
  dsimp only [sZ,sS]
  refine tD 2 14 (.pointer (some ⟨N,0,none⟩)) rfl rfl [(13,.pointer (some ⟨N,0,none⟩))] hH0 ?_
  dsimp only [sZ,sS]
  refine tE 3 15 (ptrV log) rfl rfl [(14,.pointer (some ⟨N,0,none⟩))] hH0 ?_ ?_
  ·intro w hSw;have r0:=hSw.2.box.1 0 _ rfl;have rl:=hSw.2.lt;go_simp
  dsimp only [sZ,sS]
  refine tD 4 16 (.pointer (some ⟨B,3,none⟩)) rfl rfl [(3,.pointer (some ⟨B,0,none⟩))] hH0 ?_
  dsimp only [sZ,sS]
  refine tD 5 17 (.pointer (some ⟨B,4,none⟩)) rfl rfl [(16,.pointer (some ⟨B,3,none⟩))] hH0 ?_
  dsimp only [sZ,sS]
  refine tE 6 18 (.slice da xc.d.length dc) rfl rfl [(17,.pointer (some ⟨B,4,none⟩))] hH0 ?_ ?_
  ·intro w hSw;have q4:=hSw.1.box.1 4 _ rfl;have ql:=hSw.1.lt;go_simp
  dsimp only [sZ,sS]
  refine rD 7 rfl (fun K hK=>?_)
  go_simp
  have ha:=two_append xc.d da dc _ HP.out H2d HOK.out (fun w' h'=>SlV.below HD.out (Nat.le_refl _) h'.toBelow)
  rw [HEA.out] at ha
  refine ha.mono ?_
  rintro en w5 ⟨rfl,H3⟩
  clear ha
  refine hK.out _ _ ?_ (fun hH1=>?_)
  ·exact ⟨H3.side.box 0 rfl,H3.side.box 1 rfl⟩
  clear hK K
  try simp only [Act.put,gA,gZ,gS,sA,sZ,sS]
  refine tD 8 11 (.tuple #[.int .i64 (ml.app xc.d).2.1,errV (ml.app xc.d).1]) rfl rfl [(19,.tuple #[.int .i64 (ml.app xc.d).2.1,errV (ml.app xc.d).1])] hH1 ?_
  dsimp only [sZ,sS]
  refine tD 9 20 (.int .i64 (ml.app xc.d).2.1) rfl rfl [(11,.tuple #[.int .i64 (ml.app xc.d).2.1,errV (ml.app xc.d).1])] hH1 ?_
  dsimp only [sZ,sS]
  refine tD 10 21 (errV (ml.app xc.d).1) rfl rfl [(11,.tuple #[.int .i64 (ml.app xc.d).2.1,errV (ml.app xc.d).1])] hH1 ?_
  dsimp only [sZ,sS]
  refine wpAnyH_done (by kernel_rfl) ?_ _
  go_wp2_with fail
  go_end0
  exact ⟨rfl,Ma,_,HIA.out.1,HIA.out.2,H3.subZ (List.sublist_cons_self _ _)⟩
 ·skip
  go_upto_region 6 with fail
  have H2d:=H2.out.below (Below.refl _ _).drew
  clear b0 bl
  refine startD (S:=(fun w'=>BoxW B [.int .i64 xk,.int .i64 xu,.int .i64 xa,.int .i64 xc.k,.slice da xc.d.length dc,.slice ka ks.length kc,.slice pa sp.length pc] 32 w'∧BoxW N [ptrV log,ptrV copy,ptrV s,ptrV b,ptrV u,ptrV d] 47 w')) (by kernel_rfl) ⟨H2d.side.box 0 rfl,H2d.side.box 1 rfl⟩ (fun hH0=>?_)
  simp only [List.length_cons,List.length_nil,Nat.reduceAdd,List.replicate_succ,List.replicate_zero]
  refine tD 0 24 (.pointer (some ⟨N,0,none⟩)) rfl rfl [(0,.pointer (some ⟨N,0,none⟩))] hH0 ?_
  dsimp only [sZ,sS]
  refine tE 1 25 (.pointer (some ⟨N,0,none⟩)) rfl rfl [(24,.pointer (some ⟨N,0,none⟩))] hH0 ?_ ?_
  ·intro w hSw;have rl:=hSw.2.lt;go_simp
  dsimp only [sZ,sS]
  refine tD 2 26 (.pointer (some ⟨N,0,none⟩)) rfl rfl [(25,.pointer (some ⟨N,0,none⟩))] hH0 ?_
  dsimp only [sZ,sS]
  refine tE 3 27 (ptrV log) rfl rfl [(26,.pointer (some ⟨N,0,none⟩))] hH0 ?_ ?_
  ·intro w hSw;have r0:=hSw.2.box.1 0 _ rfl;have rl:=hSw.2.lt;go_simp
  dsimp only [sZ,sS]
  refine tD 4 28 (.pointer (some ⟨B,2,none⟩)) rfl rfl [(3,.pointer (some ⟨B,0,none⟩))] hH0 ?_
  dsimp only [sZ,sS]
  refine tE 5 29 (.int .i64 xa) rfl rfl [(28,.pointer (some ⟨B,2,none⟩))] hH0 ?_ ?_
  ·intro w hSw;have q2:=hSw.1.box.1 2 _ rfl;have ql:=hSw.1.lt;go_simp
  dsimp only [sZ,sS]
  refine rD 6 rfl (fun K hK=>?_)
  go_simp
  have ha:=two_fill xa _ HP.out H2d HOK.out
  rw [HEF.out] at ha
  refine ha.mono ?_
  rintro en w5 ⟨rfl,H3⟩
  clear ha
  refine hK.out _ _ ?_ (fun hH1=>?_)
  ·exact ⟨H3.side.box 0 rfl,H3.side.box 1 rfl⟩
  clear hK K
  refine wpAnyH_done (by kernel_rfl) ?_ _
  go_wp2_with fail
  go_end0
  exact ⟨rfl,Mf,_,HIF.out.1,HIF.out.2,H3.subZ (List.sublist_cons_self _ _)⟩
 ·skip
  go_upto_region 9 with fail
  have H2d:=H2.out.below (Below.refl _ _).drew
  clear b0 bl
  refine startD (S:=(fun w'=>BoxW B [.int .i64 xk,.int .i64 xu,.int .i64 xa,.int .i64 xc.k,.slice da xc.d.length dc,.slice ka ks.length kc,.slice pa sp.length pc] 32 w'∧BoxW N [ptrV log,ptrV copy,ptrV s,ptrV b,ptrV u,ptrV d] 47 w')) (by kernel_rfl) ⟨H2d.side.box 0 rfl,H2d.side.box 1 rfl⟩ (fun hH0=>?_)
  simp only [List.length_cons,List.length_nil,Nat.reduceAdd,List.replicate_succ,List.replicate_zero]
  refine tD 0 34 (.pointer (some ⟨N,0,none⟩)) rfl rfl [(0,.pointer (some ⟨N,0,none⟩))] hH0 ?_
  dsimp only [sZ,sS]
  refine tE 1 35 (.pointer (some ⟨N,0,none⟩)) rfl rfl [(34,.pointer (some ⟨N,0,none⟩))] hH0 ?_ ?_
  ·intro w hSw;have rl:=hSw.2.lt;go_simp
  dsimp only [sZ,sS]
  refine tD 2 36 (.pointer (some ⟨N,0,none⟩)) rfl rfl [(35,.pointer (some ⟨N,0,none⟩))] hH0 ?_
  dsimp only [sZ,sS]
  refine tE 3 37 (ptrV log) rfl rfl [(36,.pointer (some ⟨N,0,none⟩))] hH0 ?_ ?_
  ·intro w hSw;have r0:=hSw.2.box.1 0 _ rfl;have rl:=hSw.2.lt;go_simp
  dsimp only [sZ,sS]
  refine tD 4 38 (.pointer (some ⟨B,2,none⟩)) rfl rfl [(3,.pointer (some ⟨B,0,none⟩))] hH0 ?_
  dsimp only [sZ,sS]
  refine tE 5 39 (.int .i64 xa) rfl rfl [(38,.pointer (some ⟨B,2,none⟩))] hH0 ?_ ?_
  ·intro w hSw;have q2:=hSw.1.box.1 2 _ rfl;have ql:=hSw.1.lt;go_simp
  dsimp only [sZ,sS]
  refine tD 6 40 (.pointer (some ⟨B,3,none⟩)) rfl rfl [(3,.pointer (some ⟨B,0,none⟩))] hH0 ?_
  dsimp only [sZ,sS]
  refine tE 7 41 (.agg #[.int .i64 xc.k,.slice da xc.d.length dc]) rfl rfl [(40,.pointer (some ⟨B,3,none⟩))] hH0 ?_ ?_
  ·intro w hSw;have q3:=hSw.1.box.1 3 _ rfl;have q4:=hSw.1.box.1 4 _ rfl;have ql:=hSw.1.lt;go_simp
  dsimp only [sZ,sS]
  refine rD 8 rfl (fun K hK=>?_)
  go_simp
  have ha:=two_put xa xc da dc _ HP.out H2d HOK.out (fun w' h'=>SlV.below HD.out (Nat.le_refl _) h'.toBelow)
  rw [HEP.out] at ha
  refine ha.mono ?_
  rintro en w5 ⟨rfl,H3⟩
  clear ha
  refine hK.out _ _ ?_ (fun hH1=>?_)
  ·exact ⟨H3.side.box 0 rfl,H3.side.box 1 rfl⟩
  clear hK K
  refine wpAnyH_done (by kernel_rfl) ?_ _
  go_wp2_with fail
  go_end0
  exact ⟨rfl,Mp,_,HIP.out.1,HIP.out.2,H3.subZ (List.sublist_cons_self _ _)⟩
 ·skip
  go_upto_region 9 with fail
  have H2d:=H2.out.below (Below.refl _ _).drew
  clear b0 bl
  refine startD (S:=(fun w'=>BoxW B [.int .i64 xk,.int .i64 xu,.int .i64 xa,.int .i64 xc.k,.slice da xc.d.length dc,.slice ka ks.length kc,.slice pa sp.length pc] 32 w'∧BoxW N [ptrV log,ptrV copy,ptrV s,ptrV b,ptrV u,ptrV d] 47 w')) (by kernel_rfl) ⟨H2d.side.box 0 rfl,H2d.side.box 1 rfl⟩ (fun hH0=>?_)
  simp only [List.length_cons,List.length_nil,Nat.reduceAdd,List.replicate_succ,List.replicate_zero]
  refine tD 0 34 (.pointer (some ⟨N,0,none⟩)) rfl rfl [(0,.pointer (some ⟨N,0,none⟩))] hH0 ?_
  dsimp only [sZ,sS]
  refine tE 1 35 (.pointer (some ⟨N,0,none⟩)) rfl rfl [(34,.pointer (some ⟨N,0,none⟩))] hH0 ?_ ?_
  ·intro w hSw;have rl:=hSw.2.lt;go_simp
  dsimp only [sZ,sS]
  refine tD 2 36 (.pointer (some ⟨N,0,none⟩)) rfl rfl [(35,.pointer (some ⟨N,0,none⟩))] hH0 ?_
  dsimp only [sZ,sS]
  refine tE 3 37 (ptrV log) rfl rfl [(36,.pointer (some ⟨N,0,none⟩))] hH0 ?_ ?_
  ·intro w hSw;have r0:=hSw.2.box.1 0 _ rfl;have rl:=hSw.2.lt;go_simp
  dsimp only [sZ,sS]
  refine tD 4 38 (.pointer (some ⟨B,2,none⟩)) rfl rfl [(3,.pointer (some ⟨B,0,none⟩))] hH0 ?_
  dsimp only [sZ,sS]
  refine tE 5 39 (.int .i64 xa) rfl rfl [(38,.pointer (some ⟨B,2,none⟩))] hH0 ?_ ?_
  ·intro w hSw;have q2:=hSw.1.box.1 2 _ rfl;have ql:=hSw.1.lt;go_simp
  dsimp only [sZ,sS]
  refine tD 6 40 (.pointer (some ⟨B,3,none⟩)) rfl rfl [(3,.pointer (some ⟨B,0,none⟩))] hH0 ?_
  dsimp only [sZ,sS]
  refine tE 7 41 (.agg #[.int .i64 xc.k,.slice da xc.d.length dc]) rfl rfl [(40,.pointer (some ⟨B,3,none⟩))] hH0 ?_ ?_
  ·intro w hSw;have q3:=hSw.1.box.1 3 _ rfl;have q4:=hSw.1.box.1 4 _ rfl;have ql:=hSw.1.lt;go_simp
  dsimp only [sZ,sS]
  refine rD 8 rfl (fun K hK=>?_)
  go_simp
  have ha:=two_put xa xc da dc _ HP.out H2d HOK.out (fun w' h'=>SlV.below HD.out (Nat.le_refl _) h'.toBelow)
  rw [HEP.out] at ha
  refine ha.mono ?_
  rintro en w5 ⟨rfl,H3⟩
  clear ha
  refine hK.out _ _ ?_ (fun hH1=>?_)
  ·exact ⟨H3.side.box 0 rfl,H3.side.box 1 rfl⟩
  clear hK K
  refine wpAnyH_done (by kernel_rfl) ?_ _
  go_wp2_with fail
  go_end0
  exact ⟨rfl,Mp,_,HIP.out.1,HIP.out.2,H3.subZ (List.sublist_cons_self _ _)⟩
 ·skip
  go_upto_region 11 with fail
  have H2d:=H2.out.below (Below.refl _ _).drew
  clear b0 bl
  refine startD (S:=(fun w'=>BoxW B [.int .i64 xk,.int .i64 xu,.int .i64 xa,.int .i64 xc.k,.slice da xc.d.length dc,.slice ka ks.length kc,.slice pa sp.length pc] 32 w'∧BoxW N [ptrV log,ptrV copy,ptrV s,ptrV b,ptrV u,ptrV d] 47 w')) (by kernel_rfl) ⟨H2d.side.box 0 rfl,H2d.side.box 1 rfl⟩ (fun hH0=>?_)
  simp only [List.length_cons,List.length_nil,Nat.reduceAdd,List.replicate_succ,List.replicate_zero]
  refine tD 0 45 (.pointer (some ⟨N,0,none⟩)) rfl rfl [(0,.pointer (some ⟨N,0,none⟩))] hH0 ?_
  dsimp only [sZ,sS]
  refine tE 1 46 (.pointer (some ⟨N,0,none⟩)) rfl rfl [(45,.pointer (some ⟨N,0,none⟩))] hH0 ?_ ?_
  ·intro w hSw;have rl:=hSw.2.lt;go_simp
  dsimp only [sZ,sS]
  refine tD 2 47 (.pointer (some ⟨N,0,none⟩)) rfl rfl [(46,.pointer (some ⟨N,0,none⟩))] hH0 ?_
  dsimp only [sZ,sS]
  refine tE 3 48 (ptrV log) rfl rfl [(47,.pointer (some ⟨N,0,none⟩))] hH0 ?_ ?_
  ·intro w hSw;have r0:=hSw.2.box.1 0 _ rfl;have rl:=hSw.2.lt;go_simp
  dsimp only [sZ,sS]
  refine tD 4 49 (.pointer (some ⟨B,2,none⟩)) rfl rfl [(3,.pointer (some ⟨B,0,none⟩))] hH0 ?_
  dsimp only [sZ,sS]
  refine tE 5 50 (.int .i64 xa) rfl rfl [(49,.pointer (some ⟨B,2,none⟩))] hH0 ?_ ?_
  ·intro w hSw;have q2:=hSw.1.box.1 2 _ rfl;have ql:=hSw.1.lt;go_simp
  dsimp only [sZ,sS]
  refine rD 6 rfl (fun K hK=>?_)
  go_simp
  have ha:=two_trim xa _ HP.out H2d HOK.out
  rw [HET.out] at ha
  refine ha.mono ?_
  rintro en w5 ⟨rfl,H3⟩
  clear ha
  refine hK.out _ _ ?_ (fun hH1=>?_)
  ·exact ⟨H3.side.box 0 rfl,H3.side.box 1 rfl⟩
  clear hK K
  refine wpAnyH_done (by kernel_rfl) ?_ _
  go_wp2_with fail
  go_end0
  exact ⟨rfl,Mt,_,HIT.out.1,HIT.out.2,H3.subZ (List.sublist_cons_self _ _)⟩
 ·skip
  clear b0 bl
  go_end0
  exact ⟨rfl,Ml,ml,HNO.out.1,HNO.out.2,H2.out.subZ (List.sublist_cons_self _ _)⟩
end SL
end Go.Proofs.YtaodldbgikiekaaGreatDoor

namespace Go.Proofs.YtaodldbgikiekaaGreatDoor
namespace SL
open DK SH SQ
theorem chkCs_zero:∀ {Y:List C},(∀ x∈Y,x.check=0)→chkCs Y=0
 | [],_=>rfl
 | y::Y,h=>by
  show (if _ then _ else _)=0
  rw [if_neg (by rw [h y List.mem_cons_self];decide)]
  exact chkCs_zero (fun x hx=>h x (List.mem_cons_of_mem _ hx))
/-- cells that are read one after another, and are there: no more than there are -/
theorem data_count {u:U} (hok:u.ok):∀ (Y:List C) (f:Int),(∀ (j:Nat) (hj:j<Y.length),Y[j]=u.at (f+j)∧(Y[j]).k≠0)→dataN Y≤(u.cells.filter (fun p=>decide (f≤p.1))).length
 | [],f,_=>Nat.zero_le _
 | y::Y,f,h=>by
  have h0:=h 0 (by simp)
  simp only [List.getElem_cons_zero,Int.natCast_zero,Int.add_zero] at h0
  have ih:=data_count hok Y (f+1) (fun j hj=>by
   have:=h (j+1) (by simp only [List.length_cons];omega)
   simp only [List.getElem_cons_succ] at this
   rw [show f+1+(j:Int)=f+((j+1:Nat):Int) by omega]
   exact this)
  rw [dataN_cons]
  by_cases h3:y.k=3
  ·rw [if_pos h3]
   have:(u.cells.filter (fun p=>decide (f+1≤p.1))).length≤(u.cells.filter (fun p=>decide (f≤p.1))).length:=by
    rw [←List.countP_eq_length_filter,←List.countP_eq_length_filter]
    exact List.countP_mono_left (fun p _ hp=>by simp at hp ⊢;omega)
   omega
  ·rw [if_neg h3]
   have hm:=(at_some hok (a:=f) (by rw [←h0.1];exact h3) (by rw [←h0.1];exact h0.2)).2.2
   have:(u.cells.filter (fun p=>decide (f+1≤p.1))).length<(u.cells.filter (fun p=>decide (f≤p.1))).length:=by
    rw [←List.countP_eq_length_filter,←List.countP_eq_length_filter]
    have key:∀ (L:List (Int×C)),(f,u.at f)∈L→List.countP (fun p=>decide (f+1≤p.1)) L<List.countP (fun p=>decide (f≤p.1)) L:=by
     intro L
     induction L with
     | nil=>intro h;cases h
     | cons p L ihl =>
      intro hp
      rw [List.countP_cons,List.countP_cons]
      have hle:List.countP (fun p=>decide (f+1≤p.1)) L≤List.countP (fun p=>decide (f≤p.1)) L:=List.countP_mono_left (fun p _ hp=>by simp at hp ⊢;omega)
      rcases List.mem_cons.1 hp with hp | hp
      ·rw [←hp]
       simp only [show decide (f+1≤f)=false by simp;omega,show decide (f≤f)=true by simp]
       simp
       omega
      ·have:=ihl hp
       by_cases hq:f+1≤p.1
       ·rw [if_pos (by simpa using hq),if_pos (by simp;omega)];omega
       ·rw [if_neg (by simpa using hq)];omega
    exact key _ hm
   omega
/-- a message under way -/
structure Msg (G:Int→C) (ml:Go.Proofs.YtaodldbgikiekaaGreatDoor.M) (most:Int) (l:Nat) (t f:Int) (Y:List C):Prop where
 chk:pclC 1 t f Y=0
 fm:f≤most
 e:f+Y.length≤ml.t
 c:∀ (j:Nat) (hj:j<Y.length),(Y[j]).k≠0∧(ml.u.at (f+j)).k≠0∧((Y[j]).k=3→(ml.u.at (f+j)).k=3)∧((Y[j]).k≠3→Y[j]=G (f+j))
 n:dataN Y≤l
/-- a mirror on the way: l writes of the log, s messages made, d delivered -/
structure MirP (G:Int→C) (ml mc:Go.Proofs.YtaodldbgikiekaaGreatDoor.M) (l s d:Nat) (Ml Mc:Cl) (ack app most:Int) (U D:List (List UInt8)):Prop where
 log:Is 16777216 (1+l) Ml ml
 copy:Is 16777216 (1+d*(l+2)) Mc mc
 cells:ml.u.cells.length≤l
 g:∀ a,0≤a→(ml.u.at a).k=0∨(ml.u.at a).k=3∨ml.u.at a=G a
 c:∀ a,0≤a→(mc.u.at a).k=0∨(mc.u.at a).k=3∨mc.u.at a=G a
 far:∀ a,most≤a→(mc.u.at a).k=0
 near:∀ a,0≤a→a<most→(ml.u.at a).k≠0∧(mc.u.at a).k≠0
 ak:0≤ack∧ack≤most
 ap:0≤app∧app≤most
 mt:most≤ml.t
 up:∀ b∈U,∃ t f Y,b=pclB 1 t f Y∧Msg G ml most l t f Y
 un:U.length+d≤s
 down:∀ b∈D,∃ q,b=rcB 1 q∧0≤q∧q≤most
theorem MirP.grow {G:Int→C} {ml mc ml':Go.Proofs.YtaodldbgikiekaaGreatDoor.M} {l s d:Nat} {Ml Mc Ml':Cl} {ack app most:Int} {U D:List (List UInt8)} (h:MirP G ml mc l s d Ml Mc ack app most U D) (hI:Is 16777216 (1+l+1) Ml' ml') (hg:Grow ml ml') :
  ∃ G',MirP G' ml' mc (l+1) s d Ml' Mc ack app most U D:=by
 refine ⟨fun a=>if (ml.u.at a).k=0 then ml'.u.at a else G a,⟨hI,h.copy.mono ?_,by have:=hg.n;have:=h.cells;omega,fun a ha=>?_,fun a ha=>?_,h.far,fun a h0 h1=>?_,h.ak,h.ap,by have:=h.mt;have:=hg.t;omega,fun b hb=>?_,h.un,h.down⟩⟩
 ·have:d*(l+2)≤d*(l+1+2):=Nat.mul_le_mul_left d (by omega)
  omega
 ·try simp only
  by_cases h0:(ml.u.at a).k=0
  ·rw [if_pos h0];exact .inr (.inr rfl)
  ·rw [if_neg h0]
   rcases hg.keep a h0 with hk | hk
   ·rw [hk];exact h.g a ha
   ·exact .inr (.inl hk)
 ·try simp only
  rcases h.c a ha with hc | hc | hc
  ·exact .inl hc
  ·exact .inr (.inl hc)
  ·by_cases hk:(mc.u.at a).k=0
   ·exact .inl hk
   ·have hm:a<most:=Int.not_le.1 (fun hle=>hk (h.far a hle))
    rw [if_neg (h.near a ha hm).1]
    exact .inr (.inr hc)
 ·have hn:=h.near a h0 h1
  refine ⟨?_,hn.2⟩
  rcases hg.keep a hn.1 with hk | hk
  ·rw [hk];exact hn.1
  ·rw [hk];decide
 ·obtain ⟨t,f,Y,hB,hm⟩:=h.up b hb
  refine ⟨t,f,Y,hB,hm.chk,hm.fm,by have:=hm.e;have:=hg.t;omega,fun j hj=>?_,by have:=hm.n;omega⟩
  obtain ⟨c1,c2,c3,c4⟩:=hm.c j hj
  refine ⟨c1,?_,fun h3=>hg.three _ (c3 h3),fun h3=>?_⟩
  ·rcases hg.keep _ c2 with hk | hk
   ·rw [hk];exact c2
   ·rw [hk];decide
  ·try simp only
   rw [if_neg c2]
   exact c4 h3
theorem MirP.next {G:Int→C} {ml mc:Go.Proofs.YtaodldbgikiekaaGreatDoor.M} {l s d:Nat} {Ml Mc:Cl} {ack app most:Int} {U D:List (List UInt8)} (h:MirP G ml mc l s d Ml Mc ack app most U D):∃ t Y,nextS Ml ack=(0,t,Y)∧Msg G ml most l t ack Y:=by
 obtain ⟨Y,e,h1,h2,h3⟩:=h.log.next (f:=ack) h.ak.1 (by have:=h.ak;have:=h.mt;omega)
 have hok:=h.log.ok
 have hm:=h.mt
 have ha:=h.ak
 have ht:=hok.t1
 have hl:=hok.lt
 refine ⟨_,Y,e,?_,ha.2,h2,fun j hj=>?_,?_⟩
 ·unfold pclC
  rw [if_neg]
  ·unfold segC
   rw [if_neg (by omega),if_neg (by omega),if_neg (by omega)]
   refine chkCs_zero (fun x hx=>?_)
   obtain ⟨j,hj,rfl⟩:=List.mem_iff_getElem.1 hx
   rw [(h3 j hj).1]
   exact at_check hok.u _
  ·rw [inB_iff.2 ⟨hok.u.l0,by omega⟩]
   simp
   decide
 ·obtain ⟨e1,e2⟩:=h3 j hj
  rw [e1] at e2 ⊢
  refine ⟨e2,e2,fun h=>h,fun h4=>?_⟩
  rcases h.g (ack+j) (by omega) with hg | hg | hg
  ·exact absurd hg e2
  ·exact absurd hg h4
  ·exact hg
 ·have h4:=data_count hok.u Y ack h3
  have h5:=List.length_filter_le (fun p:Int×C=>decide (ack≤p.1)) ml.u.cells
  have h6:=h.cells
  omega
theorem sendS_mem {D:List (List UInt8)} {d b:List UInt8} (h:b∈(sendS D d).2):b∈D∨b=d:=by
 unfold sendS at h
 split at h
 ·exact .inl h
 ·split at h
  ·exact .inl h
  ·rcases List.mem_append.1 h with h | h
   ·exact .inl h
   ·exact .inr (List.mem_singleton.1 h)
theorem sendS_len (D:List (List UInt8)) (d:List UInt8):(sendS D d).2.length≤D.length+1:=by
 unfold sendS
 split
 ·exact Nat.le_succ _
 ·split
  ·exact Nat.le_succ _
  ·simp
theorem MirP.sent {G:Int→C} {ml mc:Go.Proofs.YtaodldbgikiekaaGreatDoor.M} {l s d:Nat} {Ml Mc:Cl} {ack app most t f:Int} {Y:List C} {U D:List (List UInt8)} (h:MirP G ml mc l s d Ml Mc ack app most U D) (hm:Msg G ml most l t f Y):MirP G ml mc l (s+1) d Ml Mc ack app most (sendS U (pclB 1 t f Y)).2 D :=
 ⟨h.log,h.copy,h.cells,h.g,h.c,h.far,h.near,h.ak,h.ap,h.mt,fun b hb=>by
  rcases sendS_mem hb with hb | rfl
  ·exact h.up b hb
  ·exact ⟨t,f,Y,rfl,hm⟩,by have:=sendS_len U (pclB 1 t f Y);have:=h.un;omega,h.down⟩
theorem MirP.ups {G:Int→C} {ml mc:Go.Proofs.YtaodldbgikiekaaGreatDoor.M} {l s d k:Nat} {Ml Mc:Cl} {ack app most:Int} {U U' D:List (List UInt8)} (h:MirP G ml mc l s d Ml Mc ack app most U D) (hm:∀ b∈U',b∈U) (hl:U'.length≤U.length+k):MirP G ml mc l (s+k) d Ml Mc ack app most U' D :=
 ⟨h.log,h.copy,h.cells,h.g,h.c,h.far,h.near,h.ak,h.ap,h.mt,fun b hb=>h.up b (hm b hb),by have:=h.un;omega,h.down⟩
theorem MirP.downs {G:Int→C} {ml mc:Go.Proofs.YtaodldbgikiekaaGreatDoor.M} {l s d:Nat} {Ml Mc:Cl} {ack app most:Int} {U D D':List (List UInt8)} (h:MirP G ml mc l s d Ml Mc ack app most U D) (hm:∀ b∈D',b∈D∨∃ q,b=rcB 1 q∧0≤q∧q≤most):MirP G ml mc l s d Ml Mc ack app most U D' :=
 ⟨h.log,h.copy,h.cells,h.g,h.c,h.far,h.near,h.ak,h.ap,h.mt,h.up,h.un,fun b hb=>(hm b hb).elim (h.down b) id⟩
theorem MirP.anew {G:Int→C} {ml mc:Go.Proofs.YtaodldbgikiekaaGreatDoor.M} {l s d:Nat} {Ml Mc:Cl} {ack app app' most:Int} {U D:List (List UInt8)} (h:MirP G ml mc l s d Ml Mc ack app most U D) (ha:0≤app'∧app'≤app):MirP G ml mc l s d Ml Mc ack app' most U D :=
 ⟨h.log,h.copy,h.cells,h.g,h.c,h.far,h.near,h.ak,⟨ha.1,by have:=h.ap;omega⟩,h.mt,h.up,h.un,h.down⟩
theorem MirP.hear {G:Int→C} {ml mc:Go.Proofs.YtaodldbgikiekaaGreatDoor.M} {l s d:Nat} {Ml Mc:Cl} {ack app most q:Int} {U D:List (List UInt8)} (h:MirP G ml mc l s d Ml Mc ack app most U D) (hq:0≤q∧q≤most):∃ ack',takeSp ⟨1,ack⟩ 1 q=(0,⟨1,ack'⟩)∧MirP G ml mc l s d Ml Mc ack' app most U D:=by
 have hm:=h.mt
 have ht:=h.log.ok.t1
 unfold takeSp
 rw [if_neg (by rw [inB_iff.2 ⟨hq.1,by omega⟩];decide),if_neg (by simp)]
 simp only
 by_cases hqa:q≤ack
 ·rw [if_pos hqa]
  exact ⟨ack,rfl,h⟩
 ·rw [if_neg hqa]
  exact ⟨q,rfl,h.log,h.copy,h.cells,h.g,h.c,h.far,h.near,hq,h.ap,h.mt,h.up,h.un,h.down⟩
theorem MirP.agree {G:Int→C} {ml mc:Go.Proofs.YtaodldbgikiekaaGreatDoor.M} {l s d:Nat} {Ml Mc:Cl} {ack app most:Int} {U D:List (List UInt8)} (h:MirP G ml mc l s d Ml Mc ack app most U D) {a:Int} (h0:0≤a) (h1:a<most):ml.u.at a=mc.u.at a∨(ml.u.at a).k=3∨(mc.u.at a).k=3:=by
 obtain ⟨n1,n2⟩:=h.near a h0 h1
 rcases h.g a h0 with hg | hg | hg
 ·exact absurd hg n1
 ·exact .inr (.inl hg)
 ·rcases h.c a h0 with hc | hc | hc
  ·exact absurd hc n2
  ·exact .inr (.inr hc)
  ·exact .inl (hg.trans hc.symm)
theorem bound60 {l s d n:Nat} (h:l+s+d≤n) (hn:n<60) (hs:1+d≤s):1+(d+1)*(l+2)≤481:=by
 have h1:d+1<31:=by omega
 have h2:l+2≤62 - 2*(d+1):=by omega
 have h3:(d+1)*(l+2)≤(d+1)*(62 - 2*(d+1)):=Nat.mul_le_mul_left _ h2
 have h4:∀ x:Nat,x<31→x*(62 - 2*x)≤480:=by decide
 have:=h4 (d+1) h1
 omega
theorem map_ce (Y:List C):(Y.map fun y=>(⟨y,none,0⟩:CE)).map (·.c)=Y:=by
 induction Y with
 | nil=>rfl
 | cons y Y ih=>rw [List.map_cons,List.map_cons,ih]
theorem MirP.take {G:Int→C} {ml mc:Go.Proofs.YtaodldbgikiekaaGreatDoor.M} {l s d n:Nat} {Ml Mc:Cl} {ack app most:Int} {U D:List (List UInt8)} (h:MirP G ml mc l s d Ml Mc ack app most U D) (hn:l+s+d≤n) (hn60:n<60) (i:Nat) (hi:i<U.length) :
  ∃ t f Y Mc' app' mc',U[i]=pclB 1 t f Y∧pclC 1 t f Y=0∧(∀ X:List CE,X.map (·.c)=Y→takeA Mc ⟨1,app⟩ 1 t f X=(0,Mc',⟨1,app'⟩))∧MirP G ml mc' l s (d+1) Ml Mc' ack app' (max most app') (U.eraseIdx i) D:=by
 obtain ⟨t,f,Y,hB,hm⟩:=h.up _ (List.getElem_mem hi)
 have hun:=h.un
 have hb:=bound60 hn hn60 (by omega)
 have hd:(d+1)*(l+2)=d*(l+2)+(l+2):=by rw [Nat.add_mul,Nat.one_mul]
 have hmn:=hm.n
 have hf0:=(pcl_ok hm.chk).f.1
 have ht0:=(pcl_ok hm.chk).t
 have hmo:=h.mt
 have htt:=h.log.ok.t1
 have happ:=h.ap
 have hme:=hm.e
 have hY0:∀ y∈Y,y.k≠0:=fun y hy=>by
  obtain ⟨j,hj,rfl⟩:=List.mem_iff_getElem.1 hy
  exact (hm.c j hj).1
 have hck:∀ (j:Nat) (hj:j<Y.length),(Y[j]).check=0:=fun j hj=>((pcl_ok hm.chk).c _ (List.getElem_mem hj)).check
 obtain ⟨N,hN⟩:∃ N,N=Y.drop (app - f).toNat:=⟨_,rfl⟩
 have hNj:f≤app→∀ (j:Nat) (hj:j<N.length),∃ hk:(app - f).toNat+j<Y.length,N[j]=Y[(app - f).toNat+j]∧f+(((app - f).toNat+j:Nat):Int)=app+j:=fun hfa j hj=>by
  subst hN
  rw [List.length_drop] at hj
  exact ⟨by omega,by rw [List.getElem_drop],by omega⟩
 have hNl:f≤app→app+N.length≤ml.t:=fun hfa=>by
  rw [hN,List.length_drop]
  omega
 have hfit:f≤app→Fits (mc.mark (lowL app N)) app N:=fun hfa j hj=>by
  obtain ⟨hk,e1,e2⟩:=hNj hfa j hj
  obtain ⟨c1,c2,c3,c4⟩:=hm.c _ hk
  rw [e1]
  refine ⟨hck _ hk,c1,?_⟩
  rw [at_mark h.copy.ok]
  split
  ·exact .inr (.inl rfl)
  ·rcases h.c (app+j) (by omega) with hc | hc | hc
   ·exact .inl hc
   ·exact .inr (.inl hc)
   ·by_cases h3:(Y[(app - f).toNat+j]).k=3
    ·exact .inr (.inr (.inl h3))
    ·right;right;right
     rw [hc,c4 h3,e2]
 have hex:∃ Mc',(∀ X:List CE,X.map (·.c)=Y→takeA Mc ⟨1,app⟩ 1 t f X=(0,Mc',⟨1,(takeM mc app t f Y).2⟩))∧Is 16777216 (1+d*(l+2)+dataN Y+2) Mc' (takeM mc app t f Y).1:=by
  have hgo:=fun (X:List CE) (hX:X.map (·.c)=Y)=>h.copy.take hX hm.chk hY0 ⟨happ.1,by omega⟩ (by omega) (by omega) (fun hfa=>by rw [←hN];exact hfit hfa)
  obtain ⟨Mc',e,i2⟩:=hgo (Y.map fun y=>⟨y,none,0⟩) (map_ce Y)
  refine ⟨Mc',fun X hX=>?_,i2⟩
  obtain ⟨M2,e2,_⟩:=hgo X hX
  have e3:takeA Mc ⟨1,app⟩ 1 t f X=takeA Mc ⟨1,app⟩ 1 t f (Y.map fun y=>(⟨y,none,0⟩:CE)):=by
   by_cases hfa:f≤app
   ·have n1:(newsS f X app).map (·.c)=Y.drop (app - f).toNat:=by
     rw [news_full (fun x hx=>hY0 x.c (by rw [←hX];exact List.mem_map_of_mem hx)) hfa,hX]
    have n2:(newsS f (Y.map fun y=>(⟨y,none,0⟩:CE)) app).map (·.c)=Y.drop (app - f).toNat:=by
     rw [news_full (fun x hx=>by obtain ⟨y,hy,rfl⟩:=List.mem_map.1 hx;exact hY0 y hy) hfa,map_ce]
    unfold takeA
    simp only
    rw [n1,n2,hX,show (Y.map fun y=>(⟨y,none,0⟩:CE)).map (·.c)=Y from map_ce Y]
   ·unfold takeA
    simp only
    rw [hX,show (Y.map fun y=>(⟨y,none,0⟩:CE)).map (·.c)=Y from map_ce Y,if_pos (show app<f by omega),if_pos (show app<f by omega)]
  rw [e3];exact e
 obtain ⟨Mc',hT,i2⟩:=hex
 refine ⟨t,f,Y,Mc',(takeM mc app t f Y).2,(takeM mc app t f Y).1,hB,hm.chk,hT,?_⟩
 have hus:∀ b∈U.eraseIdx i,b∈U:=fun b hb=>List.mem_of_mem_eraseIdx hb
 have hul:(U.eraseIdx i).length+(d+1)≤s:=by rw [List.length_eraseIdx,if_pos hi];omega
 have hcp:Is 16777216 (1+(d+1)*(l+2)) Mc' (takeM mc app t f Y).1:=i2.mono (by omega)
 have hup:∀ q,most≤q→∀ b∈U.eraseIdx i,∃ t f Y,b=pclB 1 t f Y∧Msg G ml q l t f Y:=fun q hq b hb=>by
  obtain ⟨t,f,Y,e,m⟩:=h.up b (hus b hb)
  exact ⟨t,f,Y,e,m.chk,by have:=m.fm;omega,m.e,m.c,m.n⟩
 have hdn:∀ q,most≤q→∀ b∈D,∃ x,b=rcB 1 x∧0≤x∧x≤q:=fun q hq b hb=>by
  obtain ⟨x,e,x0,x1⟩:=h.down b hb
  exact ⟨x,e,x0,by omega⟩
 by_cases hfa:f≤app
 rotate_left
 ·have e:takeM mc app t f Y=(mc,app):=by unfold takeM;rw [if_pos (by omega)]
  rw [e] at hcp ⊢
  rw [show max most app=most by omega]
  exact ⟨h.log,hcp,h.cells,h.g,h.c,h.far,h.near,h.ak,h.ap,h.mt,hup most (Int.le_refl _),hul,h.down⟩
 have e:takeM mc app t f Y=((onesM N (mc.mark (lowL app N)) app).mark (min t (app+N.length)),app+N.length):=by
  unfold takeM
  rw [if_neg (by omega),←hN]
 rw [e] at hcp ⊢
 have hlr:=lowL_rng happ.1 N
 have hNt:=hNl hfa
 have hmk:(mc.mark (lowL app N)).ok:=M.mark_ok h.copy.ok ⟨hlr.1,by omega⟩
 obtain ⟨o1,o2⟩:=ones_at (m:=mc.mark (lowL app N)) N app hmk (hfit hfa) happ.1 (by omega)
 have hmax:max most (app+(N.length:Int))≤ml.t:=by omega
 simp only at hcp ⊢
 refine ⟨h.log,hcp,h.cells,h.g,fun a ha=>?_,fun a ha=>?_,fun a h0 h1=>?_,⟨h.ak.1,by have:=h.ak;omega⟩,⟨by omega,by omega⟩,hmax,hup _ (by omega),hul,hdn _ (by omega)⟩
 ·rw [at_mark o1]
  split
  ·exact .inr (.inl rfl)
  ·rw [o2 a]
   split
   ·rename_i hr
    split
    ·rename_i hc
     obtain ⟨hk,e1,e2⟩:=hNj hfa (a - app).toNat (by omega)
     have c4:=(hm.c _ hk).2.2.2
     rw [e2,show app+((a - app).toNat:Int)=a by omega] at c4
     right;right
     rw [e1]
     exact c4 (by rw [←e1];exact hc.1)
    ·rw [at_mark h.copy.ok]
     split
     ·exact .inr (.inl rfl)
     ·exact h.c a ha
   ·rw [at_mark h.copy.ok]
    split
    ·exact .inr (.inl rfl)
    ·exact h.c a ha
 ·rw [at_mark o1,if_neg (by omega),o2 a,dif_neg (by omega),at_mark h.copy.ok,if_neg (by omega)]
  exact h.far a (by omega)
 ·refine ⟨?_,?_⟩
  ·by_cases ham:a<most
   ·exact (h.near a h0 ham).1
   ·obtain ⟨hk,e1,e2⟩:=hNj hfa (a - app).toNat (by omega)
    have c2:=(hm.c _ hk).2.1
    rw [e2,show app+((a - app).toNat:Int)=a by omega] at c2
    exact c2
  ·rw [at_mark o1]
   split
   ·decide
   ·rw [o2 a]
    split
    ·rename_i hr
     obtain ⟨hk,e1,e2⟩:=hNj hfa (a - app).toNat (by omega)
     split
     ·rw [e1];exact (hm.c _ hk).1
     ·rename_i hc
      by_cases h3:(N[(a - app).toNat]'(by omega)).k=3
      ·have:=lowL_hit happ.1 (by omega:(a - app).toNat<N.length) h3
       rw [at_mark h.copy.ok,if_pos (by omega)]
       decide
      ·have hq:((mc.mark (lowL app N)).u.at a).k=3:=Decidable.not_not.1 (fun h4=>hc ⟨h3,h4⟩)
       rw [hq];decide
    ·rename_i hr
     rw [at_mark h.copy.ok]
     split
     ·decide
     ·exact (h.near a h0 (by omega)).2
end SL
end Go.Proofs.YtaodldbgikiekaaGreatDoor
