/- Proved here: a part of the proof (33 of 37). -/
import Derived.Test.YtimbeeiihbmofaaGreatDoorW30
import Derived.Test.YtimbeeiihbmofaaGreatDoorW32
import Derived.Test.YtimbeeiihbmofaaGreatDoorW28
import Derived.Test.YtimbeeiihbmofaaGreatDoorW35
import Derived.Deep.DeepCutAuto
import Derived.Deep.CutBlock
set_option linter.unusedSimpArgs false
set_option linter.unusedVariables false
set_option maxRecDepth 100000
namespace Go.Proofs.YtimbeeiihbmofaaGreatDoor
open Go.RowKit
/-- the cells below an address -/
def ofC (m:M):Nat→List (Int×C)
 | 0=>[]
 | n+1=>if m.u.l≤(n:Int)∧(m.u.at n).k≠0 then putC (ofC m n) n (m.u.at n) else ofC m n
def ofM (m:M) (n:Nat):M:=⟨⟨0,min m.u.l n,ofC m n⟩,min m.u.l n⟩
def ofE (m:M):M:=⟨⟨0,m.u.l,ofC m m.t.toNat⟩,m.t⟩
theorem ofC_low {m:M}:∀ {n:Nat},(n:Int)≤m.u.l→ofC m n=[]
 | 0,_=>rfl
 | n+1,h=>by
  unfold ofC
  rw [if_neg (by omega)]
  exact ofC_low (by omega)
theorem ofC_mem {m:M}:∀ {n:Nat},∀ p∈ofC m n,m.u.l≤p.1∧p.1<n∧p.2=m.u.at p.1∧(m.u.at p.1).k≠0
 | 0,p,h=>by simp [ofC] at h
 | n+1,p,h=>by
  unfold ofC at h
  split at h
  ·rename_i hc
   rcases mem_putC h with rfl | h
   ·exact ⟨hc.1,by show (n:Int)<((n+1:Nat):Int);omega,rfl,hc.2⟩
   ·obtain ⟨h1,h2,h3⟩:=ofC_mem p h
    exact ⟨h1,by omega,h3⟩
  ·obtain ⟨h1,h2,h3⟩:=ofC_mem p h
   exact ⟨h1,by omega,h3⟩
theorem ofC_nodup {m:M}:∀ {n:Nat},((ofC m n).map (·.1)).Nodup
 | 0=>List.nodup_nil
 | n+1=>by
  unfold ofC
  split
  ·exact putC_keys _ _ _ ofC_nodup
  ·exact ofC_nodup
theorem ofC_has {m:M} {a:Int}:∀ {n:Nat},m.u.l≤a→0≤a→a<n→(m.u.at a).k≠0→(a,m.u.at a)∈ofC m n
 | 0,_,h0,h,_=>by omega
 | n+1,hl,h0,h,hk=>by
  have hn:(ofC m n).any (·.1==(n:Int))=false:=by
   rw [List.any_eq_false];intro p hp;have:=(ofC_mem p hp).2.1;simp;omega
  have hp:∀ c,putC (ofC m n) n c=ofC m n++[((n:Int),c)]:=fun c=>by unfold putC;rw [if_neg (by rw [hn];decide)]
  unfold ofC
  by_cases e:a=n
  ·subst e
   rw [if_pos ⟨hl,hk⟩,hp]
   simp
  ·have ih:=ofC_has (n:=n) hl h0 (by omega) hk
   split
   ·rw [hp];exact List.mem_append_left _ ih
   ·exact ih
theorem at_zero {u:U} (h:u.ok) {a:Int} (hk:(u.at a).k=0):u.at a=⟨0,[]⟩:=by
 by_cases hl:a<u.l
 ·simp [U.at,hl] at hk
 ·have e:u.at a=lookC u.cells a:=by simp [U.at,hl]
  cases hn:u.cells.any (·.1==a) with
  | false=>rw [e,lookC_none hn]
  | true =>
   have hm:=lookC_mem hn
   rw [←e] at hm
   rcases (h.kind _ hm).1 with h1 | h1<;>simp at h1<;>omega
theorem at_past {m:M} (h:m.ok) {a:Int} (ha:m.t≤a):m.u.at a=⟨0,[]⟩:=by
 have hl:¬a<m.u.l:=by have:=h.lt;omega
 have hn:m.u.cells.any (·.1==a)=false:=by
  rw [List.any_eq_false];intro p hp;have:=h.below p hp;simp;omega
 rw [show m.u.at a=lookC m.u.cells a by simp [U.at,hl],lookC_none hn]
theorem ofE_at {m:M} (h:m.ok) (a:Int):(ofE m).u.at a=m.u.at a:=by
 have h0:=h.u.l0
 have ht:=h.lt
 by_cases hl:a<m.u.l
 ·simp [U.at,ofE,hl]
 ·have e:(ofE m).u.at a=lookC (ofC m m.t.toNat) a:=by simp [U.at,ofE,hl]
  rw [e]
  by_cases hk:(m.u.at a).k=0
  ·rw [at_zero h.u hk]
   refine lookC_none ?_
   rw [List.any_eq_false]
   intro p hp
   obtain ⟨_,_,_,h4⟩:=ofC_mem p hp
   simp only [beq_iff_eq]
   intro e;rw [e] at h4;exact h4 hk
  ·have hat:a<m.t:=by
    apply Classical.byContradiction;intro hc
    rw [at_past h (by omega)] at hk;exact hk rfl
   exact lookC_of_mem ofC_nodup (ofC_has (n:=m.t.toNat) (by omega) (by omega) (by omega) hk)
theorem at_right {u:U} (h:u.ok) {a:Int} (h3:(u.at a).k≠3) (h0:(u.at a).k≠0):((u.at a).k=1∨(u.at a).k=2∧(u.at a).d=[])∧(u.at a).d.length≤64:=h.kind _ (at_some h h3 h0).2.2
theorem at_not3 {u:U} (h:u.ok) {a:Int} (hl:u.l≤a):(u.at a).k≠3:=by
 have e:u.at a=lookC u.cells a:=by simp [U.at];omega
 cases hn:u.cells.any (·.1==a) with
 | false=>rw [e,lookC_none hn];decide
 | true =>
  have hm:=lookC_mem hn
  rw [←e] at hm
  rcases (h.kind _ hm).1 with h1 | h1<;>simp at h1<;>omega
theorem ofE_ok {m:M} (h:m.ok):(ofE m).ok:=by
 have h1:=h.lt;have h2:=h.t1;have h3:=h.u.l0
 refine ⟨⟨Int.le_refl _,by simp [ofE],h.u.l0,h.u.l1,fun p hp=>?_,fun p hp=>?_,ofC_nodup⟩,rfl,h.lt,h.t1,fun p hp=>?_⟩
 ·obtain ⟨q1,q2,_⟩:=ofC_mem p hp
  exact ⟨q1,by omega⟩
 ·obtain ⟨q1,q2,q3,q4⟩:=ofC_mem p hp
  rw [q3]
  exact at_right h.u (at_not3 h.u q1) q4
 ·obtain ⟨q1,q2,_⟩:=ofC_mem p hp
  show p.1<m.t
  omega
theorem ofM_ok {m:M} (h:m.ok) {n:Nat} (hn:(n:Int)≤m.u.l):(ofM m n).ok:=by
 have h1:=h.u.l1
 unfold ofM
 rw [ofC_low hn,Int.min_eq_right hn]
 exact ⟨⟨Int.le_refl _,by simp,by simp,by show (n:Int)≤_;omega,by simp,by simp,List.nodup_nil⟩,rfl,Int.le_refl _,by show (n:Int)≤_;omega,by simp⟩
theorem ofM_zero {m:M} (h:m.ok):ofM m 0=M.new:=by
 have h1:=h.u.l0
 unfold ofM M.new U.new
 rw [show min m.u.l ((0:Nat):Int)=0 by simp;omega]
 rfl
theorem ofM_trim {m:M} {n:Nat} (hn:(n:Int)<m.u.l):(ofM m n).trim' (n+1)=ofM m (n+1):=by
 unfold ofM M.trim'
 rw [ofC_low (n:=n) (by omega),ofC_low (n:=n+1) (by omega)]
 simp only [List.filter_nil]
 rw [show max (min m.u.l (n:Int)) ((n:Int)+1)=min m.u.l ((n+1:Nat):Int) by omega]
theorem ofM_none {m:M} {n:Nat} (hn:m.u.l≤(n:Int)) (hk:(m.u.at n).k=0):ofM m (n+1)=ofM m n:=by
 unfold ofM
 rw [show ofC m (n+1)=ofC m n by rw [ofC,if_neg (by rintro ⟨_,h⟩;exact h hk)],show min m.u.l ((n+1:Nat):Int)=min m.u.l (n:Int) by omega]
theorem ofM_put {m:M} {n:Nat} (hn:m.u.l≤(n:Int)) (hk:(m.u.at n).k≠0):ofM m (n+1)=⟨⟨0,min m.u.l n,putC (ofC m n) n (m.u.at n)⟩,min m.u.l n⟩:=by
 unfold ofM
 rw [show ofC m (n+1)=putC (ofC m n) n (m.u.at n) by rw [ofC,if_pos ⟨hn,hk⟩],show min m.u.l ((n+1:Nat):Int)=min m.u.l (n:Int) by omega]
theorem ofM_end {m:M} (h:m.ok):(⟨(ofM m m.t.toNat).u,m.t⟩:M)=ofE m:=by
 have h1:=h.lt;have h2:=h.u.l0
 unfold ofM ofE
 rw [show min m.u.l ((m.t.toNat:Nat):Int)=m.u.l by omega]
/-- a cell is put into the map -/
theorem F2.putR {vs:PoolL} {L:List (Int×Value)} {M:List (Int×C)} (h:F2 (CRel vs) L M) {a:Int} {v:Value} {c:C} (hv:CRel vs (a,v) (a,c)):F2 (CRel vs) (putE L a v) (putC M a c):=by
 have hany:=h.any (f:=fun p=>p.1==a) (g:=fun p=>p.1==a) (fun p q h=>by rw [h.1])
 unfold putE putC
 rw [hany]
 split
 ·refine h.map fun p q hpq=>?_
  rw [hpq.1]
  split
  ·exact hv
  ·exact hpq
 ·exact h.append (.one hv)
/-- a stored cell in the midst of what the map holds -/
theorem Sep.mdlPut {w0 w:World} {F Z:Nat→Prop} {bl bm:Nat} {u:U} {t:Int} {vs:PoolL} {L:List Asn} {e:Nat} {c:C} {a:Option Addr} {cap:Nat} (h:Sep w0 F (.row e 1 (.slice a c.d.length cap) c.d.length (byteVs c.d)::Asn.mdl bl bm ⟨u,t⟩ vs::Asn.pool Z vs::L) w) (x:Int) :
  ∃ L0,MapAt w bm L0∧∀ ob,MapAt (setBlk w bm ob) bm (putE L0 x (.agg #[.int .i64 c.k,.slice a c.d.length cap])) →
   ∃ Z' vs',Sep w0 F (Asn.mdl bl bm ⟨{ u with cells:=putC u.cells x c },t⟩ vs'::Asn.pool Z' vs'::L) (setBlk w bm ob):=by
 obtain ⟨q1,L0,q2,q3⟩:=h.at 1 rfl
 refine ⟨L0,q2,fun ob hm=>?_⟩
 obtain ⟨Z',h1⟩:=Sep.toPool (h.focus 2 rfl |>.focus 1 rfl)
 have hne:bl≠bm:=by
  intro e;obtain ⟨es,clock,r1,_⟩:=q2;rw [e,r1] at q1;simp at q1
 have h2:=(h1.focus 1 rfl).fr1 (B:=Asn.mdl bl bm ⟨{ u with cells:=putC u.cells x c },t⟩ ((.slice a c.d.length cap,c.d)::vs)) ((setBlk_fr w bm ob).mono (fun k hk=>.inr hk)) ⟨((setBlk_fr w bm ob).block _ ((Array.getElem?_eq_some_iff.1 q1).1) hne).trans q1,_,hm,F2.putR (q3.mono (fun _ _ _ _ ⟨r1,a,c,r2,r3⟩=>⟨r1,a,c,r2,List.mem_cons_of_mem _ r3⟩)) ⟨rfl,a,cap,rfl,List.mem_cons_self⟩⟩ (fun b hb=>.inr hb)
 exact ⟨Z',_,h2⟩
end Go.Proofs.YtimbeeiihbmofaaGreatDoor

namespace Go.Proofs.YtimbeeiihbmofaaGreatDoor
open Go.RowKit
theorem Sep.mdlTail {w0 w:World} {F:Nat→Prop} {bl bm:Nat} {m:M} {vs:PoolL} {L:List Asn} (h:Sep w0 F (Asn.mdl bl bm m vs::L) w) (t:Int):Sep w0 F (Asn.mdl bl bm ⟨m.u,t⟩ vs::L) (w.setCell ⟨bl,2,Option.none⟩ (.int .i64 t)):=by
 obtain ⟨q1,L0,q2,q3⟩:=h.at 0 rfl
 have hne:bl≠bm:=by
  intro e;obtain ⟨es,clock,r1,_⟩:=q2;rw [e,r1] at q1;simp at q1
 exact h.fr1 ((fr_set w bl 2 _).mono (fun k hk=>.inl hk)) ⟨heap_setCell_same w bl 2 _ _ _ q1,L0,q2.block (heap_setCell_other _ _ _ _ (fun h=>hne h.symm)),q3⟩ (fun b hb=>.inr hb)
namespace SL
open DK SH SQ
set_option maxHeartbeats 8000000 in
theorem mof_any {c:Nat} {M:Cl} {J:CJ} {L:List Asn} {W:World} (m:Go.Proofs.YtimbeeiihbmofaaGreatDoor.M) (w:World) (h:ClAt c M J L W w) (hok:M.ok) (hm:m.ok) (ht:M.tail=(0,m.t)) (hr:∀ a,M.read a=m.rd a) :
  Calls Tryz.prog 12 #[ptrV c] w fun en w'=>∃ bl bm Z vs,en=.returned (.tuple #[.pointer (some ⟨bl,0,none⟩),.nilIface])∧ClAt c M J (Asn.mdl bl bm (ofE m) vs::Asn.pool Z vs::L) W w':=by
 have HT:=Zh (ctail_any w h)
 have HOK:=Lib.hid' hok
 have HM:=Lib.hid' hm
 have HR:=Lib.hid' hr
 rw [ht] at HT
 have hl0:=hm.u.l0;have hlt:=hm.lt;have ht1:=hm.t1
 clear h hok hm ht hr
 go_enter Tryz.func12, Tryz.ntmps12
 go_wp2_with fail
 refine HT.out.mono ?_
 rintro en w1 ⟨rfl,h1⟩
 clear HT
 rw [errV_0]
 have H1:=Lib.hid' h1
 clear h1
 go_wp2_with fail
 refine (mnew_any w1).mono ?_
 rintro en w2 ⟨rfl,hb,hs,hL⟩
 obtain ⟨Z,vs,h2⟩:=H1.out.mdlNew hb (by omega) (Nat.le_refl _) (hL _ (.inr (.inr rfl)) (.inr (.inl rfl)))
 rw [←ofM_zero HM.out] at h2
 have H2:=Lib.hid' h2
 clear h2 hb hs hL H1
 generalize w1.heap.size+1=bl at *
 generalize w1.heap.size=bm at *
 go_wp2_with fail
 go_loopw [20] (fun v20 wr=>∃ (n:Nat) (Z:Nat→Prop) (vs:PoolL),v20=.int .i64 n∧n≤m.t.toNat∧Hid (ClAt c M J (Asn.mdl bl bm (ofM m n) vs::Asn.pool Z vs::L) W wr)) (fun v20 _=>m.t.toNat - (intOf v20).toNat)
 case atStart=>exact ⟨0,Z,vs,rfl,Nat.zero_le _,H2⟩
 case round =>
  clear H2
  obtain ⟨n,Z,vs,rfl,hn,HC⟩:=hrel
  by_cases hlt2:n<m.t.toNat
  ·have hn1:(n:Int)<m.t:=by omega
   have HRD:=Zh (Read_any (n:Int) wr HC.out HOK.out)
   rw [HR.out,show m.rd (n:Int)=(0,m.u.at n) by unfold Go.Proofs.YtimbeeiihbmofaaGreatDoor.M.rd;rw [show inR (n:Int) 1048575=true by simp [inR];omega];rfl] at HRD
   simp only at HRD
   go_wp2_with fail
   refine HRD.out.mono ?_
   clear HRD
   rintro en w5 ⟨a5,c5,rfl,ho5,hb5⟩
   have h5:=HC.out.belowRow hb5 ho5
   have h6:=h5.allocB w5.heap.size [.int .i64 (m.u.at n).k,.slice a5 (m.u.at n).d.length c5] 40 rfl
   rw [show ([.int .i64 (m.u.at n).k,.slice a5 (m.u.at n).d.length c5]:List Value).toArray=#[.int .i64 (m.u.at n).k,.slice a5 (m.u.at n).d.length c5] from rfl] at h6
   have H6:=Lib.hid' h6
   clear h5 h6 ho5 hb5 HC
   rw [errV_0]
   go_upto_region 9 with fail
   generalize w5.alloc (.cells #[.int .i64 (m.u.at n).k,.slice a5 (m.u.at n).d.length c5] 40)=w6 at *
   generalize w5.heap.size=N6 at *
   have q0:=H6.out.side.cell 0 rfl 0 rfl;have q1:=H6.out.side.cell 0 rfl 1 rfl;have ql:=H6.out.side.lt 0 rfl
   by_cases hnl:(n:Int)<m.u.l
   ·have hk3:(m.u.at n).k=3:=by simp [U.at,hnl]
    have HO1:=Zh (ofM_ok HM.out (n:=n) (by omega))
    have HTR:=Zh (ofM_trim hnl)
    have HO2:=Zh (ofM_ok HM.out (n:=n+1) (by omega))
    have H7:=Zh (ClAt.less (K:=[_,_]) H6.out)
    have HU:=Zh (H7.out.mdlAt HO1.out)
    rw [hk3] at q0
    go_wp2_with fail
    refine (mtrim1_any ((n:Int)+1) w6 HU.out (fun k hk=>hk.1) (by rw [HTR.out];exact HO2.out)).mono ?_
    rintro en w8 ⟨rfl,hU,hf⟩
    rw [HTR.out] at hU
    obtain ⟨Z2,vs2,h8⟩:=H7.out.mdlCall hU hf
    have H8:=Lib.hid' h8
    clear h8 hU hf HU H7 H6 q0 q1 ql
    go_wp2_with fail
    go_roundw
    case rel=>exact ⟨n+1,Z2,vs2,by go_num,by omega,H8⟩
    case measure=>simp [intOf];omega
   ·by_cases hk0:(m.u.at n).k=0
    ·have H7:=Zh (ClAt.less (K:=[_,_]) H6.out)
     rw [←ofM_none (by omega) hk0] at H7
     rw [hk0] at q0
     go_wp2_with fail
     go_roundw
     case rel=>exact ⟨n+1,Z,vs,by go_num,by omega,H7⟩
     case measure=>simp [intOf];omega
    ·have hk3:(m.u.at n).k≠3:=Go.Proofs.YtimbeeiihbmofaaGreatDoor.at_not3 (a:=(n:Int)) HM.out.u (by omega)
     have hk12:=(at_right HM.out.u hk3 hk0).1
     have HPT:=Zh (ofM_put (m:=m) (n:=n) (by omega) hk0)
     have HX:∃ (kk:Int) (d:List UInt8),m.u.at n=⟨kk,d⟩∧(kk=1∨kk=2):=⟨_,_,rfl,by rcases hk12 with h | h;exact .inl h;exact .inr h.1⟩
     clear hk12
     obtain ⟨kk,d,hx,hkk⟩:=HX
     rw [hx] at q0 q1 H6 HPT
     simp only at q0 q1 H6
     clear hk0 hk3
     obtain ⟨P,hPJ,hP,h7⟩:=ClAt.front (K:=[_,_,_,_]) H6.out
     have HP:=Lib.hid' hP
     have hnN:N6≠bm:=fun e=>h7.off 0 2 rfl rfl (by decide) N6 rfl (.inr e)
     have h8:=h7.keepOnly (List.sublist_cons_self _ _)
     have hbk:=(h8.at 1 rfl).1
     have bl0:=(h8.at 1 rfl |> (Asn.mdl bl bm (ofM m n) vs).lt w6) bl (.inl rfl)
     have hne:bl≠bm:=by
      obtain ⟨_,_,⟨es,clock,r1,_⟩,_⟩:=h8.at 1 rfl
      intro e;rw [e,r1] at hbk;simp at hbk
     have c0:w6.cell? ⟨bl,0,none⟩=some (.map (some bm)):=by simp [World.cell?,hbk]
     obtain ⟨L0,hm0,hput⟩:=Sep.mdlPut (c:=⟨kk,d⟩) h8.drew n
     obtain ⟨ob,hrun,hat⟩:=run_store mtCells hm0 (n:Int) (.agg #[.int .i64 kk,.slice a5 d.length c5])
     have H9:=Zh (hput ob hat)
     clear h7 h8 hbk hput hat hP
     rcases hkk with rfl | rfl
     ·go_upto_region 16 with fail
      refine wp_region_held_drew (S:=(fun w'=>w'.cell? ⟨bl,0,none⟩=some (.map (some bm))∧w'.cell? ⟨N6,0,none⟩=some (.int .i64 1)∧w'.cell? ⟨N6,1,none⟩=some (.slice a5 d.length c5))) (by kernel_rfl) ⟨c0,q0,q1⟩ (fun hH0=>?_)
      refine tA 0 (.pointer (some ⟨bl,0,none⟩)) rfl hH0 ?_ ?_
      ·intro w hSw;go_simp
      simp only [Act.put,gA,gZ,gS,sA,sZ,sS]
      refine tA 1 (.pointer (some ⟨bl,0,none⟩)) rfl hH0 ?_ ?_
      ·intro w hSw;go_simp
      simp only [Act.put,gA,gZ,gS,sA,sZ,sS]
      refine tA 2 (.pointer (some ⟨bl,0,none⟩)) rfl hH0 ?_ ?_
      ·intro w hSw;go_simp
      simp only [Act.put,gA,gZ,gS,sA,sZ,sS]
      refine tA 3 (.map (some bm)) rfl hH0 ?_ ?_
      ·intro w hSw;go_simp
      simp only [Act.put,gA,gZ,gS,sA,sZ,sS]
      refine tA 4 (.int .i64 n) rfl hH0 ?_ ?_
      ·intro w hSw;go_simp
      simp only [Act.put,gA,gZ,gS,sA,sZ,sS]
      refine tA 5 (.agg #[.int .i64 1,.slice a5 d.length c5]) rfl hH0 ?_ ?_
      ·intro w hSw;go_simp
      simp only [Act.put,gA,gZ,gS,sA,sZ,sS]
      refine rD 6 rfl (fun K hK=>?_)
      go_simp
      refine hK.out _ _ ⟨(setBlk_fr _ _ _).cell (w:=w6.drew) c0 hne,(setBlk_fr _ _ _).cell (w:=w6.drew) q0 hnN,(setBlk_fr _ _ _).cell (w:=w6.drew) q1 hnN⟩ (fun hH1=>?_)
      clear hK K
      refine wpAnyH_done (by kernel_rfl) ?_ _
      clear c0 bl0 hrun hm0 q0 q1 ql hH0 hH1
      generalize setBlk w6.drew bm ob=w9 at *
      obtain ⟨Z2,vs2,h9⟩:=H9.out
      have H10:=Zh (ClAt.unfront (K:=[_,_]) HP.out h9)
      rw [hPJ] at H10
      clear h9 H9
      go_wp2_with fail
      go_roundw
      case rel=>exact ⟨n+1,Z2,vs2,by go_num,by omega,Zh (by rw [HPT.out];exact H10.out)⟩
      case measure=>simp [intOf];omega
     ·go_upto_region 16 with fail
      refine wp_region_held_drew (S:=(fun w'=>w'.cell? ⟨bl,0,none⟩=some (.map (some bm))∧w'.cell? ⟨N6,0,none⟩=some (.int .i64 2)∧w'.cell? ⟨N6,1,none⟩=some (.slice a5 d.length c5))) (by kernel_rfl) ⟨c0,q0,q1⟩ (fun hH0=>?_)
      refine tA 0 (.pointer (some ⟨bl,0,none⟩)) rfl hH0 ?_ ?_
      ·intro w hSw;go_simp
      simp only [Act.put,gA,gZ,gS,sA,sZ,sS]
      refine tA 1 (.pointer (some ⟨bl,0,none⟩)) rfl hH0 ?_ ?_
      ·intro w hSw;go_simp
      simp only [Act.put,gA,gZ,gS,sA,sZ,sS]
      refine tA 2 (.pointer (some ⟨bl,0,none⟩)) rfl hH0 ?_ ?_
      ·intro w hSw;go_simp
      simp only [Act.put,gA,gZ,gS,sA,sZ,sS]
      refine tA 3 (.map (some bm)) rfl hH0 ?_ ?_
      ·intro w hSw;go_simp
      simp only [Act.put,gA,gZ,gS,sA,sZ,sS]
      refine tA 4 (.int .i64 n) rfl hH0 ?_ ?_
      ·intro w hSw;go_simp
      simp only [Act.put,gA,gZ,gS,sA,sZ,sS]
      refine tA 5 (.agg #[.int .i64 2,.slice a5 d.length c5]) rfl hH0 ?_ ?_
      ·intro w hSw;go_simp
      simp only [Act.put,gA,gZ,gS,sA,sZ,sS]
      refine rD 6 rfl (fun K hK=>?_)
      go_simp
      refine hK.out _ _ ⟨(setBlk_fr _ _ _).cell (w:=w6.drew) c0 hne,(setBlk_fr _ _ _).cell (w:=w6.drew) q0 hnN,(setBlk_fr _ _ _).cell (w:=w6.drew) q1 hnN⟩ (fun hH1=>?_)
      clear hK K
      refine wpAnyH_done (by kernel_rfl) ?_ _
      clear c0 bl0 hrun hm0 q0 q1 ql hH0 hH1
      generalize setBlk w6.drew bm ob=w9 at *
      obtain ⟨Z2,vs2,h9⟩:=H9.out
      have H10:=Zh (ClAt.unfront (K:=[_,_]) HP.out h9)
      rw [hPJ] at H10
      clear h9 H9
      go_wp2_with fail
      go_roundw
      case rel=>exact ⟨n+1,Z2,vs2,by go_num,by omega,Zh (by rw [HPT.out];exact H10.out)⟩
      case measure=>simp [intOf];omega
  ·obtain rfl:n=m.t.toNat:=by omega
   obtain ⟨P,hPJ,hP,h7⟩:=ClAt.front (K:=[_,_]) HC.out
   have HP:=Lib.hid' hP
   have hbk:=(h7.at 0 rfl).1
   have bl0:=(h7.at 0 rfl |> (Asn.mdl bl bm (ofM m m.t.toNat) vs).lt wr) bl (.inl rfl)
   have c2:wr.cell? ⟨bl,2,none⟩=some (.int .i64 (ofM m m.t.toNat).t):=by simp [World.cell?,hbk]
   have f2:wr.frozen? ⟨bl,2,none⟩=false:=by simp [World.frozen?,hbk]
   have H9:=Zh (h7.mdlTail m.t)
   rw [ofM_end HM.out] at H9
   clear h7 hbk hP
   go_wp2_with fail
   go_ret2
   refine ⟨bl,bm,Z,vs,rfl,?_⟩
   rw [←hPJ]
   exact ClAt.unfront (K:=[_,_]) HP.out H9.out
end SL
end Go.Proofs.YtimbeeiihbmofaaGreatDoor

namespace Go.Proofs.YtimbeeiihbmofaaGreatDoor
open Go.RowKit
namespace SL
open DK SH SQ
theorem kind8 (k:Int):0≤(IntKind.u64.wrap k).tmod 8∧(IntKind.u64.wrap k).tmod 8<8:=by
 have h:0≤IntKind.u64.wrap k:=by
  have e:IntKind.u64.wrap k=k % 18446744073709551616:=by simp [IntKind.wrap,IntKind.signed,IntKind.bits]
  omega
 rw [Int.tmod_eq_emod_of_nonneg h]
 omega
theorem Is.ctail {r:Int} {k:Nat} {c:Cl} {m:Go.Proofs.YtimbeeiihbmofaaGreatDoor.M} (h:Is r k c m):c.tail=(0,m.t):=by
 have h1:=h.qe
 unfold Cl.tail Q.tail Q.asks
 rw [h1]
 simp [h.tail]
abbrev byA (d:List UInt8) (a:Option Addr) (c:Nat):Asn:=.row 5 1 (.slice a d.length c) d.length (byteVs d)
abbrev clB (N:Nat) (x:C) (a:Option Addr) (c:Nat):Asn:=.box N [.int .i64 x.k,.slice a x.d.length c] 40
/-- what an act of a cluster and its model lays: the model, the act, the two cells that both read -/
def AnsAt (c bl bm NA NX NY:Nat) (J:CJ) (L:List Asn) (W:World) (x:A13) (M:Cl) (m:Go.Proofs.YtimbeeiihbmofaaGreatDoor.M) (y:C) (w:World):Prop :=
 ∃ Z vs ya yc za zc,ClAt c M J (Asn.mdl bl bm m vs::Asn.pool Z vs::.box NA (a13V x) 44::clB NX y ya yc::clB NY y za zc::byA y.d ya yc::byA y.d za zc::L) W w
set_option maxHeartbeats 40000000 in
theorem answers_any {c bl bm:Nat} {M:Cl} {m:Go.Proofs.YtimbeeiihbmofaaGreatDoor.M} {J:CJ} {L:List Asn} {Z:Nat→Prop} {vs:PoolL} {W:World} {r:Int} {k:Nat} (x:A13) (w:World) (hp:Pow W) (h:ClAt c M J (Asn.mdl bl bm m vs::Asn.pool Z vs::L) W w) (hI:Is r k M m) (hk:k+2<512) (hr:((200*(k+2)+200:Nat):Int)≤r) (hx:A13At W x) :
  Calls Tryz.prog 9 #[ptrV c,.pointer (some ⟨bl,0,none⟩),.agg (a13V x).toArray] w fun en w'=>∃ M' m' Z' vs',en=.returned (.bool true)∧ClAt c M' J (Asn.mdl bl bm m' vs'::Asn.pool Z' vs'::L) W w'∧Is r (k+2) M' m':=by
 have HP:=Lib.hid' hp
 have HI:=Lib.hid' hI
 have HX:=Lib.hid' hx
 have HR:=Lib.hid' hr
 obtain ⟨P,rfl,hP,H⟩:=ClAt.front (K:=[_,_]) h
 have H1:=((H.allocAt w.heap.size (a13V x) 44 rfl).allocAt (w.heap.size+1) [.int .i64 0,.slice none 0 0] 40 (by simp)).allocAt (w.heap.size+2) [.int .i64 0,.slice none 0 0] 40 (by simp)
 have H2:=ClAt.unfront (K:=[_,_,_,_,_,_,_]) hP (((H1.nilRow 5 1).nilRow 5 1))
 have H3:=Zh (show AnsAt c bl bm w.heap.size (w.heap.size+1) (w.heap.size+2) P.J L W x M m ⟨0,[]⟩ _ from ⟨Z,vs,none,0,none,0,((((H2.focus 2 rfl).focus 3 rfl).focus 4 rfl).focus 6 rfl).focus 6 rfl⟩)
 rw [show (a13V x).toArray=#[.int .i64 x.k,.int .i64 x.u,.int .i64 x.a,.int .i64 x.c.k,.slice x.da x.c.d.length x.dc,.slice x.ka x.ks.length x.kc,.slice x.sa x.sp.length x.sc] from rfl] at *
 rw [show ([.int .i64 0,.slice none 0 0]:List Value).toArray=#[.int .i64 0,.slice none 0 0] from rfl] at *
 generalize P.J=J at *
 clear H H1 H2 hP hp hI hx h
 go_enter Tryz.func9, Tryz.ntmps9
 go_upto_region 4 with fail
 generalize ((w.alloc (.cells #[.int .i64 x.k,.int .i64 x.u,.int .i64 x.a,.int .i64 x.c.k,.slice x.da x.c.d.length x.dc,.slice x.ka x.ks.length x.kc,.slice x.sa x.sp.length x.sc] 44)).alloc (.cells #[.int .i64 0,.slice none 0 0] 40)).alloc (.cells #[.int .i64 0,.slice none 0 0] 40)=w3 at *
 generalize w.heap.size+1+1=NY at *
 generalize w.heap.size+2=NY2 at *
 generalize w.heap.size+1=NX at *
 generalize w.heap.size=NA at *
 obtain ⟨Z3,vs3,ya,yc,za,zc,h3⟩:=H3.out
 have b0:=h3.side.cell 2 rfl 0 rfl;have b2:=h3.side.cell 2 rfl 2 rfl;have b3:=h3.side.cell 2 rfl 3 rfl;have b4:=h3.side.cell 2 rfl 4 rfl;have bl':=h3.side.lt 2 rfl
 have H4:=Lib.hid' h3
 have H4d:=Zh (h3.below ((Below.refl _ w3).drew))
 clear h3 H3
 go_upto_block 0 with fail
 have HKN:=kind8 x.k
 generalize (IntKind.u64.wrap x.k).tmod 8=kn at *
 go_cut [7,8,9,10] (fun v7 v8 v9 v10 wc=>∃ (z:Nat) (n:Int) (y:C) (M':Cl) (m':Go.Proofs.YtimbeeiihbmofaaGreatDoor.M),v7=errV z∧v8=errV z∧v9=.int .i64 n∧v10=.int .i64 n∧Hid (AnsAt c bl bm NA NX NY J L W x M' m' y wc)∧Hid (Is r (k+2) M' m'))
 case first =>
  rcases (show kn=0∨kn=1∨kn=2∨kn=3∨kn=4∨kn=5∨kn=6∨kn=7 by omega) with h0 | h1 | h2 | h3 | h4 | h5 | h6 | h7
  all_goals clear HKN
  ·subst h0
   obtain ⟨c',e,hI'⟩:=HI.out.append (by omega) (by have:=HR.out;omega) x.c.d
   have HC:=Zh (append_any x.c.d x.da x.dc w3 HP.out H4.out HI.out.mid.ok (fun M' w' h'=>SlV.below HX.out.d (Nat.le_refl _) h'.toBelow))
   rw [e] at HC
   simp only at HC
   have HI2:=Zh (hI'.mono (show k+1≤k+2 by omega))
   clear e hI'
   go_wp2_with fail
   refine HC.out.mono ?_
   rintro en w5 ⟨rfl,h5⟩
   have H5:=Lib.hid' h5
   clear h5 HC b0 b2 b3 b4 bl'
   have b4:=H5.out.side.cell 2 rfl 4 rfl;have bl':=H5.out.side.lt 2 rfl
   go_wp2_with fail
   refine (mapp_any x.da x.dc x.c.d _ (H5.out.mdlAt HI.out.ok) (fun k hk=>hk.1) (SlV.below HX.out.d (Nat.le_refl _) H5.out.toBelow)).mono ?_
   rintro en w6 ⟨rfl,hU,hf⟩
   obtain ⟨Z6,vs6,h6⟩:=H5.out.mdlCall hU hf
   have H6:=Lib.hid' h6
   clear h6 hU hf b4 bl'
   go_wp2_with fail
   go_meet
   exact ⟨(m.app x.c.d).1,(m.app x.c.d).2.1,⟨0,[]⟩,c',(m.app x.c.d).2.2,rfl,rfl,rfl,rfl,Lib.hid' ⟨Z6,vs6,ya,yc,za,zc,H6.out⟩,HI2⟩
  ·subst h1
   obtain ⟨c',e,hI'⟩:=HI.out.append (by omega) (by have:=HR.out;omega) x.c.d
   have HC:=Zh (append_any x.c.d x.da x.dc w3 HP.out H4.out HI.out.mid.ok (fun M' w' h'=>SlV.below HX.out.d (Nat.le_refl _) h'.toBelow))
   rw [e] at HC
   simp only at HC
   have HI2:=Zh (hI'.mono (show k+1≤k+2 by omega))
   clear e hI'
   go_wp2_with fail
   refine HC.out.mono ?_
   rintro en w5 ⟨rfl,h5⟩
   have H5:=Lib.hid' h5
   clear h5 HC b0 b2 b3 b4 bl'
   have b4:=H5.out.side.cell 2 rfl 4 rfl;have bl':=H5.out.side.lt 2 rfl
   go_wp2_with fail
   refine (mapp_any x.da x.dc x.c.d _ (H5.out.mdlAt HI.out.ok) (fun k hk=>hk.1) (SlV.below HX.out.d (Nat.le_refl _) H5.out.toBelow)).mono ?_
   rintro en w6 ⟨rfl,hU,hf⟩
   obtain ⟨Z6,vs6,h6⟩:=H5.out.mdlCall hU hf
   have H6:=Lib.hid' h6
   clear h6 hU hf b4 bl'
   go_wp2_with fail
   go_meet
   exact ⟨(m.app x.c.d).1,(m.app x.c.d).2.1,⟨0,[]⟩,c',(m.app x.c.d).2.2,rfl,rfl,rfl,rfl,Lib.hid' ⟨Z6,vs6,ya,yc,za,zc,H6.out⟩,HI2⟩
  ·subst h2
   have HC:=Zh (Read_any x.a w3 H4.out HI.out.mid.ok)
   rw [HI.out.read] at HC
   have HI2:=Zh (HI.out.mono (show k≤k+2 by omega))
   generalize hrd:m.rd x.a=rd at *
   obtain ⟨z,y⟩:=rd
   simp only at HC
   go_wp2_with fail
   refine HC.out.mono ?_
   rintro en w5 ⟨a5,c5,rfl,ho5,hb5⟩
   have H5:=Zh (H4.out.belowRow hb5 ho5)
   clear ho5 hb5 HC b0 b2 b3 b4 bl' H4d
   have f0:=H5.out.side.free 4 rfl 0;have f1:=H5.out.side.free 4 rfl 1;have xl:=H5.out.side.lt 4 rfl;have x0:=H5.out.side.cell 4 rfl 0 rfl;have x1:=H5.out.side.cell 4 rfl 1 rfl
   go_upto_region 12 with fail
   have H6:=((H5.out.focus 4 rfl).setB 0 (.int .i64 y.k)).setB 1 (.slice a5 y.d.length c5)
   clear f0 f1 xl x0 x1 H5
   generalize (w5.setCell ⟨NX,0,none⟩ (.int .i64 y.k)).setCell ⟨NX,1,none⟩ (.slice a5 y.d.length c5)=w6 at *
   have H7:=Zh ((H6.focus 3 rfl).focus 3 rfl)
   clear H6
   have b2:=H7.out.side.cell 4 rfl 2 rfl;have bl':=H7.out.side.lt 4 rfl
   have HD:=Zh (mread_any x.a w6 (H7.out.mdlAt HI.out.ok))
   rw [hrd] at HD
   simp only at HD
   go_wp2_with fail
   refine HD.out.mono ?_
   rintro en w8 ⟨a8,c8,rfl,ho8,hb8⟩
   have H8:=Zh (H7.out.belowRow hb8 ho8)
   clear ho8 hb8 HD b2 bl' H7
   have f0:=H8.out.side.free 6 rfl 0;have f1:=H8.out.side.free 6 rfl 1;have xl:=H8.out.side.lt 6 rfl;have x0:=H8.out.side.cell 6 rfl 0 rfl;have x1:=H8.out.side.cell 6 rfl 1 rfl
   go_wp2_with fail
   have H9:=(((H8.out.focus 6 rfl).setB 0 (.int .i64 y.k)).setB 1 (.slice a8 y.d.length c8)).focus 8 rfl
   have H10:=(ClAt.less (K:=[_]) H9).focus 7 rfl
   have H11:=Zh (((((((ClAt.less (K:=[_]) H10).focus 1 rfl).focus 5 rfl).focus 2 rfl).focus 5 rfl).focus 6 rfl).focus 6 rfl |>.focus 6 rfl)
   clear f0 f1 xl x0 x1 H8 H9 H10
   go_meet
   exact ⟨z,0,y,M,m,rfl,rfl,rfl,rfl,Lib.hid' ⟨_,_,a5,c5,a8,c8,H11.out⟩,HI2⟩
  ·subst h3
   obtain ⟨c',e,hI'⟩:=HI.out.fill (by omega) (by have:=HR.out;omega) x.a
   have HC:=Zh (Fill_any x.a w3.drew HP.out H4d.out HI.out.mid.ok)
   rw [e] at HC
   simp only at HC
   have HI2:=Zh (hI'.mono (show k+1≤k+2 by omega))
   clear e hI'
   go_upto_region 14 with fail
   refine startD (S:=(fun w'=>w'.cell? ⟨NA,2,none⟩=some (.int .i64 x.a)∧w'.cell? ⟨NA,3,none⟩=some (.int .i64 x.c.k)∧w'.cell? ⟨NA,4,none⟩=some (.slice x.da x.c.d.length x.dc)∧NA<w'.heap.size)) (by kernel_rfl) ⟨b2,b3,b4,bl'⟩ (fun hH0=>?_)
   simp only [List.length_cons,List.length_nil,Nat.reduceAdd,List.replicate_succ,List.replicate_zero]
   refine tD 0 66 (ptrV c) rfl rfl [(0,ptrV c)] hH0 ?_
   dsimp only [sZ,sS]
   refine tD 1 67 (.pointer (some ⟨NA,2,none⟩)) rfl rfl [(5,.pointer (some ⟨NA,0,none⟩))] hH0 ?_
   dsimp only [sZ,sS]
   refine tD 2 68 (.int .i64 x.a) rfl rfl [(67,.pointer (some ⟨NA,2,none⟩))] hH0 ?_
   dsimp only [sZ,sS]
   refine tD 4 70 (.pointer (some ⟨bl,0,none⟩)) rfl rfl [(1,.pointer (some ⟨bl,0,none⟩))] hH0 ?_
   dsimp only [sZ,sS]
   refine tD 5 71 (.pointer (some ⟨NA,2,none⟩)) rfl rfl [(5,.pointer (some ⟨NA,0,none⟩))] hH0 ?_
   dsimp only [sZ,sS]
   refine tD 6 72 (.int .i64 x.a) rfl rfl [(71,.pointer (some ⟨NA,2,none⟩))] hH0 ?_
   dsimp only [sZ,sS]
   refine rD 3 rfl (fun K hK=>?_)
   go_simp
   refine HC.out.mono ?_
   rintro en w5 ⟨rfl,h5⟩
   have H5:=Lib.hid' h5
   clear h5 HC b0 b2 b3 b4 bl'
   refine hK.out _ _ ?_ (fun hH1=>?_)
   ·exact ⟨H5.out.side.cell 2 rfl 2 rfl,H5.out.side.cell 2 rfl 3 rfl,H5.out.side.cell 2 rfl 4 rfl,H5.out.side.lt 2 rfl⟩
   clear hK K
   try simp only [Act.put,gA,gZ,gS,sA,sZ,sS]
   refine rD 7 rfl (fun K hK=>?_)
   go_simp
   refine (mfill_any x.a _ (H5.out.mdlAt HI.out.ok) (fun k hk=>hk.1)).mono ?_
   rintro en w6 ⟨rfl,hU,hf⟩
   obtain ⟨Z6,vs6,h6⟩:=H5.out.mdlCall hU hf
   have H6:=Lib.hid' h6
   clear h6 hU hf
   refine hK.out _ _ ?_ (fun hH2=>?_)
   ·exact ⟨H6.out.side.cell 2 rfl 2 rfl,H6.out.side.cell 2 rfl 3 rfl,H6.out.side.cell 2 rfl 4 rfl,H6.out.side.lt 2 rfl⟩
   clear hK K
   try simp only [Act.put,gA,gZ,gS,sA,sZ,sS]
   refine tD 8 7 (errV (m.fil x.a).1) rfl rfl [(69,errV (m.fil x.a).1)] hH2 ?_
   dsimp only [sZ,sS]
   refine tD 9 8 (errV (m.fil x.a).1) rfl rfl [(73,errV (m.fil x.a).1)] hH2 ?_
   dsimp only [sZ,sS]
   refine wpAnyH_done (by kernel_rfl) ?_ _
   go_wp2_with fail
   go_meet
   exact ⟨(m.fil x.a).1,0,⟨0,[]⟩,c',(m.fil x.a).2,rfl,rfl,rfl,rfl,Lib.hid' ⟨Z6,vs6,ya,yc,za,zc,H6.out⟩,HI2⟩
  ·subst h4
   obtain ⟨c',e,hI'⟩:=HI.out.putAt (by omega) (by have:=HR.out;omega) x.a x.c
   have HC:=Zh (Put_any x.a x.c x.da x.dc w3.drew HP.out H4d.out HI.out.mid.ok (fun M' w' h'=>SlV.below HX.out.d (Nat.le_refl _) h'.toBelow))
   rw [e] at HC
   simp only at HC
   have HI2:=Zh (hI'.mono (show k+1≤k+2 by omega))
   clear e hI'
   go_upto_region 17 with fail
   refine startD (S:=(fun w'=>w'.cell? ⟨NA,2,none⟩=some (.int .i64 x.a)∧w'.cell? ⟨NA,3,none⟩=some (.int .i64 x.c.k)∧w'.cell? ⟨NA,4,none⟩=some (.slice x.da x.c.d.length x.dc)∧NA<w'.heap.size)) (by kernel_rfl) ⟨b2,b3,b4,bl'⟩ (fun hH0=>?_)
   simp only [List.length_cons,List.length_nil,Nat.reduceAdd,List.replicate_succ,List.replicate_zero]
   refine tD 0 77 (ptrV c) rfl rfl [(0,ptrV c)] hH0 ?_
   dsimp only [sZ,sS]
   refine tD 1 78 (.pointer (some ⟨NA,2,none⟩)) rfl rfl [(5,.pointer (some ⟨NA,0,none⟩))] hH0 ?_
   dsimp only [sZ,sS]
   refine tD 2 79 (.int .i64 x.a) rfl rfl [(78,.pointer (some ⟨NA,2,none⟩))] hH0 ?_
   dsimp only [sZ,sS]
   refine tD 3 80 (.pointer (some ⟨NA,3,none⟩)) rfl rfl [(5,.pointer (some ⟨NA,0,none⟩))] hH0 ?_
   dsimp only [sZ,sS]
   refine tD 4 81 (.agg #[.int .i64 x.c.k,.slice x.da x.c.d.length x.dc]) rfl rfl [(80,.pointer (some ⟨NA,3,none⟩))] hH0 ?_
   dsimp only [sZ,sS]
   refine tD 6 83 (.pointer (some ⟨bl,0,none⟩)) rfl rfl [(1,.pointer (some ⟨bl,0,none⟩))] hH0 ?_
   dsimp only [sZ,sS]
   refine tD 7 84 (.pointer (some ⟨NA,2,none⟩)) rfl rfl [(5,.pointer (some ⟨NA,0,none⟩))] hH0 ?_
   dsimp only [sZ,sS]
   refine tD 8 85 (.int .i64 x.a) rfl rfl [(84,.pointer (some ⟨NA,2,none⟩))] hH0 ?_
   dsimp only [sZ,sS]
   refine tD 9 86 (.pointer (some ⟨NA,3,none⟩)) rfl rfl [(5,.pointer (some ⟨NA,0,none⟩))] hH0 ?_
   dsimp only [sZ,sS]
   refine tD 10 87 (.agg #[.int .i64 x.c.k,.slice x.da x.c.d.length x.dc]) rfl rfl [(86,.pointer (some ⟨NA,3,none⟩))] hH0 ?_
   dsimp only [sZ,sS]
   refine rD 5 rfl (fun K hK=>?_)
   go_simp
   refine HC.out.mono ?_
   rintro en w5 ⟨rfl,h5⟩
   have H5:=Lib.hid' h5
   clear h5 HC b0 b2 b3 b4 bl'
   refine hK.out _ _ ?_ (fun hH1=>?_)
   ·exact ⟨H5.out.side.cell 2 rfl 2 rfl,H5.out.side.cell 2 rfl 3 rfl,H5.out.side.cell 2 rfl 4 rfl,H5.out.side.lt 2 rfl⟩
   clear hK K
   try simp only [Act.put,gA,gZ,gS,sA,sZ,sS]
   refine rD 11 rfl (fun K hK=>?_)
   go_simp
   refine (mput_any x.a x.c x.da x.dc _ (H5.out.mdlAt HI.out.ok) (fun k hk=>hk.1) (SlV.below HX.out.d (Nat.le_refl _) H5.out.toBelow)).mono ?_
   rintro en w6 ⟨rfl,hU,hf⟩
   obtain ⟨Z6,vs6,h6⟩:=H5.out.mdlCall hU hf
   have H6:=Lib.hid' h6
   clear h6 hU hf
   refine hK.out _ _ ?_ (fun hH2=>?_)
   ·exact ⟨H6.out.side.cell 2 rfl 2 rfl,H6.out.side.cell 2 rfl 3 rfl,H6.out.side.cell 2 rfl 4 rfl,H6.out.side.lt 2 rfl⟩
   clear hK K
   try simp only [Act.put,gA,gZ,gS,sA,sZ,sS]
   refine tD 12 7 (errV (m.put x.a x.c).1) rfl rfl [(82,errV (m.put x.a x.c).1)] hH2 ?_
   dsimp only [sZ,sS]
   refine tD 13 8 (errV (m.put x.a x.c).1) rfl rfl [(88,errV (m.put x.a x.c).1)] hH2 ?_
   dsimp only [sZ,sS]
   refine wpAnyH_done (by kernel_rfl) ?_ _
   go_wp2_with fail
   go_meet
   exact ⟨(m.put x.a x.c).1,0,⟨0,[]⟩,c',(m.put x.a x.c).2,rfl,rfl,rfl,rfl,Lib.hid' ⟨Z6,vs6,ya,yc,za,zc,H6.out⟩,HI2⟩
  ·subst h5
   obtain ⟨c',e,hI'⟩:=HI.out.putAt (by omega) (by have:=HR.out;omega) x.a x.c
   have HC:=Zh (Put_any x.a x.c x.da x.dc w3.drew HP.out H4d.out HI.out.mid.ok (fun M' w' h'=>SlV.below HX.out.d (Nat.le_refl _) h'.toBelow))
   rw [e] at HC
   simp only at HC
   have HI2:=Zh (hI'.mono (show k+1≤k+2 by omega))
   clear e hI'
   go_upto_region 17 with fail
   refine startD (S:=(fun w'=>w'.cell? ⟨NA,2,none⟩=some (.int .i64 x.a)∧w'.cell? ⟨NA,3,none⟩=some (.int .i64 x.c.k)∧w'.cell? ⟨NA,4,none⟩=some (.slice x.da x.c.d.length x.dc)∧NA<w'.heap.size)) (by kernel_rfl) ⟨b2,b3,b4,bl'⟩ (fun hH0=>?_)
   simp only [List.length_cons,List.length_nil,Nat.reduceAdd,List.replicate_succ,List.replicate_zero]
   refine tD 0 77 (ptrV c) rfl rfl [(0,ptrV c)] hH0 ?_
   dsimp only [sZ,sS]
   refine tD 1 78 (.pointer (some ⟨NA,2,none⟩)) rfl rfl [(5,.pointer (some ⟨NA,0,none⟩))] hH0 ?_
   dsimp only [sZ,sS]
   refine tD 2 79 (.int .i64 x.a) rfl rfl [(78,.pointer (some ⟨NA,2,none⟩))] hH0 ?_
   dsimp only [sZ,sS]
   refine tD 3 80 (.pointer (some ⟨NA,3,none⟩)) rfl rfl [(5,.pointer (some ⟨NA,0,none⟩))] hH0 ?_
   dsimp only [sZ,sS]
   refine tD 4 81 (.agg #[.int .i64 x.c.k,.slice x.da x.c.d.length x.dc]) rfl rfl [(80,.pointer (some ⟨NA,3,none⟩))] hH0 ?_
   dsimp only [sZ,sS]
   refine tD 6 83 (.pointer (some ⟨bl,0,none⟩)) rfl rfl [(1,.pointer (some ⟨bl,0,none⟩))] hH0 ?_
   dsimp only [sZ,sS]
   refine tD 7 84 (.pointer (some ⟨NA,2,none⟩)) rfl rfl [(5,.pointer (some ⟨NA,0,none⟩))] hH0 ?_
   dsimp only [sZ,sS]
   refine tD 8 85 (.int .i64 x.a) rfl rfl [(84,.pointer (some ⟨NA,2,none⟩))] hH0 ?_
   dsimp only [sZ,sS]
   refine tD 9 86 (.pointer (some ⟨NA,3,none⟩)) rfl rfl [(5,.pointer (some ⟨NA,0,none⟩))] hH0 ?_
   dsimp only [sZ,sS]
   refine tD 10 87 (.agg #[.int .i64 x.c.k,.slice x.da x.c.d.length x.dc]) rfl rfl [(86,.pointer (some ⟨NA,3,none⟩))] hH0 ?_
   dsimp only [sZ,sS]
   refine rD 5 rfl (fun K hK=>?_)
   go_simp
   refine HC.out.mono ?_
   rintro en w5 ⟨rfl,h5⟩
   have H5:=Lib.hid' h5
   clear h5 HC b0 b2 b3 b4 bl'
   refine hK.out _ _ ?_ (fun hH1=>?_)
   ·exact ⟨H5.out.side.cell 2 rfl 2 rfl,H5.out.side.cell 2 rfl 3 rfl,H5.out.side.cell 2 rfl 4 rfl,H5.out.side.lt 2 rfl⟩
   clear hK K
   try simp only [Act.put,gA,gZ,gS,sA,sZ,sS]
   refine rD 11 rfl (fun K hK=>?_)
   go_simp
   refine (mput_any x.a x.c x.da x.dc _ (H5.out.mdlAt HI.out.ok) (fun k hk=>hk.1) (SlV.below HX.out.d (Nat.le_refl _) H5.out.toBelow)).mono ?_
   rintro en w6 ⟨rfl,hU,hf⟩
   obtain ⟨Z6,vs6,h6⟩:=H5.out.mdlCall hU hf
   have H6:=Lib.hid' h6
   clear h6 hU hf
   refine hK.out _ _ ?_ (fun hH2=>?_)
   ·exact ⟨H6.out.side.cell 2 rfl 2 rfl,H6.out.side.cell 2 rfl 3 rfl,H6.out.side.cell 2 rfl 4 rfl,H6.out.side.lt 2 rfl⟩
   clear hK K
   try simp only [Act.put,gA,gZ,gS,sA,sZ,sS]
   refine tD 12 7 (errV (m.put x.a x.c).1) rfl rfl [(82,errV (m.put x.a x.c).1)] hH2 ?_
   dsimp only [sZ,sS]
   refine tD 13 8 (errV (m.put x.a x.c).1) rfl rfl [(88,errV (m.put x.a x.c).1)] hH2 ?_
   dsimp only [sZ,sS]
   refine wpAnyH_done (by kernel_rfl) ?_ _
   go_wp2_with fail
   go_meet
   exact ⟨(m.put x.a x.c).1,0,⟨0,[]⟩,c',(m.put x.a x.c).2,rfl,rfl,rfl,rfl,Lib.hid' ⟨Z6,vs6,ya,yc,za,zc,H6.out⟩,HI2⟩
  ·subst h6
   obtain ⟨c',e,hI'⟩:=HI.out.trim (by omega) (by have:=HR.out;omega) x.a
   have HC:=Zh (Trim_any x.a w3.drew HP.out H4d.out HI.out.mid.ok)
   rw [e] at HC
   simp only at HC
   have HI2:=Zh (hI'.mono (show k+1≤k+2 by omega))
   clear e hI'
   go_upto_region 19 with fail
   refine startD (S:=(fun w'=>w'.cell? ⟨NA,2,none⟩=some (.int .i64 x.a)∧w'.cell? ⟨NA,3,none⟩=some (.int .i64 x.c.k)∧w'.cell? ⟨NA,4,none⟩=some (.slice x.da x.c.d.length x.dc)∧NA<w'.heap.size)) (by kernel_rfl) ⟨b2,b3,b4,bl'⟩ (fun hH0=>?_)
   simp only [List.length_cons,List.length_nil,Nat.reduceAdd,List.replicate_succ,List.replicate_zero]
   refine tD 0 91 (ptrV c) rfl rfl [(0,ptrV c)] hH0 ?_
   dsimp only [sZ,sS]
   refine tD 1 92 (.pointer (some ⟨NA,2,none⟩)) rfl rfl [(5,.pointer (some ⟨NA,0,none⟩))] hH0 ?_
   dsimp only [sZ,sS]
   refine tD 2 93 (.int .i64 x.a) rfl rfl [(92,.pointer (some ⟨NA,2,none⟩))] hH0 ?_
   dsimp only [sZ,sS]
   refine tD 4 95 (.pointer (some ⟨bl,0,none⟩)) rfl rfl [(1,.pointer (some ⟨bl,0,none⟩))] hH0 ?_
   dsimp only [sZ,sS]
   refine tD 5 96 (.pointer (some ⟨NA,2,none⟩)) rfl rfl [(5,.pointer (some ⟨NA,0,none⟩))] hH0 ?_
   dsimp only [sZ,sS]
   refine tD 6 97 (.int .i64 x.a) rfl rfl [(96,.pointer (some ⟨NA,2,none⟩))] hH0 ?_
   dsimp only [sZ,sS]
   refine rD 3 rfl (fun K hK=>?_)
   go_simp
   refine HC.out.mono ?_
   rintro en w5 ⟨rfl,h5⟩
   have H5:=Lib.hid' h5
   clear h5 HC b0 b2 b3 b4 bl'
   refine hK.out _ _ ?_ (fun hH1=>?_)
   ·exact ⟨H5.out.side.cell 2 rfl 2 rfl,H5.out.side.cell 2 rfl 3 rfl,H5.out.side.cell 2 rfl 4 rfl,H5.out.side.lt 2 rfl⟩
   clear hK K
   try simp only [Act.put,gA,gZ,gS,sA,sZ,sS]
   refine rD 7 rfl (fun K hK=>?_)
   go_simp
   refine (mTrim_any x.a _ (H5.out.mdlAt HI.out.ok) (fun k hk=>hk.1)).mono ?_
   rintro en w6 ⟨rfl,hU,hf⟩
   obtain ⟨Z6,vs6,h6⟩:=H5.out.mdlCall hU hf
   have H6:=Lib.hid' h6
   clear h6 hU hf
   refine hK.out _ _ ?_ (fun hH2=>?_)
   ·exact ⟨H6.out.side.cell 2 rfl 2 rfl,H6.out.side.cell 2 rfl 3 rfl,H6.out.side.cell 2 rfl 4 rfl,H6.out.side.lt 2 rfl⟩
   clear hK K
   try simp only [Act.put,gA,gZ,gS,sA,sZ,sS]
   refine tD 8 7 (errV (m.trim x.a).1) rfl rfl [(94,errV (m.trim x.a).1)] hH2 ?_
   dsimp only [sZ,sS]
   refine tD 9 8 (errV (m.trim x.a).1) rfl rfl [(98,errV (m.trim x.a).1)] hH2 ?_
   dsimp only [sZ,sS]
   refine wpAnyH_done (by kernel_rfl) ?_ _
   go_wp2_with fail
   go_meet
   exact ⟨(m.trim x.a).1,0,⟨0,[]⟩,c',(m.trim x.a).2,rfl,rfl,rfl,rfl,Lib.hid' ⟨Z6,vs6,ya,yc,za,zc,H6.out⟩,HI2⟩
  ·subst h7
   obtain ⟨c',e,hI'⟩:=HI.out.cut (by omega) HR.out x.a
   have HC:=Zh (Cut_any x.a w3.drew HP.out H4d.out HI.out.mid.ok)
   rw [e] at HC
   simp only at HC
   have HI2:=Zh (hI')
   clear e hI'
   go_upto_region 5 with fail
   refine startD (S:=(fun w'=>w'.cell? ⟨NA,2,none⟩=some (.int .i64 x.a)∧w'.cell? ⟨NA,3,none⟩=some (.int .i64 x.c.k)∧w'.cell? ⟨NA,4,none⟩=some (.slice x.da x.c.d.length x.dc)∧NA<w'.heap.size)) (by kernel_rfl) ⟨b2,b3,b4,bl'⟩ (fun hH0=>?_)
   simp only [List.length_cons,List.length_nil,Nat.reduceAdd,List.replicate_succ,List.replicate_zero]
   refine tD 0 21 (ptrV c) rfl rfl [(0,ptrV c)] hH0 ?_
   dsimp only [sZ,sS]
   refine tD 1 22 (.pointer (some ⟨NA,2,none⟩)) rfl rfl [(5,.pointer (some ⟨NA,0,none⟩))] hH0 ?_
   dsimp only [sZ,sS]
   refine tD 2 23 (.int .i64 x.a) rfl rfl [(22,.pointer (some ⟨NA,2,none⟩))] hH0 ?_
   dsimp only [sZ,sS]
   refine tD 4 25 (.pointer (some ⟨bl,0,none⟩)) rfl rfl [(1,.pointer (some ⟨bl,0,none⟩))] hH0 ?_
   dsimp only [sZ,sS]
   refine tD 5 26 (.pointer (some ⟨NA,2,none⟩)) rfl rfl [(5,.pointer (some ⟨NA,0,none⟩))] hH0 ?_
   dsimp only [sZ,sS]
   refine tD 6 27 (.int .i64 x.a) rfl rfl [(26,.pointer (some ⟨NA,2,none⟩))] hH0 ?_
   dsimp only [sZ,sS]
   refine rD 3 rfl (fun K hK=>?_)
   go_simp
   refine HC.out.mono ?_
   rintro en w5 ⟨rfl,h5⟩
   have H5:=Lib.hid' h5
   clear h5 HC b0 b2 b3 b4 bl'
   refine hK.out _ _ ?_ (fun hH1=>?_)
   ·exact ⟨H5.out.side.cell 2 rfl 2 rfl,H5.out.side.cell 2 rfl 3 rfl,H5.out.side.cell 2 rfl 4 rfl,H5.out.side.lt 2 rfl⟩
   clear hK K
   try simp only [Act.put,gA,gZ,gS,sA,sZ,sS]
   refine rD 7 rfl (fun K hK=>?_)
   go_simp
   refine (mCut_any x.a _ (H5.out.mdlAt HI.out.ok) (fun k hk=>hk.1)).mono ?_
   rintro en w6 ⟨rfl,hU,hf⟩
   obtain ⟨Z6,vs6,h6⟩:=H5.out.mdlCall hU hf
   have H6:=Lib.hid' h6
   clear h6 hU hf
   refine hK.out _ _ ?_ (fun hH2=>?_)
   ·exact ⟨H6.out.side.cell 2 rfl 2 rfl,H6.out.side.cell 2 rfl 3 rfl,H6.out.side.cell 2 rfl 4 rfl,H6.out.side.lt 2 rfl⟩
   clear hK K
   try simp only [Act.put,gA,gZ,gS,sA,sZ,sS]
   refine tD 8 7 (errV (m.cut x.a).1) rfl rfl [(24,errV (m.cut x.a).1)] hH2 ?_
   dsimp only [sZ,sS]
   refine tD 9 8 (errV (m.cut x.a).1) rfl rfl [(28,errV (m.cut x.a).1)] hH2 ?_
   dsimp only [sZ,sS]
   refine wpAnyH_done (by kernel_rfl) ?_ _
   go_wp2_with fail
   go_meet
   exact ⟨(m.cut x.a).1,0,⟨0,[]⟩,c',(m.cut x.a).2,rfl,rfl,rfl,rfl,Lib.hid' ⟨Z6,vs6,ya,yc,za,zc,H6.out⟩,HI2⟩
 case rest =>
  obtain ⟨z,n,y,M',m',rfl,rfl,rfl,rfl,HA,HI2⟩:=hcut
  obtain ⟨Z5,vs5,a5,c5,a8,c8,h5⟩:=HA.out
  have HT:=Zh (ctail_any wc h5)
  rw [HI2.out.ctail] at HT
  clear b0 b2 b3 b4 bl' H4d H4 HA h5
  go_wp2_with fail
  refine HT.out.mono ?_
  rintro en w6 ⟨rfl,h6⟩
  have H6:=Lib.hid' h6
  clear h6 HT
  rw [errV_0]
  go_wp2_with fail
  refine (mtail_any w6 (H6.out.mdlAt HI2.out.ok)).mono ?_
  rintro en w7 ⟨rfl,rfl⟩
  go_wp2_with fail
  refine (num_any z w6).mono ?_
  rintro en w7 ⟨rfl,rfl⟩
  go_wp2_with fail
  refine (num_any z w6).mono ?_
  rintro en w7 ⟨rfl,rfl⟩
  have x0:=H6.out.side.cell 3 rfl 0 rfl;have x1:=H6.out.side.cell 3 rfl 1 rfl;have xl:=H6.out.side.lt 3 rfl
  have y0:=H6.out.side.cell 4 rfl 0 rfl;have y1:=H6.out.side.cell 4 rfl 1 rfl;have yl:=H6.out.side.lt 4 rfl
  have HS:=Zh (same_any (.agg #[.int .i64 y.k,.slice a5 y.d.length c5]) (.agg #[.int .i64 y.k,.slice a8 y.d.length c8]) y y w6 ⟨a5,c5,rfl,SlV.of_own (H6.out.side.row 5 rfl)⟩ ⟨a8,c8,rfl,SlV.of_own (H6.out.side.row 6 rfl)⟩)
  rw [show decide (y=y)=true by simp] at HS
  go_wp2_with fail
  refine HS.out.mono ?_
  rintro en w7 ⟨rfl,hb⟩
  have H7:=Zh (ClAt.less (K:=[_,_,_,_,_]) (((((H6.out.below hb).focus 2 rfl).focus 3 rfl).focus 4 rfl).focus 5 rfl |>.focus 6 rfl))
  clear H6 HS hb x0 x1 xl y0 y1 yl
  go_wp2_with fail
  go_ret
  exact ⟨M',m',Z5,vs5,rfl,H7.out,HI2.out⟩
end SL
end Go.Proofs.YtimbeeiihbmofaaGreatDoor

namespace Go.Proofs.YtimbeeiihbmofaaGreatDoor
open Go.RowKit
theorem differ_same {a b:M} (ht:a.t=b.t) (h:∀ p,a.u.at p=b.u.at p):(M.differ a b).2=false:=by
 unfold M.differ
 rw [findP_no]
 intro y _
 unfold M.diffAt
 rw [ht,h y]
 simp
theorem in_len:∀ (n:Nat) (l:List Int),l.Nodup→(∀ x∈l,0≤x∧x<n)→l.length≤n
 | 0,l,_,h=>by
  cases l with
  | nil=>exact Nat.le_refl _
  | cons x l=>have:=h x List.mem_cons_self;omega
 | n+1,l,hn,h=>by
  have h1:=in_len n (l.erase (n:Int)) (hn.erase _) (fun x hx=>by
   have:=h x (List.mem_of_mem_erase hx)
   have hne:x≠n:=by rintro rfl;exact absurd hx (by simpa using hn.not_mem_erase)
   omega)
  have:=List.length_erase_le (a:=(n:Int)) (l:=l)
  have h2:l.length≤(l.erase (n:Int)).length+1:=by
   by_cases hm:(n:Int)∈l
   ·rw [List.length_erase_of_mem hm];omega
   ·rw [List.erase_of_not_mem hm];omega
  omega
theorem M.few {m:M} (h:m.ok) {n:Nat} (ht:m.t≤n):m.u.cells.length≤n:=by
 have:=in_len n (m.u.cells.map (·.1)) h.u.nodup (fun x hx=>by
  obtain ⟨p,hp,rfl⟩:=List.mem_map.1 hx
  have h1:=h.u.addr p hp;have h2:=h.below p hp;have h3:=h.u.l0
  omega)
 rwa [List.length_map] at this
theorem M.cutAt {m:M} (h:m.ok) {f:Int} (h1:m.u.l≤f) (h2:f≤m.t) (h3:∀ a,f≤a→m.u.at a=⟨0,[]⟩):(m.cut f).1=0∧(m.cut f).2.t=f∧(m.cut f).2.u.l=m.u.l∧∀ a,(m.cut f).2.u.at a=m.u.at a:=by
 have hl:=h.u.l0;have ht:=h.t1
 have hi:inR f 1048576=true:=by simp [inR];omega
 have e:m.cut f=(0,⟨{ m.u with cells:=m.u.cells.filter (fun p=>!decide (f≤p.1))},f⟩):=by
  unfold M.cut
  rw [hi]
  simp [show ¬f<m.u.l by omega]
 rw [e]
 refine ⟨rfl,rfl,rfl,fun a=>?_⟩
 show (if a<m.u.l then (⟨3,[]⟩:C) else lookC (m.u.cells.filter (fun p=>!decide (f≤p.1))) a)=_
 have hf:=look_filt h.u.nodup (fun x=>!decide (f≤x)) a
 by_cases hal:a<m.u.l
 ·simp [U.at,hal]
 ·rw [if_neg hal,hf]
  have ea:m.u.at a=lookC m.u.cells a:=by simp [U.at,hal]
  by_cases hfa:f≤a
  ·rw [if_neg (by simpa using hfa),h3 a hfa]
  ·rw [if_pos (by simpa using hfa),ea]
end Go.Proofs.YtimbeeiihbmofaaGreatDoor
