/- Proved here: a part of the proof (31 of 35). -/
import Derived.Test.YtaodldbgikiekaaGreatDoorW29
import Derived.Test.YtaodldbgikiekaaGreatDoorW12
import Derived.Test.YtaodldbgikiekaaGreatDoorW8
set_option linter.unusedSimpArgs false
set_option linter.unusedVariables false
set_option maxRecDepth 100000
namespace Go.Proofs.YtaodldbgikiekaaGreatDoor
open Go.RowKit
namespace SL
open DK SH SQ
/-- a cell, with where its data lie -/
structure CE where
 c:C
 a:Option Addr
 k:Nat
def ceV (x:CE):List Value:=[.int .i64 x.c.k,.slice x.a x.c.d.length x.k]
abbrev ceA (x:CE):Asn:=.row 5 1 (.slice x.a x.c.d.length x.k) x.c.d.length (byteVs x.c.d)
structure CEs (w:World) (a:Option Addr) (k:Nat) (X:List CE):Prop where
 row:SlV w (.slice a X.length k) X.length (X.flatMap ceV)
 each:∀ x∈X,Bytes w (.slice x.a x.c.d.length x.k) x.c.d
theorem CEs.below {w w':World} {a:Option Addr} {k:Nat} {X:List CE} (h:CEs w a k X) (hb:Below w.heap.size w w'):CEs w' a k X:=⟨SlV.below h.row (Nat.le_refl _) hb,fun x hx=>SlV.below (h.each x hx) (Nat.le_refl _) hb⟩
theorem etCells:ElemT Tryz.prog 62 28 2 32:=ElemT.mk' (z:=.agg #[.int .i64 0,.slice none 0 0]) Tryz.underlying62 (by kernel_rfl) rfl (by decide) (by decide)
/-- a row of cells that the call itself has laid, as parts -/
abbrev ceR (X:List CE) (a:Option Addr) (k:Nat):Asn:=.row 28 2 (.slice a X.length k) X.length (X.flatMap ceV)
theorem ce_of {w0 w:World} {L:List Asn} {X:List CE} {a:Option Addr} {k:Nat} (h:Sep w0 NoF (ceR X a k::Asn.all (X.map ceA)::L) w):CEs w a k X :=
 ⟨SlV.of_own (h.row 0 rfl),fun x hx=>SlV.of_own (Sep.one ceA h 1 rfl hx)⟩
/-- the least low mark of units -/
def minLow (M:Cl) (l:List Int) (t:Int):Int:=l.foldl (fun t u=>min t (M.lowU u)) t
/-- cells from an address on, so many, up to the first empty one; an error's number -/
def nextR (M:Cl):Nat→Int→List C→Nat×List C
 | 0,_,X=>(0,X)
 | k+1,a,X=>if (M.read a).1≠0 then ((M.read a).1,X) else if (M.read a).2.k=0 then (0,X) else nextR M k (a+1) (X++[(M.read a).2])
theorem nextR_err {M:Cl} {k:Nat} {a:Int} {X:List C} (h:(M.read a).1≠0):nextR M (k+1) a X=((M.read a).1,X):=by show (if _ then _ else _)=_;rw [if_pos h]
theorem nextR_end {M:Cl} {k:Nat} {a:Int} {X:List C} (h:(M.read a).1=0) (h2:(M.read a).2.k=0):nextR M (k+1) a X=(0,X):=by show (if _ then _ else _)=_;rw [if_neg (by rw [h];decide),if_pos h2]
theorem nextR_on {M:Cl} {k:Nat} {a:Int} {X:List C} (h:(M.read a).1=0) (h2:(M.read a).2.k≠0):nextR M (k+1) a X=nextR M k (a+1) (X++[(M.read a).2]):=by show (if _ then _ else _)=_;rw [if_neg (by rw [h];decide),if_neg h2]
def many64 (f t:Int):Nat:=(min (f+64) t - f).toNat
/-- the next parcel: an error's number, its mark, its cells -/
def nextS (M:Cl) (f:Int):Nat×Int×List C:=if M.tail.1≠0 then (M.tail.1,0,[]) else
 if (nextR M (many64 f M.tail.2) f []).1≠0 then ((nextR M (many64 f M.tail.2) f []).1,0,[]) else (0,minLow M M.units 1048576,(nextR M (many64 f M.tail.2) f []).2)
abbrev pclV (e t f:Int) (a:Option Addr) (n k:Nat):Value:=.agg #[.int .i64 e,.int .i64 t,.int .i64 f,.slice a n k]
def NextR (c:Nat) (M:Cl) (J:CJ) (L:List Asn) (W:World) (s:Nat) (p:Sp) (en:Ending) (w':World):Prop:=∃ r,nextS M p.a=r ∧
 ((r.1≠0∧en=.returned (.tuple #[pclV 0 0 0 none 0 0,errV r.1])∧ClAt c M J (Asn.ship s p::L) W w') ∨
  (r.1=0∧∃ a k X,en=.returned (.tuple #[pclV p.e r.2.1 p.a a X.length k,.nilIface])∧ClAt c M J (ceR X a k::Asn.all (X.map ceA)::Asn.ship s p::L) W w'∧X.map (·.c)=r.2.2))
theorem stail_any {c s:Nat} {M:Cl} {J:CJ} {L:List Asn} {W:World} (w:World) (h:ClAt c M J L W w) (sl:s<w.heap.size) :
  Calls Tryz.prog 95 #[ptrV s,ptrV c] w fun en w'=>en=.returned (.tuple #[.int .i64 M.tail.2,errV M.tail.1])∧ClAt c M J L W w':=by
 have HT:=Zh (ctail_any w h)
 clear h
 go_enter Tryz.func95, Tryz.ntmps95
 go_wp2_with fail
 refine HT.out.mono ?_
 rintro en wz ⟨rfl,hz⟩
 have HZ:=Lib.hid' hz
 clear hz
 go_wp2_with fail
 go_ret2
 exact ⟨rfl,HZ.out⟩
theorem ClAt.focus {c:Nat} {M:Cl} {J:CJ} {L:List Asn} {W w:World} {A:Asn} (h:ClAt c M J L W w) (i:Nat) (hi:L[i]?=some A):ClAt c M J (A::L.eraseIdx i) W w:=h.permL (perm_get hi)
theorem ClAt.noCells {c:Nat} {M:Cl} {J:CJ} {L:List Asn} {W w:World} (h:ClAt c M J L W w):ClAt c M J (ceR [] none 0::Asn.all (([]:List CE).map ceA)::L) W w:=by
 obtain ⟨P,rfl,hP,H⟩:=ClAt.front (K:=[]) h
 exact ClAt.unfront (K:=[_,_]) hP ((Sep.none ceA H).nilRow 28 2)
set_option maxHeartbeats 16000000 in
theorem next_any {c s:Nat} {M:Cl} {J:CJ} {L:List Asn} {W:World} (p:Sp) (w:World) (h:ClAt c M J (Asn.ship s p::L) W w) (hok:M.ok) (hp:0≤p.a∧p.a≤1048576) :
  Calls Tryz.prog 46 #[ptrV s,ptrV c] w (NextR c M J L W s p):=by
 have HOK:=Lib.hid' hok
 have HS:=Zh (show nextS M p.a=if M.tail.1≠0 then (M.tail.1,0,[]) else
  if (nextR M (many64 p.a M.tail.2) p.a []).1≠0 then ((nextR M (many64 p.a M.tail.2) p.a []).1,0,[]) else (0,minLow M M.units 1048576,(nextR M (many64 p.a M.tail.2) p.a []).2) from rfl)
 have HUF:=Zh (units_facts hok)
 have hq:M.tail.1=0→0≤M.tail.2∧M.tail.2≤1048576:=by
  intro h0
  have e1:M.tail.2=M.q.n:=by
   unfold Cl.tail Q.tail at h0 ⊢
   split at h0
   ·rename_i hz;exact absurd h0 hz
   ·rename_i hz;rw [if_neg hz]
  rw [e1];exact hok.seq.n
 have HQ:=Lib.hid' hq
 clear hq
 obtain ⟨pe,pa⟩:=p
 simp only at hp HS
 obtain ⟨NR,hNR⟩:∃ n,w.heap.size=n:=⟨_,rfl⟩
 have h1:=h.allocB NR [.int .i64 0,.int .i64 0,.int .i64 0,.slice none 0 0] 66 hNR
 obtain ⟨w1,hw1⟩:∃ w1,w.alloc (.cells #[.int .i64 0,.int .i64 0,.int .i64 0,.slice none 0 0] 66)=w1:=⟨_,rfl⟩
 rw [show ([.int .i64 0,.int .i64 0,.int .i64 0,.slice none 0 0]:List Value).toArray=#[.int .i64 0,.int .i64 0,.int .i64 0,.slice none 0 0] from rfl,hw1] at h1
 have H1:=Lib.hid' h1
 have HT:=Zh (stail_any w1 h1 (h1.side.lt 1 rfl))
 clear h h1 hok
 generalize M.tail=T at *
 obtain ⟨tz,tl⟩:=T
 simp only at HT HS HQ
 go_enter Tryz.func46, Tryz.ntmps46
 go_upto_region 1 with fail
 try rw [hw1]
 try rw [hNR]
 clear hw1 hNR
 have s0:=H1.out.side.cell 1 rfl 0 rfl;have sl:=H1.out.side.lt 1 rfl
 clear H1
 go_wp2_with fail
 refine HT.out.mono ?_
 rintro en w1b ⟨rfl,h1b⟩
 have H1:=Lib.hid' h1b
 clear HT h1b s0 sl
 generalize w1b=w1 at *
 have s0:=H1.out.side.cell 1 rfl 0 rfl;have sl:=H1.out.side.lt 1 rfl
 by_cases hz:tz=0
 rotate_left
 ·have HR:=Zh (HS.out.trans (if_pos hz))
  rw [errV_pos hz]
  have HZ:=Lib.hid' hz
  have y0:=H1.out.side.cell 0 rfl 0 rfl;have y1:=H1.out.side.cell 0 rfl 1 rfl;have y2:=H1.out.side.cell 0 rfl 2 rfl;have y3:=H1.out.side.cell 0 rfl 3 rfl;have r0:=H1.out.side.free 0 rfl 0;have r1:=H1.out.side.free 0 rfl 1;have r2:=H1.out.side.free 0 rfl 2;have r3:=H1.out.side.free 0 rfl 3;have rl:=H1.out.side.lt 0 rfl
  have H2:=Zh ((((H1.out.setB 0 (.int .i64 0)).setB 1 (.int .i64 0)).setB 2 (.int .i64 0)).setB 3 (.slice none 0 0))
  clear hz HS HQ
  go_wp2_with fail
  have k0:=H2.out.side.cell 0 rfl 0 rfl;have k1:=H2.out.side.cell 0 rfl 1 rfl;have k2:=H2.out.side.cell 0 rfl 2 rfl;have k3:=H2.out.side.cell 0 rfl 3 rfl
  generalize (((w1.setCell ⟨NR,0,none⟩ (.int .i64 0)).setCell ⟨NR,1,none⟩ (.int .i64 0)).setCell ⟨NR,2,none⟩ (.int .i64 0)).setCell ⟨NR,3,none⟩ (.slice none 0 0)=w2 at *
  refine bodyPost_ret (v:=.tuple #[pclV 0 0 0 none 0 0,.iface 70 (.int .i64 tz)]) (by simp [results,Tryz.results46,go_sem,k0,k1,k2,k3]) rfl ?_
  exact ⟨_,rfl,.inl ⟨by rw [HR.out];exact HZ.out,by rw [HR.out,errV_pos HZ.out],ClAt.less (K:=[_]) H2.out⟩⟩
 subst hz
 have HS1:=Zh (HS.out.trans (if_neg (by simp)))
 obtain ⟨ht0,ht1⟩:=HQ.out rfl
 rw [errV_0]
 clear HS HQ
 go_upto_region 5 with fail
 have h2:=H1.out.allocB w1.heap.size [.int .i64 pe,.int .i64 1048576,.int .i64 0,.slice none 0 0] 66 rfl
 rw [show ([.int .i64 pe,.int .i64 1048576,.int .i64 0,.slice none 0 0]:List Value).toArray=#[.int .i64 pe,.int .i64 1048576,.int .i64 0,.slice none 0 0] from rfl] at h2
 clear s0 sl H1
 generalize w1.alloc (.cells #[.int .i64 pe,.int .i64 1048576,.int .i64 0,.slice none 0 0] 66)=w2 at *
 generalize w1.heap.size=NP at *
 have H2:=Lib.hid' h2
 have HPJ:=Zh (Projection_any w2 h2 HOK.out)
 clear h2
 go_wp2_with fail
 refine HPJ.out.mono ?_
 clear HPJ
 rintro en w3 ⟨a3,k3,X3,rfl,hX3,hc3,hb3⟩
 have hall:flatC X3=M.p.all:=by show (X3.map (·.1)).flatten=_;rw [hc3];rfl
 have HUN:=Zh (punits_any M.p.e a3 k3 X3 w3 hX3 (by rw [hall];have:=all_len (pj_ok HOK.out.proj);omega))
 rw [show pjV M.p.e a3 k3 X3=.agg #[.int .i64 M.p.e,.slice a3 X3.length k3] from rfl] at HUN
 have H3:=Zh (H2.out.below hb3)
 have HALL:=Lib.hid' hall
 clear hX3 hc3 hb3 H2 hall
 go_wp2_with fail
 refine HUN.out.mono ?_
 clear HUN
 rintro en w4 ⟨ua,uc,rfl,ho4,hb4⟩
 rw [HALL.out] at ho4 ⊢
 rw [show unitsOf M.p.all=M.units from rfl] at ho4 ⊢
 have H4:=Zh (H3.out.belowRow hb4 ho4)
 clear ho4 hb4 H3 HALL
 have hul:=HUF.out.1
 go_wp2_with fail
 go_loopw [34] (fun v34 wr=>∃ (k:Nat) (t:Int),v34=.int .i64 k∧k≤M.units.length∧Hid (minLow M (M.units.take k) 1048576=t)∧Hid (ClAt c M J (.row 3 1 (.slice ua M.units.length uc) M.units.length (zVs M.units)::.box NP [.int .i64 pe,.int .i64 t,.int .i64 0,.slice none 0 0] 66::.box NR [.int .i64 0,.int .i64 0,.int .i64 0,.slice none 0 0] 66::Asn.ship s ⟨pe,pa⟩::L) W wr)) (fun v34 _=>M.units.length - (intOf v34).toNat)
 case atStart=>exact ⟨0,1048576,rfl,Nat.zero_le _,Lib.hid' rfl,H4⟩
 case round =>
  clear H4
  obtain ⟨k,t,rfl,hk,HT,HQ⟩:=hrel
  by_cases hlt:k<M.units.length
  ·obtain ⟨b,off,rfl,hb,hc⟩:=(show Zs wr (.slice ua M.units.length uc) M.units from SlV.of_own (HQ.out.side.row 0 rfl)).at hlt
   have HUI:=Zh (HUF.out.2 _ (List.getElem_mem hlt))
   have HTK:=Zh (take_succ M.units k hlt)
   have HM8:=Lib.hid' HOK.out.many
   have q1:=HQ.out.side.cell 1 rfl 1 rfl;have ql:=HQ.out.side.lt 1 rfl
   generalize M.units[k]=u at *
   go_upto_region 8 with fail
   clear hb hc
   refine startD (S:=(fun w'=>NP<w'.heap.size)) (by kernel_rfl) ql (fun hH0=>?_)
   simp only [List.length_cons,List.length_nil,Nat.reduceAdd,List.replicate_succ,List.replicate_zero]
   refine tD 0 38 (.pointer (some ⟨NP,1,none⟩)) rfl rfl [(8,.pointer (some ⟨NP,0,none⟩))] hH0 ?_
   dsimp only [sZ,sS]
   refine tD 2 40 (.pointer (some ⟨c,0,none⟩)) rfl rfl [(1,.pointer (some ⟨c,0,none⟩))] hH0 ?_
   dsimp only [sZ,sS]
   refine tD 3 41 (.int .i64 u) rfl rfl [(10,.int .i64 u)] hH0 ?_
   dsimp only [sZ,sS]
   refine wpAnyH_ready (rs:=[1,4]) (by kernel_rfl) (by simp) (AllReadyH.cons (o:=_) rfl (fun K hK=>?_) (AllReadyH.cons (o:=_) rfl (fun K hK=>?_) AllReadyH.nil))
   ·skip
    go_simp
    refine hK.out _ _ ?_ (fun hH1=>?_)
    ·exact hH0
    clear hK K
    try simp only [Act.put,gA,gZ,gS,sA,sZ,sS]
    refine rD 4 rfl (fun K hK=>?_)
    go_simp
    have HB8:=Zh (HQ.out.below (Below.refl wr.heap.size wr).drew)
    refine (Unit_any u _ HB8.out HM8.out HUI.out).mono ?_
    rintro en w5 ⟨uv,rfl,h5,hl5⟩
    have H5:=Lib.hid' h5
    have HL5:=Lib.hid' hl5
    clear h5 hl5
    have q15:=H5.out.side.cell 1 rfl 1 rfl;have ql5:=H5.out.side.lt 1 rfl;have qf5:=H5.out.side.free 1 rfl 1
    refine hK.out _ _ ?_ (fun hH2=>?_)
    ·exact ql5
    clear hK K
    try simp only [Act.put,gA,gZ,gS,sA,sZ,sS]
    refine rD 5 rfl (fun K hK=>?_)
    go_simp
    refine HL5.out.mono ?_
    rintro en wz ⟨rfl,rfl⟩
    refine hK.out _ _ ?_ (fun hH3=>?_)
    ·exact ql5
    clear hK K
    try simp only [Act.put,gA,gZ,gS,sA,sZ,sS]
    refine rD 6 rfl (fun K hK=>?_)
    go_simp
    refine hK.out _ _ ?_ (fun hH4=>?_)
    ·exact hH3
    clear hK K
    try simp only [Act.put,gA,gZ,gS,sA,sZ,sS]
    refine tD 7 45 (.pointer (some ⟨NP,1,none⟩)) rfl rfl [(8,.pointer (some ⟨NP,0,none⟩))] hH4 ?_
    dsimp only [sZ,sS]
    refine rD 8 rfl (fun K hK=>?_)
    go_simp
    have H6:=Zh ((H5.out.swapB.setB 1 (.int .i64 (min t (M.lowU u)))).swapB)
    refine hK.out _ _ ?_ (fun hH5=>?_)
    ·exact H6.out.side.lt 1 rfl
    clear hK K
    refine wpAnyH_done (by kernel_rfl) ?_ _
    clear HL5 H5 HB8 HQ
    go_wp2_with fail
    go_roundw
    case rel=>exact ⟨k+1,min t (M.lowU u),by go_num,by omega,Zh (by rw [HTK.out];unfold minLow;rw [List.foldl_append,show List.foldl (fun t u=>min t (M.lowU u)) 1048576 (M.units.take k)=t from HT.out];rfl),H6⟩
    case measure=>simp [intOf];omega
   ·skip
    go_simp
    have HB8:=Zh (HQ.out.below (Below.refl wr.heap.size wr).drew)
    refine (Unit_any u _ HB8.out HM8.out HUI.out).mono ?_
    rintro en w5 ⟨uv,rfl,h5,hl5⟩
    have H5:=Lib.hid' h5
    have HL5:=Lib.hid' hl5
    clear h5 hl5
    have q15:=H5.out.side.cell 1 rfl 1 rfl;have ql5:=H5.out.side.lt 1 rfl;have qf5:=H5.out.side.free 1 rfl 1
    refine hK.out _ _ ?_ (fun hH1=>?_)
    ·exact ql5
    clear hK K
    try simp only [Act.put,gA,gZ,gS,sA,sZ,sS]
    refine wpAnyH_ready (rs:=[1,5]) (by kernel_rfl) (by simp) (AllReadyH.cons (o:=_) rfl (fun K hK=>?_) (AllReadyH.cons (o:=_) rfl (fun K hK=>?_) AllReadyH.nil))
    ·skip
     go_simp
     refine hK.out _ _ ?_ (fun hH2=>?_)
     ·exact hH1
     clear hK K
     try simp only [Act.put,gA,gZ,gS,sA,sZ,sS]
     refine rD 5 rfl (fun K hK=>?_)
     go_simp
     refine HL5.out.mono ?_
     rintro en wz ⟨rfl,rfl⟩
     refine hK.out _ _ ?_ (fun hH3=>?_)
     ·exact ql5
     clear hK K
     try simp only [Act.put,gA,gZ,gS,sA,sZ,sS]
     refine rD 6 rfl (fun K hK=>?_)
     go_simp
     refine hK.out _ _ ?_ (fun hH4=>?_)
     ·exact hH3
     clear hK K
     try simp only [Act.put,gA,gZ,gS,sA,sZ,sS]
     refine tD 7 45 (.pointer (some ⟨NP,1,none⟩)) rfl rfl [(8,.pointer (some ⟨NP,0,none⟩))] hH4 ?_
     dsimp only [sZ,sS]
     refine rD 8 rfl (fun K hK=>?_)
     go_simp
     have H6:=Zh ((H5.out.swapB.setB 1 (.int .i64 (min t (M.lowU u)))).swapB)
     refine hK.out _ _ ?_ (fun hH5=>?_)
     ·exact H6.out.side.lt 1 rfl
     clear hK K
     refine wpAnyH_done (by kernel_rfl) ?_ _
     clear HL5 H5 HB8 HQ
     go_wp2_with fail
     go_roundw
     case rel=>exact ⟨k+1,min t (M.lowU u),by go_num,by omega,Zh (by rw [HTK.out];unfold minLow;rw [List.foldl_append,show List.foldl (fun t u=>min t (M.lowU u)) 1048576 (M.units.take k)=t from HT.out];rfl),H6⟩
     case measure=>simp [intOf];omega
    ·skip
     go_simp
     refine HL5.out.mono ?_
     rintro en wz ⟨rfl,rfl⟩
     refine hK.out _ _ ?_ (fun hH2=>?_)
     ·exact ql5
     clear hK K
     try simp only [Act.put,gA,gZ,gS,sA,sZ,sS]
     refine rD 1 rfl (fun K hK=>?_)
     go_simp
     refine hK.out _ _ ?_ (fun hH3=>?_)
     ·exact hH2
     clear hK K
     try simp only [Act.put,gA,gZ,gS,sA,sZ,sS]
     refine rD 6 rfl (fun K hK=>?_)
     go_simp
     refine hK.out _ _ ?_ (fun hH4=>?_)
     ·exact hH3
     clear hK K
     try simp only [Act.put,gA,gZ,gS,sA,sZ,sS]
     refine tD 7 45 (.pointer (some ⟨NP,1,none⟩)) rfl rfl [(8,.pointer (some ⟨NP,0,none⟩))] hH4 ?_
     dsimp only [sZ,sS]
     refine rD 8 rfl (fun K hK=>?_)
     go_simp
     have H6:=Zh ((H5.out.swapB.setB 1 (.int .i64 (min t (M.lowU u)))).swapB)
     refine hK.out _ _ ?_ (fun hH5=>?_)
     ·exact H6.out.side.lt 1 rfl
     clear hK K
     refine wpAnyH_done (by kernel_rfl) ?_ _
     clear HL5 H5 HB8 HQ
     go_wp2_with fail
     go_roundw
     case rel=>exact ⟨k+1,min t (M.lowU u),by go_num,by omega,Zh (by rw [HTK.out];unfold minLow;rw [List.foldl_append,show List.foldl (fun t u=>min t (M.lowU u)) 1048576 (M.units.take k)=t from HT.out];rfl),H6⟩
     case measure=>simp [intOf];omega
  have HLO:=Zh (show minLow M M.units 1048576=t by rw [←HT.out,List.take_of_length_le (by omega)])
  have H5:=Lib.hid' HQ.out
  have s1:=H5.out.side.cell 3 rfl 1 rfl;have sl:=H5.out.side.lt 3 rfl
  have p2:=H5.out.side.cell 1 rfl 2 rfl;have pf:=H5.out.side.free 1 rfl 2;have pl:=H5.out.side.lt 1 rfl
  clear HT HQ
  go_wp2_with fail
  refine (sacked_any _ s1 sl).mono ?_
  rintro en wz ⟨rfl,rfl⟩
  have h6:=((H5.out.focus 1 rfl).setB 2 (.int .i64 pa)).swapB
  have h7:=(ClAt.less (K:=[_]) h6).noCells
  have H7:=Lib.hid' h7
  go_upto_region 13 with fail
  clear h6 h7 s1 sl p2 pf pl H5
  generalize wr.setCell ⟨NP,2,none⟩ (.int .i64 pa)=w7 at *
  go_loopw [12] (fun v12 wr=>∃ (n:Nat) (X:List CE) (ra:Option Addr) (rk:Nat),v12=.int .i64 (pa+n)∧n≤many64 pa tl∧X.length=n∧Hid (ClAt c M J (ceR X ra rk::Asn.all (X.map ceA)::.box NP [.int .i64 pe,.int .i64 t,.int .i64 pa,.slice ra X.length rk] 66::.box NR [.int .i64 0,.int .i64 0,.int .i64 0,.slice none 0 0] 66::Asn.ship s ⟨pe,pa⟩::L) W wr)∧Hid (nextR M (many64 pa tl) pa []=nextR M (many64 pa tl - n) (pa+n) (X.map (·.c)))) (fun v12 _=>many64 pa tl - (intOf v12 - pa).toNat)
  case atStart=>exact ⟨0,[],none,0,by simp,Nat.zero_le _,rfl,H7,Zh (by simp)⟩
  case round =>
   clear H7
   obtain ⟨n,X,ra,rk,rfl,hn,hXn,HC,HN⟩:=hrel
   have HXN:=Lib.hid' hXn
   clear hXn
   have hm64:many64 pa tl≤64:=by unfold many64;omega
   by_cases hlt:n<many64 pa tl
   ·have hcm:pa+(n:Int)<min (pa+64) tl:=by unfold many64 at hlt;omega
    have hr0:0≤pa+(n:Int):=by omega
    have hr1:pa+(n:Int)≤1048575:=by omega
    obtain ⟨m,hm⟩:∃ m,many64 pa tl - n=m+1:=⟨many64 pa tl - n - 1,by omega⟩
    rw [hm] at HN
    have HM:=Lib.hid' hm
    have HRD:=Zh (Read_any (pa+n) wr HC.out HOK.out)
    have HE1:=Zh (fun h=>nextR_err (M:=M) (k:=m) (a:=pa+n) (X:=X.map (·.c)) h)
    have HE2:=Zh (fun h h2=>nextR_end (M:=M) (k:=m) (a:=pa+n) (X:=X.map (·.c)) h h2)
    have HE3:=Zh (fun h h2=>nextR_on (M:=M) (k:=m) (a:=pa+n) (X:=X.map (·.c)) h h2)
    clear hm
    generalize M.read (pa+n)=rd at *
    obtain ⟨z,x⟩:=rd
    simp only at HRD HE1 HE2 HE3
    have HLT:=Lib.hid' hlt
    go_wp2_with fail
    refine HRD.out.mono ?_
    clear HRD
    rintro en w5 ⟨a5,c5,rfl,ho5,hb5⟩
    have h5:=HC.out.belowRow hb5 ho5
    have h6:=h5.allocB w5.heap.size [.int .i64 x.k,.slice a5 x.d.length c5] 28 rfl
    rw [show ([.int .i64 x.k,.slice a5 x.d.length c5]:List Value).toArray=#[.int .i64 x.k,.slice a5 x.d.length c5] from rfl] at h6
    have H6:=Lib.hid' h6
    clear h5 h6 ho5 hb5 HC
    by_cases hz:z=0
    rotate_left
    ·have HR:=Zh (show nextS M pa=(z,0,[]) by rw [HS1.out,HN.out,HE1.out hz,if_pos hz])
     have HZ:=Lib.hid' hz
     rw [errV_pos hz]
     clear hz HE1 HE2 HE3 HS1
     go_upto_region 16 with fail
     generalize w5.alloc (.cells #[.int .i64 x.k,.slice a5 x.d.length c5] 28)=w6 at *
     have r0:=H6.out.side.free 5 rfl 0;have r1:=H6.out.side.free 5 rfl 1;have r2:=H6.out.side.free 5 rfl 2;have r3:=H6.out.side.free 5 rfl 3;have rl:=H6.out.side.lt 5 rfl
     have y0:=H6.out.side.cell 5 rfl 0 rfl;have y1:=H6.out.side.cell 5 rfl 1 rfl;have y2:=H6.out.side.cell 5 rfl 2 rfl;have y3:=H6.out.side.cell 5 rfl 3 rfl
     have H8:=Zh (((((H6.out.focus 5 rfl).setB 0 (.int .i64 0)).setB 1 (.int .i64 0)).setB 2 (.int .i64 0)).setB 3 (.slice none 0 0))
     go_wp2_with fail
     have k0:=H8.out.side.cell 0 rfl 0 rfl;have k1:=H8.out.side.cell 0 rfl 1 rfl;have k2:=H8.out.side.cell 0 rfl 2 rfl;have k3:=H8.out.side.cell 0 rfl 3 rfl
     generalize (((w6.setCell ⟨NR,0,none⟩ (.int .i64 0)).setCell ⟨NR,1,none⟩ (.int .i64 0)).setCell ⟨NR,2,none⟩ (.int .i64 0)).setCell ⟨NR,3,none⟩ (.slice none 0 0)=w8 at *
     refine bodyPost_ret (v:=.tuple #[pclV 0 0 0 none 0 0,.iface 70 (.int .i64 z)]) (by simp [results,Tryz.results46,go_sem,k0,k1,k2,k3]) rfl ?_
     exact ⟨_,rfl,.inl ⟨by rw [HR.out];exact HZ.out,by rw [HR.out,errV_pos HZ.out],ClAt.less (K:=[_,_,_,_,_,_]) H8.out⟩⟩
    subst hz
    rw [errV_0]
    by_cases hk0:x.k=0
    ·have HR:=Zh (show nextS M pa=(0,t,X.map (·.c)) by rw [HS1.out,HN.out,HE2.out rfl hk0,if_neg (by simp),HLO.out])
     clear HE1 HE2 HE3 HS1
     obtain ⟨xk,xd⟩:=x
     simp only at hk0 H6 ⊢
     subst hk0
     go_upto_region 18 with fail
     generalize w5.alloc (.cells #[.int .i64 0,.slice a5 xd.length c5] 28)=w6 at *
     generalize w5.heap.size=N13 at *
     have x0:=H6.out.side.cell 0 rfl 0 rfl;have xl:=H6.out.side.lt 0 rfl
     have y0:=H6.out.side.cell 4 rfl 0 rfl;have y1:=H6.out.side.cell 4 rfl 1 rfl;have y2:=H6.out.side.cell 4 rfl 2 rfl;have y3:=H6.out.side.cell 4 rfl 3 rfl;have yl:=H6.out.side.lt 4 rfl
     have r0:=H6.out.side.free 5 rfl 0;have r1:=H6.out.side.free 5 rfl 1;have r2:=H6.out.side.free 5 rfl 2;have r3:=H6.out.side.free 5 rfl 3;have rl:=H6.out.side.lt 5 rfl
     have u0:=H6.out.side.cell 5 rfl 0 rfl;have u1:=H6.out.side.cell 5 rfl 1 rfl;have u2:=H6.out.side.cell 5 rfl 2 rfl;have u3:=H6.out.side.cell 5 rfl 3 rfl
     have H8:=Zh (((((H6.out.focus 5 rfl).setB 0 (.int .i64 pe)).setB 1 (.int .i64 t)).setB 2 (.int .i64 pa)).setB 3 (.slice ra X.length rk))
     go_wp2_with fail
     have k0:=H8.out.side.cell 0 rfl 0 rfl;have k1:=H8.out.side.cell 0 rfl 1 rfl;have k2:=H8.out.side.cell 0 rfl 2 rfl;have k3:=H8.out.side.cell 0 rfl 3 rfl
     generalize (((w6.setCell ⟨NR,0,none⟩ (.int .i64 pe)).setCell ⟨NR,1,none⟩ (.int .i64 t)).setCell ⟨NR,2,none⟩ (.int .i64 pa)).setCell ⟨NR,3,none⟩ (.slice ra X.length rk)=w8 at *
     refine bodyPost_ret (v:=.tuple #[pclV pe t pa ra X.length rk,.nilIface]) (by simp [results,Tryz.results46,go_sem,k0,k1,k2,k3]) rfl ?_
     exact ⟨_,rfl,.inr ⟨by rw [HR.out],ra,rk,X,by rw [HR.out],(ClAt.less (K:=[_,_,_]) H8.out).sub (((List.sublist_cons_self _ _).cons_cons _).cons_cons _),by rw [HR.out]⟩⟩
    ·have HR:=Zh (show nextR M (many64 pa tl) pa []=nextR M m (pa+n+1) (X.map (·.c)++[x]) by rw [HN.out,HE3.out rfl hk0])
     clear HE1 HE2 HE3 HN
     go_upto_region 18 with fail
     generalize w5.alloc (.cells #[.int .i64 x.k,.slice a5 x.d.length c5] 28)=w6 at *
     generalize w5.heap.size=N13 at *
     have x0:=H6.out.side.cell 0 rfl 0 rfl;have x1:=H6.out.side.cell 0 rfl 1 rfl;have xl:=H6.out.side.lt 0 rfl
     have p3:=H6.out.side.cell 4 rfl 3 rfl;have pl:=H6.out.side.lt 4 rfl
     obtain ⟨P,hPJ,hP,h8⟩:=ClAt.front (K:=[_,_,_,_,_,_,_]) H6.out
     have hX64:X.length≤64:=by have:=HXN.out;omega
     go_wp2_with (at_builtin;refine Sep.append etCells rfl (.tmp 76) (.tmp 78) rfl [.int .i64 x.k,.slice a5 x.d.length c5] rfl h8 2 rfl rfl rfl (by simp [Value.oneCell']) (by omega) ?_;intro a7 c7 w7 H7;have p3:=H7.cell 4 rfl 3 rfl;have pf:=H7.free 4 rfl 3;have pl:=H7.lt 4 rfl)
     have H8:=H7.set 4 rfl 3 (.slice a7 (X.length+1) c7)
     have H9:=((((((H8.focus 4 rfl).focus 4 rfl):Sep W NoF (ceA ⟨x,a5,c5⟩::Asn.all (X.map ceA)::_) _).push (f:=ceA) (Ks:=X) (y:=⟨x,a5,c5⟩)).focus 2 rfl).drop 3)
     have hro:Asn.row 28 2 (.slice a7 (X.length+1) c7) (X.length+1) (X.flatMap ceV++[.int .i64 x.k,.slice a5 x.d.length c5])=ceR (X++[⟨x,a5,c5⟩]) a7 c7:=by
      show _=Asn.row _ _ _ _ _
      rw [List.length_append,List.flatMap_append]
      rfl
     rw [hro] at H9
     have HD:=Zh (ClAt.unfront (w:=w7.setCell ⟨NP,3,none⟩ (.slice a7 (X.length+1) c7)) (K:=[ceR (X++[(⟨x,a5,c5⟩:CE)]) a7 c7,Asn.all ((X++[(⟨x,a5,c5⟩:CE)]).map ceA),.box NP [.int .i64 pe,.int .i64 t,.int .i64 pa,.slice a7 (X.length+1) c7] 66,.box NR [.int .i64 0,.int .i64 0,.int .i64 0,.slice none 0 0] 66,Asn.ship s ⟨pe,pa⟩]) hP H9)
     rw [hPJ] at HD
     have HLN:=Zh (show (X++[(⟨x,a5,c5⟩:CE)]).length=X.length+1 by simp)
     clear H7 H8 H9 p3 pf pl hro
     go_roundw
     case rel=>exact ⟨n+1,X++[⟨x,a5,c5⟩],a7,c7,by go_num,by have:=HLT.out;omega,by rw [HLN.out,HXN.out],by rw [HLN.out];exact HD,Zh (by rw [HR.out,show many64 pa tl - (n+1)=m by have:=HM.out;omega];simp [Int.add_assoc])⟩
     case measure=>have:=HLT.out;simp [intOf];omega
   ·have hcm:¬pa+(n:Int)<min (pa+64) tl:=by unfold many64 at hlt hn;omega
    have HR:=Zh (show nextS M pa=(0,t,X.map (·.c)) by rw [HS1.out,HN.out,show many64 pa tl - n=0 by omega,if_neg (by simp [nextR]),HLO.out];rfl)
    clear HN HS1
    go_upto_region 20 with fail
    have y0:=HC.out.side.cell 2 rfl 0 rfl;have y1:=HC.out.side.cell 2 rfl 1 rfl;have y2:=HC.out.side.cell 2 rfl 2 rfl;have y3:=HC.out.side.cell 2 rfl 3 rfl;have yl:=HC.out.side.lt 2 rfl
    have r0:=HC.out.side.free 3 rfl 0;have r1:=HC.out.side.free 3 rfl 1;have r2:=HC.out.side.free 3 rfl 2;have r3:=HC.out.side.free 3 rfl 3;have rl:=HC.out.side.lt 3 rfl
    have u0:=HC.out.side.cell 3 rfl 0 rfl;have u1:=HC.out.side.cell 3 rfl 1 rfl;have u2:=HC.out.side.cell 3 rfl 2 rfl;have u3:=HC.out.side.cell 3 rfl 3 rfl
    have H8:=Zh (((((HC.out.focus 3 rfl).setB 0 (.int .i64 pe)).setB 1 (.int .i64 t)).setB 2 (.int .i64 pa)).setB 3 (.slice ra X.length rk))
    go_wp2_with fail
    have k0:=H8.out.side.cell 0 rfl 0 rfl;have k1:=H8.out.side.cell 0 rfl 1 rfl;have k2:=H8.out.side.cell 0 rfl 2 rfl;have k3:=H8.out.side.cell 0 rfl 3 rfl
    generalize (((wr.setCell ⟨NR,0,none⟩ (.int .i64 pe)).setCell ⟨NR,1,none⟩ (.int .i64 t)).setCell ⟨NR,2,none⟩ (.int .i64 pa)).setCell ⟨NR,3,none⟩ (.slice ra X.length rk)=w8 at *
    refine bodyPost_ret (v:=.tuple #[pclV pe t pa ra X.length rk,.nilIface]) (by simp [results,Tryz.results46,go_sem,k0,k1,k2,k3]) rfl ?_
    exact ⟨_,rfl,.inr ⟨by rw [HR.out],ra,rk,X,by rw [HR.out],(ClAt.less (K:=[_]) H8.out).sub (((List.sublist_cons_self _ _).cons_cons _).cons_cons _),by rw [HR.out]⟩⟩
theorem apin_any (x m:Int) (w:World):Calls Tryz.prog 33 #[.int .i64 x,.int .i64 m] w fun e w'=>e=.returned (.bool (inB x m))∧w=w':=by
 have HB:=Zh (show inB x m=(decide (0≤x)&&decide (x≤m)) from rfl)
 by_cases h0:0≤x
 ·by_cases h1:x≤m
  ·go_enter Tryz.func33, Tryz.ntmps33
   go_wp2
   go_ret
   rw [HB.out]
   exact ⟨by simp [h0,h1],rfl⟩
  ·go_enter Tryz.func33, Tryz.ntmps33
   go_wp2
   go_ret
   rw [HB.out]
   exact ⟨by simp [h0,h1],rfl⟩
 ·go_enter Tryz.func33, Tryz.ntmps33
  go_wp2
  go_ret
  rw [HB.out]
  exact ⟨by simp;omega,rfl⟩
theorem pcin_any (x m:Int) (w:World):Calls Tryz.prog 76 #[.int .i64 x,.int .i64 m] w fun e w'=>e=.returned (.bool (inB x m))∧w=w':=by
 have HB:=Zh (show inB x m=(decide (0≤x)&&decide (x≤m)) from rfl)
 by_cases h0:0≤x
 ·by_cases h1:x≤m
  ·go_enter Tryz.func76, Tryz.ntmps76
   go_wp2
   go_ret
   rw [HB.out]
   exact ⟨by simp [h0,h1],rfl⟩
  ·go_enter Tryz.func76, Tryz.ntmps76
   go_wp2
   go_ret
   rw [HB.out]
   exact ⟨by simp [h0,h1],rfl⟩
 ·go_enter Tryz.func76, Tryz.ntmps76
  go_wp2
  go_ret
  rw [HB.out]
  exact ⟨by simp;omega,rfl⟩
/-- an applier: its epoch, up to where all was applied -/
abbrev _root_.Go.Proofs.YtaodldbgikiekaaGreatDoor.Asn.appl (b:Nat) (x:Sp):Asn:=.box b [.int .i64 x.e,.int .i64 x.a] 87
def NewAp (e a:Int) (w:World) (en:Ending) (w':World):Prop:=if inB e 1099511627776=false∨inB a 1048576=false then en=.returned (.tuple #[.pointer none,errV 1])∧w=w' else en=.returned (.tuple #[ptrV w.heap.size,.nilIface])∧Sep w NoF [Asn.appl w.heap.size ⟨e,a⟩] w'
set_option maxHeartbeats 4000000 in
theorem anew_any (e a:Int) (w:World):Calls Tryz.prog 13 #[.int .i64 e,.int .i64 a] w (NewAp e a w):=by
 have HN:=fun en w'=>Zh (show NewAp e a w en w'=if inB e 1099511627776=false∨inB a 1048576=false then en=.returned (.tuple #[.pointer none,errV 1])∧w=w' else en=.returned (.tuple #[ptrV w.heap.size,.nilIface])∧Sep w NoF [Asn.appl w.heap.size ⟨e,a⟩] w' from rfl)
 cases hi1:inB e 1099511627776 with
 | false =>
  have HR:=fun en w'=>Zh ((HN en w').out.trans (if_pos (.inl hi1)))
  go_enter Tryz.func13, Tryz.ntmps13
  go_wp2_with (go_at_call 33;refine (apin_any _ _ _).mono ?_;rintro en w' ⟨rfl,rfl⟩)
  go_ret2
  rw [(HR _ _).out]
  exact ⟨rfl,rfl⟩
 | true =>
  cases hi2:inB a 1048576 with
  | false =>
   have HR:=fun en w'=>Zh ((HN en w').out.trans (if_pos (.inr hi2)))
   go_enter Tryz.func13, Tryz.ntmps13
   go_wp2_with (go_at_call 33;refine (apin_any _ _ _).mono ?_;rintro en w' ⟨rfl,rfl⟩)
   go_ret2
   rw [(HR _ _).out]
   exact ⟨rfl,rfl⟩
  | true =>
   have HR:=fun en w'=>Zh ((HN en w').out.trans (if_neg (by rw [hi1,hi2];decide)))
   have HS1:=Zh (show Sep w NoF [.box w.heap.size [.int .i64 e,.int .i64 a] 87] (w.alloc (.cells #[.int .i64 e,.int .i64 a] 87)) from (Sep.start w).allocAt w.heap.size [.int .i64 e,.int .i64 a] 87 rfl)
   go_enter Tryz.func13, Tryz.ntmps13
   go_wp2_with (go_at_call 33;refine (apin_any _ _ _).mono ?_;rintro en w' ⟨rfl,rfl⟩)
   go_ret2
   rw [(HR _ _).out]
   exact ⟨rfl,HS1.out⟩
theorem aapplied_any {b:Nat} {a:Int} (w:World) (c1:w.cell? ⟨b,1,none⟩=some (.int .i64 a)) (bl:b<w.heap.size):Calls Tryz.prog 9 #[ptrV b] w fun e w'=>e=.returned (.int .i64 a)∧w=w':=by
 go_enter Tryz.func9, Tryz.ntmps9
 go_wp2_with fail
 go_ret
 exact ⟨rfl,rfl⟩
theorem aepoch_any {b:Nat} {a:Int} (w:World) (c1:w.cell? ⟨b,0,none⟩=some (.int .i64 a)) (bl:b<w.heap.size):Calls Tryz.prog 85 #[ptrV b] w fun e w'=>e=.returned (.int .i64 a)∧w=w':=by
 go_enter Tryz.func85, Tryz.ntmps85
 go_wp2_with fail
 go_ret
 exact ⟨rfl,rfl⟩
set_option maxHeartbeats 2000000 in
theorem areceipt_any {b:Nat} {x:Sp} {L:List Asn} {W:World} (w:World) (i:Nat) (h:Sep W NoF L w) (hi:L[i]?=some (Asn.appl b x)):Calls Tryz.prog 38 #[ptrV b] w fun e w'=>e=.returned (.agg #[.int .i64 x.e,.int .i64 x.a])∧Below w.heap.size w w':=by
 obtain ⟨e,a⟩:=x
 have c0:=h.cell i hi 0 rfl;have c1:=h.cell i hi 1 rfl;have bl:=h.lt i hi
 have hs1:Sep w NoF [.box w.heap.size [.int .i64 0,.int .i64 0] 59] (w.alloc (.cells #[.int .i64 0,.int .i64 0] 59)):=(Sep.start w).allocAt w.heap.size [.int .i64 0,.int .i64 0] 59 rfl
 have d0:=(hs1.toBelow.cell (p:=⟨b,0,none⟩) bl).trans c0
 have d1:=(hs1.toBelow.cell (p:=⟨b,1,none⟩) bl).trans c1
 have dl:b<(w.alloc (.cells #[.int .i64 0,.int .i64 0] 59)).heap.size:=Nat.lt_of_lt_of_le bl hs1.toBelow.size
 have q0:=hs1.cell 0 rfl 0 rfl;have q1:=hs1.cell 0 rfl 1 rfl;have f0:=hs1.free 0 rfl 0;have f1:=hs1.free 0 rfl 1;have ql:=hs1.lt 0 rfl
 have H2:=Zh ((hs1.set 0 rfl 0 (.int .i64 e)).set 0 rfl 1 (.int .i64 a))
 clear h hi c0 c1 bl hs1
 go_enter Tryz.func38, Tryz.ntmps38
 go_upto_region 1 with fail
 generalize w.alloc (.cells #[.int .i64 0,.int .i64 0] 59)=w1 at *
 generalize hN:w.heap.size=N at *
 have HN:=Lib.hid' hN
 clear hN
 go_wp2_with (first | (go_at_call 85;refine (aepoch_any _ d0 dl).mono ?_;rintro en w' ⟨rfl,rfl⟩) | (go_at_call 9;refine (aapplied_any _ d1 dl).mono ?_;rintro en w' ⟨rfl,rfl⟩))
 have k0:=H2.out.cell 0 rfl 0 rfl;have k1:=H2.out.cell 0 rfl 1 rfl
 have HB:=Lib.hid' H2.out.toBelow
 clear q0 q1 f0 f1 ql d0 d1 dl H2
 generalize (w1.setCell ⟨N,0,none⟩ (.int .i64 e)).setCell ⟨N,1,none⟩ (.int .i64 a)=w2 at *
 refine bodyPost_ret (v:=.agg #[.int .i64 e,.int .i64 a]) (by simp [results,Tryz.results38,go_sem,k0,k1]) rfl ?_
 exact ⟨rfl,HB.out⟩
/-- a cluster gets a mark -/
def markS (M:Cl) (b:Int):Nat×Cl:=if b≤minLow M M.units 1048576 then (0,M) else M.trim b
set_option maxHeartbeats 8000000 in
theorem mark_any {c:Nat} {M:Cl} {J:CJ} {L:List Asn} {W:World} (b:Int) (w:World) (hp:Pow W) (h:ClAt c M J L W w) (hok:M.ok) :
  Calls Tryz.prog 37 #[ptrV c,.int .i64 b] w fun en w'=>en=.returned (errV (markS M b).1)∧ClAt c (markS M b).2 J L W w':=by
 have HP:=Lib.hid' hp
 have HOK:=Lib.hid' hok
 have HUF:=Zh (units_facts hok)
 have HF:=Zh (show markS M b=if b≤minLow M M.units 1048576 then (0,M) else M.trim b from rfl)
 have H0:=Lib.hid' h
 have HPJ:=Zh (Projection_any w h hok)
 clear hp hok h
 go_enter Tryz.func37, Tryz.ntmps37
 go_wp2_with fail
 refine HPJ.out.mono ?_
 clear HPJ
 rintro en w3 ⟨a3,k3,X3,rfl,hX3,hc3,hb3⟩
 have hall:flatC X3=M.p.all:=by show (X3.map (·.1)).flatten=_;rw [hc3];rfl
 have HUN:=Zh (punits_any M.p.e a3 k3 X3 w3 hX3 (by rw [hall];have:=all_len (pj_ok HOK.out.proj);omega))
 rw [show pjV M.p.e a3 k3 X3=.agg #[.int .i64 M.p.e,.slice a3 X3.length k3] from rfl] at HUN
 have H3:=Zh (H0.out.below hb3)
 have HALL:=Lib.hid' hall
 clear hX3 hc3 hb3 H0 hall
 go_wp2_with fail
 refine HUN.out.mono ?_
 clear HUN
 rintro en w4 ⟨ua,uc,rfl,ho4,hb4⟩
 rw [HALL.out] at ho4 ⊢
 rw [show unitsOf M.p.all=M.units from rfl] at ho4 ⊢
 have H4:=Zh (H3.out.belowRow hb4 ho4)
 clear ho4 hb4 H3 HALL
 have hul:=HUF.out.1
 go_wp2_with fail
 go_loopw [5,12] (fun v5 v12 wr=>∃ (k:Nat) (t:Int),v5=.int .i64 t∧v12=.int .i64 k∧k≤M.units.length∧Hid (minLow M (M.units.take k) 1048576=t)∧Hid (ClAt c M J (.row 3 1 (.slice ua M.units.length uc) M.units.length (zVs M.units)::L) W wr)) (fun _ v12 _=>M.units.length - (intOf v12).toNat)
 case atStart=>exact ⟨0,1048576,rfl,rfl,Nat.zero_le _,Lib.hid' rfl,H4⟩
 case round =>
  clear H4
  obtain ⟨k,t,rfl,rfl,hk,HT,HQ⟩:=hrel
  by_cases hlt:k<M.units.length
  ·obtain ⟨bb,off,rfl,hb,hc⟩:=(show Zs wr (.slice ua M.units.length uc) M.units from SlV.of_own (HQ.out.side.row 0 rfl)).at hlt
   have HUI:=Zh (HUF.out.2 _ (List.getElem_mem hlt))
   have HTK:=Zh (take_succ M.units k hlt)
   generalize M.units[k]=u at *
   go_wp2_with fail
   refine (Unit_any u _ HQ.out HOK.out.many HUI.out).mono ?_
   rintro en w5 ⟨uv,rfl,h5,hl5⟩
   have H5:=Lib.hid' h5
   clear h5 HQ hc hb
   go_wp2_with fail
   refine hl5.mono ?_
   rintro en wz ⟨rfl,rfl⟩
   go_wp2_with fail
   go_roundw
   case rel=>exact ⟨k+1,min t (M.lowU u),rfl,by go_num,by omega,Zh (by rw [HTK.out];unfold minLow;rw [List.foldl_append,show List.foldl (fun t u=>min t (M.lowU u)) 1048576 (M.units.take k)=t from HT.out];rfl),H5⟩
   case measure=>simp [intOf];omega
  ·have HLO:=Zh (show minLow M M.units 1048576=t by rw [←HT.out,List.take_of_length_le (by omega)])
   have H5:=Zh (ClAt.less (K:=[_]) HQ.out)
   clear HT HQ
   by_cases hbt:b≤t
   ·have HR:=Zh (show markS M b=(0,M) by rw [HF.out,HLO.out,if_pos hbt])
    clear HF HLO
    go_wp2_with fail
    go_ret
    rw [HR.out]
    exact ⟨rfl,H5.out⟩
   ·have HR:=Zh (show markS M b=M.trim b by rw [HF.out,HLO.out,if_neg hbt])
    clear HF HLO
    go_wp2_with fail
    refine (Trim_any b _ HP.out H5.out HOK.out).mono ?_
    rintro en w6 ⟨rfl,h6⟩
    have H6:=Lib.hid' h6
    clear h6
    go_wp2_with fail
    go_ret
    rw [HR.out]
    exact ⟨rfl,H6.out⟩
theorem segEnd_any (f:Int) (a:Option Addr) (n k:Nat) (w:World) (hf:0≤f∧f≤1048576) (hn:n≤1048576):Calls Tryz.prog 79 #[.agg #[.int .i64 f,.slice a n k]] w fun e w'=>e=.returned (.int .i64 (f+n))∧Below w.heap.size w w':=by
 go_enter Tryz.func79, Tryz.ntmps79
 go_wp2_with fail
 go_ret
 exact ⟨rfl,by go_grown⟩
def chkCs:List C→Nat
 | []=>0
 | x::l=>if x.check≠0 then x.check else chkCs l
def segC (f:Int) (X:List C):Nat:=if f<0∨1048576<f then 1 else if 64<X.length then 3 else if 1048576<f+X.length then 1 else chkCs X
set_option maxHeartbeats 8000000 in
theorem segCheck_any (f:Int) (a:Option Addr) (k:Nat) (X:List CE) (w:World) (h:CEs w a k X):Calls Tryz.prog 77 #[.agg #[.int .i64 f,.slice a X.length k]] w fun e w'=>e=.returned (errV (segC f (X.map (·.c))))∧Below w.heap.size w w':=by
 have HX:=Lib.hid' h
 have HF:=Zh (show segC f (X.map (·.c))=if f<0∨1048576<f then 1 else if 64<X.length then 3 else if 1048576<f+X.length then 1 else chkCs (X.map (·.c)) by unfold segC;rw [List.length_map])
 have hxl:X.length≤9223372036854775807:=by obtain ⟨_,_,he,h1,h2,_⟩:=h.row;cases he;unfold maxLen at h2;omega
 have hs1:=(Sep.start w).allocAt w.heap.size [.int .i64 f,.slice a X.length k] 64 rfl
 obtain ⟨w1,hw1⟩:∃ w1,w.alloc (.cells #[.int .i64 f,.slice a X.length k] 64)=w1:=⟨_,rfl⟩
 have hs2:Sep w NoF [.box w.heap.size [.int .i64 f,.slice a X.length k] 64] w1:=by rw [←hw1];exact hs1
 have H1:=Lib.hid' hs2
 clear h hs1 hs2
 go_enter Tryz.func77, Tryz.ntmps77
 go_upto_region 1 with fail
 try rw [hw1]
 clear hw1
 generalize hN:w.heap.size=N at *
 have HN:=Lib.hid' hN
 clear hN
 have q0:=H1.out.cell 0 rfl 0 rfl;have q1:=H1.out.cell 0 rfl 1 rfl;have ql:=H1.out.lt 0 rfl
 have FIN:∀ wq,Below w1.heap.size w1 wq→Below w.heap.size w wq:=fun wq hq=>H1.out.toBelow.trans (hq.mono H1.out.toBelow.size)
 have FIN:=Lib.hid' FIN
 by_cases hf0:f<0
 ·have HR:=Zh (HF.out.trans (if_pos (.inl hf0)))
  go_wp2_with fail
  go_ret
  rw [HR.out]
  exact ⟨rfl,FIN.out _ (by go_grown)⟩
 by_cases hf1:1048576<f
 ·have HR:=Zh (HF.out.trans (if_pos (.inr hf1)))
  go_wp2_with fail
  go_ret
  rw [HR.out]
  exact ⟨rfl,FIN.out _ (by go_grown)⟩
 have HF1:=Zh (HF.out.trans (if_neg (by omega)))
 clear HF
 by_cases h64:64<X.length
 ·have HR:=Zh (HF1.out.trans (if_pos h64))
  have h642:(64:Int)<X.length:=by omega
  clear h64 HF1
  go_wp2_with fail
  go_ret
  rw [HR.out]
  exact ⟨rfl,FIN.out _ (by go_grown)⟩
 have HF2:=Zh (HF1.out.trans (if_neg h64))
 have h642:¬(64:Int)<X.length:=by omega
 have HEND:=Zh (segEnd_any f a X.length k w1 ⟨by omega,by omega⟩ (by omega))
 have H64:=Lib.hid' h64
 clear HF1 h64
 go_wp2_with fail
 refine HEND.out.mono ?_
 clear HEND
 rintro en w2 ⟨rfl,hb2⟩
 have hq2:=H1.out.below hb2
 have H2:=Lib.hid' hq2
 have FIN2:=Zh (fun wq (hq:Below w2.heap.size w2 wq)=>FIN.out wq (hb2.trans (hq.mono hb2.size)))
 clear q0 q1 ql hb2 hq2 H1 FIN
 have q0:=H2.out.cell 0 rfl 0 rfl;have q1:=H2.out.cell 0 rfl 1 rfl;have ql:=H2.out.lt 0 rfl
 by_cases hend:1048576<f+X.length
 ·have HR:=Zh (HF2.out.trans (if_pos hend))
  clear HF2
  go_wp2_with fail
  go_ret
  rw [HR.out]
  exact ⟨rfl,FIN2.out _ (by go_grown)⟩
 have HF3:=Zh (HF2.out.trans (if_neg hend))
 clear HF2
 go_wp2_with fail
 go_loopw [30] (fun v30 wr=>∃ j:Nat,v30=.int .i64 j∧j≤X.length∧Hid (Below w2.heap.size w2 wr)∧Hid (segC f (X.map (·.c))=chkCs ((X.drop j).map (·.c)))) (fun v30 _=>X.length - (intOf v30).toNat)
 case atStart=>exact ⟨0,rfl,Nat.zero_le _,Zh (Below.refl _ _),HF3⟩
 case round =>
  clear HF3
  obtain ⟨j,rfl,hj,HB,HC⟩:=hrel
  have hx64:X.length≤64:=by have:=H64.out;omega
  by_cases hlt:j<X.length
  ·have HXr:=HX.out.below (FIN2.out _ HB.out)
   obtain ⟨b,off,rfl,hb,hc⟩:=SlV.row (f:=ceV) (s:=2) (fun _=>rfl) (by decide) HXr.row hlt
   have c0:=hc 0 _ rfl;have c1:=hc 1 _ rfl
   simp only [Nat.add_zero] at c0
   have hbe:=HXr.each _ (List.getElem_mem hlt)
   have HDR:=Zh (List.drop_eq_getElem_cons hlt)
   clear hc HXr
   generalize X[j]=x at *
   obtain ⟨⟨xk,xd⟩,xa,xc⟩:=x
   simp only at c0 c1 hbe
   go_upto_region 10 with fail
   have hs:=((Sep.start wr).allocAt wr.heap.size [.int .i64 xk,.slice xa xd.length xc] 28 rfl)
   rw [show ([.int .i64 xk,.slice xa xd.length xc]:List Value).toArray=#[.int .i64 xk,.slice xa xd.length xc] from rfl] at hs
   have HBE:=Zh (SlV.below hbe (Nat.le_refl _) hs.toBelow)
   have HS:=Lib.hid' hs
   have HBS:=Zh (HB.out.trans (hs.toBelow.mono HB.out.size))
   clear hs hbe c0 c1 hb HB
   generalize wr.alloc (.cells #[.int .i64 xk,.slice xa xd.length xc] 28)=w3 at *
   generalize wr.heap.size=N3 at *
   have p0:=HS.out.cell 0 rfl 0 rfl;have p1:=HS.out.cell 0 rfl 1 rfl;have pl:=HS.out.lt 0 rfl
   have HCK:=Zh (check_any (.agg #[.int .i64 xk,.slice xa xd.length xc]) ⟨xk,xd⟩ w3 ⟨xa,xc,rfl,HBE.out⟩)
   have HC2:=Zh (show segC f (X.map (·.c))=if (⟨xk,xd⟩:C).check≠0 then (⟨xk,xd⟩:C).check else chkCs ((X.drop (j+1)).map (·.c)) by rw [HC.out,HDR.out];rfl)
   clear HC HDR
   generalize (⟨xk,xd⟩:C).check=z at *
   go_wp2_with fail
   refine HCK.out.mono ?_
   clear HCK p0 p1 pl
   rintro en w4 ⟨rfl,hb4⟩
   have HB4:=Zh (HBS.out.trans (hb4.mono HBS.out.size))
   clear hb4
   by_cases hz:z=0
   ·have HR:=Zh (HC2.out.trans (if_neg (by simpa using hz)))
    subst hz
    rw [errV_0]
    clear HC2
    go_wp2_with fail
    go_roundw
    case rel=>exact ⟨j+1,by go_num,by omega,HB4,HR⟩
    case measure=>simp [intOf];omega
   ·have HR:=Zh (HC2.out.trans (if_pos hz))
    rw [errV_pos hz]
    have HZ:=Lib.hid' hz
    clear HC2 hz
    go_wp2_with fail
    go_ret
    rw [HR.out]
    exact ⟨by rw [errV_pos HZ.out];rfl,FIN2.out _ HB4.out⟩
  ·have HR:=Zh (show segC f (X.map (·.c))=0 by rw [HC.out,List.drop_of_length_le (by omega)];rfl)
   clear HC
   go_wp2_with fail
   go_ret
   rw [HR.out]
   exact ⟨rfl,FIN2.out _ HB.out⟩
/-- which parcels are right -/
def pclC (e t f:Int) (X:List C):Nat:=if inB e 1099511627776=false∨inB t 1048576=false then 1 else segC f X
set_option maxHeartbeats 8000000 in
theorem pclCheck_any (e t f:Int) (a:Option Addr) (k:Nat) (X:List CE) (w:World) (h:CEs w a k X):Calls Tryz.prog 34 #[pclV e t f a X.length k] w fun en w'=>en=.returned (errV (pclC e t f (X.map (·.c))))∧Below w.heap.size w w':=by
 have HF:=Zh (show pclC e t f (X.map (·.c))=if inB e 1099511627776=false∨inB t 1048576=false then 1 else segC f (X.map (·.c)) from rfl)
 have hs1:=(Sep.start w).allocAt w.heap.size [.int .i64 e,.int .i64 t,.int .i64 f,.slice a X.length k] 66 rfl
 obtain ⟨w1,hw1⟩:∃ w1,w.alloc (.cells #[.int .i64 e,.int .i64 t,.int .i64 f,.slice a X.length k] 66)=w1:=⟨_,rfl⟩
 have hs2:Sep w NoF [.box w.heap.size [.int .i64 e,.int .i64 t,.int .i64 f,.slice a X.length k] 66] w1:=by rw [←hw1];exact hs1
 have H1:=Lib.hid' hs2
 have HSC:=Zh (segCheck_any f a k X w1 (h.below hs2.toBelow))
 clear h hs1 hs2
 go_enter Tryz.func34, Tryz.ntmps34
 go_upto_region 1 with fail
 try rw [hw1]
 clear hw1
 have q0:=H1.out.cell 0 rfl 0 rfl;have q1:=H1.out.cell 0 rfl 1 rfl;have q2:=H1.out.cell 0 rfl 2 rfl;have q3:=H1.out.cell 0 rfl 3 rfl;have ql:=H1.out.lt 0 rfl
 have FIN:=Zh (fun wq (hq:Below w1.heap.size w1 wq)=>H1.out.toBelow.trans (hq.mono H1.out.toBelow.size))
 cases hi1:inB e 1099511627776 with
 | false =>
  have HR:=Zh (HF.out.trans (if_pos (.inl hi1)))
  go_wp2_with (go_at_call 76;refine (pcin_any _ _ _).mono ?_;rintro en w' ⟨rfl,rfl⟩)
  go_ret
  rw [HR.out]
  exact ⟨rfl,FIN.out _ (Below.refl _ _)⟩
 | true =>
 cases hi2:inB t 1048576 with
 | false =>
  have HR:=Zh (HF.out.trans (if_pos (.inr hi2)))
  go_wp2_with (go_at_call 76;refine (pcin_any _ _ _).mono ?_;rintro en w' ⟨rfl,rfl⟩)
  go_ret
  rw [HR.out]
  exact ⟨rfl,FIN.out _ (Below.refl _ _)⟩
 | true =>
 have HR:=Zh (HF.out.trans (if_neg (by rw [hi1,hi2];decide)))
 clear HF
 generalize segC f (X.map (·.c))=z at *
 go_wp2_with (first | (go_at_call 76;refine (pcin_any _ _ _).mono ?_;rintro en w' ⟨rfl,rfl⟩) | (go_at_call 77;refine HSC.out.mono ?_;rintro en w2 ⟨rfl,hb2⟩))
 go_ret
 rw [HR.out]
 exact ⟨rfl,FIN.out _ hb2⟩
theorem ceV_drop (X:List CE) (j:Nat):(X.drop j).flatMap ceV=(X.flatMap ceV).drop (j*2):=by
 induction X generalizing j with
 | nil=>simp
 | cons x X ih =>
  cases j with
  | zero=>simp
  | succ j =>
   rw [List.drop_succ_cons,ih,List.flatMap_cons,show (j+1)*2=(ceV x).length+j*2 by show _=2+j*2;omega,List.drop_append]
   simp
theorem CEs.drop {w:World} {b off:Nat} {k:Nat} {X:List CE} (h:CEs w (some ⟨b,off,none⟩) k X) {j:Nat} (hj:j≤X.length):CEs w (some ⟨b,off+j*2,none⟩) (k - j) (X.drop j):=by
 refine ⟨?_,fun x hx=>h.each x (List.mem_of_mem_drop hx)⟩
 obtain ⟨a,c,he,h1,h2,h3,h4⟩:=h.row
 simp only [Value.slice.injEq] at he
 obtain ⟨rfl,_,rfl⟩:=he
 have hadd:∀ b o j:Nat,(⟨b,o,none⟩:Addr).add j=⟨b,o+j,none⟩:=fun b o j=>by unfold Addr.add;split<;>simp_all
 refine ⟨_,_,rfl,by rw [List.length_drop];omega,by omega,by simp,fun i u hu=>⟨_,rfl,?_⟩⟩
 rw [ceV_drop,List.getElem?_drop] at hu
 obtain ⟨p,hp,hc⟩:=h4 _ u hu
 cases hp
 rw [hadd] at hc
 rw [hadd,Nat.add_assoc];exact hc
theorem CEs.take {w:World} {a:Option Addr} {k:Nat} {X:List CE} (h:CEs w a k X) {j:Nat} (hj:j≤X.length):CEs w a k (X.take j):=by
 refine ⟨?_,fun x hx=>h.each x (List.mem_of_mem_take hx)⟩
 obtain ⟨a',c,he,h1,h2,h3,h4⟩:=h.row
 simp only [Value.slice.injEq] at he
 obtain ⟨rfl,_,rfl⟩:=he
 refine ⟨_,_,rfl,by rw [List.length_take];omega,h2,h3,fun i u hu=>h4 i u ?_⟩
 have e:X.flatMap ceV=(X.take j).flatMap ceV++(X.drop j).flatMap ceV:=by rw [←List.flatMap_append,List.take_append_drop]
 rw [e,List.getElem?_append_left (List.getElem?_eq_some_iff.1 hu).1]
 exact hu
def emptyC (x:CE):Bool:=x.c.k==0
theorem emptyC_any (x:CE) (w:World):Calls Tryz.prog 81 #[.agg (ceV x).toArray] w fun e w'=>e=.returned (.bool (emptyC x))∧Below w.heap.size w w':=by
 obtain ⟨⟨k,d⟩,a,c⟩:=x
 have HE:=Zh (show emptyC ⟨⟨k,d⟩,a,c⟩=(k==0) from rfl)
 rw [show (ceV ⟨⟨k,d⟩,a,c⟩).toArray=#[.int .i64 k,.slice a d.length c] from rfl]
 go_enter Tryz.func81, Tryz.ntmps81
 go_wp2_with fail
 go_ret
 rw [HE.out]
 exact ⟨rfl,by go_grown⟩
theorem cf_news (args:Array Value) (w:World):(callFunc 81 args).run Tryz.prog w=.ok (.enter 81 args) w:=by kernel_rfl
set_option maxHeartbeats 4000000 in
theorem idxCe_any (l:List CE) (a:Option Addr) (c:Nat) (w:World) (h:CEs w a c l) :
  Calls Tryz.prog 80 #[.slice a l.length c,.func (.func 81) #[] #[]] w fun e w'=>e=.returned (.int .i64 (idxB emptyC l))∧Below w.heap.size w w':=by
 have HS:=Lib.hid' h
 have hlen:l.length≤9223372036854775807:=by obtain ⟨_,_,he,h1,h2,_⟩:=h.row;cases he;unfold maxLen at h2;omega
 have hcf:=cf_news
 clear h
 go_enter Tryz.func80, Tryz.ntmps80
 go_wp2_with fail
 go_loopw [8] (fun v8 wr=>∃ k:Nat,v8=.int .i64 k∧k≤l.length∧Hid (∀ y∈l.take k,emptyC y=false)∧Hid (Below w.heap.size w wr)) (fun v8 _=>l.length - (intOf v8).toNat)
 case atStart=>exact ⟨0,rfl,Nat.zero_le _,Zh (by simp),Zh (Below.refl _ _)⟩
 case round =>
  obtain ⟨k,rfl,hk,HNO,HB⟩:=hrel
  by_cases hlt:k<l.length
  ·have hx:=HS.out.below HB.out
   obtain ⟨b,off,rfl,hb,hc⟩:=SlV.row (f:=ceV) (s:=2) (fun _=>rfl) (by decide) hx.row hlt
   have c0:=hc 0 _ rfl;have c1:=hc 1 _ rfl
   simp only [Nat.add_zero] at c0
   have HH:=Zh (fun h2=>idxB_hit (f:=emptyC) hlt HNO.out h2)
   have HT:=Zh (fun h2=>take_no (f:=emptyC) hlt HNO.out h2)
   have HC:=Zh (emptyC_any l[k] wr)
   clear hc hx
   generalize l[k]=y at *
   obtain ⟨⟨yk,yd⟩,ya,yc⟩:=y
   simp only at c0 c1
   rw [show (ceV ⟨⟨yk,yd⟩,ya,yc⟩).toArray=#[.int .i64 yk,.slice ya yd.length yc] from rfl] at HC
   go_wp2_with fail
   refine HC.out.mono ?_
   rintro e w2 ⟨rfl,hb2⟩
   have HB2:=Zh (HB.out.trans (hb2.mono HB.out.size))
   clear hb2 HC c0 c1 hb
   cases hq:emptyC ⟨⟨yk,yd⟩,ya,yc⟩ with
   | true =>
    have HF:=Zh (HH.out hq)
    go_wp2_with fail
    go_ret
    exact ⟨ret_eq (by rw [HF.out];rfl),HB2.out⟩
   | false =>
    have HF:=Zh (HT.out hq)
    go_wp2_with fail
    go_roundw
    case rel=>exact ⟨k+1,by go_num,by omega,HF,HB2⟩
    case measure=>simp [intOf];omega
  ·have HF:=Zh (idxB_none (f:=emptyC) (by have:=HNO.out;rwa [List.take_of_length_le (by omega)] at this))
   go_wp2_with fail
   go_ret
   exact ⟨ret_eq (by rw [HF.out];rfl),HB.out⟩
/-- the cells of a segment from an address on, up to the first empty one -/
def newsS (f:Int) (X:List CE) (a:Int):List CE:=if f+X.length≤a then [] else if 0≤idxB emptyC (X.drop (a - f).toNat) then (X.drop (a - f).toNat).take (idxB emptyC (X.drop (a - f).toNat)).toNat else X.drop (a - f).toNat
set_option maxHeartbeats 8000000 in
theorem news_any (f a:Int) (X:List CE) (pa:Option Addr) (pk:Nat) (w:World) (h:CEs w pa pk X) (hf:0≤f∧f≤1048576) (hn:X.length≤64) (ha:f≤a) :
  Calls Tryz.prog 36 #[.agg #[.int .i64 f,.slice pa X.length pk],.int .i64 a] w fun en w'=>∃ na nk,en=.returned (.slice na (newsS f X a).length nk)∧(∀ wq,CEs wq pa pk X→CEs wq na nk (newsS f X a))∧Below w.heap.size w w':=by
 have HF:=Zh (show newsS f X a=if f+X.length≤a then [] else if 0≤idxB emptyC (X.drop (a - f).toNat) then (X.drop (a - f).toNat).take (idxB emptyC (X.drop (a - f).toNat)).toNat else X.drop (a - f).toNat from rfl)
 have hs1:=(Sep.start w).allocAt w.heap.size [.int .i64 f,.slice pa X.length pk] 64 rfl
 obtain ⟨w1,hw1⟩:∃ w1,w.alloc (.cells #[.int .i64 f,.slice pa X.length pk] 64)=w1:=⟨_,rfl⟩
 have hs2:Sep w NoF [.box w.heap.size [.int .i64 f,.slice pa X.length pk] 64] w1:=by rw [←hw1];exact hs1
 have H1:=Lib.hid' hs2
 have HX:=Lib.hid' h
 have HEND:=Zh (segEnd_any f pa X.length pk w1 hf (by omega))
 have hcap:X.length≤pk∧pk≤maxLen:=by obtain ⟨_,_,he,h1,h2,_⟩:=h.row;cases he;exact ⟨h1,h2⟩
 have hcap2:pk≤9223372036854775807:=by have:=hcap.2;unfold maxLen at this;omega
 clear h hs1 hs2
 go_enter Tryz.func36, Tryz.ntmps36
 go_upto_region 1 with fail
 try rw [hw1]
 clear hw1
 have q0:=H1.out.cell 0 rfl 0 rfl;have q1:=H1.out.cell 0 rfl 1 rfl;have ql:=H1.out.lt 0 rfl
 go_wp2_with fail
 refine HEND.out.mono ?_
 clear HEND
 rintro en w2 ⟨rfl,hb2⟩
 have H2:=Zh (H1.out.below hb2)
 clear q0 q1 ql hb2 H1
 by_cases hge:f+X.length≤a
 ·have HR:=Zh (HF.out.trans (if_pos hge))
  clear HF
  go_wp2_with fail
  go_ret
  rw [HR.out]
  exact ⟨none,0,rfl,fun wq _=>⟨SlV.of_own (own_nil _ 0 0 0),by simp⟩,H2.out.toBelow⟩
 have HF1:=Zh (HF.out.trans (if_neg hge))
 clear HF
 obtain ⟨j,hj⟩:∃ j:Nat,a - f=j:=⟨(a - f).toNat,by omega⟩
 have hjl:j<X.length:=by omega
 have hjt:(a - f).toNat=j:=by omega
 rw [hjt] at HF1
 have HX2:=Zh (HX.out.below H2.out.toBelow)
 obtain ⟨b,off,rfl,hbl,_⟩:=SlV.row (f:=ceV) (s:=2) (fun _=>rfl) (by decide) HX2.out.row hjl
 have q0:=H2.out.cell 0 rfl 0 rfl;have q1:=H2.out.cell 0 rfl 1 rfl;have ql:=H2.out.lt 0 rfl
 have HDR:=Zh (HX2.out.drop (j:=j) (by omega))
 have hjk:j<pk:=by omega
 obtain rfl:a=f+j:=by omega
 have e1:f+(j:Int) - f=j:=by omega
 clear hjt hge hj
 go_upto_region 4 with fail
 have hix:=idxCe_any (X.drop j) (some ⟨b,off+j*2,none⟩) (pk - j) w2 HDR.out
 rw [List.length_drop] at hix
 have HIX:=Lib.hid' hix
 have hig:=idxB_ge emptyC (X.drop j)
 rw [List.length_drop] at hig
 have HDL:=Zh (show (X.drop j).length=X.length - j from List.length_drop ..)
 have HDQ:=Zh (fun (wq:World) (hq:CEs wq (some ⟨b,off,none⟩) pk X)=>hq.drop (j:=j) (by omega))
 clear hix HDR q0 q1 ql
 generalize X.drop j=Y at *
 generalize idxB emptyC Y=i at *
 go_wp2_with fail
 refine HIX.out.mono ?_
 clear HIX
 rintro en w3 ⟨rfl,hb3⟩
 have HB3:=Zh (H2.out.toBelow.trans (hb3.mono H2.out.toBelow.size))
 clear hb3 H2
 by_cases hi0:0≤i
 ·obtain ⟨m,rfl⟩:∃ m:Nat,i=m:=⟨i.toNat,by omega⟩
  have hm:m≤X.length - j:=by omega
  have HR:=Zh (HF1.out.trans (by rw [if_pos hi0,Int.toNat_natCast]:_=Y.take m))
  have HML:=Zh (show (Y.take m).length=m by rw [List.length_take,HDL.out];omega)
  clear HF1
  go_wp2_with fail
  go_ret
  rw [HR.out]
  exact ⟨some ⟨b,off+j*2,none⟩,pk - j,by rw [HML.out];rfl,fun wq hq=>(HDQ.out wq hq).take (by rw [HDL.out];omega),HB3.out⟩
 ·have HR:=Zh (HF1.out.trans (if_neg hi0))
  clear HF1
  go_wp2_with fail
  go_ret
  rw [HR.out]
  exact ⟨some ⟨b,off+j*2,none⟩,pk - j,by rw [HDL.out];rfl,HDQ.out,HB3.out⟩
/-- one cell is applied -/
def oneS (M:Cl) (a:Int) (y:C):Nat×Cl:=if y.k=3 then (0,M) else if (M.putAt a y).1≠9 then M.putAt a y else markS (M.putAt a y).2 (a+1)
theorem putAt_ok {M:Cl} (h:M.ok) (a:Int) (y:C):(M.putAt a y).2.ok:=(putAt_up h a y).ok
theorem markS_ok {M:Cl} (h:M.ok) (b:Int):(markS M b).2.ok:=by
 unfold markS
 split
 ·exact h
 ·exact (trim_up h b).ok
theorem oneS_ok {M:Cl} (h:M.ok) (a:Int) (y:C):(oneS M a y).2.ok:=by
 unfold oneS
 split
 ·exact h
 ·split
  ·exact putAt_ok h _ _
  ·exact markS_ok (putAt_ok h _ _) _
set_option maxHeartbeats 8000000 in
theorem one_any {c b:Nat} {M:Cl} {J:CJ} {L:List Asn} {W:World} (x:Sp) (y:C) (ya:Option Addr) (yc:Nat) (w:World) (hp:Pow W) (h:ClAt c M J (Asn.appl b x::L) W w) (hok:M.ok) (hx:0≤x.a∧x.a≤1048640) (hB:∀ M' w',ClAt c M' J L W w'→Bytes w' (.slice ya y.d.length yc) y.d) :
  Calls Tryz.prog 78 #[ptrV b,ptrV c,.agg #[.int .i64 y.k,.slice ya y.d.length yc]] w fun en w'=>en=.returned (errV (oneS M x.a y).1)∧ClAt c (oneS M x.a y).2 J (Asn.appl b x::L) W w':=by
 have HP:=Lib.hid' hp
 have HOK:=Lib.hid' hok
 have h1:=h.allocB w.heap.size [.int .i64 y.k,.slice ya y.d.length yc] 28 rfl
 obtain ⟨w1,hw1⟩:∃ w1,w.alloc (.cells #[.int .i64 y.k,.slice ya y.d.length yc] 28)=w1:=⟨_,rfl⟩
 rw [show ([.int .i64 y.k,.slice ya y.d.length yc]:List Value).toArray=#[.int .i64 y.k,.slice ya y.d.length yc] from rfl,hw1] at h1
 have H1:=Lib.hid' h1
 have HBY:=Lib.hid' hB
 have HF:=Zh (show oneS M x.a y=if y.k=3 then (0,M) else if (M.putAt x.a y).1≠9 then M.putAt x.a y else markS (M.putAt x.a y).2 (x.a+1) from rfl)
 have HPT:=Zh (fun (wq:World) (hq:ClAt c M J (.box w.heap.size [.int .i64 y.k,.slice ya y.d.length yc] 28::Asn.appl b x::L) W wq)=>Put_any x.a y ya yc wq hp hq hok (fun M' w' h'=>hB M' w' (ClAt.less (K:=[_,_]) h')))
 have HPK:=Zh (putAt_ok hok x.a y)
 clear h h1 hp hok hB
 obtain ⟨yk,yd⟩:=y
 obtain ⟨xe,xa⟩:=x
 simp only at H1 HF HPT HPK hx ⊢
 go_enter Tryz.func78, Tryz.ntmps78
 go_upto_region 1 with fail
 try rw [hw1]
 clear hw1
 generalize w.heap.size=N at *
 have c0:=H1.out.side.cell 0 rfl 0 rfl;have c1:=H1.out.side.cell 0 rfl 1 rfl;have cl:=H1.out.side.lt 0 rfl
 have a1:=H1.out.side.cell 1 rfl 1 rfl;have al:=H1.out.side.lt 1 rfl
 by_cases hk:yk=3
 ·have HR:=Zh (HF.out.trans (if_pos hk))
  subst hk
  clear HF HPT
  go_wp2_with fail
  go_ret
  rw [HR.out]
  exact ⟨rfl,ClAt.less (K:=[_]) H1.out⟩
 ·have HF1:=Zh (HF.out.trans (if_neg hk))
  clear HF
  generalize M.putAt xa ⟨yk,yd⟩=pr at *
  obtain ⟨pz,M1⟩:=pr
  simp only at HPT HPK HF1
  go_upto_region 3 with fail
  refine startD (S:=(fun w'=>w'.cell? ⟨b,1,none⟩=some (.int .i64 xa)∧b<w'.heap.size∧w'.cell? ⟨N,0,none⟩=some (.int .i64 yk)∧w'.cell? ⟨N,1,none⟩=some (.slice ya yd.length yc)∧N<w'.heap.size)) (by kernel_rfl) ⟨a1,al,c0,c1,cl⟩ (fun hH0=>?_)
  simp only [List.length_cons,List.length_nil,Nat.reduceAdd,List.replicate_succ,List.replicate_zero]
  refine tD 0 11 (.pointer (some ⟨c,0,none⟩)) rfl rfl [(1,.pointer (some ⟨c,0,none⟩))] hH0 ?_
  dsimp only [sZ,sS]
  refine tD 1 12 (.pointer (some ⟨b,0,none⟩)) rfl rfl [(0,.pointer (some ⟨b,0,none⟩))] hH0 ?_
  dsimp only [sZ,sS]
  refine tD 2 13 (.pointer (some ⟨b,0,none⟩)) rfl rfl [(12,.pointer (some ⟨b,0,none⟩))] hH0 ?_
  dsimp only [sZ,sS]
  refine tD 3 14 (.pointer (some ⟨b,1,none⟩)) rfl rfl [(13,.pointer (some ⟨b,0,none⟩))] hH0 ?_
  dsimp only [sZ,sS]
  refine tD 4 15 (.int .i64 xa) rfl rfl [(14,.pointer (some ⟨b,1,none⟩))] hH0 ?_
  dsimp only [sZ,sS]
  refine tD 5 16 (.agg #[.int .i64 yk,.slice ya yd.length yc]) rfl rfl [(5,.pointer (some ⟨N,0,none⟩))] hH0 ?_
  dsimp only [sZ,sS]
  refine rD 6 rfl (fun K hK=>?_)
  go_simp
  refine (HPT.out _ (H1.out.below (Below.refl w1.heap.size w1).drew)).mono ?_
  clear HPT
  rintro en w5 ⟨rfl,h5⟩
  have H5:=Lib.hid' h5
  clear h5
  refine hK.out _ _ ?_ (fun hH1=>?_)
  ·exact ⟨H5.out.side.cell 1 rfl 1 rfl,H5.out.side.lt 1 rfl,H5.out.side.cell 0 rfl 0 rfl,H5.out.side.cell 0 rfl 1 rfl,H5.out.side.lt 0 rfl⟩
  clear hK K
  try simp only [Act.put,gA,gZ,gS,sA,sZ,sS]
  refine tD 7 7 (errV pz) rfl rfl [(17,errV pz)] hH1 ?_
  dsimp only [sZ,sS]
  refine wpAnyH_done (by kernel_rfl) ?_ _
  skip
  clear c0 c1 cl a1 al H1
  have H6:=Zh (ClAt.less (K:=[_]) H5.out)
  clear H5
  by_cases hz:pz=9
  ·subst hz
   have HR:=Zh (HF1.out.trans (if_neg (by simp)))
   rw [errV_pos (by decide)]
   clear HF1
   have a1:=H6.out.side.cell 0 rfl 1 rfl;have al:=H6.out.side.lt 0 rfl
   have HMK:=Zh (mark_any (xa+1) w5 HP.out H6.out HPK.out)
   go_wp2_with fail
   refine HMK.out.mono ?_
   rintro en w7 ⟨rfl,h7⟩
   have H7:=Lib.hid' h7
   clear h7
   go_wp2_with fail
   go_ret
   rw [HR.out]
   exact ⟨rfl,H7.out⟩
  ·have HR:=Zh (HF1.out.trans (if_pos hz))
   clear HF1
   by_cases hz0:pz=0
   ·subst hz0
    rw [errV_0]
    go_wp2_with fail
    go_ret
    rw [HR.out]
    exact ⟨rfl,H6.out⟩
   ·have HZ:=Lib.hid' hz0
    rw [errV_pos hz0]
    have hz9:((pz:Int)==9)=false:=by simpa using (by omega:¬(pz:Int)=9)
    clear hz0 hz
    go_wp2_with fail
    go_ret
    rw [HR.out]
    exact ⟨by rw [errV_pos HZ.out];rfl,H6.out⟩
/-- behind the last trimmed one -/
def lowF (a:Int) (s:Int×Int) (x:C):Int×Int:=(s.1+1,if x.k=3 then a+s.1+1 else s.2)
def lowL (a:Int) (X:List C):Int:=(X.foldl (lowF a) (0,0)).2
/-- cells are applied, one by one: an error's number, the cluster then, up to where -/
def onesS:List C→Cl→Int→Nat×Cl×Int
 | [],M,a=>(0,M,a)
 | x::l,M,a=>if (oneS M a x).1≠0 then ((oneS M a x).1,(oneS M a x).2,a) else onesS l (oneS M a x).2 (a+1)
def cellsS (M:Cl) (a:Int) (X:List C):Nat×Cl×Int:=if (markS M (lowL a X)).1≠0 then ((markS M (lowL a X)).1,(markS M (lowL a X)).2,a) else onesS X (markS M (lowL a X)).2 a
set_option maxHeartbeats 16000000 in
theorem cellsA_any {c b:Nat} {M:Cl} {J:CJ} {L:List Asn} {W:World} (x:Sp) (X:List CE) (ca:Option Addr) (ck:Nat) (w:World) (hp:Pow W) (h:ClAt c M J (Asn.appl b x::L) W w) (hok:M.ok) (hx:0≤x.a∧x.a≤1048576) (hl:X.length≤64) (hX:∀ M' w',ClAt c M' J L W w'→CEs w' ca ck X) :
  Calls Tryz.prog 35 #[ptrV b,ptrV c,.slice ca X.length ck] w fun en w'=>en=.returned (errV (cellsS M x.a (X.map (·.c))).1)∧ClAt c (cellsS M x.a (X.map (·.c))).2.1 J (Asn.appl b ⟨x.e,(cellsS M x.a (X.map (·.c))).2.2⟩::L) W w':=by
 have HP:=Lib.hid' hp
 have HOK:=Lib.hid' hok
 have HX:=Lib.hid' hX
 have H0:=Lib.hid' h
 obtain ⟨xe,xa⟩:=x
 simp only at hx H0 ⊢
 have HF:=Zh (show cellsS M xa (X.map (·.c))=if (markS M (lowL xa (X.map (·.c)))).1≠0 then ((markS M (lowL xa (X.map (·.c)))).1,(markS M (lowL xa (X.map (·.c)))).2,xa) else onesS (X.map (·.c)) (markS M (lowL xa (X.map (·.c)))).2 xa from rfl)
 clear h hX hp hok
 go_enter Tryz.func35, Tryz.ntmps35
 go_wp2_with fail
 go_loopw [7,16] (fun v7 v16 wr=>∃ (k:Nat) (low:Int),v7=.int .i64 low∧v16=.int .i64 k∧k≤X.length∧Hid (((X.take k).map (·.c)).foldl (lowF xa) (0,0)=((k:Int),low))∧Hid (ClAt c M J (Asn.appl b ⟨xe,xa⟩::L) W wr)) (fun _ v16 _=>X.length - (intOf v16).toNat)
 case atStart=>exact ⟨0,0,rfl,rfl,Nat.zero_le _,Lib.hid' rfl,H0⟩
 case round =>
  clear H0
  obtain ⟨k,low,rfl,rfl,hk,HL,H1⟩:=hrel
  by_cases hlt:k<X.length
  ·have hx1:=HX.out _ _ (ClAt.less (K:=[_]) H1.out)
   obtain ⟨bb,off,rfl,hb,hc⟩:=SlV.row (f:=ceV) (s:=2) (fun _=>rfl) (by decide) hx1.row hlt
   have c0:=hc 0 _ rfl;have c1:=hc 1 _ rfl
   simp only [Nat.add_zero] at c0
   have HTK:=Zh (take_succ X k hlt)
   clear hc hx1
   generalize X[k]=y at *
   obtain ⟨⟨yk,yd⟩,ya,yc⟩:=y
   simp only at c0 c1
   go_upto_region 5 with fail
   have h2:=H1.out.allocB wr.heap.size [.int .i64 yk,.slice ya yd.length yc] 28 rfl
   rw [show ([.int .i64 yk,.slice ya yd.length yc]:List Value).toArray=#[.int .i64 yk,.slice ya yd.length yc] from rfl] at h2
   have H2:=Lib.hid' h2
   clear h2 c0 c1 hb H1
   generalize wr.alloc (.cells #[.int .i64 yk,.slice ya yd.length yc] 28)=w2 at *
   generalize wr.heap.size=N2 at *
   have c0:=H2.out.side.cell 0 rfl 0 rfl;have cl:=H2.out.side.lt 0 rfl
   have a1:=H2.out.side.cell 1 rfl 1 rfl;have al:=H2.out.side.lt 1 rfl
   by_cases hk3:yk=3
   ·have HS:=Zh (show ((X.take (k+1)).map (·.c)).foldl (lowF xa) (0,0)=(((k+1:Nat):Int),xa+k+1) by
     rw [HTK.out,List.map_append,List.foldl_append,HL.out];simp [lowF,hk3])
    subst hk3
    go_wp2_with fail
    go_roundw
    case rel=>exact ⟨k+1,xa+k+1,by go_num,by go_num,by omega,HS,Zh (ClAt.less (K:=[_]) H2.out)⟩
    case measure=>simp [intOf];omega
   ·have HS:=Zh (show ((X.take (k+1)).map (·.c)).foldl (lowF xa) (0,0)=(((k+1:Nat):Int),low) by
     rw [HTK.out,List.map_append,List.foldl_append,HL.out];simp [lowF,hk3])
    go_wp2_with fail
    go_roundw
    case rel=>exact ⟨k+1,low,rfl,by go_num,by omega,HS,Zh (ClAt.less (K:=[_]) H2.out)⟩
    case measure=>simp [intOf];omega
  ·have HLO:=Zh (show lowL xa (X.map (·.c))=low by unfold lowL;have:=HL.out;rw [List.take_of_length_le (by omega)] at this;rw [this])
   rw [HLO.out] at HF
   have HMK:=Zh (mark_any low wr HP.out H1.out HOK.out)
   have HMO:=Zh (markS_ok HOK.out low)
   clear HL HLO
   generalize markS M low=mr at *
   obtain ⟨mz,M1⟩:=mr
   simp only at HF HMK HMO
   go_wp2_with fail
   refine HMK.out.mono ?_
   clear HMK
   rintro en w3 ⟨rfl,h3⟩
   have H3:=Lib.hid' h3
   clear h3 H1
   by_cases hz:mz=0
   rotate_left
   ·have HR:=Zh (HF.out.trans (if_pos hz))
    have HZ:=Lib.hid' hz
    rw [errV_pos hz]
    clear HF hz
    go_wp2_with fail
    go_ret
    rw [HR.out]
    exact ⟨by rw [errV_pos HZ.out];rfl,H3.out⟩
   subst hz
   have HR:=Zh (HF.out.trans (if_neg (by simp)))
   rw [errV_0]
   clear HF
   go_wp2_with fail
   go_loopw [40] (fun v40 wr=>∃ (k:Nat) (M2:Cl),v40=.int .i64 k∧k≤X.length∧Hid (ClAt c M2 J (Asn.appl b ⟨xe,xa+k⟩::L) W wr)∧Hid M2.ok∧Hid (cellsS M xa (X.map (·.c))=onesS ((X.drop k).map (·.c)) M2 (xa+k))) (fun v40 _=>X.length - (intOf v40).toNat)
   case atStart=>exact ⟨0,M1,rfl,Nat.zero_le _,Zh (by simpa using H3.out),HMO,Zh (by simpa using HR.out)⟩
   case round =>
    clear H3 HMO HR
    obtain ⟨k,M2,rfl,hk,H4,HO4,HR4⟩:=hrel
    by_cases hlt:k<X.length
    ·have hx1:=HX.out _ _ (ClAt.less (K:=[_]) H4.out)
     obtain ⟨bb,off,rfl,hb,hc⟩:=SlV.row (f:=ceV) (s:=2) (fun _=>rfl) (by decide) hx1.row hlt
     have c0:=hc 0 _ rfl;have c1:=hc 1 _ rfl
     simp only [Nat.add_zero] at c0
     have HMEM:=Zh (List.getElem_mem hlt)
     have HDR:=Zh (List.drop_eq_getElem_cons hlt)
     clear hc hx1
     generalize X[k]=y at *
     obtain ⟨⟨yk,yd⟩,ya,yc⟩:=y
     simp only at c0 c1
     go_upto_region 14 with fail
     have h2:=H4.out.allocB wr.heap.size [.int .i64 yk,.slice ya yd.length yc] 28 rfl
     rw [show ([.int .i64 yk,.slice ya yd.length yc]:List Value).toArray=#[.int .i64 yk,.slice ya yd.length yc] from rfl] at h2
     have H5:=Lib.hid' h2.swapB
     clear h2 c0 c1 hb H4
     generalize wr.alloc (.cells #[.int .i64 yk,.slice ya yd.length yc] 28)=w5 at *
     generalize wr.heap.size=N5 at *
     have c0:=H5.out.side.cell 1 rfl 0 rfl;have c1:=H5.out.side.cell 1 rfl 1 rfl;have cl:=H5.out.side.lt 1 rfl
     have HON:=Zh (one_any ⟨xe,xa+k⟩ ⟨yk,yd⟩ ya yc w5 HP.out H5.out HO4.out ⟨by show 0≤xa+(k:Int);omega,by show xa+(k:Int)≤1048640;omega⟩ (fun M' w' h'=>(HX.out M' w' (ClAt.less (K:=[_]) h')).each _ HMEM.out))
     have HO5:=Zh (oneS_ok HO4.out (xa+k) ⟨yk,yd⟩)
     have HS5:=Zh (show cellsS M xa (X.map (·.c))=if (oneS M2 (xa+k) ⟨yk,yd⟩).1≠0 then ((oneS M2 (xa+k) ⟨yk,yd⟩).1,(oneS M2 (xa+k) ⟨yk,yd⟩).2,xa+k) else onesS ((X.drop (k+1)).map (·.c)) (oneS M2 (xa+k) ⟨yk,yd⟩).2 (xa+k+1) by rw [HR4.out,HDR.out];rfl)
     simp only at HON
     clear HR4 HDR
     generalize oneS M2 (xa+k) ⟨yk,yd⟩=orr at *
     obtain ⟨oz,M3⟩:=orr
     simp only at HON HO5 HS5
     go_wp2_with fail
     refine HON.out.mono ?_
     clear HON c0 c1 cl
     rintro en w6 ⟨rfl,h6⟩
     have H6:=Zh (ClAt.less (K:=[_]) h6.swapB)
     clear h6 H5
     by_cases hz:oz=0
     rotate_left
     ·have HR:=Zh (HS5.out.trans (if_pos hz))
      have HZ:=Lib.hid' hz
      rw [errV_pos hz]
      clear HS5 hz
      go_wp2_with fail
      go_ret
      rw [HR.out]
      exact ⟨by rw [errV_pos HZ.out];rfl,H6.out⟩
     subst hz
     have HR:=Zh (HS5.out.trans (if_neg (by simp)))
     rw [errV_0]
     clear HS5
     have a1:=H6.out.side.cell 0 rfl 1 rfl;have af:=H6.out.side.free 0 rfl 1;have al:=H6.out.side.lt 0 rfl
     have H7:=Zh (H6.out.setB 1 (.int .i64 (xa+k+1)))
     have hov:xa+(k:Int)+1≤1048700:=by omega
     have hov0:0≤xa+(k:Int):=by omega
     go_wp2_with fail
     go_roundw
     case rel=>exact ⟨k+1,M3,by go_num,by omega,Zh (by have:=H7.out;rw [show xa+((k+1:Nat):Int)=xa+k+1 by omega];exact this),HO5,Zh (by rw [HR.out,show xa+((k+1:Nat):Int)=xa+k+1 by omega])⟩
     case measure=>simp [intOf];omega
    ·have HR:=Zh (show cellsS M xa (X.map (·.c))=(0,M2,xa+k) by rw [HR4.out,List.drop_of_length_le (by omega)];rfl)
     clear HR4
     go_wp2_with fail
     go_ret
     rw [HR.out]
     exact ⟨rfl,H4.out⟩
theorem onesS_rng:∀ (l:List C) (M:Cl) (a:Int),a≤(onesS l M a).2.2∧(onesS l M a).2.2≤a+l.length
 | [],M,a=>⟨Int.le_refl _,by simp [onesS]⟩
 | x::l,M,a=>by
  unfold onesS
  split
  ·exact ⟨Int.le_refl _,by simp only [List.length_cons];omega⟩
  ·have:=onesS_rng l (oneS M a x).2 (a+1)
   simp only [List.length_cons]
   omega
theorem cellsS_rng {M:Cl} {X:List C} {a:Int} (h:M.ok) (ha:0≤a∧a≤1048576) (hl:X.length≤64):a≤(cellsS M a X).2.2∧(cellsS M a X).2.2≤a+X.length:=by
 unfold cellsS
 split
 ·exact ⟨Int.le_refl _,by show a≤a+(X.length:Int);omega⟩
 ·exact onesS_rng _ _ _
/-- a parcel is applied: an error's number, the cluster, the applier then -/
def takeA (M:Cl) (x:Sp) (e t f:Int) (X:List CE):Nat×Cl×Sp :=
 if pclC e t f (X.map (·.c))≠0 then (pclC e t f (X.map (·.c)),M,x) else if e≠x.e then (7,M,x) else
 if x.a<f then (0,M,x) else
 if (cellsS M x.a ((newsS f X x.a).map (·.c))).1≠0 then ((cellsS M x.a ((newsS f X x.a).map (·.c))).1,(cellsS M x.a ((newsS f X x.a).map (·.c))).2.1,⟨x.e,(cellsS M x.a ((newsS f X x.a).map (·.c))).2.2⟩) else
 ((markS (cellsS M x.a ((newsS f X x.a).map (·.c))).2.1 (min t (cellsS M x.a ((newsS f X x.a).map (·.c))).2.2)).1,(markS (cellsS M x.a ((newsS f X x.a).map (·.c))).2.1 (min t (cellsS M x.a ((newsS f X x.a).map (·.c))).2.2)).2,⟨x.e,(cellsS M x.a ((newsS f X x.a).map (·.c))).2.2⟩)
def rcV (r:Nat×Cl×Sp):Value:=if r.1=0 then .agg #[.int .i64 r.2.2.e,.int .i64 r.2.2.a] else .agg #[.int .i64 0,.int .i64 0]
theorem rcV_err {z:Nat} {M:Cl} {x:Sp} (h:z≠0):rcV (z,M,x)=.agg #[.int .i64 0,.int .i64 0]:=if_neg h
theorem onesS_ok:∀ (l:List C) {M:Cl} (a:Int),M.ok→(onesS l M a).2.1.ok
 | [],M,a,h=>h
 | x::l,M,a,h=>by
  unfold onesS
  split
  ·exact oneS_ok h _ _
  ·exact onesS_ok l _ (oneS_ok h _ _)
theorem cellsS_ok {M:Cl} (h:M.ok) (a:Int) (X:List C):(cellsS M a X).2.1.ok:=by
 unfold cellsS
 split
 ·exact markS_ok h _
 ·exact onesS_ok _ _ (markS_ok h _)
theorem segC_zero {f:Int} {X:List C} (h:segC f X=0):0≤f∧f≤1048576∧X.length≤64∧f+X.length≤1048576∧chkCs X=0:=by
 unfold segC at h
 split at h
 ·cases h
 ·split at h
  ·cases h
  ·split at h
   ·cases h
   ·exact ⟨by omega,by omega,by omega,by omega,h⟩
theorem pclC_zero {e t f:Int} {X:List C} (h:pclC e t f X=0):inB e 1099511627776=true∧inB t 1048576=true∧segC f X=0:=by
 unfold pclC at h
 split at h
 ·cases h
 ·rename_i hn
  refine ⟨?_,?_,h⟩
  ·cases hq:inB e 1099511627776 with
   | true=>rfl
   | false=>exact absurd (.inl hq) hn
  ·cases hq:inB t 1048576 with
   | true=>rfl
   | false=>exact absurd (.inr hq) hn
theorem newsS_len (f:Int) (X:List CE) (a:Int):(newsS f X a).length≤X.length:=by
 unfold newsS
 split
 ·simp
 ·split
  ·rw [List.length_take,List.length_drop];omega
  ·rw [List.length_drop];omega
set_option maxHeartbeats 16000000 in
theorem atake_any {c b:Nat} {M:Cl} {J:CJ} {L:List Asn} {W:World} (x:Sp) (e t f:Int) (X:List CE) (pa:Option Addr) (pk:Nat) (w:World) (hp:Pow W) (h:ClAt c M J (Asn.appl b x::L) W w) (hok:M.ok) (hx:0≤x.a∧x.a≤1048576) (hX:∀ M' w',ClAt c M' J L W w'→CEs w' pa pk X) :
  Calls Tryz.prog 14 #[ptrV b,ptrV c,pclV e t f pa X.length pk] w fun en w'=>en=.returned (.tuple #[rcV (takeA M x e t f X),errV (takeA M x e t f X).1])∧ClAt c (takeA M x e t f X).2.1 J (Asn.appl b (takeA M x e t f X).2.2::L) W w':=by
 have HP:=Lib.hid' hp
 have HOK:=Lib.hid' hok
 have HX:=Lib.hid' hX
 obtain ⟨xe,xa⟩:=x
 simp only at hx h ⊢
 have HF:=Zh (show takeA M ⟨xe,xa⟩ e t f X=if pclC e t f (X.map (·.c))≠0 then (pclC e t f (X.map (·.c)),M,⟨xe,xa⟩) else if e≠xe then (7,M,⟨xe,xa⟩) else if xa<f then (0,M,⟨xe,xa⟩) else
  if (cellsS M xa ((newsS f X xa).map (·.c))).1≠0 then ((cellsS M xa ((newsS f X xa).map (·.c))).1,(cellsS M xa ((newsS f X xa).map (·.c))).2.1,⟨xe,(cellsS M xa ((newsS f X xa).map (·.c))).2.2⟩) else
  ((markS (cellsS M xa ((newsS f X xa).map (·.c))).2.1 (min t (cellsS M xa ((newsS f X xa).map (·.c))).2.2)).1,(markS (cellsS M xa ((newsS f X xa).map (·.c))).2.1 (min t (cellsS M xa ((newsS f X xa).map (·.c))).2.2)).2,⟨xe,(cellsS M xa ((newsS f X xa).map (·.c))).2.2⟩) from rfl)
 have h1:=((h.allocB w.heap.size [.int .i64 e,.int .i64 t,.int .i64 f,.slice pa X.length pk] 66 rfl).allocB (w.heap.size+1) [.int .i64 0,.int .i64 0] 59 (by simp)).swapB
 obtain ⟨w1,hw1⟩:∃ w1,(w.alloc (.cells #[.int .i64 e,.int .i64 t,.int .i64 f,.slice pa X.length pk] 66)).alloc (.cells #[.int .i64 0,.int .i64 0] 59)=w1:=⟨_,rfl⟩
 rw [show ([.int .i64 e,.int .i64 t,.int .i64 f,.slice pa X.length pk]:List Value).toArray=#[.int .i64 e,.int .i64 t,.int .i64 f,.slice pa X.length pk] from rfl,show ([.int .i64 0,.int .i64 0]:List Value).toArray=#[.int .i64 0,.int .i64 0] from rfl,hw1] at h1
 have H1:=Lib.hid' h1
 have HCK:=Zh (pclCheck_any e t f pa pk X w1 (HX.out M w1 (ClAt.less (K:=[_,_,_]) h1)))
 have HPZ:=Zh (fun h0=>pclC_zero (e:=e) (t:=t) (f:=f) (X:=X.map (·.c)) h0)
 rw [show pclV e t f pa X.length pk=.agg #[.int .i64 e,.int .i64 t,.int .i64 f,.slice pa X.length pk] from rfl] at HCK ⊢
 clear h h1 hp hok hX
 go_enter Tryz.func14, Tryz.ntmps14
 go_upto_region 1 with fail
 try rw [hw1]
 clear hw1
 obtain ⟨NR,hNR⟩:∃ n,w.heap.size+1=n:=⟨_,rfl⟩
 try rw [hNR]
 rw [hNR] at H1
 clear hNR
 generalize w.heap.size=NP at *
 have p0:=H1.out.side.cell 0 rfl 0 rfl;have p1:=H1.out.side.cell 0 rfl 1 rfl;have p2:=H1.out.side.cell 0 rfl 2 rfl;have p3:=H1.out.side.cell 0 rfl 3 rfl;have pl:=H1.out.side.lt 0 rfl
 generalize pclC e t f (X.map (·.c))=z at *
 go_wp2_with fail
 refine HCK.out.mono ?_
 clear HCK p0 p1 p2 p3 pl
 rintro en w2 ⟨rfl,hb2⟩
 have H2:=Zh (H1.out.below hb2)
 clear hb2 H1
 by_cases hz:z=0
 rotate_left
 ·have HR:=Zh (HF.out.trans (if_pos hz))
  have HZ:=Lib.hid' hz
  rw [errV_pos hz]
  clear HF hz HPZ
  have y0:=H2.out.side.cell 1 rfl 0 rfl;have y1:=H2.out.side.cell 1 rfl 1 rfl;have r0:=H2.out.side.free 1 rfl 0;have r1:=H2.out.side.free 1 rfl 1;have rl:=H2.out.side.lt 1 rfl
  have H8:=Zh (((H2.out.focus 1 rfl).setB 0 (.int .i64 0)).setB 1 (.int .i64 0))
  go_wp2_with fail
  have k0:=H8.out.side.cell 0 rfl 0 rfl;have k1:=H8.out.side.cell 0 rfl 1 rfl
  generalize (w2.setCell ⟨NR,0,none⟩ (.int .i64 0)).setCell ⟨NR,1,none⟩ (.int .i64 0)=w8 at *
  refine bodyPost_ret (v:=.tuple #[.agg #[.int .i64 0,.int .i64 0],.iface 70 (.int .i64 z)]) (by simp [results,Tryz.results14,go_sem,k0,k1]) rfl ?_
  rw [HR.out]
  exact ⟨by rw [rcV_err HZ.out,errV_pos HZ.out],ClAt.less (K:=[_,_]) H8.out⟩
 subst hz
 have HF1:=Zh (HF.out.trans (if_neg (by simp)))
 obtain ⟨_,hti,hsz⟩:=HPZ.out rfl
 obtain ⟨hf0,hf1,hX64,_,_⟩:=segC_zero hsz
 rw [List.length_map] at hX64
 have HSZ:=Zh (And.intro hf0 (And.intro hf1 hX64))
 have HTI:=Zh (inB_iff.1 hti)
 rw [errV_0]
 clear HF HPZ hti hsz
 have p0:=H2.out.side.cell 0 rfl 0 rfl;have pl:=H2.out.side.lt 0 rfl
 have a0:=H2.out.side.cell 2 rfl 0 rfl;have al:=H2.out.side.lt 2 rfl
 by_cases he:e=xe
 rotate_left
 ·have HR:=Zh (HF1.out.trans (if_pos he))
  have HZ:=Zh (show (7:Nat)≠0 by decide)
  clear HF1
  go_upto_region 6 with fail
  refine startD (S:=(fun w'=>w'.cell? ⟨NP,0,none⟩=some (.int .i64 e)∧NP<w'.heap.size∧w'.cell? ⟨b,0,none⟩=some (.int .i64 xe)∧b<w'.heap.size)) (by kernel_rfl) ⟨p0,pl,a0,al⟩ (fun hH0=>?_)
  simp only [List.length_cons,List.length_nil,Nat.reduceAdd,List.replicate_succ,List.replicate_zero]
  refine tD 0 25 (.pointer (some ⟨NP,0,none⟩)) rfl rfl [(5,.pointer (some ⟨NP,0,none⟩))] hH0 ?_
  dsimp only [sZ,sS]
  refine tD 1 26 (.int .i64 e) rfl rfl [(25,.pointer (some ⟨NP,0,none⟩))] hH0 ?_
  dsimp only [sZ,sS]
  refine tD 2 27 (.pointer (some ⟨b,0,none⟩)) rfl rfl [(0,.pointer (some ⟨b,0,none⟩))] hH0 ?_
  dsimp only [sZ,sS]
  refine tD 3 28 (.pointer (some ⟨b,0,none⟩)) rfl rfl [(27,.pointer (some ⟨b,0,none⟩))] hH0 ?_
  dsimp only [sZ,sS]
  refine tD 4 29 (.pointer (some ⟨b,0,none⟩)) rfl rfl [(28,.pointer (some ⟨b,0,none⟩))] hH0 ?_
  dsimp only [sZ,sS]
  refine tD 5 30 (.int .i64 xe) rfl rfl [(29,.pointer (some ⟨b,0,none⟩))] hH0 ?_
  dsimp only [sZ,sS]
  refine tD 6 31 (.bool true) rfl rfl [(26,.int .i64 e),(30,.int .i64 xe)] hH0 ?_
  dsimp only [sZ,sS]
  refine wpAnyH_done (by kernel_rfl) ?_ _
  skip
  have H3:=Zh (H2.out.below (Below.refl w2.heap.size w2).drew)
  clear p0 pl a0 al H2
  generalize w2.drew=w3 at *
  have y0:=H3.out.side.cell 1 rfl 0 rfl;have y1:=H3.out.side.cell 1 rfl 1 rfl;have r0:=H3.out.side.free 1 rfl 0;have r1:=H3.out.side.free 1 rfl 1;have rl:=H3.out.side.lt 1 rfl
  have H8:=Zh (((H3.out.focus 1 rfl).setB 0 (.int .i64 0)).setB 1 (.int .i64 0))
  go_wp2_with fail
  have k0:=H8.out.side.cell 0 rfl 0 rfl;have k1:=H8.out.side.cell 0 rfl 1 rfl
  generalize (w3.setCell ⟨NR,0,none⟩ (.int .i64 0)).setCell ⟨NR,1,none⟩ (.int .i64 0)=w8 at *
  refine bodyPost_ret (v:=.tuple #[.agg #[.int .i64 0,.int .i64 0],.iface 70 (.int .i64 ((7:Nat):Int))]) (by simp [results,Tryz.results14,go_sem,k0,k1]) rfl ?_
  rw [HR.out]
  exact ⟨by rw [rcV_err HZ.out,errV_pos HZ.out],ClAt.less (K:=[_,_]) H8.out⟩
 subst he
 have HF2:=Zh (HF1.out.trans (if_neg (by simp)))
 clear HF1
 go_upto_region 6 with fail
 refine startD (S:=(fun w'=>w'.cell? ⟨NP,0,none⟩=some (.int .i64 e)∧NP<w'.heap.size∧w'.cell? ⟨b,0,none⟩=some (.int .i64 e)∧b<w'.heap.size)) (by kernel_rfl) ⟨p0,pl,a0,al⟩ (fun hH0=>?_)
 simp only [List.length_cons,List.length_nil,Nat.reduceAdd,List.replicate_succ,List.replicate_zero]
 refine tD 0 25 (.pointer (some ⟨NP,0,none⟩)) rfl rfl [(5,.pointer (some ⟨NP,0,none⟩))] hH0 ?_
 dsimp only [sZ,sS]
 refine tD 1 26 (.int .i64 e) rfl rfl [(25,.pointer (some ⟨NP,0,none⟩))] hH0 ?_
 dsimp only [sZ,sS]
 refine tD 2 27 (.pointer (some ⟨b,0,none⟩)) rfl rfl [(0,.pointer (some ⟨b,0,none⟩))] hH0 ?_
 dsimp only [sZ,sS]
 refine tD 3 28 (.pointer (some ⟨b,0,none⟩)) rfl rfl [(27,.pointer (some ⟨b,0,none⟩))] hH0 ?_
 dsimp only [sZ,sS]
 refine tD 4 29 (.pointer (some ⟨b,0,none⟩)) rfl rfl [(28,.pointer (some ⟨b,0,none⟩))] hH0 ?_
 dsimp only [sZ,sS]
 refine tD 5 30 (.int .i64 e) rfl rfl [(29,.pointer (some ⟨b,0,none⟩))] hH0 ?_
 dsimp only [sZ,sS]
 refine tD 6 31 (.bool false) rfl rfl [(26,.int .i64 e),(30,.int .i64 e)] hH0 ?_
 dsimp only [sZ,sS]
 refine wpAnyH_done (by kernel_rfl) ?_ _
 skip
 have H3:=Zh (H2.out.below (Below.refl w2.heap.size w2).drew)
 clear p0 pl a0 al H2
 generalize w2.drew=w3 at *
 have p2:=H3.out.side.cell 0 rfl 2 rfl;have pl:=H3.out.side.lt 0 rfl
 have a1:=H3.out.side.cell 2 rfl 1 rfl;have al:=H3.out.side.lt 2 rfl
 by_cases hfa:xa<f
 ·have HR:=Zh (HF2.out.trans (if_pos hfa))
  have hfa2:¬f≤xa:=by omega
  clear HF2
  go_upto_region 8 with fail
  refine startD (S:=(fun w'=>w'.cell? ⟨NP,2,none⟩=some (.int .i64 f)∧NP<w'.heap.size∧w'.cell? ⟨b,1,none⟩=some (.int .i64 xa)∧b<w'.heap.size)) (by kernel_rfl) ⟨p2,pl,a1,al⟩ (fun hH0=>?_)
  simp only [List.length_cons,List.length_nil,Nat.reduceAdd,List.replicate_succ,List.replicate_zero]
  refine tD 0 34 (.pointer (some ⟨NP,2,none⟩)) rfl rfl [(5,.pointer (some ⟨NP,0,none⟩))] hH0 ?_
  dsimp only [sZ,sS]
  refine tD 1 35 (.pointer (some ⟨NP,2,none⟩)) rfl rfl [(34,.pointer (some ⟨NP,2,none⟩))] hH0 ?_
  dsimp only [sZ,sS]
  refine tD 2 36 (.int .i64 f) rfl rfl [(35,.pointer (some ⟨NP,2,none⟩))] hH0 ?_
  dsimp only [sZ,sS]
  refine tD 3 37 (.pointer (some ⟨b,0,none⟩)) rfl rfl [(0,.pointer (some ⟨b,0,none⟩))] hH0 ?_
  dsimp only [sZ,sS]
  refine tD 4 38 (.pointer (some ⟨b,0,none⟩)) rfl rfl [(37,.pointer (some ⟨b,0,none⟩))] hH0 ?_
  dsimp only [sZ,sS]
  refine tD 5 39 (.pointer (some ⟨b,1,none⟩)) rfl rfl [(38,.pointer (some ⟨b,0,none⟩))] hH0 ?_
  dsimp only [sZ,sS]
  refine tD 6 40 (.int .i64 xa) rfl rfl [(39,.pointer (some ⟨b,1,none⟩))] hH0 ?_
  dsimp only [sZ,sS]
  refine tD 7 41 (.bool false) rfl rfl [(36,.int .i64 f),(40,.int .i64 xa)] hH0 ?_
  dsimp only [sZ,sS]
  refine wpAnyH_done (by kernel_rfl) ?_ _
  skip
  have H4:=Zh (H3.out.below (Below.refl w3.heap.size w3).drew)
  clear p2 pl a1 al H3
  generalize w3.drew=w4 at *
  have a0:=H4.out.side.cell 2 rfl 0 rfl;have a1:=H4.out.side.cell 2 rfl 1 rfl;have al:=H4.out.side.lt 2 rfl
  have HRC:=Zh (areceipt_any w4 2 H4.out.side rfl)
  simp only at HRC
  go_wp2_with fail
  refine HRC.out.mono ?_
  clear HRC a0 a1 al
  rintro en w9 ⟨rfl,hb9⟩
  have H9:=Zh (H4.out.below hb9)
  have y0:=H9.out.side.cell 1 rfl 0 rfl;have y1:=H9.out.side.cell 1 rfl 1 rfl;have r0:=H9.out.side.free 1 rfl 0;have r1:=H9.out.side.free 1 rfl 1;have rl:=H9.out.side.lt 1 rfl
  have H8:=Zh (((H9.out.focus 1 rfl).setB 0 (.int .i64 e)).setB 1 (.int .i64 xa))
  clear hb9
  go_wp2_with fail
  have k0:=H8.out.side.cell 0 rfl 0 rfl;have k1:=H8.out.side.cell 0 rfl 1 rfl
  generalize (w9.setCell ⟨NR,0,none⟩ (.int .i64 e)).setCell ⟨NR,1,none⟩ (.int .i64 xa)=w8 at *
  refine bodyPost_ret (v:=.tuple #[.agg #[.int .i64 e,.int .i64 xa],.nilIface]) (by simp [results,Tryz.results14,go_sem,k0,k1]) rfl ?_
  rw [HR.out]
  exact ⟨rfl,ClAt.less (K:=[_,_]) H8.out⟩
 have HF3:=Zh (HF2.out.trans (if_neg hfa))
 have hfa2:f≤xa:=by omega
 clear HF2
 go_upto_region 8 with fail
 refine startD (S:=(fun w'=>w'.cell? ⟨NP,2,none⟩=some (.int .i64 f)∧NP<w'.heap.size∧w'.cell? ⟨b,1,none⟩=some (.int .i64 xa)∧b<w'.heap.size)) (by kernel_rfl) ⟨p2,pl,a1,al⟩ (fun hH0=>?_)
 simp only [List.length_cons,List.length_nil,Nat.reduceAdd,List.replicate_succ,List.replicate_zero]
 refine tD 0 34 (.pointer (some ⟨NP,2,none⟩)) rfl rfl [(5,.pointer (some ⟨NP,0,none⟩))] hH0 ?_
 dsimp only [sZ,sS]
 refine tD 1 35 (.pointer (some ⟨NP,2,none⟩)) rfl rfl [(34,.pointer (some ⟨NP,2,none⟩))] hH0 ?_
 dsimp only [sZ,sS]
 refine tD 2 36 (.int .i64 f) rfl rfl [(35,.pointer (some ⟨NP,2,none⟩))] hH0 ?_
 dsimp only [sZ,sS]
 refine tD 3 37 (.pointer (some ⟨b,0,none⟩)) rfl rfl [(0,.pointer (some ⟨b,0,none⟩))] hH0 ?_
 dsimp only [sZ,sS]
 refine tD 4 38 (.pointer (some ⟨b,0,none⟩)) rfl rfl [(37,.pointer (some ⟨b,0,none⟩))] hH0 ?_
 dsimp only [sZ,sS]
 refine tD 5 39 (.pointer (some ⟨b,1,none⟩)) rfl rfl [(38,.pointer (some ⟨b,0,none⟩))] hH0 ?_
 dsimp only [sZ,sS]
 refine tD 6 40 (.int .i64 xa) rfl rfl [(39,.pointer (some ⟨b,1,none⟩))] hH0 ?_
 dsimp only [sZ,sS]
 refine tD 7 41 (.bool true) rfl rfl [(36,.int .i64 f),(40,.int .i64 xa)] hH0 ?_
 dsimp only [sZ,sS]
 refine wpAnyH_done (by kernel_rfl) ?_ _
 skip
 have H4:=Zh (H3.out.below (Below.refl w3.heap.size w3).drew)
 clear p2 pl a1 al H3
 generalize w3.drew=w3 at *
 have H3:=H4
 clear H4
 have p2:=H3.out.side.cell 0 rfl 2 rfl;have p3:=H3.out.side.cell 0 rfl 3 rfl;have pl:=H3.out.side.lt 0 rfl
 have a1:=H3.out.side.cell 2 rfl 1 rfl;have al:=H3.out.side.lt 2 rfl
 have HNL:=newsS_len f X xa
 have HNW:=Zh (fun (wq:World) (hq:ClAt c M J (.box NP [.int .i64 e,.int .i64 t,.int .i64 f,.slice pa X.length pk] 66::.box NR [.int .i64 0,.int .i64 0] 59::Asn.appl b ⟨e,xa⟩::L) W wq)=>news_any f xa X pa pk wq (HX.out M wq (ClAt.less (K:=[_,_,_]) hq)) ⟨HSZ.out.1,HSZ.out.2.1⟩ HSZ.out.2.2 hfa2)
 have HCL:=Zh (fun (na:Option Addr) (nk:Nat) (wq:World) (hq:ClAt c M J (.box NP [.int .i64 e,.int .i64 t,.int .i64 f,.slice pa X.length pk] 66::.box NR [.int .i64 0,.int .i64 0] 59::Asn.appl b ⟨e,xa⟩::L) W wq) (hn:∀ wq,CEs wq pa pk X→CEs wq na nk (newsS f X xa)) =>
  cellsA_any ⟨e,xa⟩ (newsS f X xa) na nk wq HP.out (hq.focus 2 rfl) HOK.out hx (by have:=HSZ.out.2.2;omega) (fun M' w' h'=>hn _ (HX.out M' w' (ClAt.less (K:=[_,_]) h'))))
 have HCO:=Zh (cellsS_ok HOK.out xa ((newsS f X xa).map (·.c)))
 have HCR:=Zh (cellsS_rng HOK.out (M:=M) (X:=(newsS f X xa).map (·.c)) hx (by rw [List.length_map];have:=HSZ.out.2.2;omega))
 clear HNL
 simp only at HCL
 generalize cellsS M xa ((newsS f X xa).map (·.c))=cr at *
 obtain ⟨cz,M5,ca⟩:=cr
 simp only at HCL HF3 HCO HCR
 go_upto_region 9 with fail
 refine startD (S:=(fun w'=>w'.cell? ⟨NP,2,none⟩=some (.int .i64 f)∧w'.cell? ⟨NP,3,none⟩=some (.slice pa X.length pk)∧NP<w'.heap.size∧b<w'.heap.size)) (by kernel_rfl) ⟨p2,p3,pl,al⟩ (fun hH0=>?_)
 simp only [List.length_cons,List.length_nil,Nat.reduceAdd,List.replicate_succ,List.replicate_zero]
 refine tD 0 42 (.pointer (some ⟨b,0,none⟩)) rfl rfl [(0,.pointer (some ⟨b,0,none⟩))] hH0 ?_
 dsimp only [sZ,sS]
 refine tD 1 43 (.pointer (some ⟨c,0,none⟩)) rfl rfl [(1,.pointer (some ⟨c,0,none⟩))] hH0 ?_
 dsimp only [sZ,sS]
 refine tD 2 44 (.pointer (some ⟨NP,2,none⟩)) rfl rfl [(5,.pointer (some ⟨NP,0,none⟩))] hH0 ?_
 dsimp only [sZ,sS]
 refine tD 3 45 (.agg #[.int .i64 f,.slice pa X.length pk]) rfl rfl [(44,.pointer (some ⟨NP,2,none⟩))] hH0 ?_
 dsimp only [sZ,sS]
 refine tD 4 46 (.pointer (some ⟨b,0,none⟩)) rfl rfl [(0,.pointer (some ⟨b,0,none⟩))] hH0 ?_
 dsimp only [sZ,sS]
 refine tD 5 47 (.pointer (some ⟨b,0,none⟩)) rfl rfl [(46,.pointer (some ⟨b,0,none⟩))] hH0 ?_
 dsimp only [sZ,sS]
 refine tD 6 48 (.pointer (some ⟨b,1,none⟩)) rfl rfl [(47,.pointer (some ⟨b,0,none⟩))] hH0 ?_
 dsimp only [sZ,sS]
 refine rD 7 rfl (fun K hK=>?_)
 go_simp
 refine hK.out _ _ ?_ (fun hH1=>?_)
 ·exact hH0
 clear hK K
 try simp only [Act.put,gA,gZ,gS,sA,sZ,sS]
 refine rD 8 rfl (fun K hK=>?_)
 go_simp
 refine (HNW.out _ (H3.out.below (Below.refl w3.heap.size w3).drew)).mono ?_
 clear HNW
 rintro en w5 ⟨na,nk,rfl,hn5,hb5⟩
 have H5:=Zh ((H3.out.below (Below.refl w3.heap.size w3).drew).below hb5)
 have HN5:=Lib.hid' hn5
 have HB5:=Lib.hid' hb5
 clear hn5 hb5
 refine hK.out _ _ ?_ (fun hH2=>?_)
 ·exact ⟨H5.out.side.cell 0 rfl 2 rfl,H5.out.side.cell 0 rfl 3 rfl,H5.out.side.lt 0 rfl,H5.out.side.lt 2 rfl⟩
 clear hK K
 try simp only [Act.put,gA,gZ,gS,sA,sZ,sS]
 refine rD 9 rfl (fun K hK=>?_)
 go_simp
 refine (HCL.out na nk w5 H5.out HN5.out).mono ?_
 clear HCL
 rintro en w6 ⟨rfl,h6⟩
 have H6:=Lib.hid' h6
 clear h6
 refine hK.out _ _ ?_ (fun hH3=>?_)
 ·exact ⟨H6.out.side.cell 1 rfl 2 rfl,H6.out.side.cell 1 rfl 3 rfl,H6.out.side.lt 1 rfl,H6.out.side.lt 0 rfl⟩
 clear hK K
 try simp only [Act.put,gA,gZ,gS,sA,sZ,sS]
 refine tD 10 9 (errV cz) rfl rfl [(51,errV cz)] hH3 ?_
 dsimp only [sZ,sS]
 refine wpAnyH_done (by kernel_rfl) ?_ _
 skip
 have H7:=Zh (((H6.out.focus 1 rfl).focus 2 rfl).swapB)
 clear p2 p3 pl a1 al H6 H5 H3 HN5 HB5
 generalize w6=w7 at *
 by_cases hz:cz=0
 rotate_left
 ·have HR:=Zh (HF3.out.trans (if_pos hz))
  have HZ:=Lib.hid' hz
  rw [errV_pos hz]
  clear HF3 hz
  have y0:=H7.out.side.cell 1 rfl 0 rfl;have y1:=H7.out.side.cell 1 rfl 1 rfl;have r0:=H7.out.side.free 1 rfl 0;have r1:=H7.out.side.free 1 rfl 1;have rl:=H7.out.side.lt 1 rfl
  have H8:=Zh (((H7.out.focus 1 rfl).setB 0 (.int .i64 0)).setB 1 (.int .i64 0))
  go_wp2_with fail
  have k0:=H8.out.side.cell 0 rfl 0 rfl;have k1:=H8.out.side.cell 0 rfl 1 rfl
  generalize (w7.setCell ⟨NR,0,none⟩ (.int .i64 0)).setCell ⟨NR,1,none⟩ (.int .i64 0)=w8 at *
  refine bodyPost_ret (v:=.tuple #[.agg #[.int .i64 0,.int .i64 0],.iface 70 (.int .i64 cz)]) (by simp [results,Tryz.results14,go_sem,k0,k1]) rfl ?_
  rw [HR.out]
  exact ⟨by rw [rcV_err HZ.out,errV_pos HZ.out],ClAt.less (K:=[_,_]) H8.out⟩
 subst hz
 have HF4:=Zh (HF3.out.trans (if_neg (by simp)))
 rw [errV_0]
 clear HF3
 have p1:=H7.out.side.cell 0 rfl 1 rfl;have pl:=H7.out.side.lt 0 rfl
 have a1:=H7.out.side.cell 2 rfl 1 rfl;have al:=H7.out.side.lt 2 rfl
 have HMK:=Zh (fun (wq:World) (hq:ClAt c M5 J (.box NP [.int .i64 e,.int .i64 t,.int .i64 f,.slice pa X.length pk] 66::.box NR [.int .i64 0,.int .i64 0] 59::Asn.appl b ⟨e,ca⟩::L) W wq)=>mark_any (min t ca) wq HP.out (hq.focus 2 rfl) HCO.out)
 generalize markS M5 (min t ca)=mr at *
 obtain ⟨mz,M6⟩:=mr
 simp only at HF4 HMK
 go_upto_region 12 with fail
 refine startD (S:=(fun w'=>w'.cell? ⟨NP,1,none⟩=some (.int .i64 t)∧NP<w'.heap.size∧w'.cell? ⟨b,1,none⟩=some (.int .i64 ca)∧b<w'.heap.size)) (by kernel_rfl) ⟨p1,pl,a1,al⟩ (fun hH0=>?_)
 simp only [List.length_cons,List.length_nil,Nat.reduceAdd,List.replicate_succ,List.replicate_zero]
 refine tD 0 56 (.pointer (some ⟨c,0,none⟩)) rfl rfl [(1,.pointer (some ⟨c,0,none⟩))] hH0 ?_
 dsimp only [sZ,sS]
 refine tD 1 57 (.pointer (some ⟨NP,1,none⟩)) rfl rfl [(5,.pointer (some ⟨NP,0,none⟩))] hH0 ?_
 dsimp only [sZ,sS]
 refine tD 2 58 (.int .i64 t) rfl rfl [(57,.pointer (some ⟨NP,1,none⟩))] hH0 ?_
 dsimp only [sZ,sS]
 refine tD 3 59 (.pointer (some ⟨b,0,none⟩)) rfl rfl [(0,.pointer (some ⟨b,0,none⟩))] hH0 ?_
 dsimp only [sZ,sS]
 refine tD 4 60 (.pointer (some ⟨b,0,none⟩)) rfl rfl [(59,.pointer (some ⟨b,0,none⟩))] hH0 ?_
 dsimp only [sZ,sS]
 refine tD 5 61 (.pointer (some ⟨b,1,none⟩)) rfl rfl [(60,.pointer (some ⟨b,0,none⟩))] hH0 ?_
 dsimp only [sZ,sS]
 refine tD 6 62 (.int .i64 ca) rfl rfl [(61,.pointer (some ⟨b,1,none⟩))] hH0 ?_
 dsimp only [sZ,sS]
 refine rD 7 rfl (fun K hK=>?_)
 go_simp
 refine hK.out _ _ ?_ (fun hH1=>?_)
 ·exact hH0
 clear hK K
 try simp only [Act.put,gA,gZ,gS,sA,sZ,sS]
 refine rD 8 rfl (fun K hK=>?_)
 go_simp
 refine (HMK.out _ (H7.out.below (Below.refl w7.heap.size w7).drew)).mono ?_
 clear HMK
 rintro en w8 ⟨rfl,h8⟩
 have H8:=Lib.hid' h8
 clear h8
 refine hK.out _ _ ?_ (fun hH2=>?_)
 ·exact ⟨H8.out.side.cell 1 rfl 1 rfl,H8.out.side.lt 1 rfl,H8.out.side.cell 0 rfl 1 rfl,H8.out.side.lt 0 rfl⟩
 clear hK K
 try simp only [Act.put,gA,gZ,gS,sA,sZ,sS]
 refine tD 9 10 (errV mz) rfl rfl [(64,errV mz)] hH2 ?_
 dsimp only [sZ,sS]
 refine wpAnyH_done (by kernel_rfl) ?_ _
 skip
 have H9:=Zh (((H8.out.focus 1 rfl).focus 2 rfl).swapB)
 clear p1 pl a1 al H8 H7
 generalize w8=w9 at *
 by_cases hz:mz=0
 rotate_left
 ·have HZ:=Lib.hid' hz
  have HR:=HF4
  rw [errV_pos hz]
  clear hz
  have y0:=H9.out.side.cell 1 rfl 0 rfl;have y1:=H9.out.side.cell 1 rfl 1 rfl;have r0:=H9.out.side.free 1 rfl 0;have r1:=H9.out.side.free 1 rfl 1;have rl:=H9.out.side.lt 1 rfl
  have H8:=Zh (((H9.out.focus 1 rfl).setB 0 (.int .i64 0)).setB 1 (.int .i64 0))
  go_wp2_with fail
  have k0:=H8.out.side.cell 0 rfl 0 rfl;have k1:=H8.out.side.cell 0 rfl 1 rfl
  generalize (w9.setCell ⟨NR,0,none⟩ (.int .i64 0)).setCell ⟨NR,1,none⟩ (.int .i64 0)=w8 at *
  refine bodyPost_ret (v:=.tuple #[.agg #[.int .i64 0,.int .i64 0],.iface 70 (.int .i64 mz)]) (by simp [results,Tryz.results14,go_sem,k0,k1]) rfl ?_
  rw [HR.out]
  exact ⟨by rw [rcV_err HZ.out,errV_pos HZ.out],ClAt.less (K:=[_,_]) H8.out⟩
 subst hz
 have HR:=HF4
 rw [errV_0]
 have H10:=H9
 clear H9 HF4
 generalize w9=w10 at *
 have a0:=H10.out.side.cell 2 rfl 0 rfl;have a1:=H10.out.side.cell 2 rfl 1 rfl;have al:=H10.out.side.lt 2 rfl
 have HRC:=Zh (areceipt_any w10 2 H10.out.side rfl)
 simp only at HRC
 go_wp2_with fail
 refine HRC.out.mono ?_
 clear HRC a0 a1 al
 rintro en w9 ⟨rfl,hb9⟩
 have H9:=Zh (H10.out.below hb9)
 have y0:=H9.out.side.cell 1 rfl 0 rfl;have y1:=H9.out.side.cell 1 rfl 1 rfl;have r0:=H9.out.side.free 1 rfl 0;have r1:=H9.out.side.free 1 rfl 1;have rl:=H9.out.side.lt 1 rfl
 have H8:=Zh (((H9.out.focus 1 rfl).setB 0 (.int .i64 e)).setB 1 (.int .i64 ca))
 clear hb9
 go_wp2_with fail
 have k0:=H8.out.side.cell 0 rfl 0 rfl;have k1:=H8.out.side.cell 0 rfl 1 rfl
 generalize (w9.setCell ⟨NR,0,none⟩ (.int .i64 e)).setCell ⟨NR,1,none⟩ (.int .i64 ca)=w8 at *
 refine bodyPost_ret (v:=.tuple #[.agg #[.int .i64 e,.int .i64 ca],.nilIface]) (by simp [results,Tryz.results14,go_sem,k0,k1]) rfl ?_
 rw [HR.out]
 exact ⟨rfl,ClAt.less (K:=[_,_]) H8.out⟩
end SL
end Go.Proofs.YtaodldbgikiekaaGreatDoor
