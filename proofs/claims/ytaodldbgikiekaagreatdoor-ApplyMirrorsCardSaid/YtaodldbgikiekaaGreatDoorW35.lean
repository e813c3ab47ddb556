/- Proved here: a part of the proof (35 of 35). -/
import Derived.Test.YtaodldbgikiekaaGreatDoorW34
import Derived.Deep.DeepCutAuto
import Derived.Deep.CutBlock
set_option linter.unusedSimpArgs false
set_option linter.unusedVariables false
set_option maxRecDepth 100000
namespace Go.Proofs.YtaodldbgikiekaaGreatDoor
open Go.RowKit
namespace SL
open DK SH SQ
/-- what a line tells where it is told something, and what it has then -/
def NetR (w0:World) (F:Nat→Prop) (L:List Asn) (t:Nat) (D:List (List UInt8)) (en:Ending) (w':World):Prop :=
 (∃ D' G,en=.returned (.slice none 0 0)∧(∀ b∈D',b∈D)∧D'.length≤D.length+1∧Sep w0 F (lineA t D' G::L) w') ∨
 (∃ (n:Nat) (hn:n<D.length) (a:Option Addr) (c:Nat) (G:Nat→Prop),en=.returned (.slice a D[n].length c)∧Sep w0 F (.row 5 1 (.slice a D[n].length c) D[n].length (byteVs D[n])::lineA t (D.eraseIdx n) G::L) w')
theorem loseS_mem (D:List (List UInt8)) (i:Int):(∀ b∈loseS D i,b∈D)∧(loseS D i).length≤D.length+1:=by
 unfold loseS
 split
 ·refine ⟨fun b hb=>List.mem_of_mem_eraseIdx hb,?_⟩
  have:=List.length_eraseIdx_le D i.toNat
  omega
 ·exact ⟨fun b hb=>hb,Nat.le_succ _⟩
theorem twiceS_mem (D:List (List UInt8)) (i:Int):(∀ b∈twiceS D i,b∈D)∧(twiceS D i).length≤D.length+1:=by
 unfold twiceS
 split
 ·rename_i hi
  split
  ·exact ⟨fun b hb=>hb,Nat.le_succ _⟩
  ·refine ⟨fun b hb=>?_,by simp⟩
   rcases List.mem_append.1 hb with hb | hb
   ·exact hb
   ·obtain rfl:=List.mem_singleton.1 hb
    rw [List.getD_eq_getElem?_getD,List.getElem?_eq_getElem (by omega)]
    exact List.getElem_mem _
 ·exact ⟨fun b hb=>hb,Nat.le_succ _⟩
set_option maxHeartbeats 8000000 in
theorem mnet_any {w0:World} {F G:Nat→Prop} {L:List Asn} {t:Nat} {D:List (List UInt8)} (k i:Int) (na:Option Addr) (nn nc:Nat) (w:World) (h:Sep w0 F (lineA t D G::L) w) :
  Calls Tryz.prog 21 #[ptrV t,.agg #[.int .i64 k,.int .i64 i,.slice na nn nc]] w (NetR w0 F L t D):=by
 have H1:=Zh ((h.allocAt w.heap.size [.int .i64 k,.int .i64 i,.slice na nn nc] 34 rfl).swap1)
 obtain ⟨w1,hw1⟩:∃ w1,w.alloc (.cells #[.int .i64 k,.int .i64 i,.slice na nn nc] 34)=w1:=⟨_,rfl⟩
 rw [show ([.int .i64 k,.int .i64 i,.slice na nn nc]:List Value).toArray=#[.int .i64 k,.int .i64 i,.slice na nn nc] from rfl,hw1] at H1
 clear h
 go_enter Tryz.func21, Tryz.ntmps21
 go_upto_region 1 with fail
 try rw [hw1]
 clear hw1
 generalize w.heap.size=B at *
 have b0:=H1.out.cell 1 rfl 0 rfl;have b1:=H1.out.cell 1 rfl 1 rfl;have bl:=H1.out.lt 1 rfl
 go_upto_block 2 with fail
 ·refine (line_deliver i w1 H1.out).mono ?_
  rintro en w2 (⟨_,rfl,G',h2⟩ | ⟨n,hn,a,c,rfl,rfl,G',h2⟩)
  ·have H2:=Lib.hid' h2
   clear b0 b1 bl h2 H1
   go_wp2_with fail
   go_ret
   exact .inl ⟨D,G',rfl,fun b hb=>hb,Nat.le_succ _,(H2.out.drop 1)⟩
  ·have H2:=Lib.hid' h2
   have HN:=Lib.hid' hn
   have HR:=Zh (show NetR w0 F L t D (.returned (.slice a D[n].length c)) w2 from .inr ⟨n,hn,a,c,G',rfl,h2.drop 2⟩)
   clear b0 b1 bl h2 H1
   generalize D[n].length=q at *
   go_wp2_with fail
   go_ret
   exact HR.out
 ·have HM:=Zh (loseS_mem D i)
  refine (line_lose i w1 H1.out).mono ?_
  rintro en w2 ⟨v,G',rfl,h2⟩
  have H2:=Lib.hid' h2
  clear b0 b1 bl h2 H1
  go_wp2_with fail
  go_ret
  exact .inl ⟨_,G',rfl,HM.out.1,HM.out.2,(H2.out.drop 1)⟩
 ·have HM:=Zh (twiceS_mem D i)
  refine (line_twice i w1 H1.out).mono ?_
  rintro en w2 ⟨v,G',rfl,h2⟩
  have H2:=Lib.hid' h2
  clear b0 b1 bl h2 H1
  go_wp2_with fail
  go_ret
  exact .inl ⟨_,G',rfl,HM.out.1,HM.out.2,(H2.out.drop 1)⟩
 ·clear b0 b1 bl
  go_ret
  exact .inl ⟨D,G,rfl,fun b hb=>hb,Nat.le_succ _,(H1.out.drop 1)⟩
set_option maxHeartbeats 16000000 in
theorem magrees_any {Z:List Asn} {a b:Nat} {Ma Mb:Cl} {W:World} (til:Int) (w:World) (h:Two Z a Ma b Mb W w) (ha:Ma.ok) (hb:Mb.ok) (hto:til≤1048576) (hag:∀ i,0≤i→i<til→(Ma.read i).1=0∧(Mb.read i).1=0∧((Ma.read i).2=(Mb.read i).2∨(Ma.read i).2.k=3∨(Mb.read i).2.k=3)) :
  Calls Tryz.prog 11 #[ptrV a,ptrV b,.int .i64 til] w fun en w'=>en=.returned (.bool true)∧Below w.heap.size w w':=by
 have HT0:=Lib.hid' h
 have HAG:=Lib.hid' hag
 have HRA:=Zh (fun (n:Int) (wq:World) (Z:List Asn) (hq:Two Z a Ma b Mb W wq)=>two_read n wq hq ha)
 have HRB:=Zh (fun (n:Int) (wq:World) (Z:List Asn) (hq:Two Z a Ma b Mb W wq)=>two_read n wq hq.swapZ hb)
 clear h hag ha hb
 go_enter Tryz.func11, Tryz.ntmps11
 go_wp2_with fail
 go_loopw [7] (fun v7 wr=>∃ i:Int,v7=.int .i64 i∧0≤i∧Hid (Below w.heap.size w wr)) (fun v7 _=>(til - intOf v7).toNat)
 case atStart=>exact ⟨0,rfl,by decide,Zh (Below.refl _ _)⟩
 case round =>
  obtain ⟨i,rfl,hi,HB⟩:=hrel
  by_cases hlt:i<til
  ·obtain ⟨e1,e2,hs⟩:=HAG.out i hi hlt
   have HT:=Zh (HT0.out.below HB.out)
   have HR1:=Zh (fun (wq:World) (Z:List Asn) (hq:Two Z a Ma b Mb W wq)=>HRA.out i wq Z hq)
   have HR2:=Zh (fun (wq:World) (Z:List Asn) (hq:Two Z a Ma b Mb W wq)=>HRB.out i wq Z hq)
   generalize Ma.read i=ra at *
   generalize Mb.read i=rb at *
   obtain ⟨za,x⟩:=ra
   obtain ⟨zb,y⟩:=rb
   simp only at e1 e2 hs HR1 HR2
   subst e1
   subst e2
   have HS:=Lib.hid' hs
   clear hs
   go_wp2_with fail
   refine (HR1.out _ _ HT.out).mono ?_
   rintro en w5 ⟨a5,k5,rfl,ho5,hb5⟩
   have h5:=((HT.out.below hb5).boxZ w5.heap.size [.int .i64 x.k,.slice a5 x.d.length k5] 28 rfl)
   rw [show ([.int .i64 x.k,.slice a5 x.d.length k5]:List Value).toArray=#[.int .i64 x.k,.slice a5 x.d.length k5] from rfl] at h5
   have H5:=Lib.hid' h5
   have hg5:Below w5.heap.size w5 (w5.alloc (.cells #[.int .i64 x.k,.slice a5 x.d.length k5] 28)):=by go_grown
   have HBY:=Zh (SlV.below (show Bytes w5 (.slice a5 x.d.length k5) x.d from SlV.of_own ho5) (Nat.le_refl _) hg5)
   have HB5:=Zh (HB.out.trans ((hb5.trans (hg5.mono hb5.size)).mono HB.out.size))
   clear ho5 hb5 h5 HT hg5 HB
   rw [errV_0]
   go_upto_region 5 with fail
   generalize w5.alloc (.cells #[.int .i64 x.k,.slice a5 x.d.length k5] 28)=w6 at *
   generalize w5.heap.size=N5 at *
   go_wp2_with fail
   refine (HR2.out _ _ H5.out).mono ?_
   rintro en w7 ⟨a7,k7,rfl,ho7,hb7⟩
   have h7:=((H5.out.below hb7).boxZ w7.heap.size [.int .i64 y.k,.slice a7 y.d.length k7] 28 rfl)
   rw [show ([.int .i64 y.k,.slice a7 y.d.length k7]:List Value).toArray=#[.int .i64 y.k,.slice a7 y.d.length k7] from rfl] at h7
   have H7:=Lib.hid' h7
   have hbg:Below w7.heap.size w7 (w7.alloc (.cells #[.int .i64 y.k,.slice a7 y.d.length k7] 28)):=by go_grown
   have HB7:=Zh (SlV.below (show Bytes w7 (.slice a7 y.d.length k7) y.d from SlV.of_own ho7) (Nat.le_refl _) hbg)
   have HB6:=Zh (SlV.below (SlV.below HBY.out (Nat.le_refl _) hb7) (Nat.le_refl _) hbg)
   have HB8:=Zh (HB5.out.trans ((hb7.trans (hbg.mono hb7.size)).mono HB5.out.size))
   clear ho7 hb7 h7 hbg HBY H5 HR1 HR2 HB5
   rw [errV_0]
   go_upto_region 6 with fail
   generalize w7.alloc (.cells #[.int .i64 y.k,.slice a7 y.d.length k7] 28)=w8 at *
   generalize w7.heap.size=N7 at *
   have s0:=H7.out.side.cell 0 rfl 0 rfl;have s1:=H7.out.side.cell 0 rfl 1 rfl;have sl:=H7.out.side.lt 0 rfl
   have r0:=H7.out.side.cell 1 rfl 0 rfl;have r1:=H7.out.side.cell 1 rfl 1 rfl;have rl:=H7.out.side.lt 1 rfl
   have HSM:=same_any (.agg #[.int .i64 x.k,.slice a5 x.d.length k5]) (.agg #[.int .i64 y.k,.slice a7 y.d.length k7]) x y w8 ⟨a5,k5,rfl,HB6.out⟩ ⟨a7,k7,rfl,HB7.out⟩
   have hq:decide (x=y)=true∨(decide (x=y)=false∧(x.k=3∨y.k=3)):=by
    by_cases hxy:x=y
    ·left;simpa using hxy
    ·right
     refine ⟨by simpa using hxy,?_⟩
     rcases HS.out with h | h | h
     ·exact absurd h hxy
     ·exact .inl h
     ·exact .inr h
   generalize decide (x=y)=bq at *
   have HSM:=Lib.hid' HSM
   clear HS HB6 HB7
   rcases hq with rfl | ⟨rfl,hq⟩
   ·go_wp2_with fail
    refine HSM.out.mono ?_
    rintro en w9 ⟨rfl,hb9⟩
    have HB9:=Zh (HB8.out.trans (hb9.mono HB8.out.size))
    clear hb9 HSM s0 s1 sl r0 r1 rl H7 HB8
    go_wp2_with fail
    go_roundw
    case rel=>exact ⟨i+1,by go_num,by omega,HB9⟩
    case measure=>simp [intOf];omega
   ·go_wp2_with fail
    refine HSM.out.mono ?_
    rintro en w9 ⟨rfl,hb9⟩
    have HB9:=Zh (HB8.out.trans (hb9.mono HB8.out.size))
    have H9:=Zh (H7.out.below hb9)
    clear hb9 HSM s0 s1 sl r0 r1 rl H7 HB8
    have s0:=H9.out.side.cell 0 rfl 0 rfl;have sl:=H9.out.side.lt 0 rfl
    have r0:=H9.out.side.cell 1 rfl 0 rfl;have rl:=H9.out.side.lt 1 rfl
    cases hx3:(x.k != 3) with
    | false =>
     clear hq
     go_wp2_with fail
     go_roundw
     case rel=>exact ⟨i+1,by go_num,by omega,HB9⟩
     case measure=>simp [intOf];omega
    | true =>
     have hy3:(y.k != 3)=false:=by
      have h1:x.k≠3:=by simpa using hx3
      have:y.k=3:=hq.resolve_left h1
      simpa using this
     clear hq
     go_wp2_with fail
     go_roundw
     case rel=>exact ⟨i+1,by go_num,by omega,HB9⟩
     case measure=>simp [intOf];omega
  ·go_wp2_with fail
   go_ret
   exact ⟨rfl,HB.out⟩
/-- a mirror in memory -/
theorem i64_i (x:Int) (h0:0≤x) (h1:x≤1048576):IntKind.i64.wrap x=x:=by rw [IntKind.wrap_i64];omega
def MirW (N:Nat) (Ml Mc:Cl) (ack app:Int) (U D:List (List UInt8)) (W w:World):Prop:=∃ log copy s b u d Gu Gd,
 Two [mirB N log copy s b u d,Asn.ship s ⟨1,ack⟩,Asn.appl b ⟨1,app⟩,lineA u U Gu,lineA d D Gd] log Ml copy Mc W w
/-- a mirror, n picks done -/
def MirS (N n:Nat) (app most:Int) (W w:World):Prop:=∃ G ml mc l s d Ml Mc ack U D,l+s+d≤n∧MirP G ml mc l s d Ml Mc ack app most U D∧MirW N Ml Mc ack app U D W w
/-- a pick, with where its rows lie -/
structure PkA where
 k:Int
 x:A13
 nk:Int
 ni:Int
 na:Option Addr
 nn:Nat
 nc:Nat
def pkV (y:PkA):List Value:=[.int .i64 y.k,.int .i64 y.x.k,.int .i64 y.x.u,.int .i64 y.x.a,.int .i64 y.x.c.k,.slice y.x.da y.x.c.d.length y.x.dc,.slice y.x.ka y.x.ks.length y.x.kc,.slice y.x.sa y.x.sp.length y.x.sc,.int .i64 y.nk,.int .i64 y.ni,.slice y.na y.nn y.nc]
/-- the applier's new place: below where it was -/
theorem anew_at (i app:Int) (h0:0≤app) (h1:app≤1048576):0≤(IntKind.u64.wrap i).tmod (app+1)∧(IntKind.u64.wrap i).tmod (app+1)≤app:=by
 have h:0≤IntKind.u64.wrap i:=by
  have e:IntKind.u64.wrap i=i % 18446744073709551616:=by simp [IntKind.wrap,IntKind.signed,IntKind.bits]
  omega
 rw [Int.tmod_eq_emod_of_nonneg h]
 have:=Int.emod_nonneg (IntKind.u64.wrap i) (show app+1≠0 by omega)
 have:=Int.emod_lt_of_pos (IntKind.u64.wrap i) (show 0<app+1 by omega)
 omega
theorem two_open {Z:List Asn} {a b:Nat} {Ma Mb:Cl} {W w:World} (h:Two Z a Ma b Mb W w):∃ K,Sep W NoF (Z++K) w∧∀ Z' w',Sep W NoF (Z'++K) w'→Two Z' a Ma b Mb W w':=by
 obtain ⟨Pa,Pb,h1,h2,H⟩:=h
 exact ⟨_,H,fun Z' w' H'=>⟨Pa,Pb,h1,h2,H'⟩⟩
theorem Two.pick {Z Z':List Asn} {a b:Nat} {Ma Mb:Cl} {W w:World} (h:Two Z a Ma b Mb W w) (is:List Nat) (hn:is.Nodup) (hL:is.map (fun i=>Z[i]?)=Z'.map some):Two Z' a Ma b Mb W w:=by
 obtain ⟨Pa,Pb,h1,h2,H⟩:=h
 have H1:=Sep.merge (H.perm List.perm_append_comm)
 have H2:=H1.pick (0::is.map (·+1)) (List.nodup_cons.2 ⟨by simp,List.Pairwise.map (·+1) (fun x y hxy he=>hxy (Nat.succ.inj he)) hn⟩) (L':=Asn.all (clB a Ma Pa++clB b Mb Pb)::Z') (by
  rw [List.map_cons,List.map_map,List.map_cons,←hL]
  rfl)
 exact ⟨Pa,Pb,h1,h2,H2.split.perm List.perm_append_comm⟩
theorem two_message {Z:List Asn} {a b s:Nat} {Ma Mb:Cl} {W:World} (p:Sp) (t:Int) (Y:List C) (w:World) (h:Two (Asn.ship s p::Z) a Ma b Mb W w) (hok:Ma.ok) (hp:0≤p.a∧p.a≤1048576) (hn:nextS Ma p.a=(0,t,Y)) (hc:pclC p.e t p.a Y=0) (T:List UInt8) (hT:T=pclB p.e t p.a Y) :
  Calls Tryz.prog 19 #[ptrV s,ptrV a] w fun en w'=>∃ ra k,en=.returned (.tuple #[.slice ra T.length k,.nilIface])∧Two (.row 5 1 (.slice ra T.length k) T.length (byteVs T)::Asn.ship s p::Z) a Ma b Mb W w':=by
 obtain ⟨J,Pb,h2,h1⟩:=h.fst2
 refine (smessage_any p t Y w (show ClAt a Ma J (Asn.ship s p::(Z++clB b Mb Pb)) W w from h1) hok hp hn hc T hT).mono ?_
 rintro en w' ⟨ra,k,rfl,h3⟩
 exact ⟨ra,k,rfl,two_of h2 (show ClAt a Ma J ((.row 5 1 (.slice ra T.length k) T.length (byteVs T)::Asn.ship s p::Z)++clB b Mb Pb) W w' from h3)⟩
theorem two_shear {Z:List Asn} {a b s:Nat} {Ma Mb:Cl} {W:World} (p:Sp) (e q:Int) (he:0≤e∧e≤1099511627776) (hq:0≤q∧q≤1048576) (B:List UInt8) (hB:B=rcB e q) (ra:Option Addr) (k:Nat) (w:World) (h:Two (Asn.ship s p::Z) a Ma b Mb W w) (hb:Bytes w (.slice ra B.length k) B) :
  Calls Tryz.prog 23 #[ptrV s,.slice ra B.length k] w fun en w'=>en=.returned (errV (takeSp p e q).1)∧Two (Asn.ship s (takeSp p e q).2::Z) a Ma b Mb W w':=by
 obtain ⟨J,Pb,h2,h1⟩:=h.fst2
 refine (shear_any p e q he hq B hB ra k w (show ClAt a Ma J (Asn.ship s p::(Z++clB b Mb Pb)) W w from h1) hb).mono ?_
 rintro en w' ⟨rfl,h3⟩
 exact ⟨rfl,two_of h2 (show ClAt a Ma J ((Asn.ship s _::Z)++clB b Mb Pb) W w' from h3)⟩
theorem two_ahear {Z:List Asn} {a b p:Nat} {Ma Mb M':Cl} {W:World} (x x':Sp) (e t f:Int) (Y:List C) (hc:pclC e t f Y=0) (B:List UInt8) (hB:B=pclB e t f Y) (ra:Option Addr) (k:Nat) (w:World) (hp:Pow W) (h:Two (Asn.appl p x::Z) a Ma b Mb W w) (hok:Ma.ok) (hx:0≤x.a∧x.a≤1048576) (hb:Bytes w (.slice ra B.length k) B)
  (hz:∀ X:List CE,X.map (·.c)=Y→takeA Ma x e t f X=(0,M',x')) (hx1:0≤x'.e∧x'.e≤1099511627776) (hx2:0≤x'.a∧x'.a≤1048576) (T:List UInt8) (hT:T=rcB x'.e x'.a) :
  Calls Tryz.prog 22 #[ptrV p,ptrV a,.slice ra B.length k] w fun en w'=>∃ a' k',en=.returned (.tuple #[.slice a' T.length k',.nilIface])∧Two (.row 5 1 (.slice a' T.length k') T.length (byteVs T)::Asn.appl p x'::Z) a M' b Mb W w':=by
 obtain ⟨J,Pb,h2,h1⟩:=h.fst2
 refine (ahear_any x x' e t f Y hc B hB ra k w hp (show ClAt a Ma J (Asn.appl p x::(Z++clB b Mb Pb)) W w from h1) hok hx hb hz hx1 hx2 T hT).mono ?_
 rintro en w' ⟨a',k',rfl,h3⟩
 exact ⟨a',k',rfl,two_of h2 (show ClAt a M' J ((.row 5 1 (.slice a' T.length k') T.length (byteVs T)::Asn.appl p x'::Z)++clB b Mb Pb) W w' from h3)⟩
theorem MirP.fill {G:Int→C} {ml mc:Go.Proofs.YtaodldbgikiekaaGreatDoor.M} {l s d:Nat} {Ml Mc:Cl} {ack app most:Int} {U D:List (List UInt8)} (h:MirP G ml mc l s d Ml Mc ack app most U D):MirP G ml mc l s d Ml Mc ack app (max most app) U D:=by
 rw [show max most app=most by have:=h.ap;omega];exact h
/-- a receipt is sent back -/
theorem MirP.rsent {G:Int→C} {ml mc:Go.Proofs.YtaodldbgikiekaaGreatDoor.M} {l s d:Nat} {Ml Mc:Cl} {ack app most:Int} {U D:List (List UInt8)} (h:MirP G ml mc l s d Ml Mc ack app most U D):MirP G ml mc l s d Ml Mc ack app most U (sendS D (rcB 1 app)).2 :=
 h.downs (fun b hb=>by
  rcases sendS_mem hb with hb | rfl
  ·exact .inl hb
  ·exact .inr ⟨app,rfl,h.ap⟩)
theorem frameB_pos (t:List UInt8):0<(frameB t).length:=by rw [frameB_len];omega
def DoR (N n:Nat) (most:Int) (W:World) (en:Ending) (w':World):Prop:=en=.returned (.bool true)∧∃ app',MirS N (n+1) app' (max most app') W w'
set_option maxHeartbeats 40000000 in
theorem mdo_any {N n:Nat} {app most:Int} {W:World} (y:PkA) (w:World) (hp:Pow W) (hy:A13At W y.x) (hn:n<60) (h:MirS N n app most W w) :
  Calls Tryz.prog 8 #[ptrV N,.agg (pkV y).toArray] w (DoR N n most W):=by
 obtain ⟨G,ml,mc,l,s,d,Ml,Mc,ack,U,D,hnn,hm,log,copy,sb,ab,ub,db,Gu,Gd,ht⟩:=h
 have HP:=Lib.hid' hp
 have HX:=Lib.hid' hy
 have HM:=Lib.hid' hm
 have HNN:=Lib.hid' hnn
 have HN60:=Lib.hid' hn
 obtain ⟨yk,yx,nk,ni,na,nn,nc⟩:=y
 simp only at HX
 obtain ⟨xk,xu,xa,xc,da,dc,ks,ka,kc,sp,pa,pc⟩:=yx
 have h1:=ht.boxZ w.heap.size [.int .i64 yk,.int .i64 xk,.int .i64 xu,.int .i64 xa,.int .i64 xc.k,.slice da xc.d.length dc,.slice ka ks.length kc,.slice pa sp.length pc,.int .i64 nk,.int .i64 ni,.slice na nn nc] 36 rfl
 obtain ⟨w1,hw1⟩:∃ w1,w.alloc (.cells #[.int .i64 yk,.int .i64 xk,.int .i64 xu,.int .i64 xa,.int .i64 xc.k,.slice da xc.d.length dc,.slice ka ks.length kc,.slice pa sp.length pc,.int .i64 nk,.int .i64 ni,.slice na nn nc] 36)=w1:=⟨_,rfl⟩
 rw [show ([.int .i64 yk,.int .i64 xk,.int .i64 xu,.int .i64 xa,.int .i64 xc.k,.slice da xc.d.length dc,.slice ka ks.length kc,.slice pa sp.length pc,.int .i64 nk,.int .i64 ni,.slice na nn nc]:List Value).toArray=#[.int .i64 yk,.int .i64 xk,.int .i64 xu,.int .i64 xa,.int .i64 xc.k,.slice da xc.d.length dc,.slice ka ks.length kc,.slice pa sp.length pc,.int .i64 nk,.int .i64 ni,.slice na nn nc] from rfl,hw1] at h1
 have H1:=Lib.hid' h1
 rw [show (pkV ⟨yk,⟨xk,xu,xa,xc,da,dc,ks,ka,kc,sp,pa,pc⟩,nk,ni,na,nn,nc⟩).toArray=#[.int .i64 yk,.int .i64 xk,.int .i64 xu,.int .i64 xa,.int .i64 xc.k,.slice da xc.d.length dc,.slice ka ks.length kc,.slice pa sp.length pc,.int .i64 nk,.int .i64 ni,.slice na nn nc] from rfl]
 clear ht hm hnn hn hp hy h1
 go_enter Tryz.func8, Tryz.ntmps8
 go_upto_region 1 with fail
 try rw [hw1]
 clear hw1
 generalize w.heap.size=B at *
 have b0:=H1.out.side.cell 0 rfl 0 rfl;have bl:=H1.out.side.lt 0 rfl
 have g1:=H1.out.side.cell 0 rfl 1 rfl;have g2:=H1.out.side.cell 0 rfl 2 rfl;have g3:=H1.out.side.cell 0 rfl 3 rfl;have g4:=H1.out.side.cell 0 rfl 4 rfl;have g5:=H1.out.side.cell 0 rfl 5 rfl;have g6:=H1.out.side.cell 0 rfl 6 rfl;have g7:=H1.out.side.cell 0 rfl 7 rfl
 go_upto_block 2 with fail
 all_goals clear b0
 ·have hl:l<60:=by have:=HNN.out;have:=HN60.out;omega
  have HWR:=mwrite_any (Z:=[Asn.ship sb ⟨1,ack⟩,Asn.appl ab ⟨1,app⟩,lineA ub U Gu,lineA db D Gd,.box B [.int .i64 yk,.int .i64 xk,.int .i64 xu,.int .i64 xa,.int .i64 xc.k,.slice da xc.d.length dc,.slice ka ks.length kc,.slice pa sp.length pc,.int .i64 nk,.int .i64 ni,.slice na nn nc] 36]) ⟨xk,xu,xa,xc,da,dc,ks,ka,kc,sp,pa,pc⟩ w1 HP.out HX.out (H1.out.permZ (List.perm_append_comm (l₁:=[_]))) HM.out.log (by omega) (by omega)
  rw [show (a13V ⟨xk,xu,xa,xc,da,dc,ks,ka,kc,sp,pa,pc⟩).toArray=#[.int .i64 xk,.int .i64 xu,.int .i64 xa,.int .i64 xc.k,.slice da xc.d.length dc,.slice ka ks.length kc,.slice pa sp.length pc] from rfl] at HWR
  have HWR:=Lib.hid' HWR
  clear H1 hl
  refine HWR.out.mono ?_
  clear HWR g1 g2 g3 g4 g5 g6 g7 bl
  rintro en w2 ⟨rfl,Ml',ml',hI,hg,h2⟩
  obtain ⟨G',hm'⟩:=HM.out.grow hI hg
  have HF:=Zh (show ∃ app',MirS N (n+1) app' (max most app') W w2 from ⟨app,G',ml',mc,l+1,s,d,Ml',Mc,ack,U,D,by have:=HNN.out;omega,hm'.fill,log,copy,sb,ab,ub,db,Gu,Gd,h2.pick [0,1,2,3,4] (by decide) rfl⟩)
  clear hI hg h2 hm'
  go_wp2_with fail
  go_ret
  exact ⟨rfl,HF.out⟩
 ·clear bl g1 g2 g3 g4 g5 g6 g7
  obtain ⟨t,Y,hns,hmsg⟩:=HM.out.next
  have hack:=HM.out.ak
  have hmt:=HM.out.mt
  have ht1:=HM.out.log.ok.t1
  have HMS:=Lib.hid' hmsg
  have H2:=Zh ((H1.out.focusZ 2 rfl).below (Below.refl _ _).drew)
  have HME:=Zh (two_message ⟨1,ack⟩ t Y _ H2.out HM.out.log.mid.ok ⟨hack.1,by show ack≤1048576;omega⟩ hns hmsg.chk (pclB 1 t ack Y) rfl)
  clear H1 hns hmsg hack hmt ht1
  go_upto_region 9 with fail
  refine startD (S:=(fun w'=>BoxW B [.int .i64 yk,.int .i64 xk,.int .i64 xu,.int .i64 xa,.int .i64 xc.k,.slice da xc.d.length dc,.slice ka ks.length kc,.slice pa sp.length pc,.int .i64 nk,.int .i64 ni,.slice na nn nc] 36 w'∧BoxW N [ptrV log,ptrV copy,ptrV sb,ptrV ab,ptrV ub,ptrV db] 47 w')) (by kernel_rfl) ⟨H2.out.side.box 1 rfl,H2.out.side.box 2 rfl⟩ (fun hH0=>?_)
  simp only [List.length_cons,List.length_nil,Nat.reduceAdd,List.replicate_succ,List.replicate_zero]
  refine tD 0 52 (.pointer (some ⟨N,0,none⟩)) rfl rfl [(0,.pointer (some ⟨N,0,none⟩))] hH0 ?_
  dsimp only [sZ,sS]
  refine tE 1 53 (.pointer (some ⟨N,0,none⟩)) rfl rfl [(52,.pointer (some ⟨N,0,none⟩))] hH0 ?_ ?_
  ·intro w hSw;have rl:=hSw.2.lt;go_simp
  dsimp only [sZ,sS]
  refine tD 2 54 (.pointer (some ⟨N,2,none⟩)) rfl rfl [(53,.pointer (some ⟨N,0,none⟩))] hH0 ?_
  dsimp only [sZ,sS]
  refine tE 3 55 (ptrV sb) rfl rfl [(54,.pointer (some ⟨N,2,none⟩))] hH0 ?_ ?_
  ·intro w hSw;have r2:=hSw.2.box.1 2 _ rfl;have rl:=hSw.2.lt;go_simp
  dsimp only [sZ,sS]
  refine tD 4 56 (.pointer (some ⟨N,0,none⟩)) rfl rfl [(0,.pointer (some ⟨N,0,none⟩))] hH0 ?_
  dsimp only [sZ,sS]
  refine tE 5 57 (.pointer (some ⟨N,0,none⟩)) rfl rfl [(56,.pointer (some ⟨N,0,none⟩))] hH0 ?_ ?_
  ·intro w hSw;have rl:=hSw.2.lt;go_simp
  dsimp only [sZ,sS]
  refine tD 6 58 (.pointer (some ⟨N,0,none⟩)) rfl rfl [(57,.pointer (some ⟨N,0,none⟩))] hH0 ?_
  dsimp only [sZ,sS]
  refine tE 7 59 (ptrV log) rfl rfl [(58,.pointer (some ⟨N,0,none⟩))] hH0 ?_ ?_
  ·intro w hSw;have r0:=hSw.2.box.1 0 _ rfl;have rl:=hSw.2.lt;go_simp
  dsimp only [sZ,sS]
  refine rD 8 rfl (fun K hK=>?_)
  go_simp
  refine HME.out.mono ?_
  rintro en w5 ⟨ra,rk,rfl,h3⟩
  refine hK.out _ _ ?_ (fun hH1=>?_)
  ·exact ⟨h3.side.box 2 rfl,h3.side.box 3 rfl⟩
  clear hK K
  try simp only [Act.put,gA,gZ,gS,sA,sZ,sS]
  refine tD 9 51 (.tuple #[.slice ra (pclB 1 t ack Y).length rk,.nilIface]) rfl rfl [(60,.tuple #[.slice ra (pclB 1 t ack Y).length rk,.nilIface])] hH1 ?_
  dsimp only [sZ,sS]
  refine tD 10 61 (.slice ra (pclB 1 t ack Y).length rk) rfl rfl [(51,.tuple #[.slice ra (pclB 1 t ack Y).length rk,.nilIface])] hH1 ?_
  dsimp only [sZ,sS]
  refine tD 11 62 (.nilIface) rfl rfl [(51,.tuple #[.slice ra (pclB 1 t ack Y).length rk,.nilIface])] hH1 ?_
  dsimp only [sZ,sS]
  refine tD 12 6 (.slice ra (pclB 1 t ack Y).length rk) rfl rfl [(61,.slice ra (pclB 1 t ack Y).length rk)] hH1 ?_
  dsimp only [sZ,sS]
  refine tD 13 7 (.nilIface) rfl rfl [(62,.nilIface)] hH1 ?_
  dsimp only [sZ,sS]
  refine wpAnyH_done (by kernel_rfl) ?_ _
  have H3:=Lib.hid' h3
  clear h3 HME
  have g4:=H3.out.side.cell 3 rfl 4 rfl;have gl:=H3.out.side.lt 3 rfl
  obtain ⟨KK,hK,HBK⟩:=two_open (H3.out.focusZ 5 rfl)
  have HBK:=Lib.hid' HBK
  have hby:Bytes w5 (.slice ra (pclB 1 t ack Y).length rk) (pclB 1 t ack Y):=SlV.of_own (H3.out.side.row 0 rfl)
  have HSE:=Zh (line_send (pclB 1 t ack Y) ra rk w5 (show Sep W NoF (lineA ub U Gu::([.row 5 1 (.slice ra (pclB 1 t ack Y).length rk) (pclB 1 t ack Y).length (byteVs (pclB 1 t ack Y)),Asn.ship sb ⟨1,ack⟩,.box B [.int .i64 yk,.int .i64 xk,.int .i64 xu,.int .i64 xa,.int .i64 xc.k,.slice da xc.d.length dc,.slice ka ks.length kc,.slice pa sp.length pc,.int .i64 nk,.int .i64 ni,.slice na nn nc] 36,mirB N log copy sb ab ub db,Asn.appl ab ⟨1,app⟩,lineA db D Gd]++KK)) w5 from hK) hby)
  have hst:=HM.out.sent HMS.out
  have HST:=Lib.hid' hst
  clear hby hK hst
  generalize sendS U (pclB 1 t ack Y)=sd at *
  generalize (pclB 1 t ack Y).length=tl at *
  go_wp2_with fail
  refine HSE.out.mono ?_
  clear HSE
  rintro en w6 ⟨rfl,G',h6⟩
  have h7:=HBK.out (lineA ub sd.2 G'::[.row 5 1 (.slice ra tl rk) tl (byteVs (pclB 1 t ack Y)),Asn.ship sb ⟨1,ack⟩,.box B [.int .i64 yk,.int .i64 xk,.int .i64 xu,.int .i64 xa,.int .i64 xc.k,.slice da xc.d.length dc,.slice ka ks.length kc,.slice pa sp.length pc,.int .i64 nk,.int .i64 ni,.slice na nn nc] 36,mirB N log copy sb ab ub db,Asn.appl ab ⟨1,app⟩,lineA db D Gd]) w6 h6
  have HF:=Zh (show ∃ app',MirS N (n+1) app' (max most app') W w6 from ⟨app,G,ml,mc,l,s+1,d,Ml,Mc,ack,sd.2,D,by have:=HNN.out;omega,HST.out.fill,log,copy,sb,ab,ub,db,G',Gd,h7.pick [4,2,5,0,6] (by decide) rfl⟩)
  clear h6 h7 g4 gl H3
  go_wp2_with fail
  go_ret
  exact ⟨rfl,HF.out⟩
 ·clear bl g1 g2 g3 g4 g5 g6 g7
  have H2:=Zh ((H1.out.focusZ 4 rfl).below (Below.refl _ _).drew)
  clear H1
  obtain ⟨KK,hK,HBK⟩:=two_open H2.out
  have HBK:=Lib.hid' HBK
  have HNE:=Zh (mnet_any nk ni na nn nc _ (show Sep W NoF (lineA ub U Gu::([.box B [.int .i64 yk,.int .i64 xk,.int .i64 xu,.int .i64 xa,.int .i64 xc.k,.slice da xc.d.length dc,.slice ka ks.length kc,.slice pa sp.length pc,.int .i64 nk,.int .i64 ni,.slice na nn nc] 36,mirB N log copy sb ab ub db,Asn.ship sb ⟨1,ack⟩,Asn.appl ab ⟨1,app⟩,lineA db D Gd]++KK)) _ from hK))
  clear hK
  go_upto_region 14 with fail
  refine startD (S:=(fun w'=>BoxW B [.int .i64 yk,.int .i64 xk,.int .i64 xu,.int .i64 xa,.int .i64 xc.k,.slice da xc.d.length dc,.slice ka ks.length kc,.slice pa sp.length pc,.int .i64 nk,.int .i64 ni,.slice na nn nc] 36 w'∧BoxW N [ptrV log,ptrV copy,ptrV sb,ptrV ab,ptrV ub,ptrV db] 47 w')) (by kernel_rfl) ⟨H2.out.side.box 1 rfl,H2.out.side.box 2 rfl⟩ (fun hH0=>?_)
  simp only [List.length_cons,List.length_nil,Nat.reduceAdd,List.replicate_succ,List.replicate_zero]
  refine tD 0 74 (.pointer (some ⟨N,0,none⟩)) rfl rfl [(0,.pointer (some ⟨N,0,none⟩))] hH0 ?_
  dsimp only [sZ,sS]
  refine tE 1 75 (.pointer (some ⟨N,0,none⟩)) rfl rfl [(74,.pointer (some ⟨N,0,none⟩))] hH0 ?_ ?_
  ·intro w hSw;have rl:=hSw.2.lt;go_simp
  dsimp only [sZ,sS]
  refine tD 2 76 (.pointer (some ⟨N,4,none⟩)) rfl rfl [(75,.pointer (some ⟨N,0,none⟩))] hH0 ?_
  dsimp only [sZ,sS]
  refine tE 3 77 (ptrV ub) rfl rfl [(76,.pointer (some ⟨N,4,none⟩))] hH0 ?_ ?_
  ·intro w hSw;have r4:=hSw.2.box.1 4 _ rfl;have rl:=hSw.2.lt;go_simp
  dsimp only [sZ,sS]
  refine tD 4 78 (.pointer (some ⟨B,8,none⟩)) rfl rfl [(3,.pointer (some ⟨B,0,none⟩))] hH0 ?_
  dsimp only [sZ,sS]
  refine tE 5 79 (.agg #[.int .i64 nk,.int .i64 ni,.slice na nn nc]) rfl rfl [(78,.pointer (some ⟨B,8,none⟩))] hH0 ?_ ?_
  ·intro w hSw;have q8:=hSw.1.box.1 8 _ rfl;have q9:=hSw.1.box.1 9 _ rfl;have q10:=hSw.1.box.1 10 _ rfl;have ql:=hSw.1.lt;go_simp
  dsimp only [sZ,sS]
  refine rD 6 rfl (fun K hK=>?_)
  go_simp
  refine HNE.out.mono ?_
  rintro en w5 hE
  obtain ⟨v5,rfl,hbx,hE⟩:∃ v,en=.returned v∧(BoxW B [.int .i64 yk,.int .i64 xk,.int .i64 xu,.int .i64 xa,.int .i64 xc.k,.slice da xc.d.length dc,.slice ka ks.length kc,.slice pa sp.length pc,.int .i64 nk,.int .i64 ni,.slice na nn nc] 36 w5∧BoxW N [ptrV log,ptrV copy,ptrV sb,ptrV ab,ptrV ub,ptrV db] 47 w5)∧NetR W NoF ([.box B [.int .i64 yk,.int .i64 xk,.int .i64 xu,.int .i64 xa,.int .i64 xc.k,.slice da xc.d.length dc,.slice ka ks.length kc,.slice pa sp.length pc,.int .i64 nk,.int .i64 ni,.slice na nn nc] 36,mirB N log copy sb ab ub db,Asn.ship sb ⟨1,ack⟩,Asn.appl ab ⟨1,app⟩,lineA db D Gd]++KK) ub U (.returned v) w5:=by
   rcases hE with ⟨D',G',rfl,q1,q2,q3⟩ | ⟨i,hi,a,c,G',rfl,q3⟩
   ·exact ⟨_,rfl,⟨q3.box 1 rfl,q3.box 2 rfl⟩,.inl ⟨D',G',rfl,q1,q2,q3⟩⟩
   ·exact ⟨_,rfl,⟨q3.box 2 rfl,q3.box 3 rfl⟩,.inr ⟨i,hi,a,c,G',rfl,q3⟩⟩
  refine hK.out _ _ ?_ (fun hH1=>?_)
  ·exact hbx
  clear hK K
  try simp only [Act.put,gA,gZ,gS,sA,sZ,sS]
  refine tD 7 8 (v5) rfl rfl [(80,v5)] hH1 ?_
  dsimp only [sZ,sS]
  refine wpAnyH_done (by kernel_rfl) ?_ _
  have HBX:=Lib.hid' hbx
  have qN:∀ (w:World) (a:Option Addr) (n c:Nat),(binOp .eql 26 (.slice a n c) (.slice none 0 0)).run Tryz.prog w=.ok (.bool a.isNone) w:=fun w a n c=>Lib.run_eql_slice_nil w _ _ a n c 0 0 etBytes.under
  clear hbx HNE
  rcases hE with ⟨D',G',he,q1,q2,q3⟩ | ⟨i,hi,ra,rk,G',he,q3⟩
  ·cases he
   have h7:=HBK.out (lineA ub D' G'::[.box B [.int .i64 yk,.int .i64 xk,.int .i64 xu,.int .i64 xa,.int .i64 xc.k,.slice da xc.d.length dc,.slice ka ks.length kc,.slice pa sp.length pc,.int .i64 nk,.int .i64 ni,.slice na nn nc] 36,mirB N log copy sb ab ub db,Asn.ship sb ⟨1,ack⟩,Asn.appl ab ⟨1,app⟩,lineA db D Gd]) w5 q3
   have hup:=HM.out.ups (k:=1) q1 q2
   have HF:=Zh (show ∃ app',MirS N (n+1) app' (max most app') W w5 from ⟨app,G,ml,mc,l,s+1,d,Ml,Mc,ack,D',D,by have:=HNN.out;omega,hup.fill,log,copy,sb,ab,ub,db,G',Gd,h7.pick [2,3,4,0,5] (by decide) rfl⟩)
   clear q1 q2 q3 h7 hup HBX
   go_wp2_with fail
   go_ret
   exact ⟨rfl,HF.out⟩
  ·cases he
   obtain ⟨t,f,Y,Mc',app',mc',eB,hck,hta,hm'⟩:=HM.out.take HNN.out HN60.out i hi
   have h7:=HBK.out (.row 5 1 (.slice ra (U[i]).length rk) (U[i]).length (byteVs (U[i]))::lineA ub (U.eraseIdx i) G'::[.box B [.int .i64 yk,.int .i64 xk,.int .i64 xu,.int .i64 xa,.int .i64 xc.k,.slice da xc.d.length dc,.slice ka ks.length kc,.slice pa sp.length pc,.int .i64 nk,.int .i64 ni,.slice na nn nc] 36,mirB N log copy sb ab ub db,Asn.ship sb ⟨1,ack⟩,Asn.appl ab ⟨1,app⟩,lineA db D Gd]) w5 q3
   obtain ⟨g,rfl⟩:=own_head (h7.side.row 0 rfl) (by rw [eB];exact frameB_pos _)
   have happ:=HM.out.ap
   have hmt:=HM.out.mt
   have ht1:=HM.out.log.ok.t1
   have happ':=hm'.ap
   have hmt':=hm'.mt
   have hmx:max most app'=most∨max most app'=app':=by omega
   have H8:=Zh ((h7.swapZ.focusZ 5 rfl).below (Below.refl _ _).drew)
   have HHE:=Zh (two_ahear ⟨1,app⟩ ⟨1,app'⟩ 1 t f Y hck (U[i]) eB (some ⟨g,0,none⟩) rk _ HP.out H8.out HM.out.copy.mid.ok ⟨happ.1,by show app≤1048576;omega⟩ (SlV.of_own (H8.out.side.row 1 rfl)) hta ⟨by show (0:Int)≤1;decide,by show (1:Int)≤1099511627776;decide⟩ ⟨happ'.1,by show app'≤1048576;omega⟩ (rcB 1 app') rfl)
   have HM2:=Lib.hid' hm'.rsent
   have HI:=Lib.hid' hi
   clear q3 h7 HBX eB hck hta hm' happ hmt ht1 happ' hmt' hmx
   generalize hq:U[i]=q at *
   clear hq
   go_upto_region 17 with fail
   refine startD (S:=(fun w'=>BoxW B [.int .i64 yk,.int .i64 xk,.int .i64 xu,.int .i64 xa,.int .i64 xc.k,.slice da xc.d.length dc,.slice ka ks.length kc,.slice pa sp.length pc,.int .i64 nk,.int .i64 ni,.slice na nn nc] 36 w'∧BoxW N [ptrV log,ptrV copy,ptrV sb,ptrV ab,ptrV ub,ptrV db] 47 w')) (by kernel_rfl) ⟨H8.out.side.box 3 rfl,H8.out.side.box 4 rfl⟩ (fun hH0=>?_)
   simp only [List.length_cons,List.length_nil,Nat.reduceAdd,List.replicate_succ,List.replicate_zero]
   refine tD 0 84 (.pointer (some ⟨N,0,none⟩)) rfl rfl [(0,.pointer (some ⟨N,0,none⟩))] hH0 ?_
   dsimp only [sZ,sS]
   refine tE 1 85 (.pointer (some ⟨N,0,none⟩)) rfl rfl [(84,.pointer (some ⟨N,0,none⟩))] hH0 ?_ ?_
   ·intro w hSw;have rl:=hSw.2.lt;go_simp
   dsimp only [sZ,sS]
   refine tD 2 86 (.pointer (some ⟨N,3,none⟩)) rfl rfl [(85,.pointer (some ⟨N,0,none⟩))] hH0 ?_
   dsimp only [sZ,sS]
   refine tE 3 87 (ptrV ab) rfl rfl [(86,.pointer (some ⟨N,3,none⟩))] hH0 ?_ ?_
   ·intro w hSw;have r3:=hSw.2.box.1 3 _ rfl;have rl:=hSw.2.lt;go_simp
   dsimp only [sZ,sS]
   refine tD 4 88 (.pointer (some ⟨N,0,none⟩)) rfl rfl [(0,.pointer (some ⟨N,0,none⟩))] hH0 ?_
   dsimp only [sZ,sS]
   refine tE 5 89 (.pointer (some ⟨N,0,none⟩)) rfl rfl [(88,.pointer (some ⟨N,0,none⟩))] hH0 ?_ ?_
   ·intro w hSw;have rl:=hSw.2.lt;go_simp
   dsimp only [sZ,sS]
   refine tD 6 90 (.pointer (some ⟨N,1,none⟩)) rfl rfl [(89,.pointer (some ⟨N,0,none⟩))] hH0 ?_
   dsimp only [sZ,sS]
   refine tE 7 91 (ptrV copy) rfl rfl [(90,.pointer (some ⟨N,1,none⟩))] hH0 ?_ ?_
   ·intro w hSw;have r1:=hSw.2.box.1 1 _ rfl;have rl:=hSw.2.lt;go_simp
   dsimp only [sZ,sS]
   refine tD 8 92 (.slice (some ⟨g,0,none⟩) q.length rk) rfl rfl [(8,.slice (some ⟨g,0,none⟩) q.length rk)] hH0 ?_
   dsimp only [sZ,sS]
   refine rD 9 rfl (fun K hK=>?_)
   go_simp
   refine HHE.out.mono ?_
   rintro en w9 ⟨r2,k2,rfl,h9⟩
   refine hK.out _ _ ?_ (fun hH1=>?_)
   ·exact ⟨h9.side.box 4 rfl,h9.side.box 5 rfl⟩
   clear hK K
   try simp only [Act.put,gA,gZ,gS,sA,sZ,sS]
   refine tD 10 83 (.tuple #[.slice r2 (rcB 1 app').length k2,.nilIface]) rfl rfl [(93,.tuple #[.slice r2 (rcB 1 app').length k2,.nilIface])] hH1 ?_
   dsimp only [sZ,sS]
   refine tD 11 94 (.slice r2 (rcB 1 app').length k2) rfl rfl [(83,.tuple #[.slice r2 (rcB 1 app').length k2,.nilIface])] hH1 ?_
   dsimp only [sZ,sS]
   refine tD 12 95 (.nilIface) rfl rfl [(83,.tuple #[.slice r2 (rcB 1 app').length k2,.nilIface])] hH1 ?_
   dsimp only [sZ,sS]
   refine tD 13 9 (.slice r2 (rcB 1 app').length k2) rfl rfl [(94,.slice r2 (rcB 1 app').length k2)] hH1 ?_
   dsimp only [sZ,sS]
   refine tD 14 10 (.nilIface) rfl rfl [(95,.nilIface)] hH1 ?_
   dsimp only [sZ,sS]
   refine wpAnyH_done (by kernel_rfl) ?_ _
   have H9:=Zh (h9.swapZ)
   clear h9 HHE H8
   have g4:=H9.out.side.cell 5 rfl 5 rfl;have gl:=H9.out.side.lt 5 rfl
   obtain ⟨K2,hK2,HBK2⟩:=two_open (H9.out.focusZ 7 rfl)
   have HBK2:=Lib.hid' HBK2
   have hby:Bytes w9 (.slice r2 (rcB 1 app').length k2) (rcB 1 app'):=SlV.of_own (H9.out.side.row 0 rfl)
   have HSE:=Zh (line_send (rcB 1 app') r2 k2 w9 (show Sep W NoF (lineA db D Gd::([.row 5 1 (.slice r2 (rcB 1 app').length k2) (rcB 1 app').length (byteVs (rcB 1 app')),Asn.appl ab ⟨1,app'⟩,.row 5 1 (.slice (some ⟨g,0,none⟩) q.length rk) q.length (byteVs q),lineA ub (U.eraseIdx i) G',.box B [.int .i64 yk,.int .i64 xk,.int .i64 xu,.int .i64 xa,.int .i64 xc.k,.slice da xc.d.length dc,.slice ka ks.length kc,.slice pa sp.length pc,.int .i64 nk,.int .i64 ni,.slice na nn nc] 36,mirB N log copy sb ab ub db,Asn.ship sb ⟨1,ack⟩]++K2)) w9 from hK2) hby)
   clear hby hK2
   generalize sendS D (rcB 1 app')=sd at *
   generalize (rcB 1 app').length=tl at *
   go_wp2_with fail
   refine HSE.out.mono ?_
   clear HSE
   rintro en wA ⟨rfl,GA,hA⟩
   have hB:=HBK2.out (lineA db sd.2 GA::[.row 5 1 (.slice r2 tl k2) tl (byteVs (rcB 1 app')),Asn.appl ab ⟨1,app'⟩,.row 5 1 (.slice (some ⟨g,0,none⟩) q.length rk) q.length (byteVs q),lineA ub (U.eraseIdx i) G',.box B [.int .i64 yk,.int .i64 xk,.int .i64 xu,.int .i64 xa,.int .i64 xc.k,.slice da xc.d.length dc,.slice ka ks.length kc,.slice pa sp.length pc,.int .i64 nk,.int .i64 ni,.slice na nn nc] 36,mirB N log copy sb ab ub db,Asn.ship sb ⟨1,ack⟩]) wA hA
   have HF:=Zh (show ∃ app',MirS N (n+1) app' (max most app') W wA from ⟨app',G,ml,mc',l,s,d+1,Ml,Mc',ack,U.eraseIdx i,sd.2,by have:=HNN.out;omega,HM2.out,log,copy,sb,ab,ub,db,G',GA,hB.pick [6,7,2,4,0] (by decide) rfl⟩)
   clear hA hB g4 gl H9
   go_wp2_with fail
   go_ret
   exact ⟨rfl,HF.out⟩
 ·clear bl g1 g2 g3 g4 g5 g6 g7
  have H2:=Zh ((H1.out.focusZ 5 rfl).below (Below.refl _ _).drew)
  clear H1
  obtain ⟨KK,hK,HBK⟩:=two_open H2.out
  have HBK:=Lib.hid' HBK
  have HNE:=Zh (mnet_any nk ni na nn nc _ (show Sep W NoF (lineA db D Gd::([.box B [.int .i64 yk,.int .i64 xk,.int .i64 xu,.int .i64 xa,.int .i64 xc.k,.slice da xc.d.length dc,.slice ka ks.length kc,.slice pa sp.length pc,.int .i64 nk,.int .i64 ni,.slice na nn nc] 36,mirB N log copy sb ab ub db,Asn.ship sb ⟨1,ack⟩,Asn.appl ab ⟨1,app⟩,lineA ub U Gu]++KK)) _ from hK))
  clear hK
  go_upto_region 22 with fail
  refine startD (S:=(fun w'=>BoxW B [.int .i64 yk,.int .i64 xk,.int .i64 xu,.int .i64 xa,.int .i64 xc.k,.slice da xc.d.length dc,.slice ka ks.length kc,.slice pa sp.length pc,.int .i64 nk,.int .i64 ni,.slice na nn nc] 36 w'∧BoxW N [ptrV log,ptrV copy,ptrV sb,ptrV ab,ptrV ub,ptrV db] 47 w')) (by kernel_rfl) ⟨H2.out.side.box 1 rfl,H2.out.side.box 2 rfl⟩ (fun hH0=>?_)
  simp only [List.length_cons,List.length_nil,Nat.reduceAdd,List.replicate_succ,List.replicate_zero]
  refine tD 0 107 (.pointer (some ⟨N,0,none⟩)) rfl rfl [(0,.pointer (some ⟨N,0,none⟩))] hH0 ?_
  dsimp only [sZ,sS]
  refine tE 1 108 (.pointer (some ⟨N,0,none⟩)) rfl rfl [(107,.pointer (some ⟨N,0,none⟩))] hH0 ?_ ?_
  ·intro w hSw;have rl:=hSw.2.lt;go_simp
  dsimp only [sZ,sS]
  refine tD 2 109 (.pointer (some ⟨N,5,none⟩)) rfl rfl [(108,.pointer (some ⟨N,0,none⟩))] hH0 ?_
  dsimp only [sZ,sS]
  refine tE 3 110 (ptrV db) rfl rfl [(109,.pointer (some ⟨N,5,none⟩))] hH0 ?_ ?_
  ·intro w hSw;have r5:=hSw.2.box.1 5 _ rfl;have rl:=hSw.2.lt;go_simp
  dsimp only [sZ,sS]
  refine tD 4 111 (.pointer (some ⟨B,8,none⟩)) rfl rfl [(3,.pointer (some ⟨B,0,none⟩))] hH0 ?_
  dsimp only [sZ,sS]
  refine tE 5 112 (.agg #[.int .i64 nk,.int .i64 ni,.slice na nn nc]) rfl rfl [(111,.pointer (some ⟨B,8,none⟩))] hH0 ?_ ?_
  ·intro w hSw;have q8:=hSw.1.box.1 8 _ rfl;have q9:=hSw.1.box.1 9 _ rfl;have q10:=hSw.1.box.1 10 _ rfl;have ql:=hSw.1.lt;go_simp
  dsimp only [sZ,sS]
  refine rD 6 rfl (fun K hK=>?_)
  go_simp
  refine HNE.out.mono ?_
  rintro en w5 hE
  obtain ⟨v5,rfl,hbx,hE⟩:∃ v,en=.returned v∧(BoxW B [.int .i64 yk,.int .i64 xk,.int .i64 xu,.int .i64 xa,.int .i64 xc.k,.slice da xc.d.length dc,.slice ka ks.length kc,.slice pa sp.length pc,.int .i64 nk,.int .i64 ni,.slice na nn nc] 36 w5∧BoxW N [ptrV log,ptrV copy,ptrV sb,ptrV ab,ptrV ub,ptrV db] 47 w5)∧NetR W NoF ([.box B [.int .i64 yk,.int .i64 xk,.int .i64 xu,.int .i64 xa,.int .i64 xc.k,.slice da xc.d.length dc,.slice ka ks.length kc,.slice pa sp.length pc,.int .i64 nk,.int .i64 ni,.slice na nn nc] 36,mirB N log copy sb ab ub db,Asn.ship sb ⟨1,ack⟩,Asn.appl ab ⟨1,app⟩,lineA ub U Gu]++KK) db D (.returned v) w5:=by
   rcases hE with ⟨D',G',rfl,q1,q2,q3⟩ | ⟨i,hi,a,c,G',rfl,q3⟩
   ·exact ⟨_,rfl,⟨q3.box 1 rfl,q3.box 2 rfl⟩,.inl ⟨D',G',rfl,q1,q2,q3⟩⟩
   ·exact ⟨_,rfl,⟨q3.box 2 rfl,q3.box 3 rfl⟩,.inr ⟨i,hi,a,c,G',rfl,q3⟩⟩
  refine hK.out _ _ ?_ (fun hH1=>?_)
  ·exact hbx
  clear hK K
  try simp only [Act.put,gA,gZ,gS,sA,sZ,sS]
  refine tD 7 11 (v5) rfl rfl [(113,v5)] hH1 ?_
  dsimp only [sZ,sS]
  refine wpAnyH_done (by kernel_rfl) ?_ _
  have HBX:=Lib.hid' hbx
  clear hbx HNE
  rcases hE with ⟨D',G',he,q1,q2,q3⟩ | ⟨i,hi,ra,rk,G',he,q3⟩
  ·cases he
   have h7:=HBK.out (lineA db D' G'::[.box B [.int .i64 yk,.int .i64 xk,.int .i64 xu,.int .i64 xa,.int .i64 xc.k,.slice da xc.d.length dc,.slice ka ks.length kc,.slice pa sp.length pc,.int .i64 nk,.int .i64 ni,.slice na nn nc] 36,mirB N log copy sb ab ub db,Asn.ship sb ⟨1,ack⟩,Asn.appl ab ⟨1,app⟩,lineA ub U Gu]) w5 q3
   have hup:=HM.out.downs (D':=D') (fun b hb=>.inl (q1 b hb))
   have HF:=Zh (show ∃ app',MirS N (n+1) app' (max most app') W w5 from ⟨app,G,ml,mc,l,s,d,Ml,Mc,ack,U,D',by have:=HNN.out;omega,hup.fill,log,copy,sb,ab,ub,db,Gu,G',h7.pick [2,3,4,5,0] (by decide) rfl⟩)
   clear q1 q2 q3 h7 hup HBX
   go_wp2_with fail
   go_ret
   exact ⟨rfl,HF.out⟩
  ·cases he
   obtain ⟨qa,eB,q0,q1⟩:=HM.out.down _ (List.getElem_mem hi)
   obtain ⟨ack',htk,hm'⟩:=HM.out.hear ⟨q0,q1⟩
   have h7:=HBK.out (.row 5 1 (.slice ra (D[i]).length rk) (D[i]).length (byteVs (D[i]))::lineA db (D.eraseIdx i) G'::[.box B [.int .i64 yk,.int .i64 xk,.int .i64 xu,.int .i64 xa,.int .i64 xc.k,.slice da xc.d.length dc,.slice ka ks.length kc,.slice pa sp.length pc,.int .i64 nk,.int .i64 ni,.slice na nn nc] 36,mirB N log copy sb ab ub db,Asn.ship sb ⟨1,ack⟩,Asn.appl ab ⟨1,app⟩,lineA ub U Gu]) w5 q3
   obtain ⟨g,rfl⟩:=own_head (h7.side.row 0 rfl) (by rw [eB];exact frameB_pos _)
   have hmt:=HM.out.mt
   have ht1:=HM.out.log.ok.t1
   have H8:=Zh (h7.focusZ 4 rfl)
   have hhe:=two_shear ⟨1,ack⟩ 1 qa ⟨by decide,by decide⟩ ⟨q0,by omega⟩ (D[i]) eB (some ⟨g,0,none⟩) rk w5 H8.out (SlV.of_own (H8.out.side.row 1 rfl))
   rw [htk,errV_0] at hhe
   have HHE:=Lib.hid' hhe
   have HM2:=Zh (hm'.downs (D':=D.eraseIdx i) (fun b hb=>.inl (List.mem_of_mem_eraseIdx hb)))
   have r2:=H8.out.side.cell 4 rfl 2 rfl;have rl:=H8.out.side.lt 4 rfl
   clear q3 h7 HBX eB htk hm' hmt ht1 hhe q0 q1
   generalize hq:D[i]=q at *
   clear hq
   go_wp2_with fail
   refine HHE.out.mono ?_
   clear HHE
   rintro en w6 ⟨rfl,h6⟩
   have HF:=Zh (show ∃ app',MirS N (n+1) app' (max most app') W w6 from ⟨app,G,ml,mc,l,s,d,Ml,Mc,ack',U,D.eraseIdx i,by have:=HNN.out;omega,HM2.out.fill,log,copy,sb,ab,ub,db,Gu,G',h6.pick [4,0,5,6,2] (by decide) rfl⟩)
   clear h6 H8 r2 rl
   go_wp2_with fail
   go_ret
   exact ⟨rfl,HF.out⟩
 ·clear bl g1 g2 g3 g4 g5 g6 g7
  have happ:=HM.out.ap
  have hmt:=HM.out.mt
  have ht1:=HM.out.log.ok.t1
  have hna:=anew_at ni app happ.1 (by omega)
  have HNA:=Lib.hid' hna
  have H2:=Zh (H1.out.below (Below.refl _ _).drew)
  have hap0:0≤app:=happ.1
  have hap1:app≤1048576:=by omega
  have u0:IntKind.i64.wrap (app+1)=app+1:=by rw [IntKind.wrap_i64];omega
  have un:¬app+1=0:=by omega
  have u1:IntKind.u64.wrap (app+1)=app+1:=wraps_u64 _ (by omega) (by omega)
  clear H1 happ hmt ht1
  go_upto_region 2 with fail
  refine startD (S:=(fun w'=>BoxW B [.int .i64 yk,.int .i64 xk,.int .i64 xu,.int .i64 xa,.int .i64 xc.k,.slice da xc.d.length dc,.slice ka ks.length kc,.slice pa sp.length pc,.int .i64 nk,.int .i64 ni,.slice na nn nc] 36 w'∧BoxW N [ptrV log,ptrV copy,ptrV sb,ptrV ab,ptrV ub,ptrV db] 47 w')) (by kernel_rfl) ⟨H2.out.side.box 0 rfl,H2.out.side.box 1 rfl⟩ (fun hH0=>?_)
  simp only [List.length_cons,List.length_nil,Nat.reduceAdd,List.replicate_succ,List.replicate_zero]
  refine tD 0 19 (.pointer (some ⟨B,8,none⟩)) rfl rfl [(3,.pointer (some ⟨B,0,none⟩))] hH0 ?_
  dsimp only [sZ,sS]
  refine tD 1 20 (.pointer (some ⟨B,9,none⟩)) rfl rfl [(19,.pointer (some ⟨B,8,none⟩))] hH0 ?_
  dsimp only [sZ,sS]
  refine tE 2 21 (.int .i64 ni) rfl rfl [(20,.pointer (some ⟨B,9,none⟩))] hH0 ?_ ?_
  ·intro w hSw;have q9:=hSw.1.box.1 9 _ rfl;have ql:=hSw.1.lt;go_simp
  dsimp only [sZ,sS]
  refine tD 3 22 (.int .u64 (IntKind.u64.wrap ni)) rfl rfl [(21,.int .i64 ni)] hH0 ?_
  dsimp only [sZ,sS]
  refine tD 4 23 (.pointer (some ⟨N,0,none⟩)) rfl rfl [(0,.pointer (some ⟨N,0,none⟩))] hH0 ?_
  dsimp only [sZ,sS]
  refine tE 5 24 (.pointer (some ⟨N,0,none⟩)) rfl rfl [(23,.pointer (some ⟨N,0,none⟩))] hH0 ?_ ?_
  ·intro w hSw;have rl:=hSw.2.lt;go_simp
  dsimp only [sZ,sS]
  refine tD 6 25 (.pointer (some ⟨N,3,none⟩)) rfl rfl [(24,.pointer (some ⟨N,0,none⟩))] hH0 ?_
  dsimp only [sZ,sS]
  refine tE 7 26 (ptrV ab) rfl rfl [(25,.pointer (some ⟨N,3,none⟩))] hH0 ?_ ?_
  ·intro w hSw;have r3:=hSw.2.box.1 3 _ rfl;have rl:=hSw.2.lt;go_simp
  dsimp only [sZ,sS]
  refine rD 8 rfl (fun K hK=>?_)
  go_simp
  refine (aapplied_any _ (H2.out.side.cell 3 rfl 1 rfl) (H2.out.side.lt 3 rfl)).mono ?_
  rintro en wz ⟨rfl,rfl⟩
  refine hK.out _ _ ?_ (fun hH1=>?_)
  ·exact ⟨H2.out.side.box 0 rfl,H2.out.side.box 1 rfl⟩
  clear hK K
  try simp only [Act.put,gA,gZ,gS,sA,sZ,sS]
  refine tD 9 28 (.int .i64 (app+1)) rfl rfl [(27,.int .i64 app)] hH1 ?_
  dsimp only [sZ,sS]
  refine tD 10 29 (.int .u64 (app+1)) rfl rfl [(28,.int .i64 (app+1))] hH1 ?_
  dsimp only [sZ,sS]
  refine tD 11 30 (.int .u64 ((IntKind.u64.wrap ni).tmod (app+1))) rfl rfl [(22,.int .u64 (IntKind.u64.wrap ni)),(29,.int .u64 (app+1))] hH1 ?_
  dsimp only [sZ,sS]
  refine tE 12 31 (.int .i64 ((IntKind.u64.wrap ni).tmod (app+1))) rfl rfl [(30,.int .u64 ((IntKind.u64.wrap ni).tmod (app+1)))] hH1 ?_ ?_
  ·intro w hSw;have h0:=HNA.out;have:=i64_i ((IntKind.u64.wrap ni).tmod (app+1)) (by omega) (by omega);go_simp
  dsimp only [sZ,sS]
  refine rD 13 rfl (fun K hK=>?_)
  go_simp
  refine (anew_any 1 ((IntKind.u64.wrap ni).tmod (app+1)) _).mono ?_
  rintro en w9 hE
  unfold NewAp at hE
  rw [if_neg (by rw [inB_iff.2 ⟨HNA.out.1,by have:=HNA.out.2;omega⟩];decide)] at hE
  obtain ⟨rfl,hs9⟩:=hE
  have h9:=H2.out.newZ (A:=Asn.appl _ ⟨1,(IntKind.u64.wrap ni).tmod (app+1)⟩) hs9.toBelow (hs9.at 0 rfl) (fun b hb=>by have:b=_:=hb;omega)
  have hN9:=hs9.toBelow
  clear hs9
  refine hK.out _ _ ?_ (fun hH2=>?_)
  ·exact ⟨h9.side.box 1 rfl,h9.side.box 2 rfl⟩
  clear hK K
  try simp only [Act.put,gA,gZ,gS,sA,sZ,sS]
  refine tD 14 18 (.tuple #[ptrV (w1.drew).heap.size,.nilIface]) rfl rfl [(32,.tuple #[ptrV (w1.drew).heap.size,.nilIface])] hH2 ?_
  dsimp only [sZ,sS]
  refine tD 15 33 (ptrV (w1.drew).heap.size) rfl rfl [(18,.tuple #[ptrV (w1.drew).heap.size,.nilIface])] hH2 ?_
  dsimp only [sZ,sS]
  refine tD 16 34 (.nilIface) rfl rfl [(18,.tuple #[ptrV (w1.drew).heap.size,.nilIface])] hH2 ?_
  dsimp only [sZ,sS]
  refine tD 17 12 (ptrV (w1.drew).heap.size) rfl rfl [(33,ptrV (w1.drew).heap.size)] hH2 ?_
  dsimp only [sZ,sS]
  refine tD 18 13 (.nilIface) rfl rfl [(34,.nilIface)] hH2 ?_
  dsimp only [sZ,sS]
  refine wpAnyH_done (by kernel_rfl) ?_ _
  have HN9:=Lib.hid' hN9
  have H9:=Lib.hid' h9
  clear hN9 h9 H2 u1 u0 un hna
  have g3:=H9.out.side.cell 2 rfl 3 rfl;have gf:=H9.out.side.free 2 rfl 3;have gl:=H9.out.side.lt 2 rfl
  have hA:=(H9.out.focusZ 2 rfl).setZ 3 (ptrV (w1.drew).heap.size)
  have hm':=HM.out.anew HNA.out
  have HF:=Zh (show ∃ app',MirS N (n+1) app' (max most app') W (w9.setCell ⟨N,3,none⟩ (ptrV (w1.drew).heap.size)) from ⟨_,G,ml,mc,l,s,d,Ml,Mc,ack,U,D,by have:=HNN.out;omega,hm'.fill,log,copy,sb,(w1.drew).heap.size,ub,db,Gu,Gd,hA.pick [0,3,1,5,6] (by decide) rfl⟩)
  go_wp2_with fail
  go_ret
  exact ⟨rfl,HF.out⟩
theorem chs_a {w:World}:∃ w0:World,((w.alloc (.cells #[.int .i64 0,.int .i64 1] 3)).alloc (.cells #[.int .i64 2] 3)).alloc (.cells #[.slice (some ⟨w.heap.size,0,none⟩) 2 2,.slice (some ⟨w.heap.size+1,0,none⟩) 1 1] 30)=w0∧Below w.heap.size w w0∧Chs w0 (some ⟨w.heap.size+2,0,none⟩) 2 [([0,1],some ⟨w.heap.size,0,none⟩,2),([2],some ⟨w.heap.size+1,0,none⟩,1)]:=by
 have g1:=(Sep.start w).allocAt w.heap.size [.int .i64 0,.int .i64 1] 3 rfl
 have g2:=g1.allocAt (w.heap.size+1) [.int .i64 2] 3 (by simp)
 have g3:=g2.allocAt (w.heap.size+2) [.slice (some ⟨w.heap.size,0,none⟩) 2 2,.slice (some ⟨w.heap.size+1,0,none⟩) 1 1] 30 (by simp)
 refine ⟨_,rfl,g3.toBelow,slv_boxU (n:=2) g3 0 rfl (by decide),fun x hx=>?_⟩
 simp only [List.mem_cons,List.not_mem_nil,or_false] at hx
 rcases hx with rfl | rfl
 ·exact slv_boxU (n:=2) g3 2 rfl (by decide)
 ·exact slv_boxU (n:=1) g3 1 rfl (by decide)
theorem chs_b {w:World}:∃ w0:World,((w.alloc (.cells #[.int .i64 0] 3)).alloc (.cells #[.int .i64 1] 3)).alloc (.cells #[.slice (some ⟨w.heap.size,0,none⟩) 1 1,.slice (some ⟨w.heap.size+1,0,none⟩) 1 1] 30)=w0∧Below w.heap.size w w0∧Chs w0 (some ⟨w.heap.size+2,0,none⟩) 2 [([0],some ⟨w.heap.size,0,none⟩,1),([1],some ⟨w.heap.size+1,0,none⟩,1)]:=by
 have g1:=(Sep.start w).allocAt w.heap.size [.int .i64 0] 3 rfl
 have g2:=g1.allocAt (w.heap.size+1) [.int .i64 1] 3 (by simp)
 have g3:=g2.allocAt (w.heap.size+2) [.slice (some ⟨w.heap.size,0,none⟩) 1 1,.slice (some ⟨w.heap.size+1,0,none⟩) 1 1] 30 (by simp)
 refine ⟨_,rfl,g3.toBelow,slv_boxU (n:=2) g3 0 rfl (by decide),fun x hx=>?_⟩
 simp only [List.mem_cons,List.not_mem_nil,or_false] at hx
 rcases hx with rfl | rfl
 ·exact slv_boxU (n:=1) g3 2 rfl (by decide)
 ·exact slv_boxU (n:=1) g3 1 rfl (by decide)
theorem two_of0 {a b:Nat} {Ma Mb:Cl} {Pa:ClP} {J:CJ} {W w:World} (h1:ClOK Ma Pa) (h:ClAt b Mb J (clB a Ma Pa) W w):Two [] a Ma b Mb W w:=by
 obtain ⟨Pb,_,h2,H⟩:=h
 rw [clL_eq] at H
 exact ⟨Pa,Pb,h1,h2,H.perm List.perm_append_comm⟩
def chsA:List (List Int):=[[0,1],[2]]
def chsB:List (List Int):=[[0],[1]]
theorem chk_two {X:List (List Int)} (h1:1≤X.length∧X.length≤4) (h2:X.any wrongC=false) (h3:X.flatten.any oddU=false) (h4:X.flatten.Nodup):(⟨1,X⟩:Pj).check=0:=by
 unfold Pj.check
 rw [if_neg (by show ¬((1:Int)<0∨1099511627776<(1:Int));decide),if_neg (show ¬(X.length<1∨4<X.length∨X.any wrongC=true) from by rintro (h | h | h);omega;omega;rw [h2] at h;cases h),if_neg (by show ¬X.flatten.any oddU=true;rw [h3];decide),if_neg]
 intro h
 exact (unitsOf_nodup X.flatten).1 h h4
theorem new_a:∃ M,newCl 3 16777216 chsA=(0,M)∧Is 16777216 1 M Go.Proofs.YtaodldbgikiekaaGreatDoor.M.new:=by
 obtain ⟨M,e,_⟩:=new_live (r:=16777216) (by decide) (n:=3) (X:=chsA) (by decide) (chk_two (by decide) (by decide) (by decide) (by decide)) (fun u hu=>by
  have hu2:u∈([0,1,2]:List Int):=hu
  simp at hu2;omega)
 have:=new_is (r:=16777216) (by decide) (n:=3) (X:=chsA) (by rw [e])
 rw [e] at this
 exact ⟨M,e,this⟩
theorem new_b:∃ M,newCl 2 16777216 chsB=(0,M)∧Is 16777216 1 M Go.Proofs.YtaodldbgikiekaaGreatDoor.M.new:=by
 obtain ⟨M,e,_⟩:=new_live (r:=16777216) (by decide) (n:=2) (X:=chsB) (by decide) (chk_two (by decide) (by decide) (by decide) (by decide)) (fun u hu=>by
  have hu2:u∈([0,1]:List Int):=hu
  simp at hu2;omega)
 have:=new_is (r:=16777216) (by decide) (n:=2) (X:=chsB) (by rw [e])
 rw [e] at this
 exact ⟨M,e,this⟩
theorem mir_zero {Ml Mc:Cl} (h1:Is 16777216 1 Ml Go.Proofs.YtaodldbgikiekaaGreatDoor.M.new) (h2:Is 16777216 1 Mc Go.Proofs.YtaodldbgikiekaaGreatDoor.M.new):MirP (fun _=>⟨0,[]⟩) Go.Proofs.YtaodldbgikiekaaGreatDoor.M.new Go.Proofs.YtaodldbgikiekaaGreatDoor.M.new 0 0 0 Ml Mc 0 0 0 [] []:=by
 have h0:∀ a:Int,0≤a→((Go.Proofs.YtaodldbgikiekaaGreatDoor.M.new).u.at a).k=0:=fun a ha=>by
  have e:(Go.Proofs.YtaodldbgikiekaaGreatDoor.M.new).u=U.new:=rfl
  rw [e]
  unfold U.at
  rw [if_neg (by show ¬a<0;omega)]
  rfl
 exact ⟨h1,by simpa using h2,by decide,fun a ha=>.inl (h0 a ha),fun a ha=>.inl (h0 a ha),fun a ha=>h0 a ha,fun a q0 q1=>by omega,by decide,by decide,by decide,by simp,by decide,by simp⟩
set_option maxHeartbeats 16000000 in
theorem mbegin_any {W:World} (w:World) (hp:Pow W) (hb:Below W.heap.size W w) :
  Calls Tryz.prog 5 #[] w fun en w'=>∃ N,en=.returned (ptrV N)∧MirS N 0 0 0 W w':=by
 obtain ⟨Ml,e1,i1⟩:=new_a
 obtain ⟨Mc,e2,i2⟩:=new_b
 have HN1:=Lib.hid' e1
 have HN2:=Lib.hid' e2
 have HMZ:=Zh (mir_zero i1 i2)
 have HP:=Lib.hid' hp
 have HB:=Lib.hid' hb
 clear e1 e2 i1 i2 hp hb
 go_enter Tryz.func5, Tryz.ntmps5
 go_wp2_with fail
 obtain ⟨w3,hw3,hb3,hX3⟩:=chs_a (w:=w)
 rw [hw3]
 have HNW:=Zh (New_any 3 16777216 _ _ _ w3 HP.out (((Sep.start W).below HB.out).below hb3) hX3 (by show ([0,1,2]:List Int).length≤_;decide))
 clear hX3 hw3 hb3
 refine HNW.out.mono ?_
 rintro e w4 hE
 unfold NewR at hE
 rw [show newCl 3 16777216 (([([0,1],some ⟨w.heap.size,0,none⟩,2),([2],some ⟨w.heap.size+1,0,none⟩,1)]:List Ch).map (·.1))=(0,Ml) from HN1.out] at hE
 obtain ⟨c0,P0,rfl,hP0,h4⟩:∃ c0 P0,e=.returned (.tuple #[ptrV c0,.nilIface])∧ClOK Ml P0∧Sep W NoF (clB c0 Ml P0) w4:=by
  rcases hE with ⟨h0,_⟩ | ⟨_,c,J,he,P,_,hP,H⟩
  ·exact absurd rfl h0
  ·rw [clL_eq,List.append_nil] at H
   exact ⟨c,P,he,hP,H⟩
 have H4:=Lib.hid' h4
 have HP0:=Lib.hid' hP0
 clear hE h4 HNW hP0
 go_wp2_with fail
 obtain ⟨w5,hw5,hb5,hX5⟩:=chs_b (w:=w4)
 rw [hw5]
 have HNW:=Zh (New_any 2 16777216 _ _ _ w5 HP.out (H4.out.below hb5) hX5 (by show ([0,1]:List Int).length≤_;decide))
 clear hX5 hw5 hb5 H4
 refine HNW.out.mono ?_
 rintro e w6 hE
 unfold NewR at hE
 rw [show newCl 2 16777216 (([([0],some ⟨w4.heap.size,0,none⟩,1),([1],some ⟨w4.heap.size+1,0,none⟩,1)]:List Ch).map (·.1))=(0,Mc) from HN2.out] at hE
 obtain ⟨c1,rfl,h6⟩:∃ c1,e=.returned (.tuple #[ptrV c1,.nilIface])∧Two [] c0 Ml c1 Mc W w6:=by
  rcases hE with ⟨h0,_⟩ | ⟨_,c,J,he,h⟩
  ·exact absurd rfl h0
  ·exact ⟨c,he,(two_of0 HP0.out h)⟩
 have H6:=Lib.hid' h6
 clear hE h6 HNW HP0
 go_wp2_with fail
 refine (snew_any 1 0 w6).mono ?_
 rintro e w7 hE
 unfold NewSp at hE
 rw [if_neg (by decide)] at hE
 obtain ⟨rfl,hs7⟩:=hE
 have H7:=Zh (H6.out.newZ (A:=Asn.ship w6.heap.size ⟨1,0⟩) hs7.toBelow (hs7.at 0 rfl) (fun b hb=>by have:b=w6.heap.size:=hb;omega))
 clear hs7 H6
 generalize w6.heap.size=sb at *
 go_wp2_with fail
 refine (anew_any 1 0 w7).mono ?_
 rintro e w8 hE
 unfold NewAp at hE
 rw [if_neg (by decide)] at hE
 obtain ⟨rfl,hs8⟩:=hE
 have H8:=Zh (H7.out.newZ (A:=Asn.appl w7.heap.size ⟨1,0⟩) hs8.toBelow (hs8.at 0 rfl) (fun b hb=>by have:b=w7.heap.size:=hb;omega))
 clear hs8 H7
 generalize w7.heap.size=ab at *
 go_wp2_with fail
 obtain ⟨KK,hK,hBK⟩:=two_open H8.out
 refine (line_new w8 hK).mono ?_
 rintro en w9 ⟨rfl,Gu,h9⟩
 have H9:=Zh (hBK (lineA w8.heap.size [] Gu::[Asn.appl ab ⟨1,0⟩,Asn.ship sb ⟨1,0⟩]) w9 h9)
 clear hK hBK h9 H8
 generalize w8.heap.size=ub at *
 go_wp2_with fail
 obtain ⟨KK,hK,hBK⟩:=two_open H9.out
 refine (line_new w9 hK).mono ?_
 rintro en wA ⟨rfl,Gd,hA⟩
 have HA:=Zh (hBK (lineA w9.heap.size [] Gd::[lineA ub [] Gu,Asn.appl ab ⟨1,0⟩,Asn.ship sb ⟨1,0⟩]) wA hA)
 clear hK hBK hA H9
 generalize w9.heap.size=db at *
 have HB:=Zh (HA.out.boxZ wA.heap.size [ptrV c0,ptrV c1,ptrV sb,ptrV ab,ptrV ub,ptrV db] 47 rfl)
 go_wp2_with fail
 go_ret
 exact ⟨wA.heap.size,rfl,_,_,_,0,0,0,Ml,Mc,0,[],[],by decide,HMZ.out,c0,c1,sb,ab,ub,db,Gu,Gd,HB.out.pick [0,4,3,2,1] (by decide) rfl⟩
/-- picks as data -/
structure PKs (w:World) (a:Option Addr) (k:Nat) (Y:List PkA):Prop where
 row:SlV w (.slice a Y.length k) Y.length (Y.flatMap pkV)
 each:∀ y∈Y,A13At w y.x
theorem PKs.below {w w':World} {a:Option Addr} {k:Nat} {Y:List PkA} (h:PKs w a k Y) (hb:Below w.heap.size w w'):PKs w' a k Y:=⟨SlV.below h.row (Nat.le_refl _) hb,fun y hy=>(h.each y hy).below hb⟩
theorem two_tail {Z:List Asn} {a b:Nat} {Ma Mb:Cl} {W:World} (w:World) (h:Two Z a Ma b Mb W w):Calls Tryz.prog 7 #[ptrV a] w fun e w'=>e=.returned (.tuple #[.int .i64 Ma.tail.2,errV Ma.tail.1])∧Two Z a Ma b Mb W w':=by
 obtain ⟨J,Pb,h2,h1⟩:=h.fst2
 exact (ctail_any w h1).mono fun e w' ⟨he,h3⟩=>⟨he,two_of h2 h3⟩
set_option maxHeartbeats 40000000 in
theorem applyMirrors_any (ya:Option Addr) (yc:Nat) (Y:List PkA) (w:World) (hp:DK.Pow w) (hY:PKs w ya yc Y) :
  Calls Tryz.prog 3 #[.slice ya Y.length yc] w fun en w'=>en=.returned (.bool true)∧Below w.heap.size w w':=by
 have HP:=Lib.hid' hp
 have HY:=Lib.hid' hY
 have HA:=Zh (alive26_any w hp)
 clear hp hY
 go_enter Tryz.func3, Tryz.ntmps3
 go_wp2_with fail
 refine HA.out.mono ?_
 clear HA
 rintro en w1 ⟨rfl,hb1⟩
 have HB1:=Lib.hid' hb1
 clear hb1
 by_cases hlen:60<Y.length
 ·have hl2:(60:Int)<Y.length:=by omega
  clear hlen
  go_wp2_with fail
  go_ret
  exact ⟨rfl,HB1.out⟩
 have hl2:¬(60:Int)<Y.length:=by omega
 have HLEN:=Lib.hid' hlen
 clear hlen
 go_wp2_with fail
 refine (mbegin_any w1 HP.out HB1.out).mono ?_
 rintro en w2 ⟨N,rfl,h2⟩
 have H2:=Lib.hid' h2
 clear h2 HB1
 go_wp2_with fail
 go_loopw [4,19] (fun v4 v19 wr=>∃ (k:Nat) (app most:Int),v4=.int .i64 most∧v19=.int .i64 k∧k≤Y.length∧Hid (MirS N k app most w wr)) (fun _ v19 _=>Y.length - (intOf v19).toNat)
 case atStart=>exact ⟨0,0,0,rfl,rfl,Nat.zero_le _,H2⟩
 case round =>
  clear H2
  obtain ⟨k,app,most,rfl,rfl,hk,HS⟩:=hrel
  obtain ⟨G,ml,mc,l,s,d,Ml,Mc,ack,U,D,hnn,hm,log,copy,sb,ab,ub,db,Gu,Gd,ht⟩:=HS.out
  have HT:=Lib.hid' ht
  have HM:=Lib.hid' hm
  have HNN:=Lib.hid' hnn
  clear hm ht hnn HS
  by_cases hlt:k<Y.length
  rotate_left
  ·go_wp2_with fail
   go_ret
   exact ⟨rfl,HT.out.toBelow⟩
  obtain ⟨hsl,hby⟩:=HY.out.below HT.out.toBelow
  obtain ⟨b,off,rfl,hb,hc⟩:=SlV.row (s:=11) (fun _=>rfl) (by decide) hsl hlt
  have c0:=hc 0 _ rfl;have c1:=hc 1 _ rfl;have c2:=hc 2 _ rfl;have c3:=hc 3 _ rfl;have c4:=hc 4 _ rfl;have c5:=hc 5 _ rfl;have c6:=hc 6 _ rfl;have c7:=hc 7 _ rfl;have c8:=hc 8 _ rfl;have c9:=hc 9 _ rfl;have c10:=hc 10 _ rfl
  simp only [Nat.add_zero] at c0
  have HAT:=Zh (HY.out.each _ (List.getElem_mem hlt))
  clear hc hsl hby
  generalize Y[k]=y at *
  obtain ⟨yk,yx,nk,ni,na,nn,nc⟩:=y
  simp only at HAT
  obtain ⟨xk,xu,xa,xc,da,dc,ks,ka,kc,sp,pa,pc⟩:=yx
  simp only at c0 c1 c2 c3 c4 c5 c6 c7 c8 c9 c10
  go_upto_region 12 with fail
  have h3:=HT.out.boxZ wr.heap.size [.int .i64 yk,.int .i64 xk,.int .i64 xu,.int .i64 xa,.int .i64 xc.k,.slice da xc.d.length dc,.slice ka ks.length kc,.slice pa sp.length pc,.int .i64 nk,.int .i64 ni,.slice na nn nc] 36 rfl
  rw [show ([.int .i64 yk,.int .i64 xk,.int .i64 xu,.int .i64 xa,.int .i64 xc.k,.slice da xc.d.length dc,.slice ka ks.length kc,.slice pa sp.length pc,.int .i64 nk,.int .i64 ni,.slice na nn nc]:List Value).toArray=#[.int .i64 yk,.int .i64 xk,.int .i64 xu,.int .i64 xa,.int .i64 xc.k,.slice da xc.d.length dc,.slice ka ks.length kc,.slice pa sp.length pc,.int .i64 nk,.int .i64 ni,.slice na nn nc] from rfl] at h3
  have H3:=Lib.hid' h3
  clear c0 c1 c2 c3 c4 c5 c6 c7 c8 c9 c10 hb h3 HT
  generalize wr.alloc (.cells #[.int .i64 yk,.int .i64 xk,.int .i64 xu,.int .i64 xa,.int .i64 xc.k,.slice da xc.d.length dc,.slice ka ks.length kc,.slice pa sp.length pc,.int .i64 nk,.int .i64 ni,.slice na nn nc] 36)=w3 at *
  generalize wr.heap.size=B at *
  have g1:=H3.out.side.cell 0 rfl 1 rfl;have g2:=H3.out.side.cell 0 rfl 2 rfl;have g3:=H3.out.side.cell 0 rfl 3 rfl;have g4:=H3.out.side.cell 0 rfl 4 rfl;have g5:=H3.out.side.cell 0 rfl 5 rfl;have g6:=H3.out.side.cell 0 rfl 6 rfl;have g7:=H3.out.side.cell 0 rfl 7 rfl;have gl:=H3.out.side.lt 0 rfl
  go_wp2_with fail
  have h4:=H3.out.boxZ w3.heap.size [.int .i64 xk,.int .i64 xu,.int .i64 xa,.int .i64 xc.k,.slice da xc.d.length dc,.slice ka ks.length kc,.slice pa sp.length pc] 32 rfl
  rw [show ([.int .i64 xk,.int .i64 xu,.int .i64 xa,.int .i64 xc.k,.slice da xc.d.length dc,.slice ka ks.length kc,.slice pa sp.length pc]:List Value).toArray=#[.int .i64 xk,.int .i64 xu,.int .i64 xa,.int .i64 xc.k,.slice da xc.d.length dc,.slice ka ks.length kc,.slice pa sp.length pc] from rfl] at h4
  have H4:=Lib.hid' h4
  clear h4 H3 g1 g2 g3 g4 g5 g6 g7 gl
  generalize w3.alloc (.cells #[.int .i64 xk,.int .i64 xu,.int .i64 xa,.int .i64 xc.k,.slice da xc.d.length dc,.slice ka ks.length kc,.slice pa sp.length pc] 32)=w4 at *
  generalize w3.heap.size=N4 at *
  have HLG:=Zh (long13_any [⟨xk,xu,xa,xc,da,dc,ks,ka,kc,sp,pa,pc⟩] 1 (by decide) (some ⟨N4,0,none⟩) 1 w4 ⟨slv_boxU (n:=1) H4.out.side 0 rfl (by decide),fun x hx=>by
   obtain rfl:=List.mem_singleton.1 hx
   exact HAT.out.below H4.out.toBelow⟩)
  refine HLG.out.mono ?_
  clear HLG
  rintro en w5 ⟨rfl,hb5⟩
  have H5:=Zh ((H4.out.below hb5).pick [1,2,3,4,5,6] (by decide) (Z':=[.box B [.int .i64 yk,.int .i64 xk,.int .i64 xu,.int .i64 xa,.int .i64 xc.k,.slice da xc.d.length dc,.slice ka ks.length kc,.slice pa sp.length pc,.int .i64 nk,.int .i64 ni,.slice na nn nc] 36,mirB N log copy sb ab ub db,Asn.ship sb ⟨1,ack⟩,Asn.appl ab ⟨1,app⟩,lineA ub U Gu,lineA db D Gd]) rfl)
  clear hb5 H4
  cases hlg:long13 [⟨xk,xu,xa,xc,da,dc,ks,ka,kc,sp,pa,pc⟩] 1 with
  | true =>
   clear hlg
   go_wp2_with fail
   go_ret
   exact ⟨rfl,H5.out.toBelow⟩
  | false =>
  clear hlg
  have r0:=H5.out.side.cell 1 rfl 0 rfl;have rl:=H5.out.side.lt 1 rfl
  have htl:=two_tail w5 H5.out
  rw [HM.out.log.tailS,errV_0] at htl
  have HTL:=Lib.hid' htl
  clear htl
  go_wp2_with fail
  refine HTL.out.mono ?_
  clear HTL r0 rl
  rintro en w6 ⟨rfl,h6⟩
  have H6:=Lib.hid' h6
  clear h6 H5
  by_cases h300:300<ml.t
  ·go_wp2_with fail
   go_ret
   exact ⟨rfl,H6.out.toBelow⟩
  have HMS:=Zh (show MirS N k app most w w6 from ⟨G,ml,mc,l,s,d,Ml,Mc,ack,U,D,HNN.out,HM.out,log,copy,sb,ab,ub,db,Gu,Gd,H6.out.pick [1,2,3,4,5] (by decide) rfl⟩)
  have hk60:k<60:=by have:=HLEN.out;omega
  have hdo:=mdo_any ⟨yk,⟨xk,xu,xa,xc,da,dc,ks,ka,kc,sp,pa,pc⟩,nk,ni,na,nn,nc⟩ w6 HP.out HAT.out hk60 HMS.out
  rw [show (pkV ⟨yk,⟨xk,xu,xa,xc,da,dc,ks,ka,kc,sp,pa,pc⟩,nk,ni,na,nn,nc⟩).toArray=#[.int .i64 yk,.int .i64 xk,.int .i64 xu,.int .i64 xa,.int .i64 xc.k,.slice da xc.d.length dc,.slice ka ks.length kc,.slice pa sp.length pc,.int .i64 nk,.int .i64 ni,.slice na nn nc] from rfl] at hdo
  have HDO:=Lib.hid' hdo
  have g0:=H6.out.side.cell 0 rfl 0 rfl;have g1:=H6.out.side.cell 0 rfl 1 rfl;have g2:=H6.out.side.cell 0 rfl 2 rfl;have g3:=H6.out.side.cell 0 rfl 3 rfl;have g4:=H6.out.side.cell 0 rfl 4 rfl;have g5:=H6.out.side.cell 0 rfl 5 rfl;have g6:=H6.out.side.cell 0 rfl 6 rfl;have g7:=H6.out.side.cell 0 rfl 7 rfl;have g8:=H6.out.side.cell 0 rfl 8 rfl;have g9:=H6.out.side.cell 0 rfl 9 rfl;have g10:=H6.out.side.cell 0 rfl 10 rfl;have gl:=H6.out.side.lt 0 rfl
  clear hdo HMS hk60 H6 HM HNN HAT
  go_wp2_with fail
  refine HDO.out.mono ?_
  clear HDO g0 g1 g2 g3 g4 g5 g6 g7 g8 g9 g10 gl h300
  rintro en w7 ⟨rfl,app2,hs7⟩
  have HS7:=Lib.hid' hs7
  obtain ⟨G2,ml2,mc2,l2,s2,d2,Ml2,Mc2,ack2,U2,D2,hnn2,hm2,log2,copy2,sb2,ab2,ub2,db2,Gu2,Gd2,ht2⟩:=hs7
  have HT:=Lib.hid' ht2
  have HM:=Lib.hid' hm2
  clear hm2 ht2 hnn2
  have r3:=HT.out.side.cell 0 rfl 3 rfl;have rl:=HT.out.side.lt 0 rfl
  have HAP:=Zh (aapplied_any w7 (HT.out.side.cell 2 rfl 1 rfl) (HT.out.side.lt 2 rfl))
  go_wp2_with fail
  refine HAP.out.mono ?_
  clear HAP
  rintro en wz ⟨rfl,rfl⟩
  go_upto_region 20 with fail
  have HTd:=Zh (HT.out.below (Below.refl _ _).drew)
  obtain ⟨mo,hmo⟩:∃ mo,max most app2=mo:=⟨_,rfl⟩
  rw [hmo] at HS7 HM ⊢
  clear hmo r3 rl
  have hmt:=HM.out.mt
  have hm20:=HM.out.log.ok.t1
  have HAC:=Zh (sacked_any _ (HTd.out.side.cell 1 rfl 1 rfl) (HTd.out.side.lt 1 rfl))
  have hak:decide (mo<ack2)=false:=by have:=HM.out.ak;simp;omega
  have HAG:=Zh (magrees_any mo _ HTd.out HM.out.log.mid.ok HM.out.copy.mid.ok (by omega) (fun i h0 h1=>by
   have hr:∀ {r:Int} {kk:Nat} {c:Cl} {m:Go.Proofs.YtaodldbgikiekaaGreatDoor.M},Is r kk c m→c.read i=(0,m.u.at i):=fun h=>by
    rw [h.read i]
    unfold M.rd
    rw [if_neg]
    unfold inR
    simp
    omega
   rw [hr HM.out.log,hr HM.out.copy]
   exact ⟨rfl,rfl,HM.out.agree h0 h1⟩))
  clear hmt hm20
  refine startD (S:=(fun w'=>BoxW N [ptrV log2,ptrV copy2,ptrV sb2,ptrV ab2,ptrV ub2,ptrV db2] 47 w')) (by kernel_rfl) (HTd.out.side.box 0 rfl) (fun hH0=>?_)
  simp only [List.length_cons,List.length_nil,Nat.reduceAdd,List.replicate_succ,List.replicate_zero]
  refine tD 0 54 (.pointer (some ⟨N,0,none⟩)) rfl rfl [(3,.pointer (some ⟨N,0,none⟩))] hH0 ?_
  dsimp only [sZ,sS]
  refine tE 1 55 (.pointer (some ⟨N,0,none⟩)) rfl rfl [(54,.pointer (some ⟨N,0,none⟩))] hH0 ?_ ?_
  ·intro w hSw;have rl:=hSw.lt;go_simp
  dsimp only [sZ,sS]
  refine tD 2 56 (.pointer (some ⟨N,2,none⟩)) rfl rfl [(55,.pointer (some ⟨N,0,none⟩))] hH0 ?_
  dsimp only [sZ,sS]
  refine tE 3 57 (ptrV sb2) rfl rfl [(56,.pointer (some ⟨N,2,none⟩))] hH0 ?_ ?_
  ·intro w hSw;have r2:=hSw.box.1 2 _ rfl;have rl:=hSw.lt;go_simp
  dsimp only [sZ,sS]
  refine tD 5 59 (.int .i64 mo) rfl rfl [(4,.int .i64 mo)] hH0 ?_
  dsimp only [sZ,sS]
  refine rD 4 rfl (fun K hK=>?_)
  go_simp
  refine HAC.out.mono ?_
  rintro en wy ⟨rfl,rfl⟩
  refine hK.out _ _ ?_ (fun hH1=>?_)
  ·exact HTd.out.side.box 0 rfl
  clear hK K
  try simp only [Act.put,gA,gZ,gS,sA,sZ,sS]
  refine tD 6 60 (.bool false) rfl rfl [(58,.int .i64 ack2),(59,.int .i64 mo)] hH1 ?_
  dsimp only [sZ,sS]
  refine tD 7 61 (.bool false) rfl rfl [(60,.bool false)] hH1 ?_
  dsimp only [sZ,sS]
  refine tD 8 62 (.pointer (some ⟨N,0,none⟩)) rfl rfl [(3,.pointer (some ⟨N,0,none⟩))] hH1 ?_
  dsimp only [sZ,sS]
  refine tE 9 63 (.pointer (some ⟨N,0,none⟩)) rfl rfl [(62,.pointer (some ⟨N,0,none⟩))] hH1 ?_ ?_
  ·intro w hSw;have rl:=hSw.lt;go_simp
  dsimp only [sZ,sS]
  refine tD 10 64 (.pointer (some ⟨N,0,none⟩)) rfl rfl [(63,.pointer (some ⟨N,0,none⟩))] hH1 ?_
  dsimp only [sZ,sS]
  refine tE 11 65 (ptrV log2) rfl rfl [(64,.pointer (some ⟨N,0,none⟩))] hH1 ?_ ?_
  ·intro w hSw;have r0:=hSw.box.1 0 _ rfl;have rl:=hSw.lt;go_simp
  dsimp only [sZ,sS]
  refine tD 12 66 (.pointer (some ⟨N,0,none⟩)) rfl rfl [(3,.pointer (some ⟨N,0,none⟩))] hH1 ?_
  dsimp only [sZ,sS]
  refine tE 13 67 (.pointer (some ⟨N,0,none⟩)) rfl rfl [(66,.pointer (some ⟨N,0,none⟩))] hH1 ?_ ?_
  ·intro w hSw;have rl:=hSw.lt;go_simp
  dsimp only [sZ,sS]
  refine tD 14 68 (.pointer (some ⟨N,1,none⟩)) rfl rfl [(67,.pointer (some ⟨N,0,none⟩))] hH1 ?_
  dsimp only [sZ,sS]
  refine tE 15 69 (ptrV copy2) rfl rfl [(68,.pointer (some ⟨N,1,none⟩))] hH1 ?_ ?_
  ·intro w hSw;have r1:=hSw.box.1 1 _ rfl;have rl:=hSw.lt;go_simp
  dsimp only [sZ,sS]
  refine tD 16 70 (.int .i64 mo) rfl rfl [(4,.int .i64 mo)] hH1 ?_
  dsimp only [sZ,sS]
  refine rD 17 rfl (fun K hK=>?_)
  go_simp
  refine HAG.out.mono ?_
  rintro en w9 ⟨rfl,hb9⟩
  have hB9:=(Below.refl _ w7).drew.trans (hb9.mono (Nat.le_refl _))
  refine hK.out _ _ ?_ (fun hH2=>?_)
  ·exact (HTd.out.side.below hb9).box 0 rfl
  clear hK K
  try simp only [Act.put,gA,gZ,gS,sA,sZ,sS]
  refine tD 18 72 (.bool false) rfl rfl [(71,.bool true)] hH2 ?_
  dsimp only [sZ,sS]
  refine tD 19 73 (.bool false) rfl rfl [(61,.bool false),(72,.bool false)] hH2 ?_
  dsimp only [sZ,sS]
  refine wpAnyH_done (by kernel_rfl) ?_ _
  have HB9:=Lib.hid' hB9
  clear hB9 hb9
  go_wp2_with fail
  go_roundw
  case rel=>exact ⟨k+1,app2,mo,rfl,by go_num,by omega,Zh (by
   obtain ⟨G,ml,mc,l,s,d,Ml,Mc,ack,U,D,hnn,hm,log,copy,sb,ab,ub,db,Gu,Gd,ht⟩:=HS7.out
   exact ⟨G,ml,mc,l,s,d,Ml,Mc,ack,U,D,hnn,hm,log,copy,sb,ab,ub,db,Gu,Gd,ht.below HB9.out⟩)⟩
  case measure=>simp [intOf];omega
end SL
end Go.Proofs.YtaodldbgikiekaaGreatDoor
