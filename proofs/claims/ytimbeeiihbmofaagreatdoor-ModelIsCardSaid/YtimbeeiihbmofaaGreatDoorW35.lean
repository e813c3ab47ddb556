/- Proved here: a part of the proof (35 of 37). -/
import Derived.Test.YtimbeeiihbmofaaGreatDoorW34
import Derived.Test.YtimbeeiihbmofaaGreatDoorW22
import Derived.Test.YtimbeeiihbmofaaGreatDoorW3
import Derived.Test.YtimbeeiihbmofaaGreatDoorW30
set_option linter.unusedSimpArgs false
set_option linter.unusedVariables false
set_option maxRecDepth 100000
namespace Go.Proofs.YtimbeeiihbmofaaGreatDoor
open Go.RowKit
namespace SL
open DK SH SQ
theorem world_other {w:World} {b o N:Nat} {j:Nat} {u v:Value} (h:w.cell? ⟨b,o,none⟩=some u) (hn:b≠N):(w.setCell ⟨N,j,none⟩ v).cell? ⟨b,o,none⟩=some u:=by
 rw [World.cell?_setCell_other _ _ _ _ (by simp [hn])];exact h
theorem spareStep_mem {D:List Int} {i m:Nat} {cs:List (List Int)} {u v:Int} (h:v∈(spareStep D i m cs u).flatten):v∈cs.flatten∨v=u:=by
 unfold spareStep at h
 split at h
 ·obtain ⟨x,hx,hv⟩:=List.mem_flatten.1 h
  rcases List.mem_or_eq_of_mem_set hx with hx | rfl
  ·exact .inl (List.mem_flatten.2 ⟨x,hx,hv⟩)
  ·rcases List.mem_append.1 hv with hv | hv
   ·left
    rw [List.getD_eq_getElem?_getD] at hv
    cases hg:cs[i]? with
    | none=>rw [hg] at hv;simp at hv
    | some y=>rw [hg] at hv;exact List.mem_flatten.2 ⟨y,List.mem_of_getElem? hg,hv⟩
   ·exact .inr (List.mem_singleton.1 hv)
 ·exact .inl h
theorem spares_mem {D:List Int} {i m:Nat}:∀ (S:List Int) {cs:List (List Int)} {v:Int},v∈(S.foldl (spareStep D i m) cs).flatten→v∈cs.flatten∨v∈S
 | [],cs,v,h=>.inl h
 | u::S,cs,v,h=>by
  rcases spares_mem S h with h | h
  ·rcases spareStep_mem h with h | rfl
   ·exact .inl h
   ·exact .inr List.mem_cons_self
  ·exact .inr (List.mem_cons_of_mem _ h)
theorem fillC_mem {D S:List Int}:∀ (l:List (List Int)) {i:Nat} {cs:List (List Int)} {v:Int},v∈(fillC D S l i cs).flatten→v∈cs.flatten∨v∈S
 | [],i,cs,v,h=>.inl h
 | c::l,i,cs,v,h=>by
  rcases fillC_mem l h with h | h
  ·exact spares_mem S h
  ·exact .inr h
theorem next_mem {p n:Pj} {D S:List Int} (h:p.next D S=(0,n)) {v:Int} (hv:v∈n.all):v∈p.all∨v∈S:=by
 by_cases h1:p.check=0
 rotate_left
 ·rw [next_bad h1] at h;simp at h;exact absurd h.1 h1
 by_cases h2:D.any oddU=true∨S.any oddU=true
 ·rw [next_1 h1 h2] at h;simp at h
 by_cases h3:p.e=1099511627776
 ·rw [next_5 h1 h2 h3] at h;simp at h
 by_cases h4:(p.cs.map (liveC D)).any (·.isEmpty)=true
 ·rw [next_13 h1 h2 h3 h4] at h;simp at h
 rw [next_0 h1 h2 h3 h4] at h
 simp only [Prod.mk.injEq,true_and] at h
 subst h
 rcases fillC_mem p.cs hv with hv | hv
 ·left
  obtain ⟨x,hx,hv⟩:=List.mem_flatten.1 hv
  obtain ⟨y,hy,rfl⟩:=List.mem_map.1 hx
  exact List.mem_flatten.2 ⟨y,hy,(List.mem_filter.1 hv).1⟩
 ·exact .inr hv
/-- what a rebuilding does, told of the projection, who stays, and the low mark -/
def bdS (e:Int) (cs:List (List Int)) (st:List Int) (low:Int):Bd:=⟨e,⟨none,0,cs.map (fun x=>(x,none,0))⟩,none,0,st,low⟩
theorem runS_eq (b:Bd) (M:Cl):runS b M=runS (bdS b.e (b.J.Ks.map (·.1)) b.st b.low) M:=by
 have e1:(bdS b.e (b.J.Ks.map (·.1)) b.st b.low).J.Ks.map (·.1)=b.J.Ks.map (·.1):=by
  show ((b.J.Ks.map (·.1)).map (fun x=>(x,(none:Option Addr),0))).map (·.1)=_
  rw [List.map_map];exact List.map_id _
 have e2:(bdS b.e (b.J.Ks.map (·.1)) b.st b.low).units=b.units:=by unfold Bd.units;rw [e1];rfl
 have e3:(bdS b.e (b.J.Ks.map (·.1)) b.st b.low).fresh=b.fresh:=by unfold Bd.fresh;rw [e2];rfl
 unfold runS runSeal runEmpty runTrim
 rw [e1,e2,e3]
 rfl
def ableL (M:Cl):List Int:=((List.range M.us.length).map (fun i:Nat=>(i:Int))).filter M.able
def deadL (M:Cl):List Int:=((List.range M.us.length).map (fun i:Nat=>(i:Int))).filter (fun u=>!M.able u)
def staysL (M:Cl):List Int:=M.units.filter M.able
def lowMax (M:Cl):Int:=(staysL M).foldl (fun t u=>max t (M.lowU u)) 0
def rebEnd (M:Cl) (e:Int) (r:Nat×Pj):Nat×Cl:=if r.1≠0 then (r.1,M) else runS (bdS e r.2.cs (staysL M) (lowMax M)) M
def Cl.rebuild (M:Cl) (sp:List Int):Nat×Cl:=if sp.any (fun u=>decide (M.has u≠0))=true then (1,M) else
 if 1099511627776<M.later (ableL M) then (5,M) else rebEnd M (M.later (ableL M)) (M.p.next (deadL M) sp)
/-- a unit that is on, apart; and the cells that say where -/
theorem ClAt.unitOf2 {c:Nat} {M:Cl} {J:CJ} {L:List Asn} {W w:World} (h:ClAt c M J L W w) {u:Nat} {D:Dk} {S:Sf} (hon:M.us[u]?=some ⟨D,some S⟩):∃ g n cap q,w.cell? ⟨c,1,none⟩=some (.slice (some ⟨g,0,none⟩) n cap)∧u<n∧g<w.heap.size∧w.cell? ⟨g,u,none⟩=some (ptrV q)∧(∀ (i N:Nat) (R:List Value) (t:Nat),L[i]?=some (.box N R t)→c≠N∧g≠N) ∧
  ∀ wq,Below w.heap.size w wq→Calls Tryz.prog 39 #[ptrV q] wq (fun e w'=>∃ bu bm us A,e=.returned (ptrV bu)∧ClAt c M J (.unit bu bm S.u us::L) W w'∧UnitAt A w' bu bm S.u∧w'.cell? ⟨c,1,none⟩=some (.slice (some ⟨g,0,none⟩) n cap)∧w'.cell? ⟨g,u,none⟩=some (ptrV q)∧c<w'.heap.size∧g<w'.heap.size):=by
 obtain ⟨P,rfl,hP,H⟩:=h
 have hu:u<M.us.length:=(List.getElem?_eq_some_iff.1 hon).1
 obtain ⟨y,hy,hus,⟨g,n,cap,hsv,hun,hgl,hgc⟩,_⟩:=cl_at hP H hu
 have c1:=H.cell 0 rfl 1 rfl
 rw [hsv] at c1
 obtain ⟨N,Q,⟨D',s⟩,G⟩:=y
 rw [hon] at hus
 cases hus
 obtain ⟨q,rfl⟩:∃ q,Q=some q:=by
  cases Q with
  | some q=>exact ⟨q,rfl⟩
  | none=>have h2:=cl_off hy rfl H;cases h2
 obtain ⟨S',hS,hsh,hback⟩:=cl_on hP hy rfl H
 cases hS
 refine ⟨g,n,cap,q,c1,hun,hgl,hgc,fun i NN R t hi=>?_,fun wq hb=>?_⟩
 ·obtain ⟨P2,_,H2⟩:∃ X:List Asn,X=[]∧Sep W NoF (clL c M P L) w:=⟨[],rfl,H⟩
  have e1:clL c M P L=(clK c M P++(Asn.pool P.Z P.vs::P.Us.map (unA P.vs)))++L:=by unfold clL;simp
  have hj:(clL c M P L)[(clK c M P++(Asn.pool P.Z P.vs::P.Us.map (unA P.vs))).length+i]?=some (.box NN R t):=by
   rw [e1,List.getElem?_append_right (by omega),Nat.add_sub_cancel_left];exact hi
  have hlen:6≤(clK c M P++(Asn.pool P.Z P.vs::P.Us.map (unA P.vs))).length:=by unfold clK;simp
  refine ⟨fun e=>?_,fun e=>?_⟩
  ·subst e
   exact H.off 0 _ rfl hj (by omega) c rfl rfl
  ·subst e
   refine H.off 3 _ rfl hj (by omega) g ?_ rfl
   show (P.sv).ownBlock=some g
   rw [hsv]
   obtain ⟨hl2,h2⟩:=H.row 3 rfl
   rcases h2 with ⟨h3,_⟩ | ⟨g',cap',cur,h3,_⟩
   ·rw [h3] at hsv;cases hsv
   ·rw [h3] at hsv;cases hsv;rfl
 ·refine (kunit_any wq (hsh.below hb)).mono ?_
  rintro e w' ⟨bu,bm,us,rfl,hs,h2⟩
  have h3:=hback S D us w' [.unit bu bm S.u us] hs h2
  rw [show M.put u ⟨D,some S⟩=M by unfold Cl.put;rw [set_same hon]] at h3
  obtain ⟨G1,G2,Z,h4⟩:=h2
  have k1:w'.cell? ⟨c,1,none⟩=some P.sv:=h4.cell 4 rfl 1 rfl
  have k2:=row_cell (h4.row 7 rfl) hsv (j:=u) (u:=ptrV q) (by rw [List.getElem?_map,hy];rfl)
  rw [hsv] at k1
  have hgl2:g<w'.heap.size:=by
   obtain ⟨g',cap',e',l',_⟩:=own_at (h4.row 7 rfl) (j:=u) (u:=ptrV q) (by rw [List.getElem?_map,hy];rfl)
   rw [hsv] at e';cases e'
   exact l'
  exact ⟨bu,bm,us,_,rfl,h3,Sep.unitAt (show Sep W NoF [Asn.unit bu bm S.u us,Asn.pool Z us] w' from h4.pick [3,2] (by decide) rfl),k1,k2,h4.lt 4 rfl,hgl2⟩
theorem ClAt.foc {c:Nat} {M:Cl} {J:CJ} {L:List Asn} {W w:World} {A:Asn} (h:ClAt c M J L W w) (i:Nat) (hi:L[i]?=some A):ClAt c M J (A::L.eraseIdx i) W w:=h.permL (perm_get hi)
theorem ClAt.noRow {c:Nat} {M:Cl} {J:CJ} {L:List Asn} {W w:World} (h:ClAt c M J L W w) (e size:Nat):ClAt c M J (.row e size (.slice none 0 0) 0 []::L) W w:=by
 obtain ⟨P,rfl,hP,H⟩:=ClAt.front (K:=[]) h
 exact ClAt.unfront (K:=[_]) hP (H.nilRow e size)
theorem ClAt.pastJ {c:Nat} {M:Cl} {J J':CJ} {L:List Asn} {W w w':World} (h:ClAt c M J L W w) (hb:Below w.heap.size w w') (hj:OwnJ w' w.heap.size J'.a J'.c J'.Ks):ClAt c M J (jA J'::jR J'::L) W w':=by
 obtain ⟨P,rfl,hP,H⟩:=ClAt.front (K:=[]) h
 exact ClAt.unfront (K:=[_,_]) hP (Sep.pastJ H hb hj)
theorem maxE_lo (M:Cl):∀ (l:List Int) (e:Int),e≤M.maxE l e
 | [],e=>Int.le_refl _
 | u::l,e=>Int.le_trans (by omega:e≤max e (M.epochU u)) (maxE_lo M l _)
abbrev rowI (a:Option Addr) (c:Nat) (l:List Int):Asn:=.row 3 1 (.slice a l.length c) l.length (zVs l)
theorem rng_succ (k:Nat) (p:Int→Bool):((List.range (k+1)).map (fun i:Nat=>(i:Int))).filter p=((List.range k).map (fun i:Nat=>(i:Int))).filter p++(if p k=true then [(k:Int)] else []):=by
 rw [List.range_succ,List.map_append,List.filter_append]
 congr 1
 by_cases hp:p (k:Int)=true
 ·rw [if_pos hp];simp [hp]
 ·rw [if_neg hp];simp [hp]
theorem zVs_one (l:List Int) (u:Int):zVs l++[.int .i64 u]=zVs (l++[u]):=by simp [zVs]
set_option maxHeartbeats 40000000 in
theorem Rebuild_any {c:Nat} {M:Cl} {J:CJ} {L:List Asn} {W:World} (sp:List Int) (sa:Option Addr) (sc:Nat) (w:World) (hp:Pow W) (h:ClAt c M J L W w) (hok:M.ok) (hS:∀ M' w',ClAt c M' J L W w'→Zs w' (.slice sa sp.length sc) sp) :
  Calls Tryz.prog 11 #[ptrV c,.slice sa sp.length sc] w fun en w'=>en=.returned (errV (M.rebuild sp).1)∧∃ J',ClAt c (M.rebuild sp).2 J' L W w':=by
 have HP:=Lib.hid' hp
 have HOK:=Lib.hid' hok
 have HSP:=Lib.hid' hS
 have H0:=Lib.hid' h
 have HF:=Zh (show M.rebuild sp=if sp.any (fun u=>decide (M.has u≠0))=true then (1,M) else if 1099511627776<M.later (ableL M) then (5,M) else rebEnd M (M.later (ableL M)) (M.p.next (deadL M) sp) from rfl)
 have HZ:=Zh (hS _ _ h)
 have HUF:=Zh (units_facts hok)
 have hul:=(units_facts hok).1
 have hm8:=hok.many
 have hcl:=h.c2.2
 have hspl:sp.length≤9223372036854775807:=by obtain ⟨_,_,he,h1,h2,_⟩:=(hS _ _ h);cases he;unfold maxLen at h2;omega
 clear h hp hok hS
 go_enter Tryz.func11, Tryz.ntmps11
 go_wp2_with fail
 go_loopw [21] (fun v21 wr=>∃ k:Nat,v21=.int .i64 k∧k≤sp.length∧Hid (∀ u∈sp.take k,M.has u=0)∧Hid (w=wr)) (fun v21 _=>sp.length - (intOf v21).toNat)
 case atStart=>exact ⟨0,rfl,Nat.zero_le _,Zh (by simp),Lib.hid' rfl⟩
 case round =>
  obtain ⟨k,rfl,hk,HN,HW⟩:=hrel
  have hww:=HW.out
  subst hww
  by_cases hlt:k<sp.length
  ·obtain ⟨b,off,rfl,hb,hc⟩:=HZ.out.at hlt
   have HTK:=Zh (take_succ sp k hlt)
   have HMEM:=Zh (List.getElem_mem hlt)
   generalize sp[k]=u at *
   have HH:=Zh (has_any u w H0.out hm8)
   have hcs:=has_cases M u
   by_cases hz:M.has u=0
   ·have HN2:=Zh (show ∀ v∈sp.take (k+1),M.has v=0 from fun v hv=>by
     rw [HTK.out] at hv
     rcases List.mem_append.1 hv with hv | hv
     ·exact HN.out v hv
     ·rw [List.mem_singleton.1 hv];exact hz)
    rw [hz,errV_0] at HH
    clear hz hcs
    go_wp2_with fail
    refine HH.out.mono ?_
    rintro en wz ⟨rfl,rfl⟩
    go_wp2_with fail
    go_roundw
    case rel=>exact ⟨k+1,by go_num,by omega,HN2,by first | exact Lib.hid' rfl | exact Lib.hid' trivial⟩
    case measure=>simp [intOf];omega
   ·have hz1:M.has u=1:=by omega
    have HR:=Zh (HF.out.trans (if_pos (List.any_eq_true.2 ⟨u,HMEM.out,by simpa using hz⟩)))
    rw [hz1,errV_pos (by decide)] at HH
    clear hz hcs hz1
    go_wp2_with fail
    refine HH.out.mono ?_
    rintro en wz ⟨rfl,rfl⟩
    go_wp2_with fail
    go_ret
    rw [HR.out]
    exact ⟨rfl,J,H0.out⟩
  have HNS:=Zh (show ∀ u∈sp,M.has u=0 from by have:=HN.out;rwa [List.take_of_length_le (by omega)] at this)
  have HF1:=Zh (HF.out.trans (if_neg (by rw [List.any_eq_true];rintro ⟨u,hu,hd⟩;exact absurd (HNS.out u hu) (by simpa using hd))))
  obtain ⟨da0,dk0,c0,_⟩:=H0.out.rows
  have H1:=Zh ((H0.out.noRow 3 1).noRow 3 1)
  clear HF HZ HN HW
  go_wp2_with fail
  clear hlt hk
  obtain ⟨n,hn⟩:∃ n,M.us.length=n:=⟨_,rfl⟩
  rw [hn] at hm8
  try rw [hn]
  have HNU:=Lib.hid' hn
  clear hn c0
  go_loopw [7,8,36] (fun v7 v8 v36 wr=>∃ (k:Nat) (A D:List Int) (aa da:Option Addr) (ac dc:Nat),v7=.slice aa A.length ac∧v8=.slice da D.length dc∧v36=.int .i64 k∧k≤n∧A.length≤k∧D.length≤k∧Hid (A=((List.range k).map (fun i:Nat=>(i:Int))).filter M.able)∧Hid (D=((List.range k).map (fun i:Nat=>(i:Int))).filter (fun u=>!M.able u))∧Hid (ClAt c M J (rowI aa ac A::rowI da dc D::L) W wr)) (fun _ _ v36 _=>n - (intOf v36).toNat)
  case atStart=>exact ⟨0,[],[],none,none,0,0,rfl,rfl,rfl,Nat.zero_le _,Nat.le_refl _,Nat.le_refl _,Lib.hid' rfl,Lib.hid' rfl,H1⟩
  case round =>
   clear H1
   obtain ⟨k,A,D,aa,da,ac,dc,rfl,rfl,rfl,hk,hAk,hDk,HA,HD,H2⟩:=hrel
   by_cases hlt:k<n
   ·have HAB:=Zh (Able_any (k:Int) wr H2.out HOK.out.many)
    have HA2:=Zh (show ((List.range (k+1)).map (fun i:Nat=>(i:Int))).filter M.able=A++(if M.able (k:Int)=true then [(k:Int)] else []) by rw [rng_succ,←HA.out])
    have HD2:=Zh (show ((List.range (k+1)).map (fun i:Nat=>(i:Int))).filter (fun u=>!M.able u)=D++(if (!M.able (k:Int))=true then [(k:Int)] else []) by rw [rng_succ,←HD.out])
    clear HA HD
    generalize M.able (k:Int)=ab at *
    obtain ⟨P,hPJ,hPO,h3⟩:=ClAt.front (K:=[_,_]) H2.out
    have HPO:=Lib.hid' hPO
    have HPJ:=Lib.hid' hPJ
    have H3:=h3
    clear hPO hPJ h3 H2
    go_wp2_with fail
    refine HAB.out.mono ?_
    clear HAB
    rintro en wz ⟨rfl,rfl⟩
    cases ab with
    | true =>
     rw [if_pos rfl] at HA2
     rw [if_neg (by decide),List.append_nil] at HD2
     go_wp2_with (at_builtin;refine Sep.append etInts rfl (.tmp 42) (.tmp 44) rfl [.int .i64 (k:Int)] rfl H3 0 rfl rfl rfl (by simp [Value.oneCell']) (by omega) ?_;intro a7 c7 w7 H7)
     rw [zVs_one] at H7
     have H8:=Zh (show ClAt c M J (rowI a7 c7 (A++[(k:Int)])::rowI da dc D::L) W w7 by
      rw [←HPJ.out]
      refine ClAt.unfront (K:=[_,_]) HPO.out ?_
      have e:rowI a7 c7 (A++[(k:Int)])=.row 3 1 (.slice a7 (A.length+1) c7) (A.length+1) (zVs (A++[(k:Int)])):=by show Asn.row _ _ _ _ _=_;rw [List.length_append];rfl
      rw [e];exact H7)
     clear H7 H3
     go_roundw
     case rel=>exact ⟨k+1,A++[(k:Int)],D,a7,da,c7,dc,by simp,rfl,by go_num,by omega,by simp;omega,by omega,Lib.hid' HA2.out.symm,Lib.hid' HD2.out.symm,H8⟩
     case measure=>simp [intOf];omega
    | false =>
     rw [if_neg (by decide),List.append_nil] at HA2
     rw [if_pos (by decide)] at HD2
     go_wp2_with (at_builtin;refine Sep.append etInts rfl (.tmp 46) (.tmp 48) rfl [.int .i64 (k:Int)] rfl H3 1 rfl rfl rfl (by simp [Value.oneCell']) (by omega) ?_;intro a7 c7 w7 H7)
     rw [zVs_one] at H7
     have H8:=Zh (show ClAt c M J (rowI aa ac A::rowI a7 c7 (D++[(k:Int)])::L) W w7 by
      rw [←HPJ.out]
      refine ClAt.unfront (K:=[_,_]) HPO.out ?_
      have e:rowI a7 c7 (D++[(k:Int)])=.row 3 1 (.slice a7 (D.length+1) c7) (D.length+1) (zVs (D++[(k:Int)])):=by show Asn.row _ _ _ _ _=_;rw [List.length_append];rfl
      rw [e];exact H7.perm (List.Perm.swap _ _ _))
     clear H7 H3
     go_roundw
     case rel=>exact ⟨k+1,A,D++[(k:Int)],aa,a7,ac,c7,rfl,by simp,by go_num,by omega,by omega,by simp;omega,Lib.hid' HA2.out.symm,Lib.hid' HD2.out.symm,H8⟩
     case measure=>simp [intOf];omega
   have hkn:k=n:=by omega
   have HA':=Zh (show A=ableL M by rw [HA.out,hkn,←HNU.out];rfl)
   have HD':=Zh (show D=deadL M by rw [HD.out,hkn,←HNU.out];rfl)
   rw [←HA'.out,←HD'.out] at HF1
   have HLT:=Zh (later_any A aa ac wr H2.out HOK.out (SlV.of_own (H2.out.side.row 0 rfl)) (fun u hu=>by
    rw [HA'.out] at hu
    obtain ⟨i,hi,he⟩:=List.mem_map.1 (List.mem_filter.1 hu).1
    have:=List.mem_range.1 hi
    omega))
   have HEL:=Zh (show M.p.e<M.later A from by have:=maxE_lo M A M.p.e;show M.p.e<M.maxE A M.p.e+1;omega)
   clear HA HD hk hAk hDk hkn
   generalize M.later A=e at *
   go_wp2_with fail
   refine HLT.out.mono ?_
   clear HLT
   rintro en w3 ⟨rfl,hb3⟩
   have H3:=Zh (H2.out.below hb3)
   clear hb3 H2
   by_cases hbig:1099511627776<e
   ·have HR:=Zh (HF1.out.trans (if_pos hbig))
    go_wp2_with fail
    go_ret
    rw [HR.out]
    exact ⟨rfl,J,ClAt.less (K:=[_,_]) H3.out⟩
   have HF2:=Zh (HF1.out.trans (if_neg hbig))
   have HEB:=Lib.hid' hbig
   clear HF1
   obtain ⟨hX,hfl,c3⟩:=H3.out.chs
   obtain ⟨c2,cl⟩:=H3.out.c2
   have HNX:=Zh (pnext_any M.p.e J.a J.c J.Ks D sp da sa dc sc w3 hX (by rw [hfl];have:=all_len (pj_ok HOK.out.proj);omega) (SlV.of_own (H3.out.side.row 1 rfl)) (HSP.out M w3 (ClAt.less (K:=[_,_]) H3.out)))
   rw [show docJ M.p.e J.Ks=M.p from by show (⟨M.p.e,J.Ks.map (·.1)⟩:Pj)=M.p;rw [H3.out.csOf],show pjV M.p.e J.a J.c J.Ks=.agg #[.int .i64 M.p.e,.slice J.a J.Ks.length J.c] from rfl] at HNX
   have HNM:=Zh (fun (n:Pj) (h0:M.p.next D sp=(0,n)) (v:Int) (hv:v∈n.all)=>next_mem h0 hv)
   have HNK:=Zh (fun (n:Pj) (h0:M.p.next D sp=(0,n))=>pj_ok (Pj.Ok.check (Pj.next_ok h0).ok))
   clear hX hfl
   generalize M.p.next D sp=nr at *
   obtain ⟨nz,np⟩:=nr
   go_wp2_with fail
   refine HNX.out.mono ?_
   clear HNX c3 c2 cl
   rintro en w4 ⟨e',a',k',K,rfl,hdoc,hown,hb4⟩
   simp only at hdoc ⊢
   rw [show pjV e' a' k' K=.agg #[.int .i64 e',.slice a' K.length k'] from rfl]
   have h5:=(H3.out.pastJ (J':=⟨a',k',K⟩) hb4 hown).allocB w4.heap.size [.int .i64 e',.slice a' K.length k'] 30 rfl
   rw [show ([.int .i64 e',.slice a' K.length k']:List Value).toArray=#[.int .i64 e',.slice a' K.length k'] from rfl] at h5
   have H5:=Lib.hid' h5
   have HDC:=Lib.hid' hdoc
   clear h5 hdoc hown hb4 H3
   by_cases hz:nz=0
   rotate_left
   ·have HR:=Zh (show M.rebuild sp=(nz,M) from HF2.out.trans (if_pos hz))
    have HZ:=Lib.hid' hz
    rw [errV_pos hz]
    clear hz HF2
    go_wp2_with fail
    go_ret
    rw [HR.out]
    exact ⟨by rw [errV_pos HZ.out];rfl,J,ClAt.less (K:=[_,_,_,_,_]) H5.out⟩
   subst hz
   have HF3:=Zh (show M.rebuild sp=runS (bdS e np.cs (staysL M) (lowMax M)) M from HF2.out.trans (if_neg (by simp)))
   rw [errV_0]
   clear HF2
   go_upto_region 23 with fail
   generalize w4.alloc (.cells #[.int .i64 e',.slice a' K.length k'] 30)=w5 at *
   generalize w4.heap.size=N5 at *
   have t0:=H5.out.side.cell 0 rfl 0 rfl;have tf:=H5.out.side.free 0 rfl 0;have tl:=H5.out.side.lt 0 rfl
   have H6:=Zh (H5.out.setB 0 (.int .i64 e))
   go_upto_region 24 with fail
   generalize w5.setCell ⟨N5,0,none⟩ (.int .i64 e)=w6 at *
   clear t0 tf tl H5
   have t0:=H6.out.side.cell 0 rfl 0 rfl;have t1:=H6.out.side.cell 0 rfl 1 rfl;have tl:=H6.out.side.lt 0 rfl
   have h7:=(ClAt.less (K:=[_]) H6.out).allocB w6.heap.size [ptrV c,.int .i64 e,.slice a' K.length k',.slice none 0 0,.int .i64 0,.int .i64 0] 82 rfl
   rw [show ([ptrV c,.int .i64 e,.slice a' K.length k',.slice none 0 0,.int .i64 0,.int .i64 0]:List Value).toArray=#[ptrV c,.int .i64 e,.slice a' K.length k',.slice none 0 0,.int .i64 0,.int .i64 0] from rfl] at h7
   have h8:=(((h7.foc 2 rfl).foc 1 rfl).sub (((((List.Sublist.refl L).cons _).cons _).cons_cons _).cons_cons _ |>.cons_cons _)).noRow 3 1
   go_upto_region 25 with fail
   generalize w6.alloc (.cells #[ptrV c,.int .i64 e,.slice a' K.length k',.slice none 0 0,.int .i64 0,.int .i64 0] 82)=w7 at *
   generalize w6.heap.size=B at *
   have H8:=Zh (show ClAt c M J (rowI none 0 []::bdB B c ⟨e,⟨a',k',K⟩,none,0,[],0⟩ 0::jR ⟨a',k',K⟩::jA ⟨a',k',K⟩::L) W w7 from h8)
   clear h7 h8 t0 t1 tl H6
   have HUN:=Zh (unitsR_any w7 H8.out HOK.out)
   obtain ⟨c2,cl⟩:=H8.out.c2
   obtain ⟨c3,_,_⟩:=H8.out.c3f
   clear H8
   go_wp2_with fail
   refine HUN.out.mono ?_
   clear HUN c2 c3 cl
   rintro en w8 ⟨ua,uc,rfl,h8⟩
   have H9:=Zh (show ClAt c M J (rowI none 0 []::bdB B c ⟨e,⟨a',k',K⟩,none,0,[],0⟩ 0::rowI ua uc M.units::jR ⟨a',k',K⟩::jA ⟨a',k',K⟩::L) W w8 from (h8.foc 2 rfl).foc 2 rfl)
   clear h8
   go_wp2_with fail
   go_loopw [82] (fun v82 wr=>∃ (k:Nat) (st:List Int) (ta:Option Addr) (tc:Nat) (low:Int),v82=.int .i64 k∧k≤M.units.length∧st.length≤k∧Hid (st=(M.units.take k).filter M.able)∧Hid (low=((M.units.take k).filter M.able).foldl (fun t u=>max t (M.lowU u)) 0)∧Hid (ClAt c M J (rowI ta tc st::bdB B c ⟨e,⟨a',k',K⟩,ta,tc,st,low⟩ 0::rowI ua uc M.units::jR ⟨a',k',K⟩::jA ⟨a',k',K⟩::L) W wr)) (fun v82 _=>M.units.length - (intOf v82).toNat)
   case atStart=>exact ⟨0,[],none,0,0,rfl,Nat.zero_le _,Nat.le_refl _,Lib.hid' rfl,Lib.hid' rfl,H9⟩
   case round =>
    clear H9
    obtain ⟨k,st,ta,tc,low,rfl,hk,hsk,HST,HLW,H10⟩:=hrel
    by_cases hlt:k<M.units.length
    ·obtain ⟨ba,off,rfl,hb,hc⟩:=(show Zs wr (.slice ua M.units.length uc) M.units from SlV.of_own (H10.out.side.row 2 rfl)).at hlt
     have HUI:=Zh (HUF.out.2 _ (List.getElem_mem hlt))
     have HTK:=Zh (take_succ M.units k hlt)
     generalize M.units[k]=uu at *
     obtain ⟨u,rfl⟩:∃ n:Nat,uu=n:=⟨uu.toNat,by have:=HUI.out.1;omega⟩
     have HAB:=Zh (Able_any (u:Int) wr H10.out HOK.out.many)
     have HAO:=Zh (fun h=>able_on (M:=M) (u:=u) h)
     have HST2:=Zh (show (M.units.take (k+1)).filter M.able=st++(if M.able (u:Int)=true then [(u:Int)] else []) by
      rw [HTK.out,List.filter_append,←HST.out];congr 1;by_cases hq:M.able (u:Int)=true
      ·rw [if_pos hq];simp [hq]
      ·rw [if_neg hq];simp [hq])
     have HLW2:=Zh (show ((M.units.take (k+1)).filter M.able).foldl (fun t u=>max t (M.lowU u)) 0=if M.able (u:Int)=true then max low (M.lowU u) else low by
      rw [HST2.out,List.foldl_append,HST.out,←HLW.out];by_cases hq:M.able (u:Int)=true
      ·rw [if_pos hq,if_pos hq];rfl
      ·rw [if_neg hq,if_neg hq];rfl)
     clear HST HLW HTK
     generalize M.able (u:Int)=ab at *
     have HL16:st.length≤16:=by omega
     go_wp2_with fail
     refine HAB.out.mono ?_
     clear HAB
     rintro en wz ⟨rfl,rfl⟩
     cases ab with
     | false =>
      rw [if_neg (by decide),List.append_nil] at HST2
      rw [if_neg (by decide)] at HLW2
      go_wp2_with fail
      go_roundw
      case rel=>exact ⟨k+1,st,ta,tc,low,by go_num,by omega,by omega,Lib.hid' HST2.out.symm,Lib.hid' HLW2.out.symm,H10⟩
      case measure=>simp [intOf];omega
     | true =>
      rw [if_pos rfl] at HST2
      rw [if_pos rfl] at HLW2
      obtain ⟨D9,S,hus⟩:=HAO.out rfl
      have hlo:M.lowU (u:Int)=S.u.l:=by unfold Cl.lowU;rw [Int.toNat_natCast,hus]
      rw [hlo] at HLW2
      have HUS:=Lib.hid' hus
      clear HAO hlo hus
      obtain ⟨P,hPJ,hPO,h3⟩:=ClAt.front (K:=[_,_,_,_,_]) H10.out
      have HPO:=Lib.hid' hPO
      have HPJ:=Lib.hid' hPJ
      have b3:=h3.cell 1 rfl 3 rfl;have bl:=h3.lt 1 rfl
      clear hPO hPJ H10
      go_upto_region 30 with (at_builtin;refine Sep.append etInts rfl (.tmp 93) (.tmp 95) rfl [.int .i64 (u:Int)] rfl h3 0 rfl rfl rfl (by simp [Value.oneCell']) (by omega) ?_;intro a7 c7 w7 H7;have b3:=H7.cell 1 rfl 3 rfl;have bf:=H7.free 1 rfl 3;have bl:=H7.lt 1 rfl)
      rw [zVs_one] at H7
      have H11:=Zh (show ClAt c M J (rowI a7 c7 (st++[(u:Int)])::bdB B c ⟨e,⟨a',k',K⟩,a7,c7,st++[(u:Int)],low⟩ 0::rowI (some ⟨ba,off,none⟩) uc M.units::jR ⟨a',k',K⟩::jA ⟨a',k',K⟩::L) W (w7.setCell ⟨B,3,none⟩ (.slice a7 (st.length+1) c7)) by
       rw [←HPJ.out]
       refine ClAt.unfront (K:=[_,_,_,_,_]) HPO.out ?_
       have e1:rowI a7 c7 (st++[(u:Int)])=.row 3 1 (.slice a7 (st.length+1) c7) (st.length+1) (zVs (st++[(u:Int)])):=by show Asn.row _ _ _ _ _=_;rw [List.length_append];rfl
       have e2:bdB B c ⟨e,⟨a',k',K⟩,a7,c7,st++[(u:Int)],low⟩ 0=.box B [ptrV c,.int .i64 e,.slice a' K.length k',.slice a7 (st.length+1) c7,.int .i64 low,.int .i64 0] 82:=by show Asn.box _ _ _=_;rw [List.length_append];rfl
       rw [e1,e2];exact (H7.set 1 rfl 3 (.slice a7 (st.length+1) c7)).perm (List.Perm.swap _ _ _))
      clear H7 b3 bf bl h3
      generalize w7.setCell ⟨B,3,none⟩ (.slice a7 (st.length+1) c7)=w9 at *
      obtain ⟨g,n9,cap,q,c1,hun,hgl,hgc,hne,hUN⟩:=H11.out.unitOf2 HUS.out
      have HUN:=Zh (hUN)
      obtain ⟨hbc,hbg⟩:=hne 1 B _ _ rfl
      have HBC:=Lib.hid' hbc
      have HBG:=Lib.hid' hbg
      have q1:=H11.out.side.cell 1 rfl 4 rfl;have qf:=H11.out.side.free 1 rfl 4;have ql:=H11.out.side.lt 1 rfl
      have cl:=H11.out.c2.2
      clear hUN hne hbc hbg
      generalize n9=n at *
      refine startD (S:=(fun w'=>w'.cell? ⟨c,1,none⟩=some (.slice (some ⟨g,0,none⟩) n cap)∧w'.cell? ⟨g,u,none⟩=some (ptrV q)∧c<w'.heap.size∧g<w'.heap.size∧B<w'.heap.size)) (by kernel_rfl) ⟨c1,hgc,cl,hgl,ql⟩ (fun hH0=>?_)
      simp only [List.length_cons,List.length_nil,Nat.reduceAdd,List.replicate_succ,List.replicate_zero]
      refine tD 0 99 (.pointer (some ⟨B,0,none⟩)) rfl rfl [(13,.pointer (some ⟨B,0,none⟩))] hH0 ?_
      dsimp only [sZ,sS]
      refine tD 1 100 (.pointer (some ⟨B,0,none⟩)) rfl rfl [(13,.pointer (some ⟨B,0,none⟩))] hH0 ?_
      dsimp only [sZ,sS]
      refine tD 2 101 (.pointer (some ⟨B,0,none⟩)) rfl rfl [(100,.pointer (some ⟨B,0,none⟩))] hH0 ?_
      dsimp only [sZ,sS]
      refine tD 3 102 (.pointer (some ⟨B,4,none⟩)) rfl rfl [(101,.pointer (some ⟨B,0,none⟩))] hH0 ?_
      dsimp only [sZ,sS]
      refine tD 5 104 (.pointer (some ⟨c,0,none⟩)) rfl rfl [(0,.pointer (some ⟨c,0,none⟩))] hH0 ?_
      dsimp only [sZ,sS]
      refine tD 6 105 (.pointer (some ⟨c,0,none⟩)) rfl rfl [(104,.pointer (some ⟨c,0,none⟩))] hH0 ?_
      dsimp only [sZ,sS]
      refine tD 7 106 (.pointer (some ⟨c,1,none⟩)) rfl rfl [(105,.pointer (some ⟨c,0,none⟩))] hH0 ?_
      dsimp only [sZ,sS]
      refine tD 8 107 (.slice (some ⟨g,0,none⟩) n cap) rfl rfl [(106,.pointer (some ⟨c,1,none⟩))] hH0 ?_
      dsimp only [sZ,sS]
      refine tD 9 108 (.int .i64 (u:Int)) rfl rfl [(15,.int .i64 (u:Int))] hH0 ?_
      dsimp only [sZ,sS]
      refine tD 10 109 (.pointer (some ⟨g,u,none⟩)) rfl rfl [(107,.slice (some ⟨g,0,none⟩) n cap),(108,.int .i64 (u:Int))] hH0 ?_
      dsimp only [sZ,sS]
      refine tD 11 110 (ptrV q) rfl rfl [(109,.pointer (some ⟨g,u,none⟩))] hH0 ?_
      dsimp only [sZ,sS]
      refine wpAnyH_ready (rs:=[4,12]) (by kernel_rfl) (by simp) (AllReadyH.cons (o:=_) rfl (fun K hK=>?_) (AllReadyH.cons (o:=_) rfl (fun K hK=>?_) AllReadyH.nil))
      ·skip
       go_simp
       refine hK.out _ _ ?_ (fun hH1=>?_)
       ·exact hH0
       clear hK K
       try simp only [Act.put,gA,gZ,gS,sA,sZ,sS]
       refine rD 12 rfl (fun K hK=>?_)
       go_simp
       refine (HUN.out _ (Below.refl _ _).drew).mono ?_
       clear HUN
       rintro en w5 ⟨bu,bm,us,A,rfl,h5,hU5,c15,g15,cl5,gl5⟩
       have H5:=Lib.hid' h5
       have HU5:=Lib.hid' hU5
       have HG5:=Zh (And.intro c15 (And.intro g15 (And.intro cl5 (And.intro gl5 (h5.side.lt 2 rfl)))))
       clear h5 hU5 c15 g15 cl5 gl5
       have q15:=H5.out.side.cell 2 rfl 4 rfl;have qf5:=H5.out.side.free 2 rfl 4;have ql5:=H5.out.side.lt 2 rfl
       refine hK.out _ _ ?_ (fun hH2=>?_)
       ·exact HG5.out
       clear hK K
       try simp only [Act.put,gA,gZ,gS,sA,sZ,sS]
       refine rD 13 rfl (fun K hK=>?_)
       go_simp
       refine (low_any w5 HU5.out).mono ?_
       rintro en wz ⟨rfl,rfl⟩
       refine hK.out _ _ ?_ (fun hH3=>?_)
       ·exact HG5.out
       clear hK K
       try simp only [Act.put,gA,gZ,gS,sA,sZ,sS]
       refine rD 14 rfl (fun K hK=>?_)
       go_simp
       refine hK.out _ _ ?_ (fun hH4=>?_)
       ·exact hH3
       clear hK K
       try simp only [Act.put,gA,gZ,gS,sA,sZ,sS]
       refine tD 15 114 (.pointer (some ⟨B,0,none⟩)) rfl rfl [(99,.pointer (some ⟨B,0,none⟩))] hH4 ?_
       dsimp only [sZ,sS]
       refine tD 16 115 (.pointer (some ⟨B,4,none⟩)) rfl rfl [(114,.pointer (some ⟨B,0,none⟩))] hH4 ?_
       dsimp only [sZ,sS]
       refine rD 17 rfl (fun K hK=>?_)
       go_simp
       have H6:=Zh (((ClAt.less (K:=[_]) H5.out).swapB.setB 4 (.int .i64 (max low S.u.l))).swapB)
       refine hK.out _ _ ?_ (fun hH5=>?_)
       ·exact ⟨(world_other (HG5.out.1) HBC.out),(world_other (HG5.out.2.1) HBG.out),by simpa using HG5.out.2.2.1,by simpa using HG5.out.2.2.2.1,by simpa using HG5.out.2.2.2.2⟩
       clear hK K
       refine wpAnyH_done (by kernel_rfl) ?_ _
       go_wp2_with fail
       go_roundw
       case rel=>exact ⟨k+1,st++[(u:Int)],a7,c7,max low S.u.l,by go_num,by omega,by simp;omega,Lib.hid' HST2.out.symm,Lib.hid' HLW2.out.symm,H6⟩
       case measure=>simp [intOf];omega
      ·skip
       go_simp
       refine (HUN.out _ (Below.refl _ _).drew).mono ?_
       clear HUN
       rintro en w5 ⟨bu,bm,us,A,rfl,h5,hU5,c15,g15,cl5,gl5⟩
       have H5:=Lib.hid' h5
       have HU5:=Lib.hid' hU5
       have HG5:=Zh (And.intro c15 (And.intro g15 (And.intro cl5 (And.intro gl5 (h5.side.lt 2 rfl)))))
       clear h5 hU5 c15 g15 cl5 gl5
       have q15:=H5.out.side.cell 2 rfl 4 rfl;have qf5:=H5.out.side.free 2 rfl 4;have ql5:=H5.out.side.lt 2 rfl
       refine hK.out _ _ ?_ (fun hH1=>?_)
       ·exact HG5.out
       clear hK K
       try simp only [Act.put,gA,gZ,gS,sA,sZ,sS]
       refine wpAnyH_ready (rs:=[4,13]) (by kernel_rfl) (by simp) (AllReadyH.cons (o:=_) rfl (fun K hK=>?_) (AllReadyH.cons (o:=_) rfl (fun K hK=>?_) AllReadyH.nil))
       ·skip
        go_simp
        refine hK.out _ _ ?_ (fun hH2=>?_)
        ·exact hH1
        clear hK K
        try simp only [Act.put,gA,gZ,gS,sA,sZ,sS]
        refine rD 13 rfl (fun K hK=>?_)
        go_simp
        refine (low_any w5 HU5.out).mono ?_
        rintro en wz ⟨rfl,rfl⟩
        refine hK.out _ _ ?_ (fun hH3=>?_)
        ·exact HG5.out
        clear hK K
        try simp only [Act.put,gA,gZ,gS,sA,sZ,sS]
        refine rD 14 rfl (fun K hK=>?_)
        go_simp
        refine hK.out _ _ ?_ (fun hH4=>?_)
        ·exact hH3
        clear hK K
        try simp only [Act.put,gA,gZ,gS,sA,sZ,sS]
        refine tD 15 114 (.pointer (some ⟨B,0,none⟩)) rfl rfl [(99,.pointer (some ⟨B,0,none⟩))] hH4 ?_
        dsimp only [sZ,sS]
        refine tD 16 115 (.pointer (some ⟨B,4,none⟩)) rfl rfl [(114,.pointer (some ⟨B,0,none⟩))] hH4 ?_
        dsimp only [sZ,sS]
        refine rD 17 rfl (fun K hK=>?_)
        go_simp
        have H6:=Zh (((ClAt.less (K:=[_]) H5.out).swapB.setB 4 (.int .i64 (max low S.u.l))).swapB)
        refine hK.out _ _ ?_ (fun hH5=>?_)
        ·exact ⟨(world_other (HG5.out.1) HBC.out),(world_other (HG5.out.2.1) HBG.out),by simpa using HG5.out.2.2.1,by simpa using HG5.out.2.2.2.1,by simpa using HG5.out.2.2.2.2⟩
        clear hK K
        refine wpAnyH_done (by kernel_rfl) ?_ _
        go_wp2_with fail
        go_roundw
        case rel=>exact ⟨k+1,st++[(u:Int)],a7,c7,max low S.u.l,by go_num,by omega,by simp;omega,Lib.hid' HST2.out.symm,Lib.hid' HLW2.out.symm,H6⟩
        case measure=>simp [intOf];omega
       ·skip
        go_simp
        refine (low_any w5 HU5.out).mono ?_
        rintro en wz ⟨rfl,rfl⟩
        refine hK.out _ _ ?_ (fun hH2=>?_)
        ·exact HG5.out
        clear hK K
        try simp only [Act.put,gA,gZ,gS,sA,sZ,sS]
        refine rD 4 rfl (fun K hK=>?_)
        go_simp
        refine hK.out _ _ ?_ (fun hH3=>?_)
        ·exact hH2
        clear hK K
        try simp only [Act.put,gA,gZ,gS,sA,sZ,sS]
        refine rD 14 rfl (fun K hK=>?_)
        go_simp
        refine hK.out _ _ ?_ (fun hH4=>?_)
        ·exact hH3
        clear hK K
        try simp only [Act.put,gA,gZ,gS,sA,sZ,sS]
        refine tD 15 114 (.pointer (some ⟨B,0,none⟩)) rfl rfl [(99,.pointer (some ⟨B,0,none⟩))] hH4 ?_
        dsimp only [sZ,sS]
        refine tD 16 115 (.pointer (some ⟨B,4,none⟩)) rfl rfl [(114,.pointer (some ⟨B,0,none⟩))] hH4 ?_
        dsimp only [sZ,sS]
        refine rD 17 rfl (fun K hK=>?_)
        go_simp
        have H6:=Zh (((ClAt.less (K:=[_]) H5.out).swapB.setB 4 (.int .i64 (max low S.u.l))).swapB)
        refine hK.out _ _ ?_ (fun hH5=>?_)
        ·exact ⟨(world_other (HG5.out.1) HBC.out),(world_other (HG5.out.2.1) HBG.out),by simpa using HG5.out.2.2.1,by simpa using HG5.out.2.2.2.1,by simpa using HG5.out.2.2.2.2⟩
        clear hK K
        refine wpAnyH_done (by kernel_rfl) ?_ _
        go_wp2_with fail
        go_roundw
        case rel=>exact ⟨k+1,st++[(u:Int)],a7,c7,max low S.u.l,by go_num,by omega,by simp;omega,Lib.hid' HST2.out.symm,Lib.hid' HLW2.out.symm,H6⟩
        case measure=>simp [intOf];omega
    have hkn3:k=M.units.length:=by omega
    have HB:=Zh (show BdOk c M.us.length J (jR ⟨a',k',K⟩::jA ⟨a',k',K⟩::rowI ta tc st::L) W ⟨e,⟨a',k',K⟩,ta,tc,st,low⟩ from by
     have hPK:=HNK.out np rfl
     have hcs:K.map (·.1)=np.cs:=congrArg Pj.cs HDC.out
     have h0:=(pj_ok HOK.out.proj).e.1
     have h1:=HEL.out
     have h2:=HEB.out
     refine ⟨fun M' w' hq=>jch hq.side 1 0 rfl rfl,fun M' w' hq=>SlV.of_own (hq.side.row 2 rfl),⟨⟨?_,?_⟩,?_,?_⟩,fun u hu=>?_⟩
     ·show 0≤e;omega
     ·show e≤1099511627776;omega
     ·show 1≤(K.map (·.1)).length∧(K.map (·.1)).length≤4
      rw [hcs];exact hPK.n
     ·show ∀ x∈K.map (·.1),1≤x.length∧x.length≤4
      rw [hcs];exact hPK.each
     ·have h3:u∈np.all:=by
       have h4:u∈(K.map (·.1)).flatten:=hu
       rw [hcs] at h4;exact h4
      rcases HNM.out np rfl u h3 with h4 | h4
      ·exact HOK.out.there u h4
      ·exact has_zero (HNS.out u h4))
    have H12:=Zh (show ClAt c M J (bdB B c ⟨e,⟨a',k',K⟩,ta,tc,st,low⟩ 0::jR ⟨a',k',K⟩::jA ⟨a',k',K⟩::rowI ta tc st::L) W wr from
     (((ClAt.less (K:=[_]) (H10.out.foc 2 rfl)).foc 3 rfl).foc 3 rfl).foc 3 rfl)
    have HRN:=Zh (run_any ⟨e,⟨a',k',K⟩,ta,tc,st,low⟩ wr HP.out H12.out HOK.out HB.out)
    have HEQ:=Zh (show runS ⟨e,⟨a',k',K⟩,ta,tc,st,low⟩ M=M.rebuild sp by
     rw [HF3.out,runS_eq]
     have hcs:K.map (·.1)=np.cs:=congrArg Pj.cs HDC.out
     have e1:staysL M=st:=by rw [HST.out,hkn3,List.take_length];rfl
     have e2:lowMax M=low:=by rw [HLW.out,hkn3,List.take_length];rfl
     show runS (bdS e (K.map (·.1)) st low) M=_
     rw [hcs,e1,e2])
    rw [HEQ.out] at HRN
    clear HST HLW hk hsk hkn3 H10
    go_wp2_with fail
    refine HRN.out.mono ?_
    clear HRN
    rintro en w13 ⟨rfl,J',h13⟩
    go_wp2_with fail
    go_ret
    exact ⟨rfl,J',ClAt.less (K:=[_]) h13⟩

end SL
end Go.Proofs.YtimbeeiihbmofaaGreatDoor

namespace Go.Proofs.YtimbeeiihbmofaaGreatDoor
namespace SL
open DK SH SQ
theorem tail_ge' {L:List (Int×C)} {t:Int} {p:Int×C} (hp:p∈L):p.1+1≤L.foldl tailF t:=by
 induction L generalizing t with
 | nil=>cases hp
 | cons q L ih =>
  rcases List.mem_cons.1 hp with rfl | hp
  ·have h1:(tailF t p)≤L.foldl tailF (tailF t p):=tail_ge
   have h2:p.1+1≤tailF t p:=by unfold tailF;omega
   show p.1+1≤L.foldl tailF (tailF t p)
   omega
  ·exact ih hp
theorem tail_le' {L:List (Int×C)} {t T:Int} (h:t≤T) (hL:∀ p∈L,p.1+1≤T):L.foldl tailF t≤T:=by
 induction L generalizing t with
 | nil=>exact h
 | cons q L ih =>
  have h1:=hL q List.mem_cons_self
  exact ih (by unfold tailF;omega) (fun p hp=>hL p (List.mem_cons_of_mem _ hp))
theorem Sees.mem {u:U} {e l:Int} {f:Int→C} (h:Sees u e l f) {p:Int×C} (hp:p∈u.cells):f p.1=p.2∧l≤p.1∧p.1<1048576∧(p.2.k=1∨p.2.k=2):=by
 have ha:=h.ok.addr p hp
 rw [h.l] at ha
 refine ⟨?_,ha.1,ha.2,by rcases (h.ok.kind p hp).1 with h | h;exact .inl h;exact .inr h.1⟩
 rw [←h.see]
 unfold U.at
 rw [if_neg (by rw [h.l];omega),lookC_of_mem h.ok.nodup hp]
theorem Sees.tails {u:U} {e l:Int} {f:Int→C} (h:Sees u e l f):l≤u.tail∧(∀ a,(f a).k≠0→(f a).k≠3→a+1≤u.tail)∧∀ T,l≤T→(∀ a,(f a).k≠0→(f a).k≠3→a+1≤T)→u.tail≤T:=by
 refine ⟨by rw [←h.l];exact tail_ge,fun a h0 h3=>?_,fun T hT hc=>?_⟩
 ·have:=at_some h.ok (a:=a) (by rw [h.see];exact h3) (by rw [h.see];exact h0)
  exact tail_ge' this.2.2
 ·refine tail_le' (by rw [h.l];exact hT) (fun p hp=>?_)
  obtain ⟨g1,g2,g3,g4⟩:=h.mem hp
  have hk:(f p.1).k=1∨(f p.1).k=2:=by rw [g1];exact g4
  exact hc p.1 (by omega) (by omega)
/-- units are sealed: the tail then -/
theorem Mid.seals {r:Int} {c:Cl} {e e0:Int} {st:List Int} {k:Nat} {F:Nat→Int→C} {lo:Int} (hk:k<512) (hr:((200*k+200:Nat):Int)≤r) (he:e0<e∧e≤1099511627776):∀ {l:List Int} {s:Cl} {t:Int} {D:Nat→Sh},l.Nodup→(∀ u∈l,(0≤u∧u<(c.us.length:Int))∧st.any (fun y=>u==y)=true) →
  (∀ u∈l,D u.toNat=⟨k,e0,lo,F u.toNat⟩)→Mid r c s D →
  ∃ s' t',allC (sealS e st) l (s,t)=(0,(s',t'))∧Mid r c s' (fun i=>if (i:Int)∈l then ⟨k+1,e,lo,F i⟩ else D i)∧t≤t' ∧
   (∀ u∈l,lo≤t'∧∀ a,(F u.toNat a).k≠0→(F u.toNat a).k≠3→a+1≤t')∧(∀ T,t≤T→lo≤T→(∀ u∈l,∀ a,(F u.toNat a).k≠0→(F u.toNat a).k≠3→a+1≤T)→t'≤T)
 | [],s,t,D,_,_,_,h=>⟨s,t,rfl,by simpa using h,Int.le_refl _,by simp,fun T hT _ _=>hT⟩
 | u::l,s,t,D,hn,hu,hD,h=>by
  have hnd:=List.nodup_cons.1 hn
  obtain ⟨hrg,hst⟩:=hu u List.mem_cons_self
  have hDu:=hD u List.mem_cons_self
  obtain ⟨v,hv,q1,q2,q3⟩:=h.act hrg (by rw [hDu];exact hk) (by rw [hDu];exact hr) ⟨1,e,0,[]⟩
  rw [hDu] at hv q3
  obtain ⟨v',e2,hv',ht'⟩:=hv.rise he
  rw [e2] at q1 q2 q3
  simp only [if_true] at q2 q3
  have hm:=q3 ⟨k+1,e,lo,F u.toNat⟩ (Nat.le_refl _) hv'
  have htl:=hv.tails
  have hne:∀ w∈l,w.toNat≠u.toNat:=fun w hw e=>by
   have a1:=(hu w (List.mem_cons_of_mem _ hw)).1
   exact hnd.1 (by rw [show u=w by omega];exact hw)
  obtain ⟨s2,t2,e3,hm2,g1,g2,g3⟩:=Mid.seals hk hr he (l:=l) (s:=(s.do u.toNat ⟨1,e,0,[]⟩).2.2) (t:=max t v.tail) hnd.2 (fun w hw=>hu w (List.mem_cons_of_mem _ hw)) (fun w hw=>by rw [upS_ne _ _ (hne w hw)];exact hD w (List.mem_cons_of_mem _ hw)) hm
  have e4:sealS e st (s,t) u=(0,((s.do u.toNat ⟨1,e,0,[]⟩).2.2,max t v.tail)):=by
   unfold sealS
   simp only
   rw [if_pos hst,q1,q2]
  refine ⟨s2,t2,?_,?_,by omega,?_,?_⟩
  ·unfold allC
   rw [e4]
   simpa using e3
  ·have:(fun i:Nat=>if (i:Int)∈l then (⟨k+1,e,lo,F i⟩:Sh) else upS D u.toNat ⟨k+1,e,lo,F u.toNat⟩ i)=(fun i:Nat=>if (i:Int)∈u::l then (⟨k+1,e,lo,F i⟩:Sh) else D i):=by
    funext i
    by_cases hi:(i:Int)∈l
    ·rw [if_pos hi,if_pos (List.mem_cons_of_mem _ hi)]
    ·rw [if_neg hi]
     by_cases hiu:i=u.toNat
     ·rw [hiu,upS_at,if_pos (by rw [show ((u.toNat:Nat):Int)=u by omega];exact List.mem_cons_self)]
     ·rw [upS_ne _ _ hiu,if_neg]
      rw [List.mem_cons]
      rintro (e | e)
      ·exact hiu (by omega)
      ·exact hi e
   rw [←this]
   exact hm2
  ·intro w hw
   rcases List.mem_cons.1 hw with rfl | hw
   ·exact ⟨by have:=htl.1;show lo≤t2;have:lo≤v.tail:=htl.1;omega,fun a h0 h3=>by have:=htl.2.1 a h0 h3;omega⟩
   ·exact g2 w hw
  ·intro T hT hlT hc
   refine g3 T ?_ hlT (fun w hw=>hc w (List.mem_cons_of_mem _ hw))
   have:=htl.2.2 T hlT (hc u List.mem_cons_self)
   omega
theorem live_nil (l:List Int):liveC [] l=l:=by
 unfold liveC
 simp
theorem fillC_nil (D:List Int):∀ (l:List (List Int)) (i:Nat) (cs:List (List Int)),fillC D [] l i cs=cs
 | [],_,_=>rfl
 | c::l,i,cs=>by
  show fillC D [] l (i+1) (([]:List Int).foldl (spareStep D i c.length) cs)=cs
  exact fillC_nil D l (i+1) cs
theorem next_same {p:Pj} (h:p.check=0) (he:p.e<1099511627776):p.next [] []=(0,⟨p.e+1,p.cs⟩):=by
 have hm:p.cs.map (liveC [])=p.cs:=by
  rw [show (liveC []:List Int→List Int)=id from funext live_nil,List.map_id]
 unfold Pj.next
 rw [if_neg (by rw [h];decide),if_neg (by simp),if_neg (by omega),hm,if_neg,fillC_nil]
 rw [List.any_eq_true]
 rintro ⟨x,hx,hxe⟩
 have:=((pj_ok h).each x hx).1
 cases x with
 | nil=>simp at this
 | cons _ _=>simp at hxe
theorem cells_mem {M:Cl} {st:List Int}:∀ {ch:List Int} {s:List (Int×C)} {a:Int},a∈(ch.foldl (cellsStep M st) s).map (·.1)→a∈s.map (·.1)∨∃ v∈ch,a∈(sortC (M.unitU v).cells).map (·.1)
 | [],s,a,h=>.inl h
 | v::ch,s,a,h=>by
  rcases cells_mem (ch:=ch) (s:=cellsStep M st s v) h with h1 | ⟨w,hw,h1⟩
  ·have add:∀ (L s:List (Int×C)),a∈(L.foldl addCell s).map (·.1)→a∈s.map (·.1)∨a∈L.map (·.1):=by
    intro L
    induction L with
    | nil=>intro s h;exact .inl h
    | cons p L ih =>
     intro s h
     rcases ih (addCell s p) h with h | h
     ·unfold addCell at h
      split at h
      ·exact .inl h
      ·rw [List.map_append] at h
       rcases List.mem_append.1 h with h | h
       ·exact .inl h
       ·right;simp at h;rw [h];simp
     ·right;rw [List.map_cons];exact List.mem_cons_of_mem _ h
   unfold cellsStep at h1
   split at h1
   ·rcases add _ _ h1 with h1 | h1
    ·exact .inl h1
    ·right
     exact ⟨v,List.mem_cons_self,h1⟩
   ·exact .inl h1
  ·exact .inr ⟨w,List.mem_cons_of_mem _ hw,h1⟩
theorem Fine.unitOfU {r:Int} {k:Nat} {u:U} {x:Un} {M:Cl} {i:Int} (h:Fine r k u x) (hx:M.us[i.toNat]?=some x):M.unitU i=u:=by
 obtain ⟨n,L,rfl,_⟩:=h
 unfold Cl.unitU
 rw [hx]
theorem allC_skip {St:Type} {f:St→Int→Nat×St} {s:St}:∀ {l:List Int},(∀ u∈l,f s u=(0,s))→allC f l s=(0,s)
 | [],_=>rfl
 | u::l,h=>by
  unfold allC
  rw [h u List.mem_cons_self]
  simpa using allC_skip (l:=l) (fun v hv=>h v (List.mem_cons_of_mem _ hv))
theorem chain_home {c:Cl} (hn:c.p.all.Nodup) (hok:c.ok) {ch:List Int} (hc:ch∈c.p.cs) {a:Int} (ha:0≤a) {v:Int} (h1:v∈ch) (h2:v∈c.home a):c.home a=ch:=by
 obtain ⟨j,hj,_,hg⟩:=home_at (M:=c) (pj_ok hok.proj) ha
 obtain ⟨i,hi,hgi⟩:=List.getElem_of_mem hc
 have hj2:c.p.cs[j]=c.home a:=(List.getElem?_eq_some_iff.1 hg).2
 rw [←hj2] at h2 ⊢
 rw [←hgi] at h1 ⊢
 by_cases hij:i=j
 ·subst hij;rfl
 ·exfalso
  have hd:=List.pairwise_flatten.1 (show c.p.cs.flatten.Pairwise (·≠·) from hn)
  have hp:=List.pairwise_iff_getElem.1 hd.2
  rcases Nat.lt_or_gt_of_ne hij with h | h
  ·exact hp i j hi hj h v h1 v h2 rfl
  ·exact hp j i hj hi h v h2 v h1 rfl
/-- the chains' cells are all there -/
theorem Mid.fills {r:Int} {k:Nat} {c s:Cl} {m:M} {e:Int} {st:List Int} {K:Nat} (hc:Is r k c m) (h:Mid r c s (fun i=>if (i:Int)∈c.units then ⟨K,e,m.u.l,fun a=>(shD c k m i).f a⟩ else shD c k m i)):∀ {l:List (List Int)},(∀ ch∈l,ch∈c.p.cs)→fillsS e st l s=(0,s)
 | [],_=>rfl
 | ch::l,hl=>by
  have hch:=hl ch List.mem_cons_self
  have hin:∀ u∈ch,u∈c.p.all:=fun u hu=>List.mem_flatten.2 ⟨_,hch,hu⟩
  have hf:s.fillAll e st ch=(0,s):=by
   unfold Cl.fillAll
   refine allC_skip (fun a ha=>?_)
   have ha2:a∈(s.cells st ch).map (·.1):=(sortI_perm _).mem_iff.1 ha
   rcases cells_mem ha2 with h0 | ⟨v,hv,hva⟩
   ·simp at h0
   have hrv:=hc.rng (hin v hv)
   obtain ⟨y,u,hy,hF,hS⟩:=h.has hrv
   rw [hF.unitOfU hy] at hva
   obtain ⟨p,hp,rfl⟩:=List.mem_map.1 hva
   have hp2:=(sortC_mem _ hS.ok.nodup p).1 hp
   have hvu:((v.toNat:Nat):Int)=v:=by omega
   simp only [hvu,if_pos (mem_units.2 (hin v hv))] at hS
   obtain ⟨g1,g2,g3,g4⟩:=hS.mem hp2
   have hl0:=hc.ok.u.l0
   have h0:0≤p.1:=by omega
   have hvh:v∈c.home p.1:=by
    rw [shD_all hrv.1 (hin v hv)] at g1
    simp only at g1
    by_cases hh:p.1<m.u.l∨v∈c.home p.1
    ·rcases hh with hh | hh
     ·omega
     ·exact hh
    ·rw [if_neg hh] at g1
     rw [←g1] at g4
     rcases g4 with g4 | g4<;>cases g4
   have hhome:=chain_home hc.nd hc.mid.ok hch h0 hv hvh
   have hat:m.u.at p.1=p.2:=by
    rw [shD_all hrv.1 (hin v hv)] at g1
    simp only at g1
    rw [if_pos (.inr hvh)] at g1
    exact g1
   refine allC_skip (fun w hw=>?_)
   have hrw:=hc.rng (hin w hw)
   have hwu:((w.toNat:Nat):Int)=w:=by omega
   have hrd:=h.read hrw h0 (by omega:p.1≤1048575)
   simp only [hwu,if_pos (mem_units.2 (hin w hw))] at hrd
   rw [shD_all hrw.1 (hin w hw)] at hrd
   simp only at hrd
   rw [if_pos (.inr (by rw [hhome];exact hw)),hat] at hrd
   unfold fillS
   rw [hrd,if_pos (.inr (by show p.2.k≠0;omega))]
  unfold fillsS
  rw [hf,if_neg (by simp)]
  exact Mid.fills hc h (fun x hx=>hl x (List.mem_cons_of_mem _ hx))
/-- a cluster is rebuilt: it shows the same, but that its tail is behind the last cell, or the low mark -/
theorem Is.rebuild {r:Int} {k:Nat} {c:Cl} {m:M} (h:Is r k c m) (hk:k+2<512) (hr:((200*(k+2)+200:Nat):Int)≤r) :
  ∃ c',c.rebuild []=(0,c')∧m.u.l≤c'.q.n∧c'.q.n≤m.t∧(∀ a,c'.q.n≤a→m.u.at a=⟨0,[]⟩)∧∀ m':M,m'.ok→m'.t=c'.q.n→m'.u.l=m.u.l→(∀ a,m'.u.at a=m.u.at a)→Is r (k+2) c' m':=by
 have hin:∀ u∈c.units,0≤u∧u<(c.us.length:Int):=fun u hu=>h.rng (mem_units.1 hu)
 have he:=h.e
 have hab:∀ u∈((List.range c.us.length).map (fun i:Nat=>(i:Int))),c.able u=true:=fun u hu=>by
  obtain ⟨i,hi,rfl⟩:=List.mem_map.1 hu
  exact (h.mid.able ⟨by omega,by have:=List.mem_range.1 hi;omega⟩).1
 have hdead:deadL c=[]:=by
  unfold deadL
  rw [List.filter_eq_nil_iff]
  intro u hu
  rw [hab u hu];decide
 have hlt:c.later (ableL c)=c.p.e+1:=by
  unfold Cl.later
  rw [maxE_same]
  intro u hu
  obtain ⟨i,hi,rfl⟩:=List.mem_map.1 (List.mem_filter.1 hu).1
  exact h.epochs ⟨by omega,by have:=List.mem_range.1 hi;omega⟩
 have hst:staysL c=c.units:=by
  unfold staysL
  rw [List.filter_eq_self]
  exact fun u hu=>(h.mid.able (hin u hu)).1
 have hlow:∀ u∈c.units,c.lowU u=m.u.l:=fun u hu=>by rw [(h.mid.able (hin u hu)).2.1,shD_all (hin u hu).1 (mem_units.1 hu)]
 obtain ⟨u0,rs,hh0⟩:=home_ne h.mid.ok (a:=0) (Int.le_refl _)
 have hu0:u0∈c.units:=mem_units.2 (home_mem (a:=0) (by rw [hh0];exact List.mem_cons_self))
 have hl0:=h.ok.u.l0
 have hl1:=h.ok.u.l1
 have hlm:lowMax c=m.u.l:=by
  unfold lowMax
  rw [hst]
  have gen:∀ (l:List Int) (t:Int),(∀ u∈l,c.lowU u=m.u.l)→t≤m.u.l→l.foldl (fun t u=>max t (c.lowU u)) t=if l=[] then t else m.u.l:=by
   intro l
   induction l with
   | nil=>intro t _ _;rfl
   | cons u l ih =>
    intro t hl ht
    have h1:=hl u List.mem_cons_self
    rw [List.foldl_cons,h1,show max t m.u.l=m.u.l by omega,ih m.u.l (fun v hv=>hl v (List.mem_cons_of_mem _ hv)) (Int.le_refl _)]
    simp
  rw [gen _ 0 hlow hl0,if_neg (by intro hz;rw [hz] at hu0;cases hu0)]
 have hnx:=next_same h.mid.ok.proj (by omega:c.p.e<1099511627776)
 have hcs:((bdS (c.p.e+1) c.p.cs c.units m.u.l).J.Ks).map (·.1)=c.p.cs:=by
  show (c.p.cs.map (fun x=>(x,(none:Option Addr),0))).map (·.1)=_
  rw [List.map_map];exact List.map_id _
 have hbu:(bdS (c.p.e+1) c.p.cs c.units m.u.l).units=c.units:=by
  unfold Bd.units
  rw [hcs]
  rfl
 have hbf:(bdS (c.p.e+1) c.p.cs c.units m.u.l).fresh=[]:=by
  unfold Bd.fresh
  rw [hbu,List.filter_eq_nil_iff]
  intro u hu
  have:(bdS (c.p.e+1) c.p.cs c.units m.u.l).st.any (fun y=>u==y)=true:=by
   rw [List.any_eq_true]
   exact ⟨u,hu,by simp⟩
  rw [this];decide
 obtain ⟨s1,t1,e1,hm1,g1,g2,g3⟩:=Mid.seals (r:=r) (c:=c) (e:=c.p.e+1) (e0:=c.p.e) (st:=c.units) (k:=k) (F:=fun i=>(shD c k m i).f) (lo:=m.u.l) (by omega) (by omega) ⟨by omega,by omega⟩ (l:=c.units) (s:=c) (t:=0) (D:=shD c k m) (units_nodup c)
  (fun u hu=>⟨hin u hu,by rw [List.any_eq_true];exact ⟨u,hu,by simp⟩⟩) (fun u hu=>by rw [shD_all (hin u hu).1 (mem_units.1 hu)]) h.mid
 -- all are trimmed to the low mark that they have
 obtain ⟨s2,e2,hm2⟩:=Mid.all (r:=r) (c:=c) (f:=Cl.trimS (c.p.e+1) m.u.l) (B:=fun i=>⟨k+2,c.p.e+1,m.u.l,(shD c k m i).f⟩) (units_nodup c) (fun u hu=>(hin u hu).1) (fun s D' u hu hs hD=>by
  have hrg:=hin u hu
  have huu:((u.toNat:Nat):Int)=u:=by omega
  simp only [huu,if_pos hu] at hD
  obtain ⟨v,hv,q1,q2,q3⟩:=hs.act hrg (by rw [hD];show k+1<512;omega) (by rw [hD];show ((200*(k+1)+200:Nat):Int)≤r;omega) ⟨4,c.p.e+1,m.u.l,[]⟩
  rw [hD] at hv q3
  have hv2:Sees v (c.p.e+1) m.u.l (shD c k m u.toNat).f:=hv
  obtain ⟨v',e2,hv'⟩:=hv2.trim ⟨hl0,hl1⟩
  rw [e2] at q1 q3
  simp only [if_true] at q3
  refine ⟨_,Prod.ext q1 rfl,q3 ⟨k+2,c.p.e+1,m.u.l,(shD c k m u.toNat).f⟩ (Nat.le_refl _) ?_⟩
  rw [show max m.u.l m.u.l=m.u.l by omega] at hv'
  refine ⟨hv'.ok,hv'.e,hv'.l,fun a=>?_⟩
  rw [hv'.see]
  split
  ·rename_i ha
   rw [shD_all hrg.1 (mem_units.1 hu)]
   show _=if a<m.u.l∨u∈c.home a then m.u.at a else _
   rw [if_pos (.inl ha)]
   unfold U.at
   rw [if_pos ha]
  ·rfl) hm1
 have hm3:Mid r c s2 (fun i=>if (i:Int)∈c.units then ⟨k+2,c.p.e+1,m.u.l,fun a=>(shD c k m i).f a⟩ else shD c k m i):=hm2.weak (fun i _=>by
  by_cases hi:(i:Int)∈c.units
  ·simp only [if_pos hi];exact ⟨Nat.le_refl _,by first | rfl | trivial,by first | rfl | trivial,by first | rfl | trivial⟩
  ·simp only [if_neg hi];exact ⟨Nat.le_refl _,by first | rfl | trivial,by first | rfl | trivial,by first | rfl | trivial⟩)
 have e3:=Mid.fills (e:=c.p.e+1) (st:=c.units) h hm3 (l:=c.p.cs) (fun _ h=>h)
 have hqe:s2.q.e=c.p.e:=by rw [hm3.stay.q];exact h.qe
 have hlt2:=h.ok.lt
 have ht1:=h.ok.t1
 have hcell:∀ u∈c.units,∀ a,((shD c k m u.toNat).f a).k≠0→((shD c k m u.toNat).f a).k≠3→a+1≤m.t:=fun u hu a h0 h3=>by
  rw [shD_all (hin u hu).1 (mem_units.1 hu)] at h0 h3
  simp only at h0 h3
  by_cases hh:a<m.u.l∨u∈c.home a
  ·rw [if_pos hh] at h0 h3
   have:=h.ok.below _ (at_some h.ok.u h3 h0).2.2
   simp only at this
   omega
  ·rw [if_neg hh] at h0
   exact absurd rfl h0
 have g4:=g3 m.t (by omega) hlt2 hcell
 have g5:=(g2 u0 hu0).1
 have hmx:max t1 m.u.l=t1:=by omega
 refine ⟨s2.eq (c.p.e+1) ⟨c.p.e+1,t1⟩,?_,g5,g4,fun a ha=>?_,fun m' hok' ht' hl' hat'=>?_⟩
 ·unfold Cl.rebuild
  rw [if_neg (by simp),hlt,if_neg (by omega),hdead,hnx]
  unfold rebEnd
  rw [if_neg (by simp),hst,hlm]
  unfold runS
  rw [hbu,show (bdS (c.p.e+1) (⟨c.p.e+1,c.p.cs⟩:Pj).cs c.units m.u.l).e=c.p.e+1 from rfl,show (bdS (c.p.e+1) (⟨c.p.e+1,c.p.cs⟩:Pj).cs c.units m.u.l).st=c.units from rfl,e1]
  unfold runSeal
  rw [if_neg (by simp),hbf]
  unfold runEmpty
  rw [show allC (hollowS (bdS (c.p.e+1) (⟨c.p.e+1,c.p.cs⟩:Pj).cs c.units m.u.l).e) [] (0,(s1,t1)).2.1=(0,s1) from rfl,if_neg (by simp),hbu]
  rw [show (bdS (c.p.e+1) (⟨c.p.e+1,c.p.cs⟩:Pj).cs c.units m.u.l).e=c.p.e+1 from rfl,show (bdS (c.p.e+1) (⟨c.p.e+1,c.p.cs⟩:Pj).cs c.units m.u.l).low=m.u.l from rfl,e2]
  unfold runTrim
  rw [if_neg (by simp),hcs]
  rw [show (bdS (c.p.e+1) (⟨c.p.e+1,c.p.cs⟩:Pj).cs c.units m.u.l).e=c.p.e+1 from rfl,show (bdS (c.p.e+1) (⟨c.p.e+1,c.p.cs⟩:Pj).cs c.units m.u.l).st=c.units from rfl,show (bdS (c.p.e+1) (⟨c.p.e+1,c.p.cs⟩:Pj).cs c.units m.u.l).low=m.u.l from rfl,e3]
  unfold runEnd
  rw [if_neg (by simp),hmx,set_eq (by rw [hqe];omega) ⟨by omega,by omega⟩ ⟨by omega,by omega⟩]
  show _=(0,s2.eq _ _)
  unfold Cl.eq
  rw [hm3.stay.p]
 ·by_cases h0:(m.u.at a).k=0
  ·rcases at_kind h.ok.u a with hk | hk | hk
   ·omega
   ·obtain ⟨q,p⟩:=hk
    generalize m.u.at a=y at *
    obtain ⟨yk,yd⟩:=y
    simp only at q p
    rw [q,p]
   ·omega
  ·exfalso
   have ha2:t1≤a:=ha
   have h3:(m.u.at a).k≠3:=fun h3=>by
    have:=at_three h.ok.u h3
    omega
   have ha0:0≤a:=by omega
   obtain ⟨u,rs,hh⟩:=home_ne h.mid.ok ha0
   have hum:u∈c.home a:=by rw [hh];exact List.mem_cons_self
   have huu:=mem_units.2 (home_mem hum)
   have:=(g2 u huu).2 a
   rw [show (shD c k m u.toNat).f a=m.u.at a from (shD_at (hin u huu).1 hum).2.2.1] at this
   have:=this h0 h3
   omega
 ·refine hm3.isE (q:=⟨c.p.e+1,t1⟩) (e':=c.p.e+1) (m':=m') ⟨⟨by show 0≤c.p.e+1;omega,by show c.p.e+1≤_;omega⟩,⟨by show 0≤t1;omega,by show t1≤_;omega⟩⟩ rfl ⟨by omega,by omega⟩ (by omega) h.nd ht'.symm hok' (fun i=>?_)
  by_cases hi:(i:Int)∈c.p.all
  ·have hiu:(i:Int)∈c.units:=mem_units.2 hi
   have hi2:(i:Int)∈(c.eq (c.p.e+1) ⟨c.p.e+1,t1⟩).p.all:=hi
   simp only [if_pos hiu]
   unfold shD
   simp only [if_pos hi,if_pos hi2]
   refine ⟨Nat.le_refl _,by first | rfl | trivial,hl'.symm,fun x=>?_⟩
   show _=if x<m'.u.l∨(i:Int)∈c.home x then m'.u.at x else _
   rw [hl',hat']
  ·have hiu:¬(i:Int)∈c.units:=fun h=>hi (mem_units.1 h)
   have hi2:¬(i:Int)∈(c.eq (c.p.e+1) ⟨c.p.e+1,t1⟩).p.all:=hi
   simp only [if_neg hiu]
   unfold shD
   simp only [if_neg hi,if_neg hi2]
   exact ⟨by omega,by first | rfl | trivial,by first | rfl | trivial,fun _=>by first | rfl | trivial⟩
end SL
end Go.Proofs.YtimbeeiihbmofaaGreatDoor

namespace Go.Proofs.YtimbeeiihbmofaaGreatDoor
namespace SL
open DK SH SQ
theorem u1_sees:Sees u1 1 0 (fun a=>if a<0 then ⟨3,[]⟩ else ⟨0,[]⟩) :=
 ⟨⟨by decide,by decide,by decide,by decide,by simp [u1],by simp [u1],by simp [u1]⟩,rfl,rfl,fun a=>by
  show (if a<0 then (⟨3,[]⟩:C) else lookC [] a)=_
  by_cases h:a<0
  ·simp [h]
  ·simp [h,lookC]⟩
theorem new_is {r:Int} (h:400≤r∧r≤1073741824) {n:Int} {X:List (List Int)} (hz:(newCl n r X).1=0):Is r 1 (newCl n r X).2 Go.Proofs.YtimbeeiihbmofaaGreatDoor.M.new:=by
 obtain ⟨h1,h2,h3⟩:(1≤n∧n≤8)∧(⟨1,X⟩:Pj).check=0∧(unitsOf (⟨1,X⟩:Pj).all).any (fun u=>decide (n≤u))=false:=by
  unfold newCl at hz
  split at hz
  ·cases hz
  ·rename_i q1
   split at hz
   ·rename_i q2;exact absurd hz q2
   ·rename_i q2
    split at hz
    ·cases hz
    ·rename_i q3
     exact ⟨by omega,by simpa using q2,by simpa using q3⟩
 have hP:=Pj.ok_of h2
 obtain ⟨xs,g1,g2,e⟩:=addN_fine h n.toNat (cl0 X)
 have e':Cl.addN r n.toNat (cl0 X)=(0,⟨xs,⟨1,X⟩,⟨0,0⟩⟩):=by rw [e];unfold cl0;simp
 have hu:∀ u∈(⟨1,X⟩:Pj).all,0≤u∧u<n:=fun u hu=>⟨(hP.u u hu).1,by
  have:=List.any_eq_false.1 h3 u ((unitsOf_mem u _).2 hu)
  simp at this;omega⟩
 have e2:(newCl n r X).2=⟨xs,⟨1,X⟩,⟨1,0⟩⟩:=by
  unfold newCl
  rw [if_neg (by omega),if_neg (by rw [h2];decide),if_neg (by rw [h3];decide),e']
  rfl
 rw [e2]
 have hok:(⟨xs,⟨1,X⟩,⟨1,0⟩⟩:Cl).ok:=⟨h2,by show xs.length≤8;omega,fun u hm=>by
  have:=hu u hm
  show 0≤u∧u<(xs.length:Int)
  rw [g1];omega,⟨by show (0:Int)≤1∧(1:Int)≤_;decide,by show (0:Int)≤0∧(0:Int)≤_;decide⟩,fun x hx=>(g2 x hx).2⟩
 refine ⟨⟨hok,Stay.refl _,fun i x hx=>⟨u1,?_,?_⟩⟩,rfl,⟨Int.le_refl _,Int.le_refl _⟩,hP.nodup,rfl,M.ok_new⟩
 ·have hx':=(g2 x (List.mem_of_getElem? hx)).1
  unfold shD
  split<;>exact hx'
 ·have hs:=u1_sees
  unfold shD
  split
  ·refine ⟨hs.ok,rfl,rfl,fun a=>?_⟩
   rw [hs.see a]
   by_cases h:a<0
   ·simp [h,M.new,U.new,U.at]
   ·simp [h,M.new,U.new,U.at,lookC]
  ·exact hs
end SL
end Go.Proofs.YtimbeeiihbmofaaGreatDoor
