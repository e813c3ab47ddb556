/- Proved here: a part of the proof (30 of 35). -/
import Derived.Test.YtaodldbgikiekaaGreatDoorW26
import Derived.Test.YtaodldbgikiekaaGreatDoorW22
import Derived.Test.YtaodldbgikiekaaGreatDoorW2
import Derived.Test.YtaodldbgikiekaaGreatDoorW23
import Derived.Test.YtaodldbgikiekaaGreatDoorW25
import Derived.Lib.SlBytesConst
set_option linter.unusedSimpArgs false
set_option linter.unusedVariables false
set_option maxRecDepth 100000
namespace Go.Proofs.YtaodldbgikiekaaGreatDoor
open Go.RowKit
/-- an append of one element, wherever that one lies -/
theorem sep_appendAny {P:Program} {t e size bytes:Nat} (T:ElemT P t e size bytes) {w0 w:World} {F:Nat→Prop} {L:List Asn} {ops:Array Oper} {o:Oper} {a:Act} {K:Act→World→Prop} {Q:Exit→Act→World→Prop} {Z:Prop} (hgd:o.guard=none) (s x:Operand)
  (ho:o.op=.call { callee:=.builtin .append,args:=#[s,x],argTypes:=#[t,t]})
  (cs:List Value) {vx:Value} (hX:SlV w vx 1 cs) (hx:a.eval x=vx) (H:Sep w0 F L w) (i:Nat) {v:Value} {n:Nat} {xs:List Value} (hi:L[i]?=some (.row e size v n xs)) (hs:a.eval s=v)
  (hl:cs.length=size) (h1:∀ u∈cs,u.oneCell'=true) (hbytes:(n+1)*bytes≤140737488355328)
  (h:∀ a' c' w',Sep w0 F (.row e size (.slice a' (n+1) c') (n+1) (xs++cs)::L.eraseIdx i) w'→K (a.put o.dst (.slice a' (n+1) c')) w') :
  if Region.wanted o (yielded ops a.tmps)=true then Oper.wp P o a w K Q else Z:=by
 have hw:Region.wanted o (yielded ops a.tmps)=true:=by simp [Region.wanted,hgd]
 rw [if_pos hw]
 exact wp_append_sep T s x ho H i hi hs 1 cs _ hx hX (by omega) h1 hbytes h
def rearr:List Nat→List Asn→Option (List Asn)
 | [],L=>some L
 | i::is,L=>match L[i]? with
  | some A=>rearr is (A::L.eraseIdx i)
  | none=>none
theorem Sep.rearr {w0 w:World} {F:Nat→Prop}:∀ {L L':List Asn},Sep w0 F L w→∀ (is:List Nat),rearr is L=some L'→Sep w0 F L' w
 | L,L',h,[],e=>by cases e;exact h
 | L,L',h,i::is,e=>by
  unfold Go.Proofs.YtaodldbgikiekaaGreatDoor.rearr at e
  split at e
  ·rename_i A hA
   exact Sep.rearr (h.focus i hA) is e
  ·cases e
theorem kf {w0 w:World} {F:Nat→Prop} {L:List Asn} (H:Sep w0 F L w) (i:Nat) {N t:Nat} {a b:Value} {r:List Value} (hi:L[i]?=some (.box N (a::b::r) t)):w.cell? ⟨N,0,none⟩=some a∧w.cell? ⟨N,1,none⟩=some b∧w.frozen? ⟨N,0,none⟩=false∧w.frozen? ⟨N,1,none⟩=false∧N<w.heap.size :=
 ⟨H.cell i hi 0 rfl,H.cell i hi 1 rfl,H.free i hi 0,H.free i hi 1,H.lt i hi⟩
theorem slv_box {w0 w:World} {F:Nat→Prop} {L:List Asn} (H:Sep w0 F L w) (i:Nat) {N t:Nat} {v:Value} (hi:L[i]?=some (.box N [v] t)):SlV w (.slice (some ⟨N,0,none⟩) 1 1) 1 [v]:=by
 refine ⟨_,_,rfl,Nat.le_refl _,by unfold maxLen;decide,(fun h=>by cases h),fun j u hj=>⟨_,rfl,?_⟩⟩
 cases j with
 | zero=>simp at hj;subst hj;exact H.cell i hi 0 rfl
 | succ j=>simp at hj
theorem sep_ap {P:Program} {t e bytes:Nat} (T:ElemT P t e 1 bytes) {w0 w:World} {F:Nat→Prop} {L:List Asn} {ops:Array Oper} {o:Oper} {a:Act} {K:Act→World→Prop} {Q:Exit→Act→World→Prop} {Z:Prop} (s x:Operand) (j i:Nat) (H:Sep w0 F L w)
  {N tN:Nat} {val:Value} {v:Value} {n:Nat} {xs:List Value} (h:∀ a' c' w',Sep w0 F (.row e 1 (.slice a' (n+1) c') (n+1) (xs++[val])::L.eraseIdx i) w'→K (a.put o.dst (.slice a' (n+1) c')) w')
  (hgd:o.guard=none:=by rfl) (ho:o.op=.call { callee:=.builtin .append,args:=#[s,x],argTypes:=#[t,t]}:=by rfl) (hj:L[j]?=some (.box N [val] tN):=by rfl) (hx:a.eval x=.slice (some ⟨N,0,none⟩) 1 1:=by rfl) (hi:L[i]?=some (.row e 1 v n xs):=by rfl) (hs:a.eval s=v:=by rfl)
  (h1:val.oneCell'=true:=by rfl) (hb:(n+1)*bytes≤140737488355328:=by omega):if Region.wanted o (yielded ops a.tmps)=true then Oper.wp P o a w K Q else Z :=
 sep_appendAny T hgd s x ho [val] (slv_box H j hj) hx H i hi hs rfl (by intro u hu;obtain rfl:=List.mem_singleton.1 hu;exact h1) hb h
namespace SL
open DK SH SQ
theorem etDisks:ElemT Tryz.prog 71 146 1 8:=ElemT.mk' (z:=.pointer none) Tryz.underlying71 (by kernel_rfl) rfl (by decide) (by decide)
theorem etShelves:ElemT Tryz.prog 72 149 1 8:=ElemT.mk' (z:=.pointer none) Tryz.underlying72 (by kernel_rfl) rfl (by decide) (by decide)
def newU (room:Int):Un:=⟨newD room,some ⟨U.new,0,false⟩⟩
def Cl.grow (M:Cl) (x:Un):Cl:={ M with us:=M.us++[x]}
def sealA:Ac:=⟨1,1,0,[]⟩
def Cl.add (M:Cl) (room:Int):Nat×Cl:=if room<0∨1073741824<room then (1,M) else (((M.grow (newU room)).do M.us.length sealA).1,((M.grow (newU room)).do M.us.length sealA).2.2)
set_option maxHeartbeats 16000000 in
theorem add_any {c:Nat} {M:Cl} {J:CJ} {L:List Asn} {W:World} (room:Int) (w:World) (hp:Pow W) (h:ClAt c M J L W w) (hlen:M.us.length≤8) :
  Calls Tryz.prog 31 #[ptrV c,.int .i64 room] w fun e w'=>e=.returned (errV (M.add room).1)∧ClAt c (M.add room).2 J L W w':=by
 have HP:=Lib.hid' hp
 have HH:=Lib.hid' h
 have HA:=Zh (show M.add room=if room<0∨1073741824<room then (1,M) else (((M.grow (newU room)).do M.us.length sealA).1,((M.grow (newU room)).do M.us.length sealA).2.2) from rfl)
 by_cases hr:room<0∨1073741824<room
 ·have HA2:=Zh (HA.out.trans (if_pos hr))
  have HB:=Zh (dnew_bad room w hr)
  clear hr h hp
  go_enter Tryz.func31, Tryz.ntmps31
  go_wp2_with fail
  refine HB.out.mono ?_
  rintro e w1 ⟨rfl,rfl⟩
  rw [errV_pos (by decide)]
  go_wp2_with fail
  go_ret
  rw [HA2.out]
  exact ⟨rfl,HH.out⟩
 have HA2:=Zh (HA.out.trans (if_neg hr))
 have HR:=Zh (show 0≤room∧room≤1073741824 by omega)
 have HDN:=Zh (dnew_any room w HR.out)
 clear hr hp
 obtain ⟨⟨b,dv,sv,Us,J2,Z0,vs⟩,hJ,hP,H⟩:=h
 subst hJ
 have HPO:=Lib.hid' hP
 have hUl:Us.length=M.us.length:=by rw [←hP.us,List.length_map]
 have H0:=Zh (show Sep W NoF (.box c [dv,sv,.int .i64 M.p.e,.slice J2.a J2.Ks.length J2.c,ptrV b] 77::Asn.seq b M.q::.row 146 1 dv Us.length (Us.map (fun y=>ptrV y.N))::.row 149 1 sv Us.length (Us.map (fun y=>optV y.Q))::.row 30 1 (.slice J2.a J2.Ks.length J2.c) J2.Ks.length (J2.Ks.map chV)::Asn.all (J2.Ks.map chA)::Asn.pool Z0 vs::(Us.map (unA vs)++L)) w from H)
 clear H hP
 go_enter Tryz.func31, Tryz.ntmps31
 go_wp2_with fail
 refine HDN.out.mono ?_
 rintro e w1 ⟨N,G1,rfl,h1⟩
 have H1:=Lib.hid' h1
 clear h1
 go_wp2_with fail
 have hp1:=HP.out.below H0.out.toBelow
 refine (shopen_new (m:=0) w1 (H1.out.at 0 rfl) (hp1.below H1.out.toBelow) (Ok.new HR.out) (by decide) (by show ([]:List Chg).length≤_;simp) (pow_kept hp1 H1.out rfl) (open_new room) rfl (objs_new room _) (get_new room)).mono ?_
 rintro e w2 ⟨q,us,rfl,G2,G3,Z,h2⟩
 clear hp1
 have h3:=H0.out.call0 (H1.out.call1 rfl h2)
 have H3:=Zh (show Sep W NoF (Asn.disk N (newD room) G2::Asn.shelf q N ⟨U.new,0,false⟩ us G3::Asn.pool Z us::.box c [dv,sv,.int .i64 M.p.e,.slice J2.a J2.Ks.length J2.c,ptrV b] 77::Asn.seq b M.q::.row 146 1 dv Us.length (Us.map (fun y=>ptrV y.N))::.row 149 1 sv Us.length (Us.map (fun y=>optV y.Q))::.row 30 1 (.slice J2.a J2.Ks.length J2.c) J2.Ks.length (J2.Ks.map chV)::Asn.all (J2.Ks.map chA)::Asn.pool Z0 vs::(Us.map (unA vs)++L)) w2 from h3)
 clear h2 h3 H1 H0
 go_upto_region 7 with fail
 obtain ⟨n,hn⟩:∃ n,Us.length=n:=⟨_,rfl⟩
 have hn8:n≤8:=by omega
 obtain ⟨xd,hxd⟩:∃ xd,Us.map (fun y=>ptrV y.N)=xd:=⟨_,rfl⟩
 obtain ⟨xs,hxs⟩:∃ xs,Us.map (fun y=>optV y.Q)=xs:=⟨_,rfl⟩
 obtain ⟨R,hR⟩:∃ R,Us.map (unA vs)++L=R:=⟨_,rfl⟩
 obtain ⟨e0,he0⟩:∃ e0,M.p.e=e0:=⟨_,rfl⟩
 obtain ⟨j0,hj0⟩:∃ j0,Value.slice J2.a J2.Ks.length J2.c=j0:=⟨_,rfl⟩
 rw [hn,hxd,hxs,hR,he0,hj0] at H3
 have HE:=Zh (And.intro hn (And.intro hxd (And.intro hxs (And.intro hR (And.intro he0 hj0)))))
 clear hn hxd hxs hR he0 hj0 hUl
 go_cut [] (fun wc=>Hid (∃ a5 c5 a6 c6,Sep W NoF (.box c [.slice a5 (n+1) c5,.slice a6 (n+1) c6,.int .i64 e0,j0,ptrV b] 77::Asn.seq b M.q::.row 146 1 (.slice a5 (n+1) c5) (n+1) (xd++[ptrV N])::.row 149 1 (.slice a6 (n+1) c6) (n+1) (xs++[ptrV q])::.row 30 1 j0 J2.Ks.length (J2.Ks.map chV)::Asn.all (J2.Ks.map chA)::Asn.pool Z0 vs::Asn.disk N (newD room) G2::Asn.shelf q N ⟨U.new,0,false⟩ us G3::Asn.pool Z us::R) wc))
 case first =>
  have K0:=H3.out.drew
  obtain ⟨k0c0,k0c1,k0f0,k0f1,k0l⟩:=kf K0 3 rfl
  clear H3
  refine startD (S:=(fun _=>True)) (by kernel_rfl) trivial (fun hH0=>?_)
  simp only [List.length_cons,List.length_nil,Nat.reduceAdd,List.replicate_succ,List.replicate_zero]
  generalize w2.drew=wd at *
  refine tD 0 24 (.pointer (some ⟨c,0,none⟩)) rfl rfl [(0,.pointer (some ⟨c,0,none⟩))] hH0 ?_
  dsimp only [sZ,sS]
  refine tD 1 25 (.pointer (some ⟨c,0,none⟩)) rfl rfl [(0,.pointer (some ⟨c,0,none⟩))] hH0 ?_
  dsimp only [sZ,sS]
  refine tD 2 26 (.pointer (some ⟨c,0,none⟩)) rfl rfl [(0,.pointer (some ⟨c,0,none⟩))] hH0 ?_
  dsimp only [sZ,sS]
  refine tD 3 27 (.pointer (some ⟨c,0,none⟩)) rfl rfl [(26,.pointer (some ⟨c,0,none⟩))] hH0 ?_
  dsimp only [sZ,sS]
  refine tD 4 28 (.pointer (some ⟨c,0,none⟩)) rfl rfl [(27,.pointer (some ⟨c,0,none⟩))] hH0 ?_
  dsimp only [sZ,sS]
  refine tD 6 30 (ptrV N) rfl rfl [(5,ptrV N)] hH0 ?_
  dsimp only [sZ,sS]
  refine tD 9 33 (.pointer (some ⟨c,0,none⟩)) rfl rfl [(0,.pointer (some ⟨c,0,none⟩))] hH0 ?_
  dsimp only [sZ,sS]
  refine tD 10 34 (.pointer (some ⟨c,0,none⟩)) rfl rfl [(33,.pointer (some ⟨c,0,none⟩))] hH0 ?_
  dsimp only [sZ,sS]
  refine tD 11 35 (.pointer (some ⟨c,1,none⟩)) rfl rfl [(34,.pointer (some ⟨c,0,none⟩))] hH0 ?_
  dsimp only [sZ,sS]
  refine tD 13 37 (ptrV q) rfl rfl [(7,ptrV q)] hH0 ?_
  dsimp only [sZ,sS]
  refine wpAnyH_ready (rs:=[5,7,12,14]) (by kernel_rfl) (by simp) (AllReadyH.cons (o:=_) rfl (fun K hK=>?g1) (AllReadyH.cons (o:=_) rfl (fun K hK=>?g2) (AllReadyH.cons (o:=_) rfl (fun K hK=>?g3) (AllReadyH.cons (o:=_) rfl (fun K hK=>?g4) AllReadyH.nil))))
  case' g1 =>
   go_simp
   refine hK.out _ _ ?_ (fun hH1=>?_)
   ·trivial
   clear hK K
   try simp only [Act.put,gA,gZ,gS,sA,sZ,sS]
   refine wpAnyH_ready (rs:=[7,12,14]) (by kernel_rfl) (by simp) (AllReadyH.cons (o:=_) rfl (fun K hK=>?g5) (AllReadyH.cons (o:=_) rfl (fun K hK=>?g6) (AllReadyH.cons (o:=_) rfl (fun K hK=>?g7) AllReadyH.nil)))
   case' g5 =>
    go_simp
    have K1:=K0.allocAt (wd.heap.size) [ptrV N] 146 (by simp)
    obtain ⟨k1c0,k1c1,k1f0,k1f1,k1l⟩:=kf K1 4 rfl
    refine hK.out _ _ ?_ (fun hH2=>?_)
    ·trivial
    clear hK K
    try simp only [Act.put,gA,gZ,gS,sA,sZ,sS]
    refine wpAnyH_ready (rs:=[8,12,14]) (by kernel_rfl) (by simp) (AllReadyH.cons (o:=_) rfl (fun K hK=>?g8) (AllReadyH.cons (o:=_) rfl (fun K hK=>?g9) (AllReadyH.cons (o:=_) rfl (fun K hK=>?g10) AllReadyH.nil)))
    case' g8 =>
     refine sep_ap etDisks (.tmp 29) (.tmp 31) 0 6 K1 (val:=ptrV N) ?_
     intro a5 c5 w5 K2
     obtain ⟨k2c0,k2c1,k2f0,k2f1,k2l⟩:=kf K2 5 rfl
     refine hK.out _ _ ?_ (fun hH3=>?_)
     ·trivial
     clear hK K
     try simp only [Act.put,gA,gZ,gS,sA,sZ,sS]
     refine wpAnyH_ready (rs:=[12,14]) (by kernel_rfl) (by simp) (AllReadyH.cons (o:=_) rfl (fun K hK=>?g11) (AllReadyH.cons (o:=_) rfl (fun K hK=>?g12) AllReadyH.nil))
     case' g11 =>
      go_simp
      refine hK.out _ _ ?_ (fun hH4=>?_)
      ·trivial
      clear hK K
      try simp only [Act.put,gA,gZ,gS,sA,sZ,sS]
      refine rD 14 rfl (fun K hK=>?_)
      go_simp
      have K3:=K2.allocAt (w5.heap.size) [ptrV q] 149 (by simp)
      obtain ⟨k3c0,k3c1,k3f0,k3f1,k3l⟩:=kf K3 6 rfl
      refine hK.out _ _ ?_ (fun hH5=>?_)
      ·trivial
      clear hK K
      try simp only [Act.put,gA,gZ,gS,sA,sZ,sS]
      refine rD 15 rfl (fun K hK=>?_)
      refine sep_ap etShelves (.tmp 36) (.tmp 38) 0 8 K3 (val:=ptrV q) ?_
      intro a6 c6 w6 K4
      obtain ⟨k4c0,k4c1,k4f0,k4f1,k4l⟩:=kf K4 7 rfl
      refine hK.out _ _ ?_ (fun hH6=>?_)
      ·trivial
      clear hK K
      try simp only [Act.put,gA,gZ,gS,sA,sZ,sS]
      have KF:=((K4.drop 3).drop 1).rearr [4,4,4,9,9,9,9,9,9,9] rfl
     case' g12 =>
      go_simp
      have K3:=K2.allocAt (w5.heap.size) [ptrV q] 149 (by simp)
      obtain ⟨k3c0,k3c1,k3f0,k3f1,k3l⟩:=kf K3 6 rfl
      refine hK.out _ _ ?_ (fun hH4=>?_)
      ·trivial
      clear hK K
      try simp only [Act.put,gA,gZ,gS,sA,sZ,sS]
      refine rD 12 rfl (fun K hK=>?_)
      go_simp
      refine hK.out _ _ ?_ (fun hH5=>?_)
      ·trivial
      clear hK K
      try simp only [Act.put,gA,gZ,gS,sA,sZ,sS]
      refine rD 15 rfl (fun K hK=>?_)
      refine sep_ap etShelves (.tmp 36) (.tmp 38) 0 8 K3 (val:=ptrV q) ?_
      intro a6 c6 w6 K4
      obtain ⟨k4c0,k4c1,k4f0,k4f1,k4l⟩:=kf K4 7 rfl
      refine hK.out _ _ ?_ (fun hH6=>?_)
      ·trivial
      clear hK K
      try simp only [Act.put,gA,gZ,gS,sA,sZ,sS]
      have KF:=((K4.drop 3).drop 1).rearr [4,4,4,9,9,9,9,9,9,9] rfl
    case' g9 =>
     go_simp
     refine hK.out _ _ ?_ (fun hH3=>?_)
     ·trivial
     clear hK K
     try simp only [Act.put,gA,gZ,gS,sA,sZ,sS]
     refine wpAnyH_ready (rs:=[8,14]) (by kernel_rfl) (by simp) (AllReadyH.cons (o:=_) rfl (fun K hK=>?g13) (AllReadyH.cons (o:=_) rfl (fun K hK=>?g14) AllReadyH.nil))
     case' g13 =>
      refine sep_ap etDisks (.tmp 29) (.tmp 31) 0 6 K1 (val:=ptrV N) ?_
      intro a5 c5 w5 K2
      obtain ⟨k2c0,k2c1,k2f0,k2f1,k2l⟩:=kf K2 5 rfl
      refine hK.out _ _ ?_ (fun hH4=>?_)
      ·trivial
      clear hK K
      try simp only [Act.put,gA,gZ,gS,sA,sZ,sS]
      refine rD 14 rfl (fun K hK=>?_)
      go_simp
      have K3:=K2.allocAt (w5.heap.size) [ptrV q] 149 (by simp)
      obtain ⟨k3c0,k3c1,k3f0,k3f1,k3l⟩:=kf K3 6 rfl
      refine hK.out _ _ ?_ (fun hH5=>?_)
      ·trivial
      clear hK K
      try simp only [Act.put,gA,gZ,gS,sA,sZ,sS]
      refine rD 15 rfl (fun K hK=>?_)
      refine sep_ap etShelves (.tmp 36) (.tmp 38) 0 8 K3 (val:=ptrV q) ?_
      intro a6 c6 w6 K4
      obtain ⟨k4c0,k4c1,k4f0,k4f1,k4l⟩:=kf K4 7 rfl
      refine hK.out _ _ ?_ (fun hH6=>?_)
      ·trivial
      clear hK K
      try simp only [Act.put,gA,gZ,gS,sA,sZ,sS]
      have KF:=((K4.drop 3).drop 1).rearr [4,4,4,9,9,9,9,9,9,9] rfl
     case' g14 =>
      go_simp
      have K2:=K1.allocAt (wd.heap.size+1) [ptrV q] 149 (by simp)
      obtain ⟨k2c0,k2c1,k2f0,k2f1,k2l⟩:=kf K2 5 rfl
      refine hK.out _ _ ?_ (fun hH4=>?_)
      ·trivial
      clear hK K
      try simp only [Act.put,gA,gZ,gS,sA,sZ,sS]
      refine rD 8 rfl (fun K hK=>?_)
      refine sep_ap etDisks (.tmp 29) (.tmp 31) 1 7 K2 (val:=ptrV N) ?_
      intro a5 c5 w5 K3
      obtain ⟨k3c0,k3c1,k3f0,k3f1,k3l⟩:=kf K3 6 rfl
      refine hK.out _ _ ?_ (fun hH5=>?_)
      ·trivial
      clear hK K
      try simp only [Act.put,gA,gZ,gS,sA,sZ,sS]
      refine rD 15 rfl (fun K hK=>?_)
      refine sep_ap etShelves (.tmp 36) (.tmp 38) 1 8 K3 (val:=ptrV q) ?_
      intro a6 c6 w6 K4
      obtain ⟨k4c0,k4c1,k4f0,k4f1,k4l⟩:=kf K4 7 rfl
      refine hK.out _ _ ?_ (fun hH6=>?_)
      ·trivial
      clear hK K
      try simp only [Act.put,gA,gZ,gS,sA,sZ,sS]
      have KF:=((K4.drop 3).drop 2).rearr [4,4,4,9,9,9,9,9,9,9] rfl
    case' g10 =>
     go_simp
     have K2:=K1.allocAt (wd.heap.size+1) [ptrV q] 149 (by simp)
     obtain ⟨k2c0,k2c1,k2f0,k2f1,k2l⟩:=kf K2 5 rfl
     refine hK.out _ _ ?_ (fun hH3=>?_)
     ·trivial
     clear hK K
     try simp only [Act.put,gA,gZ,gS,sA,sZ,sS]
     refine wpAnyH_ready (rs:=[8,12]) (by kernel_rfl) (by simp) (AllReadyH.cons (o:=_) rfl (fun K hK=>?g15) (AllReadyH.cons (o:=_) rfl (fun K hK=>?g16) AllReadyH.nil))
     case' g15 =>
      refine sep_ap etDisks (.tmp 29) (.tmp 31) 1 7 K2 (val:=ptrV N) ?_
      intro a5 c5 w5 K3
      obtain ⟨k3c0,k3c1,k3f0,k3f1,k3l⟩:=kf K3 6 rfl
      refine hK.out _ _ ?_ (fun hH4=>?_)
      ·trivial
      clear hK K
      try simp only [Act.put,gA,gZ,gS,sA,sZ,sS]
      refine rD 12 rfl (fun K hK=>?_)
      go_simp
      refine hK.out _ _ ?_ (fun hH5=>?_)
      ·trivial
      clear hK K
      try simp only [Act.put,gA,gZ,gS,sA,sZ,sS]
      refine rD 15 rfl (fun K hK=>?_)
      refine sep_ap etShelves (.tmp 36) (.tmp 38) 1 8 K3 (val:=ptrV q) ?_
      intro a6 c6 w6 K4
      obtain ⟨k4c0,k4c1,k4f0,k4f1,k4l⟩:=kf K4 7 rfl
      refine hK.out _ _ ?_ (fun hH6=>?_)
      ·trivial
      clear hK K
      try simp only [Act.put,gA,gZ,gS,sA,sZ,sS]
      have KF:=((K4.drop 3).drop 2).rearr [4,4,4,9,9,9,9,9,9,9] rfl
     case' g16 =>
      go_simp
      refine hK.out _ _ ?_ (fun hH4=>?_)
      ·trivial
      clear hK K
      try simp only [Act.put,gA,gZ,gS,sA,sZ,sS]
      refine rD 8 rfl (fun K hK=>?_)
      refine sep_ap etDisks (.tmp 29) (.tmp 31) 1 7 K2 (val:=ptrV N) ?_
      intro a5 c5 w5 K3
      obtain ⟨k3c0,k3c1,k3f0,k3f1,k3l⟩:=kf K3 6 rfl
      refine hK.out _ _ ?_ (fun hH5=>?_)
      ·trivial
      clear hK K
      try simp only [Act.put,gA,gZ,gS,sA,sZ,sS]
      refine rD 15 rfl (fun K hK=>?_)
      refine sep_ap etShelves (.tmp 36) (.tmp 38) 1 8 K3 (val:=ptrV q) ?_
      intro a6 c6 w6 K4
      obtain ⟨k4c0,k4c1,k4f0,k4f1,k4l⟩:=kf K4 7 rfl
      refine hK.out _ _ ?_ (fun hH6=>?_)
      ·trivial
      clear hK K
      try simp only [Act.put,gA,gZ,gS,sA,sZ,sS]
      have KF:=((K4.drop 3).drop 2).rearr [4,4,4,9,9,9,9,9,9,9] rfl
   case' g6 =>
    go_simp
    refine hK.out _ _ ?_ (fun hH2=>?_)
    ·trivial
    clear hK K
    try simp only [Act.put,gA,gZ,gS,sA,sZ,sS]
    refine wpAnyH_ready (rs:=[7,14]) (by kernel_rfl) (by simp) (AllReadyH.cons (o:=_) rfl (fun K hK=>?g17) (AllReadyH.cons (o:=_) rfl (fun K hK=>?g18) AllReadyH.nil))
    case' g17 =>
     go_simp
     have K1:=K0.allocAt (wd.heap.size) [ptrV N] 146 (by simp)
     obtain ⟨k1c0,k1c1,k1f0,k1f1,k1l⟩:=kf K1 4 rfl
     refine hK.out _ _ ?_ (fun hH3=>?_)
     ·trivial
     clear hK K
     try simp only [Act.put,gA,gZ,gS,sA,sZ,sS]
     refine wpAnyH_ready (rs:=[8,14]) (by kernel_rfl) (by simp) (AllReadyH.cons (o:=_) rfl (fun K hK=>?g19) (AllReadyH.cons (o:=_) rfl (fun K hK=>?g20) AllReadyH.nil))
     case' g19 =>
      refine sep_ap etDisks (.tmp 29) (.tmp 31) 0 6 K1 (val:=ptrV N) ?_
      intro a5 c5 w5 K2
      obtain ⟨k2c0,k2c1,k2f0,k2f1,k2l⟩:=kf K2 5 rfl
      refine hK.out _ _ ?_ (fun hH4=>?_)
      ·trivial
      clear hK K
      try simp only [Act.put,gA,gZ,gS,sA,sZ,sS]
      refine rD 14 rfl (fun K hK=>?_)
      go_simp
      have K3:=K2.allocAt (w5.heap.size) [ptrV q] 149 (by simp)
      obtain ⟨k3c0,k3c1,k3f0,k3f1,k3l⟩:=kf K3 6 rfl
      refine hK.out _ _ ?_ (fun hH5=>?_)
      ·trivial
      clear hK K
      try simp only [Act.put,gA,gZ,gS,sA,sZ,sS]
      refine rD 15 rfl (fun K hK=>?_)
      refine sep_ap etShelves (.tmp 36) (.tmp 38) 0 8 K3 (val:=ptrV q) ?_
      intro a6 c6 w6 K4
      obtain ⟨k4c0,k4c1,k4f0,k4f1,k4l⟩:=kf K4 7 rfl
      refine hK.out _ _ ?_ (fun hH6=>?_)
      ·trivial
      clear hK K
      try simp only [Act.put,gA,gZ,gS,sA,sZ,sS]
      have KF:=((K4.drop 3).drop 1).rearr [4,4,4,9,9,9,9,9,9,9] rfl
     case' g20 =>
      go_simp
      have K2:=K1.allocAt (wd.heap.size+1) [ptrV q] 149 (by simp)
      obtain ⟨k2c0,k2c1,k2f0,k2f1,k2l⟩:=kf K2 5 rfl
      refine hK.out _ _ ?_ (fun hH4=>?_)
      ·trivial
      clear hK K
      try simp only [Act.put,gA,gZ,gS,sA,sZ,sS]
      refine rD 8 rfl (fun K hK=>?_)
      refine sep_ap etDisks (.tmp 29) (.tmp 31) 1 7 K2 (val:=ptrV N) ?_
      intro a5 c5 w5 K3
      obtain ⟨k3c0,k3c1,k3f0,k3f1,k3l⟩:=kf K3 6 rfl
      refine hK.out _ _ ?_ (fun hH5=>?_)
      ·trivial
      clear hK K
      try simp only [Act.put,gA,gZ,gS,sA,sZ,sS]
      refine rD 15 rfl (fun K hK=>?_)
      refine sep_ap etShelves (.tmp 36) (.tmp 38) 1 8 K3 (val:=ptrV q) ?_
      intro a6 c6 w6 K4
      obtain ⟨k4c0,k4c1,k4f0,k4f1,k4l⟩:=kf K4 7 rfl
      refine hK.out _ _ ?_ (fun hH6=>?_)
      ·trivial
      clear hK K
      try simp only [Act.put,gA,gZ,gS,sA,sZ,sS]
      have KF:=((K4.drop 3).drop 2).rearr [4,4,4,9,9,9,9,9,9,9] rfl
    case' g18 =>
     go_simp
     have K1:=K0.allocAt (wd.heap.size) [ptrV q] 149 (by simp)
     obtain ⟨k1c0,k1c1,k1f0,k1f1,k1l⟩:=kf K1 4 rfl
     refine hK.out _ _ ?_ (fun hH3=>?_)
     ·trivial
     clear hK K
     try simp only [Act.put,gA,gZ,gS,sA,sZ,sS]
     refine rD 7 rfl (fun K hK=>?_)
     go_simp
     have K2:=K1.allocAt (wd.heap.size+1) [ptrV N] 146 (by simp)
     obtain ⟨k2c0,k2c1,k2f0,k2f1,k2l⟩:=kf K2 5 rfl
     refine hK.out _ _ ?_ (fun hH4=>?_)
     ·trivial
     clear hK K
     try simp only [Act.put,gA,gZ,gS,sA,sZ,sS]
     refine rD 8 rfl (fun K hK=>?_)
     refine sep_ap etDisks (.tmp 29) (.tmp 31) 0 7 K2 (val:=ptrV N) ?_
     intro a5 c5 w5 K3
     obtain ⟨k3c0,k3c1,k3f0,k3f1,k3l⟩:=kf K3 6 rfl
     refine hK.out _ _ ?_ (fun hH5=>?_)
     ·trivial
     clear hK K
     try simp only [Act.put,gA,gZ,gS,sA,sZ,sS]
     refine rD 15 rfl (fun K hK=>?_)
     refine sep_ap etShelves (.tmp 36) (.tmp 38) 2 8 K3 (val:=ptrV q) ?_
     intro a6 c6 w6 K4
     obtain ⟨k4c0,k4c1,k4f0,k4f1,k4l⟩:=kf K4 7 rfl
     refine hK.out _ _ ?_ (fun hH6=>?_)
     ·trivial
     clear hK K
     try simp only [Act.put,gA,gZ,gS,sA,sZ,sS]
     have KF:=((K4.drop 2).drop 2).rearr [4,4,4,9,9,9,9,9,9,9] rfl
   case' g7 =>
    go_simp
    have K1:=K0.allocAt (wd.heap.size) [ptrV q] 149 (by simp)
    obtain ⟨k1c0,k1c1,k1f0,k1f1,k1l⟩:=kf K1 4 rfl
    refine hK.out _ _ ?_ (fun hH2=>?_)
    ·trivial
    clear hK K
    try simp only [Act.put,gA,gZ,gS,sA,sZ,sS]
    refine wpAnyH_ready (rs:=[7,12]) (by kernel_rfl) (by simp) (AllReadyH.cons (o:=_) rfl (fun K hK=>?g21) (AllReadyH.cons (o:=_) rfl (fun K hK=>?g22) AllReadyH.nil))
    case' g21 =>
     go_simp
     have K2:=K1.allocAt (wd.heap.size+1) [ptrV N] 146 (by simp)
     obtain ⟨k2c0,k2c1,k2f0,k2f1,k2l⟩:=kf K2 5 rfl
     refine hK.out _ _ ?_ (fun hH3=>?_)
     ·trivial
     clear hK K
     try simp only [Act.put,gA,gZ,gS,sA,sZ,sS]
     refine wpAnyH_ready (rs:=[8,12]) (by kernel_rfl) (by simp) (AllReadyH.cons (o:=_) rfl (fun K hK=>?g23) (AllReadyH.cons (o:=_) rfl (fun K hK=>?g24) AllReadyH.nil))
     case' g23 =>
      refine sep_ap etDisks (.tmp 29) (.tmp 31) 0 7 K2 (val:=ptrV N) ?_
      intro a5 c5 w5 K3
      obtain ⟨k3c0,k3c1,k3f0,k3f1,k3l⟩:=kf K3 6 rfl
      refine hK.out _ _ ?_ (fun hH4=>?_)
      ·trivial
      clear hK K
      try simp only [Act.put,gA,gZ,gS,sA,sZ,sS]
      refine rD 12 rfl (fun K hK=>?_)
      go_simp
      refine hK.out _ _ ?_ (fun hH5=>?_)
      ·trivial
      clear hK K
      try simp only [Act.put,gA,gZ,gS,sA,sZ,sS]
      refine rD 15 rfl (fun K hK=>?_)
      refine sep_ap etShelves (.tmp 36) (.tmp 38) 2 8 K3 (val:=ptrV q) ?_
      intro a6 c6 w6 K4
      obtain ⟨k4c0,k4c1,k4f0,k4f1,k4l⟩:=kf K4 7 rfl
      refine hK.out _ _ ?_ (fun hH6=>?_)
      ·trivial
      clear hK K
      try simp only [Act.put,gA,gZ,gS,sA,sZ,sS]
      have KF:=((K4.drop 2).drop 2).rearr [4,4,4,9,9,9,9,9,9,9] rfl
     case' g24 =>
      go_simp
      refine hK.out _ _ ?_ (fun hH4=>?_)
      ·trivial
      clear hK K
      try simp only [Act.put,gA,gZ,gS,sA,sZ,sS]
      refine rD 8 rfl (fun K hK=>?_)
      refine sep_ap etDisks (.tmp 29) (.tmp 31) 0 7 K2 (val:=ptrV N) ?_
      intro a5 c5 w5 K3
      obtain ⟨k3c0,k3c1,k3f0,k3f1,k3l⟩:=kf K3 6 rfl
      refine hK.out _ _ ?_ (fun hH5=>?_)
      ·trivial
      clear hK K
      try simp only [Act.put,gA,gZ,gS,sA,sZ,sS]
      refine rD 15 rfl (fun K hK=>?_)
      refine sep_ap etShelves (.tmp 36) (.tmp 38) 2 8 K3 (val:=ptrV q) ?_
      intro a6 c6 w6 K4
      obtain ⟨k4c0,k4c1,k4f0,k4f1,k4l⟩:=kf K4 7 rfl
      refine hK.out _ _ ?_ (fun hH6=>?_)
      ·trivial
      clear hK K
      try simp only [Act.put,gA,gZ,gS,sA,sZ,sS]
      have KF:=((K4.drop 2).drop 2).rearr [4,4,4,9,9,9,9,9,9,9] rfl
    case' g22 =>
     go_simp
     refine hK.out _ _ ?_ (fun hH3=>?_)
     ·trivial
     clear hK K
     try simp only [Act.put,gA,gZ,gS,sA,sZ,sS]
     refine rD 7 rfl (fun K hK=>?_)
     go_simp
     have K2:=K1.allocAt (wd.heap.size+1) [ptrV N] 146 (by simp)
     obtain ⟨k2c0,k2c1,k2f0,k2f1,k2l⟩:=kf K2 5 rfl
     refine hK.out _ _ ?_ (fun hH4=>?_)
     ·trivial
     clear hK K
     try simp only [Act.put,gA,gZ,gS,sA,sZ,sS]
     refine rD 8 rfl (fun K hK=>?_)
     refine sep_ap etDisks (.tmp 29) (.tmp 31) 0 7 K2 (val:=ptrV N) ?_
     intro a5 c5 w5 K3
     obtain ⟨k3c0,k3c1,k3f0,k3f1,k3l⟩:=kf K3 6 rfl
     refine hK.out _ _ ?_ (fun hH5=>?_)
     ·trivial
     clear hK K
     try simp only [Act.put,gA,gZ,gS,sA,sZ,sS]
     refine rD 15 rfl (fun K hK=>?_)
     refine sep_ap etShelves (.tmp 36) (.tmp 38) 2 8 K3 (val:=ptrV q) ?_
     intro a6 c6 w6 K4
     obtain ⟨k4c0,k4c1,k4f0,k4f1,k4l⟩:=kf K4 7 rfl
     refine hK.out _ _ ?_ (fun hH6=>?_)
     ·trivial
     clear hK K
     try simp only [Act.put,gA,gZ,gS,sA,sZ,sS]
     have KF:=((K4.drop 2).drop 2).rearr [4,4,4,9,9,9,9,9,9,9] rfl
  case' g2 =>
   go_simp
   have K1:=K0.allocAt (wd.heap.size) [ptrV N] 146 (by simp)
   obtain ⟨k1c0,k1c1,k1f0,k1f1,k1l⟩:=kf K1 4 rfl
   refine hK.out _ _ ?_ (fun hH1=>?_)
   ·trivial
   clear hK K
   try simp only [Act.put,gA,gZ,gS,sA,sZ,sS]
   refine wpAnyH_ready (rs:=[5,12,14]) (by kernel_rfl) (by simp) (AllReadyH.cons (o:=_) rfl (fun K hK=>?g25) (AllReadyH.cons (o:=_) rfl (fun K hK=>?g26) (AllReadyH.cons (o:=_) rfl (fun K hK=>?g27) AllReadyH.nil)))
   case' g25 =>
    go_simp
    refine hK.out _ _ ?_ (fun hH2=>?_)
    ·trivial
    clear hK K
    try simp only [Act.put,gA,gZ,gS,sA,sZ,sS]
    refine wpAnyH_ready (rs:=[8,12,14]) (by kernel_rfl) (by simp) (AllReadyH.cons (o:=_) rfl (fun K hK=>?g28) (AllReadyH.cons (o:=_) rfl (fun K hK=>?g29) (AllReadyH.cons (o:=_) rfl (fun K hK=>?g30) AllReadyH.nil)))
    case' g28 =>
     refine sep_ap etDisks (.tmp 29) (.tmp 31) 0 6 K1 (val:=ptrV N) ?_
     intro a5 c5 w5 K2
     obtain ⟨k2c0,k2c1,k2f0,k2f1,k2l⟩:=kf K2 5 rfl
     refine hK.out _ _ ?_ (fun hH3=>?_)
     ·trivial
     clear hK K
     try simp only [Act.put,gA,gZ,gS,sA,sZ,sS]
     refine wpAnyH_ready (rs:=[12,14]) (by kernel_rfl) (by simp) (AllReadyH.cons (o:=_) rfl (fun K hK=>?g31) (AllReadyH.cons (o:=_) rfl (fun K hK=>?g32) AllReadyH.nil))
     case' g31 =>
      go_simp
      refine hK.out _ _ ?_ (fun hH4=>?_)
      ·trivial
      clear hK K
      try simp only [Act.put,gA,gZ,gS,sA,sZ,sS]
      refine rD 14 rfl (fun K hK=>?_)
      go_simp
      have K3:=K2.allocAt (w5.heap.size) [ptrV q] 149 (by simp)
      obtain ⟨k3c0,k3c1,k3f0,k3f1,k3l⟩:=kf K3 6 rfl
      refine hK.out _ _ ?_ (fun hH5=>?_)
      ·trivial
      clear hK K
      try simp only [Act.put,gA,gZ,gS,sA,sZ,sS]
      refine rD 15 rfl (fun K hK=>?_)
      refine sep_ap etShelves (.tmp 36) (.tmp 38) 0 8 K3 (val:=ptrV q) ?_
      intro a6 c6 w6 K4
      obtain ⟨k4c0,k4c1,k4f0,k4f1,k4l⟩:=kf K4 7 rfl
      refine hK.out _ _ ?_ (fun hH6=>?_)
      ·trivial
      clear hK K
      try simp only [Act.put,gA,gZ,gS,sA,sZ,sS]
      have KF:=((K4.drop 3).drop 1).rearr [4,4,4,9,9,9,9,9,9,9] rfl
     case' g32 =>
      go_simp
      have K3:=K2.allocAt (w5.heap.size) [ptrV q] 149 (by simp)
      obtain ⟨k3c0,k3c1,k3f0,k3f1,k3l⟩:=kf K3 6 rfl
      refine hK.out _ _ ?_ (fun hH4=>?_)
      ·trivial
      clear hK K
      try simp only [Act.put,gA,gZ,gS,sA,sZ,sS]
      refine rD 12 rfl (fun K hK=>?_)
      go_simp
      refine hK.out _ _ ?_ (fun hH5=>?_)
      ·trivial
      clear hK K
      try simp only [Act.put,gA,gZ,gS,sA,sZ,sS]
      refine rD 15 rfl (fun K hK=>?_)
      refine sep_ap etShelves (.tmp 36) (.tmp 38) 0 8 K3 (val:=ptrV q) ?_
      intro a6 c6 w6 K4
      obtain ⟨k4c0,k4c1,k4f0,k4f1,k4l⟩:=kf K4 7 rfl
      refine hK.out _ _ ?_ (fun hH6=>?_)
      ·trivial
      clear hK K
      try simp only [Act.put,gA,gZ,gS,sA,sZ,sS]
      have KF:=((K4.drop 3).drop 1).rearr [4,4,4,9,9,9,9,9,9,9] rfl
    case' g29 =>
     go_simp
     refine hK.out _ _ ?_ (fun hH3=>?_)
     ·trivial
     clear hK K
     try simp only [Act.put,gA,gZ,gS,sA,sZ,sS]
     refine wpAnyH_ready (rs:=[8,14]) (by kernel_rfl) (by simp) (AllReadyH.cons (o:=_) rfl (fun K hK=>?g33) (AllReadyH.cons (o:=_) rfl (fun K hK=>?g34) AllReadyH.nil))
     case' g33 =>
      refine sep_ap etDisks (.tmp 29) (.tmp 31) 0 6 K1 (val:=ptrV N) ?_
      intro a5 c5 w5 K2
      obtain ⟨k2c0,k2c1,k2f0,k2f1,k2l⟩:=kf K2 5 rfl
      refine hK.out _ _ ?_ (fun hH4=>?_)
      ·trivial
      clear hK K
      try simp only [Act.put,gA,gZ,gS,sA,sZ,sS]
      refine rD 14 rfl (fun K hK=>?_)
      go_simp
      have K3:=K2.allocAt (w5.heap.size) [ptrV q] 149 (by simp)
      obtain ⟨k3c0,k3c1,k3f0,k3f1,k3l⟩:=kf K3 6 rfl
      refine hK.out _ _ ?_ (fun hH5=>?_)
      ·trivial
      clear hK K
      try simp only [Act.put,gA,gZ,gS,sA,sZ,sS]
      refine rD 15 rfl (fun K hK=>?_)
      refine sep_ap etShelves (.tmp 36) (.tmp 38) 0 8 K3 (val:=ptrV q) ?_
      intro a6 c6 w6 K4
      obtain ⟨k4c0,k4c1,k4f0,k4f1,k4l⟩:=kf K4 7 rfl
      refine hK.out _ _ ?_ (fun hH6=>?_)
      ·trivial
      clear hK K
      try simp only [Act.put,gA,gZ,gS,sA,sZ,sS]
      have KF:=((K4.drop 3).drop 1).rearr [4,4,4,9,9,9,9,9,9,9] rfl
     case' g34 =>
      go_simp
      have K2:=K1.allocAt (wd.heap.size+1) [ptrV q] 149 (by simp)
      obtain ⟨k2c0,k2c1,k2f0,k2f1,k2l⟩:=kf K2 5 rfl
      refine hK.out _ _ ?_ (fun hH4=>?_)
      ·trivial
      clear hK K
      try simp only [Act.put,gA,gZ,gS,sA,sZ,sS]
      refine rD 8 rfl (fun K hK=>?_)
      refine sep_ap etDisks (.tmp 29) (.tmp 31) 1 7 K2 (val:=ptrV N) ?_
      intro a5 c5 w5 K3
      obtain ⟨k3c0,k3c1,k3f0,k3f1,k3l⟩:=kf K3 6 rfl
      refine hK.out _ _ ?_ (fun hH5=>?_)
      ·trivial
      clear hK K
      try simp only [Act.put,gA,gZ,gS,sA,sZ,sS]
      refine rD 15 rfl (fun K hK=>?_)
      refine sep_ap etShelves (.tmp 36) (.tmp 38) 1 8 K3 (val:=ptrV q) ?_
      intro a6 c6 w6 K4
      obtain ⟨k4c0,k4c1,k4f0,k4f1,k4l⟩:=kf K4 7 rfl
      refine hK.out _ _ ?_ (fun hH6=>?_)
      ·trivial
      clear hK K
      try simp only [Act.put,gA,gZ,gS,sA,sZ,sS]
      have KF:=((K4.drop 3).drop 2).rearr [4,4,4,9,9,9,9,9,9,9] rfl
    case' g30 =>
     go_simp
     have K2:=K1.allocAt (wd.heap.size+1) [ptrV q] 149 (by simp)
     obtain ⟨k2c0,k2c1,k2f0,k2f1,k2l⟩:=kf K2 5 rfl
     refine hK.out _ _ ?_ (fun hH3=>?_)
     ·trivial
     clear hK K
     try simp only [Act.put,gA,gZ,gS,sA,sZ,sS]
     refine wpAnyH_ready (rs:=[8,12]) (by kernel_rfl) (by simp) (AllReadyH.cons (o:=_) rfl (fun K hK=>?g35) (AllReadyH.cons (o:=_) rfl (fun K hK=>?g36) AllReadyH.nil))
     case' g35 =>
      refine sep_ap etDisks (.tmp 29) (.tmp 31) 1 7 K2 (val:=ptrV N) ?_
      intro a5 c5 w5 K3
      obtain ⟨k3c0,k3c1,k3f0,k3f1,k3l⟩:=kf K3 6 rfl
      refine hK.out _ _ ?_ (fun hH4=>?_)
      ·trivial
      clear hK K
      try simp only [Act.put,gA,gZ,gS,sA,sZ,sS]
      refine rD 12 rfl (fun K hK=>?_)
      go_simp
      refine hK.out _ _ ?_ (fun hH5=>?_)
      ·trivial
      clear hK K
      try simp only [Act.put,gA,gZ,gS,sA,sZ,sS]
      refine rD 15 rfl (fun K hK=>?_)
      refine sep_ap etShelves (.tmp 36) (.tmp 38) 1 8 K3 (val:=ptrV q) ?_
      intro a6 c6 w6 K4
      obtain ⟨k4c0,k4c1,k4f0,k4f1,k4l⟩:=kf K4 7 rfl
      refine hK.out _ _ ?_ (fun hH6=>?_)
      ·trivial
      clear hK K
      try simp only [Act.put,gA,gZ,gS,sA,sZ,sS]
      have KF:=((K4.drop 3).drop 2).rearr [4,4,4,9,9,9,9,9,9,9] rfl
     case' g36 =>
      go_simp
      refine hK.out _ _ ?_ (fun hH4=>?_)
      ·trivial
      clear hK K
      try simp only [Act.put,gA,gZ,gS,sA,sZ,sS]
      refine rD 8 rfl (fun K hK=>?_)
      refine sep_ap etDisks (.tmp 29) (.tmp 31) 1 7 K2 (val:=ptrV N) ?_
      intro a5 c5 w5 K3
      obtain ⟨k3c0,k3c1,k3f0,k3f1,k3l⟩:=kf K3 6 rfl
      refine hK.out _ _ ?_ (fun hH5=>?_)
      ·trivial
      clear hK K
      try simp only [Act.put,gA,gZ,gS,sA,sZ,sS]
      refine rD 15 rfl (fun K hK=>?_)
      refine sep_ap etShelves (.tmp 36) (.tmp 38) 1 8 K3 (val:=ptrV q) ?_
      intro a6 c6 w6 K4
      obtain ⟨k4c0,k4c1,k4f0,k4f1,k4l⟩:=kf K4 7 rfl
      refine hK.out _ _ ?_ (fun hH6=>?_)
      ·trivial
      clear hK K
      try simp only [Act.put,gA,gZ,gS,sA,sZ,sS]
      have KF:=((K4.drop 3).drop 2).rearr [4,4,4,9,9,9,9,9,9,9] rfl
   case' g26 =>
    go_simp
    refine hK.out _ _ ?_ (fun hH2=>?_)
    ·trivial
    clear hK K
    try simp only [Act.put,gA,gZ,gS,sA,sZ,sS]
    refine wpAnyH_ready (rs:=[5,14]) (by kernel_rfl) (by simp) (AllReadyH.cons (o:=_) rfl (fun K hK=>?g37) (AllReadyH.cons (o:=_) rfl (fun K hK=>?g38) AllReadyH.nil))
    case' g37 =>
     go_simp
     refine hK.out _ _ ?_ (fun hH3=>?_)
     ·trivial
     clear hK K
     try simp only [Act.put,gA,gZ,gS,sA,sZ,sS]
     refine wpAnyH_ready (rs:=[8,14]) (by kernel_rfl) (by simp) (AllReadyH.cons (o:=_) rfl (fun K hK=>?g39) (AllReadyH.cons (o:=_) rfl (fun K hK=>?g40) AllReadyH.nil))
     case' g39 =>
      refine sep_ap etDisks (.tmp 29) (.tmp 31) 0 6 K1 (val:=ptrV N) ?_
      intro a5 c5 w5 K2
      obtain ⟨k2c0,k2c1,k2f0,k2f1,k2l⟩:=kf K2 5 rfl
      refine hK.out _ _ ?_ (fun hH4=>?_)
      ·trivial
      clear hK K
      try simp only [Act.put,gA,gZ,gS,sA,sZ,sS]
      refine rD 14 rfl (fun K hK=>?_)
      go_simp
      have K3:=K2.allocAt (w5.heap.size) [ptrV q] 149 (by simp)
      obtain ⟨k3c0,k3c1,k3f0,k3f1,k3l⟩:=kf K3 6 rfl
      refine hK.out _ _ ?_ (fun hH5=>?_)
      ·trivial
      clear hK K
      try simp only [Act.put,gA,gZ,gS,sA,sZ,sS]
      refine rD 15 rfl (fun K hK=>?_)
      refine sep_ap etShelves (.tmp 36) (.tmp 38) 0 8 K3 (val:=ptrV q) ?_
      intro a6 c6 w6 K4
      obtain ⟨k4c0,k4c1,k4f0,k4f1,k4l⟩:=kf K4 7 rfl
      refine hK.out _ _ ?_ (fun hH6=>?_)
      ·trivial
      clear hK K
      try simp only [Act.put,gA,gZ,gS,sA,sZ,sS]
      have KF:=((K4.drop 3).drop 1).rearr [4,4,4,9,9,9,9,9,9,9] rfl
     case' g40 =>
      go_simp
      have K2:=K1.allocAt (wd.heap.size+1) [ptrV q] 149 (by simp)
      obtain ⟨k2c0,k2c1,k2f0,k2f1,k2l⟩:=kf K2 5 rfl
      refine hK.out _ _ ?_ (fun hH4=>?_)
      ·trivial
      clear hK K
      try simp only [Act.put,gA,gZ,gS,sA,sZ,sS]
      refine rD 8 rfl (fun K hK=>?_)
      refine sep_ap etDisks (.tmp 29) (.tmp 31) 1 7 K2 (val:=ptrV N) ?_
      intro a5 c5 w5 K3
      obtain ⟨k3c0,k3c1,k3f0,k3f1,k3l⟩:=kf K3 6 rfl
      refine hK.out _ _ ?_ (fun hH5=>?_)
      ·trivial
      clear hK K
      try simp only [Act.put,gA,gZ,gS,sA,sZ,sS]
      refine rD 15 rfl (fun K hK=>?_)
      refine sep_ap etShelves (.tmp 36) (.tmp 38) 1 8 K3 (val:=ptrV q) ?_
      intro a6 c6 w6 K4
      obtain ⟨k4c0,k4c1,k4f0,k4f1,k4l⟩:=kf K4 7 rfl
      refine hK.out _ _ ?_ (fun hH6=>?_)
      ·trivial
      clear hK K
      try simp only [Act.put,gA,gZ,gS,sA,sZ,sS]
      have KF:=((K4.drop 3).drop 2).rearr [4,4,4,9,9,9,9,9,9,9] rfl
    case' g38 =>
     go_simp
     have K2:=K1.allocAt (wd.heap.size+1) [ptrV q] 149 (by simp)
     obtain ⟨k2c0,k2c1,k2f0,k2f1,k2l⟩:=kf K2 5 rfl
     refine hK.out _ _ ?_ (fun hH3=>?_)
     ·trivial
     clear hK K
     try simp only [Act.put,gA,gZ,gS,sA,sZ,sS]
     refine rD 5 rfl (fun K hK=>?_)
     go_simp
     refine hK.out _ _ ?_ (fun hH4=>?_)
     ·trivial
     clear hK K
     try simp only [Act.put,gA,gZ,gS,sA,sZ,sS]
     refine rD 8 rfl (fun K hK=>?_)
     refine sep_ap etDisks (.tmp 29) (.tmp 31) 1 7 K2 (val:=ptrV N) ?_
     intro a5 c5 w5 K3
     obtain ⟨k3c0,k3c1,k3f0,k3f1,k3l⟩:=kf K3 6 rfl
     refine hK.out _ _ ?_ (fun hH5=>?_)
     ·trivial
     clear hK K
     try simp only [Act.put,gA,gZ,gS,sA,sZ,sS]
     refine rD 15 rfl (fun K hK=>?_)
     refine sep_ap etShelves (.tmp 36) (.tmp 38) 1 8 K3 (val:=ptrV q) ?_
     intro a6 c6 w6 K4
     obtain ⟨k4c0,k4c1,k4f0,k4f1,k4l⟩:=kf K4 7 rfl
     refine hK.out _ _ ?_ (fun hH6=>?_)
     ·trivial
     clear hK K
     try simp only [Act.put,gA,gZ,gS,sA,sZ,sS]
     have KF:=((K4.drop 3).drop 2).rearr [4,4,4,9,9,9,9,9,9,9] rfl
   case' g27 =>
    go_simp
    have K2:=K1.allocAt (wd.heap.size+1) [ptrV q] 149 (by simp)
    obtain ⟨k2c0,k2c1,k2f0,k2f1,k2l⟩:=kf K2 5 rfl
    refine hK.out _ _ ?_ (fun hH2=>?_)
    ·trivial
    clear hK K
    try simp only [Act.put,gA,gZ,gS,sA,sZ,sS]
    refine wpAnyH_ready (rs:=[5,12]) (by kernel_rfl) (by simp) (AllReadyH.cons (o:=_) rfl (fun K hK=>?g41) (AllReadyH.cons (o:=_) rfl (fun K hK=>?g42) AllReadyH.nil))
    case' g41 =>
     go_simp
     refine hK.out _ _ ?_ (fun hH3=>?_)
     ·trivial
     clear hK K
     try simp only [Act.put,gA,gZ,gS,sA,sZ,sS]
     refine wpAnyH_ready (rs:=[8,12]) (by kernel_rfl) (by simp) (AllReadyH.cons (o:=_) rfl (fun K hK=>?g43) (AllReadyH.cons (o:=_) rfl (fun K hK=>?g44) AllReadyH.nil))
     case' g43 =>
      refine sep_ap etDisks (.tmp 29) (.tmp 31) 1 7 K2 (val:=ptrV N) ?_
      intro a5 c5 w5 K3
      obtain ⟨k3c0,k3c1,k3f0,k3f1,k3l⟩:=kf K3 6 rfl
      refine hK.out _ _ ?_ (fun hH4=>?_)
      ·trivial
      clear hK K
      try simp only [Act.put,gA,gZ,gS,sA,sZ,sS]
      refine rD 12 rfl (fun K hK=>?_)
      go_simp
      refine hK.out _ _ ?_ (fun hH5=>?_)
      ·trivial
      clear hK K
      try simp only [Act.put,gA,gZ,gS,sA,sZ,sS]
      refine rD 15 rfl (fun K hK=>?_)
      refine sep_ap etShelves (.tmp 36) (.tmp 38) 1 8 K3 (val:=ptrV q) ?_
      intro a6 c6 w6 K4
      obtain ⟨k4c0,k4c1,k4f0,k4f1,k4l⟩:=kf K4 7 rfl
      refine hK.out _ _ ?_ (fun hH6=>?_)
      ·trivial
      clear hK K
      try simp only [Act.put,gA,gZ,gS,sA,sZ,sS]
      have KF:=((K4.drop 3).drop 2).rearr [4,4,4,9,9,9,9,9,9,9] rfl
     case' g44 =>
      go_simp
      refine hK.out _ _ ?_ (fun hH4=>?_)
      ·trivial
      clear hK K
      try simp only [Act.put,gA,gZ,gS,sA,sZ,sS]
      refine rD 8 rfl (fun K hK=>?_)
      refine sep_ap etDisks (.tmp 29) (.tmp 31) 1 7 K2 (val:=ptrV N) ?_
      intro a5 c5 w5 K3
      obtain ⟨k3c0,k3c1,k3f0,k3f1,k3l⟩:=kf K3 6 rfl
      refine hK.out _ _ ?_ (fun hH5=>?_)
      ·trivial
      clear hK K
      try simp only [Act.put,gA,gZ,gS,sA,sZ,sS]
      refine rD 15 rfl (fun K hK=>?_)
      refine sep_ap etShelves (.tmp 36) (.tmp 38) 1 8 K3 (val:=ptrV q) ?_
      intro a6 c6 w6 K4
      obtain ⟨k4c0,k4c1,k4f0,k4f1,k4l⟩:=kf K4 7 rfl
      refine hK.out _ _ ?_ (fun hH6=>?_)
      ·trivial
      clear hK K
      try simp only [Act.put,gA,gZ,gS,sA,sZ,sS]
      have KF:=((K4.drop 3).drop 2).rearr [4,4,4,9,9,9,9,9,9,9] rfl
    case' g42 =>
     go_simp
     refine hK.out _ _ ?_ (fun hH3=>?_)
     ·trivial
     clear hK K
     try simp only [Act.put,gA,gZ,gS,sA,sZ,sS]
     refine rD 5 rfl (fun K hK=>?_)
     go_simp
     refine hK.out _ _ ?_ (fun hH4=>?_)
     ·trivial
     clear hK K
     try simp only [Act.put,gA,gZ,gS,sA,sZ,sS]
     refine rD 8 rfl (fun K hK=>?_)
     refine sep_ap etDisks (.tmp 29) (.tmp 31) 1 7 K2 (val:=ptrV N) ?_
     intro a5 c5 w5 K3
     obtain ⟨k3c0,k3c1,k3f0,k3f1,k3l⟩:=kf K3 6 rfl
     refine hK.out _ _ ?_ (fun hH5=>?_)
     ·trivial
     clear hK K
     try simp only [Act.put,gA,gZ,gS,sA,sZ,sS]
     refine rD 15 rfl (fun K hK=>?_)
     refine sep_ap etShelves (.tmp 36) (.tmp 38) 1 8 K3 (val:=ptrV q) ?_
     intro a6 c6 w6 K4
     obtain ⟨k4c0,k4c1,k4f0,k4f1,k4l⟩:=kf K4 7 rfl
     refine hK.out _ _ ?_ (fun hH6=>?_)
     ·trivial
     clear hK K
     try simp only [Act.put,gA,gZ,gS,sA,sZ,sS]
     have KF:=((K4.drop 3).drop 2).rearr [4,4,4,9,9,9,9,9,9,9] rfl
  case' g3 =>
   go_simp
   refine hK.out _ _ ?_ (fun hH1=>?_)
   ·trivial
   clear hK K
   try simp only [Act.put,gA,gZ,gS,sA,sZ,sS]
   refine wpAnyH_ready (rs:=[5,7,14]) (by kernel_rfl) (by simp) (AllReadyH.cons (o:=_) rfl (fun K hK=>?g45) (AllReadyH.cons (o:=_) rfl (fun K hK=>?g46) (AllReadyH.cons (o:=_) rfl (fun K hK=>?g47) AllReadyH.nil)))
   case' g45 =>
    go_simp
    refine hK.out _ _ ?_ (fun hH2=>?_)
    ·trivial
    clear hK K
    try simp only [Act.put,gA,gZ,gS,sA,sZ,sS]
    refine wpAnyH_ready (rs:=[7,14]) (by kernel_rfl) (by simp) (AllReadyH.cons (o:=_) rfl (fun K hK=>?g48) (AllReadyH.cons (o:=_) rfl (fun K hK=>?g49) AllReadyH.nil))
    case' g48 =>
     go_simp
     have K1:=K0.allocAt (wd.heap.size) [ptrV N] 146 (by simp)
     obtain ⟨k1c0,k1c1,k1f0,k1f1,k1l⟩:=kf K1 4 rfl
     refine hK.out _ _ ?_ (fun hH3=>?_)
     ·trivial
     clear hK K
     try simp only [Act.put,gA,gZ,gS,sA,sZ,sS]
     refine wpAnyH_ready (rs:=[8,14]) (by kernel_rfl) (by simp) (AllReadyH.cons (o:=_) rfl (fun K hK=>?g50) (AllReadyH.cons (o:=_) rfl (fun K hK=>?g51) AllReadyH.nil))
     case' g50 =>
      refine sep_ap etDisks (.tmp 29) (.tmp 31) 0 6 K1 (val:=ptrV N) ?_
      intro a5 c5 w5 K2
      obtain ⟨k2c0,k2c1,k2f0,k2f1,k2l⟩:=kf K2 5 rfl
      refine hK.out _ _ ?_ (fun hH4=>?_)
      ·trivial
      clear hK K
      try simp only [Act.put,gA,gZ,gS,sA,sZ,sS]
      refine rD 14 rfl (fun K hK=>?_)
      go_simp
      have K3:=K2.allocAt (w5.heap.size) [ptrV q] 149 (by simp)
      obtain ⟨k3c0,k3c1,k3f0,k3f1,k3l⟩:=kf K3 6 rfl
      refine hK.out _ _ ?_ (fun hH5=>?_)
      ·trivial
      clear hK K
      try simp only [Act.put,gA,gZ,gS,sA,sZ,sS]
      refine rD 15 rfl (fun K hK=>?_)
      refine sep_ap etShelves (.tmp 36) (.tmp 38) 0 8 K3 (val:=ptrV q) ?_
      intro a6 c6 w6 K4
      obtain ⟨k4c0,k4c1,k4f0,k4f1,k4l⟩:=kf K4 7 rfl
      refine hK.out _ _ ?_ (fun hH6=>?_)
      ·trivial
      clear hK K
      try simp only [Act.put,gA,gZ,gS,sA,sZ,sS]
      have KF:=((K4.drop 3).drop 1).rearr [4,4,4,9,9,9,9,9,9,9] rfl
     case' g51 =>
      go_simp
      have K2:=K1.allocAt (wd.heap.size+1) [ptrV q] 149 (by simp)
      obtain ⟨k2c0,k2c1,k2f0,k2f1,k2l⟩:=kf K2 5 rfl
      refine hK.out _ _ ?_ (fun hH4=>?_)
      ·trivial
      clear hK K
      try simp only [Act.put,gA,gZ,gS,sA,sZ,sS]
      refine rD 8 rfl (fun K hK=>?_)
      refine sep_ap etDisks (.tmp 29) (.tmp 31) 1 7 K2 (val:=ptrV N) ?_
      intro a5 c5 w5 K3
      obtain ⟨k3c0,k3c1,k3f0,k3f1,k3l⟩:=kf K3 6 rfl
      refine hK.out _ _ ?_ (fun hH5=>?_)
      ·trivial
      clear hK K
      try simp only [Act.put,gA,gZ,gS,sA,sZ,sS]
      refine rD 15 rfl (fun K hK=>?_)
      refine sep_ap etShelves (.tmp 36) (.tmp 38) 1 8 K3 (val:=ptrV q) ?_
      intro a6 c6 w6 K4
      obtain ⟨k4c0,k4c1,k4f0,k4f1,k4l⟩:=kf K4 7 rfl
      refine hK.out _ _ ?_ (fun hH6=>?_)
      ·trivial
      clear hK K
      try simp only [Act.put,gA,gZ,gS,sA,sZ,sS]
      have KF:=((K4.drop 3).drop 2).rearr [4,4,4,9,9,9,9,9,9,9] rfl
    case' g49 =>
     go_simp
     have K1:=K0.allocAt (wd.heap.size) [ptrV q] 149 (by simp)
     obtain ⟨k1c0,k1c1,k1f0,k1f1,k1l⟩:=kf K1 4 rfl
     refine hK.out _ _ ?_ (fun hH3=>?_)
     ·trivial
     clear hK K
     try simp only [Act.put,gA,gZ,gS,sA,sZ,sS]
     refine rD 7 rfl (fun K hK=>?_)
     go_simp
     have K2:=K1.allocAt (wd.heap.size+1) [ptrV N] 146 (by simp)
     obtain ⟨k2c0,k2c1,k2f0,k2f1,k2l⟩:=kf K2 5 rfl
     refine hK.out _ _ ?_ (fun hH4=>?_)
     ·trivial
     clear hK K
     try simp only [Act.put,gA,gZ,gS,sA,sZ,sS]
     refine rD 8 rfl (fun K hK=>?_)
     refine sep_ap etDisks (.tmp 29) (.tmp 31) 0 7 K2 (val:=ptrV N) ?_
     intro a5 c5 w5 K3
     obtain ⟨k3c0,k3c1,k3f0,k3f1,k3l⟩:=kf K3 6 rfl
     refine hK.out _ _ ?_ (fun hH5=>?_)
     ·trivial
     clear hK K
     try simp only [Act.put,gA,gZ,gS,sA,sZ,sS]
     refine rD 15 rfl (fun K hK=>?_)
     refine sep_ap etShelves (.tmp 36) (.tmp 38) 2 8 K3 (val:=ptrV q) ?_
     intro a6 c6 w6 K4
     obtain ⟨k4c0,k4c1,k4f0,k4f1,k4l⟩:=kf K4 7 rfl
     refine hK.out _ _ ?_ (fun hH6=>?_)
     ·trivial
     clear hK K
     try simp only [Act.put,gA,gZ,gS,sA,sZ,sS]
     have KF:=((K4.drop 2).drop 2).rearr [4,4,4,9,9,9,9,9,9,9] rfl
   case' g46 =>
    go_simp
    have K1:=K0.allocAt (wd.heap.size) [ptrV N] 146 (by simp)
    obtain ⟨k1c0,k1c1,k1f0,k1f1,k1l⟩:=kf K1 4 rfl
    refine hK.out _ _ ?_ (fun hH2=>?_)
    ·trivial
    clear hK K
    try simp only [Act.put,gA,gZ,gS,sA,sZ,sS]
    refine wpAnyH_ready (rs:=[5,14]) (by kernel_rfl) (by simp) (AllReadyH.cons (o:=_) rfl (fun K hK=>?g52) (AllReadyH.cons (o:=_) rfl (fun K hK=>?g53) AllReadyH.nil))
    case' g52 =>
     go_simp
     refine hK.out _ _ ?_ (fun hH3=>?_)
     ·trivial
     clear hK K
     try simp only [Act.put,gA,gZ,gS,sA,sZ,sS]
     refine wpAnyH_ready (rs:=[8,14]) (by kernel_rfl) (by simp) (AllReadyH.cons (o:=_) rfl (fun K hK=>?g54) (AllReadyH.cons (o:=_) rfl (fun K hK=>?g55) AllReadyH.nil))
     case' g54 =>
      refine sep_ap etDisks (.tmp 29) (.tmp 31) 0 6 K1 (val:=ptrV N) ?_
      intro a5 c5 w5 K2
      obtain ⟨k2c0,k2c1,k2f0,k2f1,k2l⟩:=kf K2 5 rfl
      refine hK.out _ _ ?_ (fun hH4=>?_)
      ·trivial
      clear hK K
      try simp only [Act.put,gA,gZ,gS,sA,sZ,sS]
      refine rD 14 rfl (fun K hK=>?_)
      go_simp
      have K3:=K2.allocAt (w5.heap.size) [ptrV q] 149 (by simp)
      obtain ⟨k3c0,k3c1,k3f0,k3f1,k3l⟩:=kf K3 6 rfl
      refine hK.out _ _ ?_ (fun hH5=>?_)
      ·trivial
      clear hK K
      try simp only [Act.put,gA,gZ,gS,sA,sZ,sS]
      refine rD 15 rfl (fun K hK=>?_)
      refine sep_ap etShelves (.tmp 36) (.tmp 38) 0 8 K3 (val:=ptrV q) ?_
      intro a6 c6 w6 K4
      obtain ⟨k4c0,k4c1,k4f0,k4f1,k4l⟩:=kf K4 7 rfl
      refine hK.out _ _ ?_ (fun hH6=>?_)
      ·trivial
      clear hK K
      try simp only [Act.put,gA,gZ,gS,sA,sZ,sS]
      have KF:=((K4.drop 3).drop 1).rearr [4,4,4,9,9,9,9,9,9,9] rfl
     case' g55 =>
      go_simp
      have K2:=K1.allocAt (wd.heap.size+1) [ptrV q] 149 (by simp)
      obtain ⟨k2c0,k2c1,k2f0,k2f1,k2l⟩:=kf K2 5 rfl
      refine hK.out _ _ ?_ (fun hH4=>?_)
      ·trivial
      clear hK K
      try simp only [Act.put,gA,gZ,gS,sA,sZ,sS]
      refine rD 8 rfl (fun K hK=>?_)
      refine sep_ap etDisks (.tmp 29) (.tmp 31) 1 7 K2 (val:=ptrV N) ?_
      intro a5 c5 w5 K3
      obtain ⟨k3c0,k3c1,k3f0,k3f1,k3l⟩:=kf K3 6 rfl
      refine hK.out _ _ ?_ (fun hH5=>?_)
      ·trivial
      clear hK K
      try simp only [Act.put,gA,gZ,gS,sA,sZ,sS]
      refine rD 15 rfl (fun K hK=>?_)
      refine sep_ap etShelves (.tmp 36) (.tmp 38) 1 8 K3 (val:=ptrV q) ?_
      intro a6 c6 w6 K4
      obtain ⟨k4c0,k4c1,k4f0,k4f1,k4l⟩:=kf K4 7 rfl
      refine hK.out _ _ ?_ (fun hH6=>?_)
      ·trivial
      clear hK K
      try simp only [Act.put,gA,gZ,gS,sA,sZ,sS]
      have KF:=((K4.drop 3).drop 2).rearr [4,4,4,9,9,9,9,9,9,9] rfl
    case' g53 =>
     go_simp
     have K2:=K1.allocAt (wd.heap.size+1) [ptrV q] 149 (by simp)
     obtain ⟨k2c0,k2c1,k2f0,k2f1,k2l⟩:=kf K2 5 rfl
     refine hK.out _ _ ?_ (fun hH3=>?_)
     ·trivial
     clear hK K
     try simp only [Act.put,gA,gZ,gS,sA,sZ,sS]
     refine rD 5 rfl (fun K hK=>?_)
     go_simp
     refine hK.out _ _ ?_ (fun hH4=>?_)
     ·trivial
     clear hK K
     try simp only [Act.put,gA,gZ,gS,sA,sZ,sS]
     refine rD 8 rfl (fun K hK=>?_)
     refine sep_ap etDisks (.tmp 29) (.tmp 31) 1 7 K2 (val:=ptrV N) ?_
     intro a5 c5 w5 K3
     obtain ⟨k3c0,k3c1,k3f0,k3f1,k3l⟩:=kf K3 6 rfl
     refine hK.out _ _ ?_ (fun hH5=>?_)
     ·trivial
     clear hK K
     try simp only [Act.put,gA,gZ,gS,sA,sZ,sS]
     refine rD 15 rfl (fun K hK=>?_)
     refine sep_ap etShelves (.tmp 36) (.tmp 38) 1 8 K3 (val:=ptrV q) ?_
     intro a6 c6 w6 K4
     obtain ⟨k4c0,k4c1,k4f0,k4f1,k4l⟩:=kf K4 7 rfl
     refine hK.out _ _ ?_ (fun hH6=>?_)
     ·trivial
     clear hK K
     try simp only [Act.put,gA,gZ,gS,sA,sZ,sS]
     have KF:=((K4.drop 3).drop 2).rearr [4,4,4,9,9,9,9,9,9,9] rfl
   case' g47 =>
    go_simp
    have K1:=K0.allocAt (wd.heap.size) [ptrV q] 149 (by simp)
    obtain ⟨k1c0,k1c1,k1f0,k1f1,k1l⟩:=kf K1 4 rfl
    refine hK.out _ _ ?_ (fun hH2=>?_)
    ·trivial
    clear hK K
    try simp only [Act.put,gA,gZ,gS,sA,sZ,sS]
    refine wpAnyH_ready (rs:=[5,7]) (by kernel_rfl) (by simp) (AllReadyH.cons (o:=_) rfl (fun K hK=>?g56) (AllReadyH.cons (o:=_) rfl (fun K hK=>?g57) AllReadyH.nil))
    case' g56 =>
     go_simp
     refine hK.out _ _ ?_ (fun hH3=>?_)
     ·trivial
     clear hK K
     try simp only [Act.put,gA,gZ,gS,sA,sZ,sS]
     refine rD 7 rfl (fun K hK=>?_)
     go_simp
     have K2:=K1.allocAt (wd.heap.size+1) [ptrV N] 146 (by simp)
     obtain ⟨k2c0,k2c1,k2f0,k2f1,k2l⟩:=kf K2 5 rfl
     refine hK.out _ _ ?_ (fun hH4=>?_)
     ·trivial
     clear hK K
     try simp only [Act.put,gA,gZ,gS,sA,sZ,sS]
     refine rD 8 rfl (fun K hK=>?_)
     refine sep_ap etDisks (.tmp 29) (.tmp 31) 0 7 K2 (val:=ptrV N) ?_
     intro a5 c5 w5 K3
     obtain ⟨k3c0,k3c1,k3f0,k3f1,k3l⟩:=kf K3 6 rfl
     refine hK.out _ _ ?_ (fun hH5=>?_)
     ·trivial
     clear hK K
     try simp only [Act.put,gA,gZ,gS,sA,sZ,sS]
     refine rD 15 rfl (fun K hK=>?_)
     refine sep_ap etShelves (.tmp 36) (.tmp 38) 2 8 K3 (val:=ptrV q) ?_
     intro a6 c6 w6 K4
     obtain ⟨k4c0,k4c1,k4f0,k4f1,k4l⟩:=kf K4 7 rfl
     refine hK.out _ _ ?_ (fun hH6=>?_)
     ·trivial
     clear hK K
     try simp only [Act.put,gA,gZ,gS,sA,sZ,sS]
     have KF:=((K4.drop 2).drop 2).rearr [4,4,4,9,9,9,9,9,9,9] rfl
    case' g57 =>
     go_simp
     have K2:=K1.allocAt (wd.heap.size+1) [ptrV N] 146 (by simp)
     obtain ⟨k2c0,k2c1,k2f0,k2f1,k2l⟩:=kf K2 5 rfl
     refine hK.out _ _ ?_ (fun hH3=>?_)
     ·trivial
     clear hK K
     try simp only [Act.put,gA,gZ,gS,sA,sZ,sS]
     refine rD 5 rfl (fun K hK=>?_)
     go_simp
     refine hK.out _ _ ?_ (fun hH4=>?_)
     ·trivial
     clear hK K
     try simp only [Act.put,gA,gZ,gS,sA,sZ,sS]
     refine rD 8 rfl (fun K hK=>?_)
     refine sep_ap etDisks (.tmp 29) (.tmp 31) 0 7 K2 (val:=ptrV N) ?_
     intro a5 c5 w5 K3
     obtain ⟨k3c0,k3c1,k3f0,k3f1,k3l⟩:=kf K3 6 rfl
     refine hK.out _ _ ?_ (fun hH5=>?_)
     ·trivial
     clear hK K
     try simp only [Act.put,gA,gZ,gS,sA,sZ,sS]
     refine rD 15 rfl (fun K hK=>?_)
     refine sep_ap etShelves (.tmp 36) (.tmp 38) 2 8 K3 (val:=ptrV q) ?_
     intro a6 c6 w6 K4
     obtain ⟨k4c0,k4c1,k4f0,k4f1,k4l⟩:=kf K4 7 rfl
     refine hK.out _ _ ?_ (fun hH6=>?_)
     ·trivial
     clear hK K
     try simp only [Act.put,gA,gZ,gS,sA,sZ,sS]
     have KF:=((K4.drop 2).drop 2).rearr [4,4,4,9,9,9,9,9,9,9] rfl
  case' g4 =>
   go_simp
   have K1:=K0.allocAt (wd.heap.size) [ptrV q] 149 (by simp)
   obtain ⟨k1c0,k1c1,k1f0,k1f1,k1l⟩:=kf K1 4 rfl
   refine hK.out _ _ ?_ (fun hH1=>?_)
   ·trivial
   clear hK K
   try simp only [Act.put,gA,gZ,gS,sA,sZ,sS]
   refine wpAnyH_ready (rs:=[5,7,12]) (by kernel_rfl) (by simp) (AllReadyH.cons (o:=_) rfl (fun K hK=>?g58) (AllReadyH.cons (o:=_) rfl (fun K hK=>?g59) (AllReadyH.cons (o:=_) rfl (fun K hK=>?g60) AllReadyH.nil)))
   case' g58 =>
    go_simp
    refine hK.out _ _ ?_ (fun hH2=>?_)
    ·trivial
    clear hK K
    try simp only [Act.put,gA,gZ,gS,sA,sZ,sS]
    refine wpAnyH_ready (rs:=[7,12]) (by kernel_rfl) (by simp) (AllReadyH.cons (o:=_) rfl (fun K hK=>?g61) (AllReadyH.cons (o:=_) rfl (fun K hK=>?g62) AllReadyH.nil))
    case' g61 =>
     go_simp
     have K2:=K1.allocAt (wd.heap.size+1) [ptrV N] 146 (by simp)
     obtain ⟨k2c0,k2c1,k2f0,k2f1,k2l⟩:=kf K2 5 rfl
     refine hK.out _ _ ?_ (fun hH3=>?_)
     ·trivial
     clear hK K
     try simp only [Act.put,gA,gZ,gS,sA,sZ,sS]
     refine wpAnyH_ready (rs:=[8,12]) (by kernel_rfl) (by simp) (AllReadyH.cons (o:=_) rfl (fun K hK=>?g63) (AllReadyH.cons (o:=_) rfl (fun K hK=>?g64) AllReadyH.nil))
     case' g63 =>
      refine sep_ap etDisks (.tmp 29) (.tmp 31) 0 7 K2 (val:=ptrV N) ?_
      intro a5 c5 w5 K3
      obtain ⟨k3c0,k3c1,k3f0,k3f1,k3l⟩:=kf K3 6 rfl
      refine hK.out _ _ ?_ (fun hH4=>?_)
      ·trivial
      clear hK K
      try simp only [Act.put,gA,gZ,gS,sA,sZ,sS]
      refine rD 12 rfl (fun K hK=>?_)
      go_simp
      refine hK.out _ _ ?_ (fun hH5=>?_)
      ·trivial
      clear hK K
      try simp only [Act.put,gA,gZ,gS,sA,sZ,sS]
      refine rD 15 rfl (fun K hK=>?_)
      refine sep_ap etShelves (.tmp 36) (.tmp 38) 2 8 K3 (val:=ptrV q) ?_
      intro a6 c6 w6 K4
      obtain ⟨k4c0,k4c1,k4f0,k4f1,k4l⟩:=kf K4 7 rfl
      refine hK.out _ _ ?_ (fun hH6=>?_)
      ·trivial
      clear hK K
      try simp only [Act.put,gA,gZ,gS,sA,sZ,sS]
      have KF:=((K4.drop 2).drop 2).rearr [4,4,4,9,9,9,9,9,9,9] rfl
     case' g64 =>
      go_simp
      refine hK.out _ _ ?_ (fun hH4=>?_)
      ·trivial
      clear hK K
      try simp only [Act.put,gA,gZ,gS,sA,sZ,sS]
      refine rD 8 rfl (fun K hK=>?_)
      refine sep_ap etDisks (.tmp 29) (.tmp 31) 0 7 K2 (val:=ptrV N) ?_
      intro a5 c5 w5 K3
      obtain ⟨k3c0,k3c1,k3f0,k3f1,k3l⟩:=kf K3 6 rfl
      refine hK.out _ _ ?_ (fun hH5=>?_)
      ·trivial
      clear hK K
      try simp only [Act.put,gA,gZ,gS,sA,sZ,sS]
      refine rD 15 rfl (fun K hK=>?_)
      refine sep_ap etShelves (.tmp 36) (.tmp 38) 2 8 K3 (val:=ptrV q) ?_
      intro a6 c6 w6 K4
      obtain ⟨k4c0,k4c1,k4f0,k4f1,k4l⟩:=kf K4 7 rfl
      refine hK.out _ _ ?_ (fun hH6=>?_)
      ·trivial
      clear hK K
      try simp only [Act.put,gA,gZ,gS,sA,sZ,sS]
      have KF:=((K4.drop 2).drop 2).rearr [4,4,4,9,9,9,9,9,9,9] rfl
    case' g62 =>
     go_simp
     refine hK.out _ _ ?_ (fun hH3=>?_)
     ·trivial
     clear hK K
     try simp only [Act.put,gA,gZ,gS,sA,sZ,sS]
     refine rD 7 rfl (fun K hK=>?_)
     go_simp
     have K2:=K1.allocAt (wd.heap.size+1) [ptrV N] 146 (by simp)
     obtain ⟨k2c0,k2c1,k2f0,k2f1,k2l⟩:=kf K2 5 rfl
     refine hK.out _ _ ?_ (fun hH4=>?_)
     ·trivial
     clear hK K
     try simp only [Act.put,gA,gZ,gS,sA,sZ,sS]
     refine rD 8 rfl (fun K hK=>?_)
     refine sep_ap etDisks (.tmp 29) (.tmp 31) 0 7 K2 (val:=ptrV N) ?_
     intro a5 c5 w5 K3
     obtain ⟨k3c0,k3c1,k3f0,k3f1,k3l⟩:=kf K3 6 rfl
     refine hK.out _ _ ?_ (fun hH5=>?_)
     ·trivial
     clear hK K
     try simp only [Act.put,gA,gZ,gS,sA,sZ,sS]
     refine rD 15 rfl (fun K hK=>?_)
     refine sep_ap etShelves (.tmp 36) (.tmp 38) 2 8 K3 (val:=ptrV q) ?_
     intro a6 c6 w6 K4
     obtain ⟨k4c0,k4c1,k4f0,k4f1,k4l⟩:=kf K4 7 rfl
     refine hK.out _ _ ?_ (fun hH6=>?_)
     ·trivial
     clear hK K
     try simp only [Act.put,gA,gZ,gS,sA,sZ,sS]
     have KF:=((K4.drop 2).drop 2).rearr [4,4,4,9,9,9,9,9,9,9] rfl
   case' g59 =>
    go_simp
    have K2:=K1.allocAt (wd.heap.size+1) [ptrV N] 146 (by simp)
    obtain ⟨k2c0,k2c1,k2f0,k2f1,k2l⟩:=kf K2 5 rfl
    refine hK.out _ _ ?_ (fun hH2=>?_)
    ·trivial
    clear hK K
    try simp only [Act.put,gA,gZ,gS,sA,sZ,sS]
    refine wpAnyH_ready (rs:=[5,12]) (by kernel_rfl) (by simp) (AllReadyH.cons (o:=_) rfl (fun K hK=>?g65) (AllReadyH.cons (o:=_) rfl (fun K hK=>?g66) AllReadyH.nil))
    case' g65 =>
     go_simp
     refine hK.out _ _ ?_ (fun hH3=>?_)
     ·trivial
     clear hK K
     try simp only [Act.put,gA,gZ,gS,sA,sZ,sS]
     refine wpAnyH_ready (rs:=[8,12]) (by kernel_rfl) (by simp) (AllReadyH.cons (o:=_) rfl (fun K hK=>?g67) (AllReadyH.cons (o:=_) rfl (fun K hK=>?g68) AllReadyH.nil))
     case' g67 =>
      refine sep_ap etDisks (.tmp 29) (.tmp 31) 0 7 K2 (val:=ptrV N) ?_
      intro a5 c5 w5 K3
      obtain ⟨k3c0,k3c1,k3f0,k3f1,k3l⟩:=kf K3 6 rfl
      refine hK.out _ _ ?_ (fun hH4=>?_)
      ·trivial
      clear hK K
      try simp only [Act.put,gA,gZ,gS,sA,sZ,sS]
      refine rD 12 rfl (fun K hK=>?_)
      go_simp
      refine hK.out _ _ ?_ (fun hH5=>?_)
      ·trivial
      clear hK K
      try simp only [Act.put,gA,gZ,gS,sA,sZ,sS]
      refine rD 15 rfl (fun K hK=>?_)
      refine sep_ap etShelves (.tmp 36) (.tmp 38) 2 8 K3 (val:=ptrV q) ?_
      intro a6 c6 w6 K4
      obtain ⟨k4c0,k4c1,k4f0,k4f1,k4l⟩:=kf K4 7 rfl
      refine hK.out _ _ ?_ (fun hH6=>?_)
      ·trivial
      clear hK K
      try simp only [Act.put,gA,gZ,gS,sA,sZ,sS]
      have KF:=((K4.drop 2).drop 2).rearr [4,4,4,9,9,9,9,9,9,9] rfl
     case' g68 =>
      go_simp
      refine hK.out _ _ ?_ (fun hH4=>?_)
      ·trivial
      clear hK K
      try simp only [Act.put,gA,gZ,gS,sA,sZ,sS]
      refine rD 8 rfl (fun K hK=>?_)
      refine sep_ap etDisks (.tmp 29) (.tmp 31) 0 7 K2 (val:=ptrV N) ?_
      intro a5 c5 w5 K3
      obtain ⟨k3c0,k3c1,k3f0,k3f1,k3l⟩:=kf K3 6 rfl
      refine hK.out _ _ ?_ (fun hH5=>?_)
      ·trivial
      clear hK K
      try simp only [Act.put,gA,gZ,gS,sA,sZ,sS]
      refine rD 15 rfl (fun K hK=>?_)
      refine sep_ap etShelves (.tmp 36) (.tmp 38) 2 8 K3 (val:=ptrV q) ?_
      intro a6 c6 w6 K4
      obtain ⟨k4c0,k4c1,k4f0,k4f1,k4l⟩:=kf K4 7 rfl
      refine hK.out _ _ ?_ (fun hH6=>?_)
      ·trivial
      clear hK K
      try simp only [Act.put,gA,gZ,gS,sA,sZ,sS]
      have KF:=((K4.drop 2).drop 2).rearr [4,4,4,9,9,9,9,9,9,9] rfl
    case' g66 =>
     go_simp
     refine hK.out _ _ ?_ (fun hH3=>?_)
     ·trivial
     clear hK K
     try simp only [Act.put,gA,gZ,gS,sA,sZ,sS]
     refine rD 5 rfl (fun K hK=>?_)
     go_simp
     refine hK.out _ _ ?_ (fun hH4=>?_)
     ·trivial
     clear hK K
     try simp only [Act.put,gA,gZ,gS,sA,sZ,sS]
     refine rD 8 rfl (fun K hK=>?_)
     refine sep_ap etDisks (.tmp 29) (.tmp 31) 0 7 K2 (val:=ptrV N) ?_
     intro a5 c5 w5 K3
     obtain ⟨k3c0,k3c1,k3f0,k3f1,k3l⟩:=kf K3 6 rfl
     refine hK.out _ _ ?_ (fun hH5=>?_)
     ·trivial
     clear hK K
     try simp only [Act.put,gA,gZ,gS,sA,sZ,sS]
     refine rD 15 rfl (fun K hK=>?_)
     refine sep_ap etShelves (.tmp 36) (.tmp 38) 2 8 K3 (val:=ptrV q) ?_
     intro a6 c6 w6 K4
     obtain ⟨k4c0,k4c1,k4f0,k4f1,k4l⟩:=kf K4 7 rfl
     refine hK.out _ _ ?_ (fun hH6=>?_)
     ·trivial
     clear hK K
     try simp only [Act.put,gA,gZ,gS,sA,sZ,sS]
     have KF:=((K4.drop 2).drop 2).rearr [4,4,4,9,9,9,9,9,9,9] rfl
   case' g60 =>
    go_simp
    refine hK.out _ _ ?_ (fun hH2=>?_)
    ·trivial
    clear hK K
    try simp only [Act.put,gA,gZ,gS,sA,sZ,sS]
    refine wpAnyH_ready (rs:=[5,7]) (by kernel_rfl) (by simp) (AllReadyH.cons (o:=_) rfl (fun K hK=>?g69) (AllReadyH.cons (o:=_) rfl (fun K hK=>?g70) AllReadyH.nil))
    case' g69 =>
     go_simp
     refine hK.out _ _ ?_ (fun hH3=>?_)
     ·trivial
     clear hK K
     try simp only [Act.put,gA,gZ,gS,sA,sZ,sS]
     refine rD 7 rfl (fun K hK=>?_)
     go_simp
     have K2:=K1.allocAt (wd.heap.size+1) [ptrV N] 146 (by simp)
     obtain ⟨k2c0,k2c1,k2f0,k2f1,k2l⟩:=kf K2 5 rfl
     refine hK.out _ _ ?_ (fun hH4=>?_)
     ·trivial
     clear hK K
     try simp only [Act.put,gA,gZ,gS,sA,sZ,sS]
     refine rD 8 rfl (fun K hK=>?_)
     refine sep_ap etDisks (.tmp 29) (.tmp 31) 0 7 K2 (val:=ptrV N) ?_
     intro a5 c5 w5 K3
     obtain ⟨k3c0,k3c1,k3f0,k3f1,k3l⟩:=kf K3 6 rfl
     refine hK.out _ _ ?_ (fun hH5=>?_)
     ·trivial
     clear hK K
     try simp only [Act.put,gA,gZ,gS,sA,sZ,sS]
     refine rD 15 rfl (fun K hK=>?_)
     refine sep_ap etShelves (.tmp 36) (.tmp 38) 2 8 K3 (val:=ptrV q) ?_
     intro a6 c6 w6 K4
     obtain ⟨k4c0,k4c1,k4f0,k4f1,k4l⟩:=kf K4 7 rfl
     refine hK.out _ _ ?_ (fun hH6=>?_)
     ·trivial
     clear hK K
     try simp only [Act.put,gA,gZ,gS,sA,sZ,sS]
     have KF:=((K4.drop 2).drop 2).rearr [4,4,4,9,9,9,9,9,9,9] rfl
    case' g70 =>
     go_simp
     have K2:=K1.allocAt (wd.heap.size+1) [ptrV N] 146 (by simp)
     obtain ⟨k2c0,k2c1,k2f0,k2f1,k2l⟩:=kf K2 5 rfl
     refine hK.out _ _ ?_ (fun hH3=>?_)
     ·trivial
     clear hK K
     try simp only [Act.put,gA,gZ,gS,sA,sZ,sS]
     refine rD 5 rfl (fun K hK=>?_)
     go_simp
     refine hK.out _ _ ?_ (fun hH4=>?_)
     ·trivial
     clear hK K
     try simp only [Act.put,gA,gZ,gS,sA,sZ,sS]
     refine rD 8 rfl (fun K hK=>?_)
     refine sep_ap etDisks (.tmp 29) (.tmp 31) 0 7 K2 (val:=ptrV N) ?_
     intro a5 c5 w5 K3
     obtain ⟨k3c0,k3c1,k3f0,k3f1,k3l⟩:=kf K3 6 rfl
     refine hK.out _ _ ?_ (fun hH5=>?_)
     ·trivial
     clear hK K
     try simp only [Act.put,gA,gZ,gS,sA,sZ,sS]
     refine rD 15 rfl (fun K hK=>?_)
     refine sep_ap etShelves (.tmp 36) (.tmp 38) 2 8 K3 (val:=ptrV q) ?_
     intro a6 c6 w6 K4
     obtain ⟨k4c0,k4c1,k4f0,k4f1,k4l⟩:=kf K4 7 rfl
     refine hK.out _ _ ?_ (fun hH6=>?_)
     ·trivial
     clear hK K
     try simp only [Act.put,gA,gZ,gS,sA,sZ,sS]
     have KF:=((K4.drop 2).drop 2).rearr [4,4,4,9,9,9,9,9,9,9] rfl
  all_goals
   skip
   refine tD 16 40 (.pointer (some ⟨c,0,none⟩)) rfl rfl [(24,.pointer (some ⟨c,0,none⟩))] hH6 ?_
   dsimp only [sZ,sS]
   refine tD 17 41 (.pointer (some ⟨c,0,none⟩)) rfl rfl [(40,.pointer (some ⟨c,0,none⟩))] hH6 ?_
   dsimp only [sZ,sS]
   refine rD 18 rfl (fun K hK=>?_)
   go_simp
   have K5:=KF.set 2 rfl 0 (.slice a5 (n+1) c5)
   obtain ⟨k5c0,k5c1,k5f0,k5f1,k5l⟩:=kf K5 0 rfl
   refine hK.out _ _ ?_ (fun hH7=>?_)
   ·trivial
   clear hK K
   try simp only [Act.put,gA,gZ,gS,sA,sZ,sS]
   refine tD 19 42 (.pointer (some ⟨c,0,none⟩)) rfl rfl [(25,.pointer (some ⟨c,0,none⟩))] hH7 ?_
   dsimp only [sZ,sS]
   refine tD 20 43 (.pointer (some ⟨c,1,none⟩)) rfl rfl [(42,.pointer (some ⟨c,0,none⟩))] hH7 ?_
   dsimp only [sZ,sS]
   refine rD 21 rfl (fun K hK=>?_)
   go_simp
   have K6:=K5.set 0 rfl 1 (.slice a6 (n+1) c6)
   obtain ⟨k6c0,k6c1,k6f0,k6f1,k6l⟩:=kf K6 0 rfl
   refine hK.out _ _ ?_ (fun hH8=>?_)
   ·trivial
   clear hK K
   refine wpAnyH_done (by kernel_rfl) ?_ _
   go_wp2_with fail
   go_meet
   exact Lib.hid' ⟨a5,c5,a6,c6,K6.rearr [9,9,9,9,9,9,7,8,9,9] rfl⟩

 case rest =>

  clear H3
  obtain ⟨a5,c5,a6,c6,hs⟩:=hcut.out
  obtain ⟨hn,hxd,hxs,hR,he0,hj0⟩:=HE.out
  have s1:=((hs.focus 9 rfl).focus 7 rfl).poolJoin
  have s2:=(s1.focus 8 rfl).focus 8 rfl
  obtain ⟨G,s3⟩:=Sep.pack (I:=unI N (some q) (newU room) (vs++us)) [Asn.disk N (newD room) G2,Asn.shelf q N ⟨U.new,0,false⟩ us G3] s2 ⟨us,G2,G3,fun x hx=>List.mem_append_right _ hx,rfl⟩
  have s4:Sep W NoF ([unA (vs++us) ⟨N,some q,newU room,G⟩,Asn.pool (fun b=>Z0 b∨Z b) (vs++us),.box c [.slice a5 (n+1) c5,.slice a6 (n+1) c6,.int .i64 e0,j0,ptrV b] 77,Asn.seq b M.q,.row 146 1 (.slice a5 (n+1) c5) (n+1) (xd++[ptrV N]),.row 149 1 (.slice a6 (n+1) c6) (n+1) (xs++[ptrV q]),.row 30 1 j0 J2.Ks.length (J2.Ks.map chV),Asn.all (J2.Ks.map chA)]++(Us.map (unA vs)++L)) wc:=by rw [hR];exact s3
  have s5:=Sep.convAll _ _ (fun y _=>unA_more (us:=vs++us) (fun x hx=>List.mem_append_left _ hx) y) s4
  have hC:ClOK (M.grow (newU room)) ⟨b,.slice a5 (n+1) c5,.slice a6 (n+1) c6,Us++[⟨N,some q,newU room,G⟩],J2,fun b=>Z0 b∨Z b,vs++us⟩:=⟨by show (Us++[(⟨N,some q,newU room,G⟩:UnP)]).map (fun y:UnP=>y.x)=M.us++[newU room];rw [List.map_append,show Us.map (fun y:UnP=>y.x)=M.us from HPO.out.us];rfl,HPO.out.cs⟩
  have s6:Sep W NoF (clL c (M.grow (newU room)) ⟨b,.slice a5 (n+1) c5,.slice a6 (n+1) c6,Us++[⟨N,some q,newU room,G⟩],J2,fun b=>Z0 b∨Z b,vs++us⟩ L) wc:=by
   unfold clL clK
   simp only [List.length_append,List.length_singleton,List.map_append,List.map_cons,List.map_nil]
   rw [hn,hxd,hxs,hj0]
   show Sep W NoF ([.box c [.slice a5 (n+1) c5,.slice a6 (n+1) c6,.int .i64 M.p.e,j0,ptrV b] 77,Asn.seq b M.q,.row 146 1 (.slice a5 (n+1) c5) (n+1) (xd++[ptrV N]),.row 149 1 (.slice a6 (n+1) c6) (n+1) (xs++[ptrV q]),.row 30 1 j0 J2.Ks.length (J2.Ks.map chV),Asn.all (J2.Ks.map chA)]++(Asn.pool (fun b=>Z0 b∨Z b) (vs++us)::((Us.map (unA (vs++us))++[unA (vs++us) ⟨N,some q,newU room,G⟩])++L))) wc
   rw [he0]
   refine s5.perm ?_
   rw [List.append_assoc]
   have p1:∀ (A B:Asn) (K X L:List Asn),(([A,B]++K)++(X++L)).Perm (K++(B::(X++([A]++L)))):=by
    intro A B K X L
    have q1:(([A,B]++K)++(X++L)).Perm (B::(K++(X++([A]++L)))):=by
     refine (List.Perm.swap _ _ _).trans (List.Perm.cons _ ?_)
     have e:K++(X++([A]++L))=(K++X)++(A::L):=by simp
     rw [e]
     have e2:A::([]++K++(X++L))=A::((K++X)++L):=by simp
     first | rw [e2];exact List.perm_middle.symm | (show (A::(K++(X++L))).Perm _;rw [←List.append_assoc];exact List.perm_middle.symm)
    exact q1.trans List.perm_middle.symm
   exact p1 _ _ _ _ _
  clear s1 s2 s3 s4 s5 hs
  have hy:(Us++[(⟨N,some q,newU room,G⟩:UnP)])[Us.length]?=some ⟨N,some q,newU room,G⟩:=by simp
  obtain ⟨S,hS,hsh,hback⟩:=cl_on hC hy rfl s6
  obtain rfl:(⟨U.new,0,false⟩:Sf)=S:=by cases hS;rfl
  have hun:(M.grow (newU room)).us[M.us.length]?=some ⟨newD room,some ⟨U.new,0,false⟩⟩:=by show (M.us++[newU room])[M.us.length]?=_;simp [newU]
  have HDO:=Zh (do_on sealA hun)
  have hUM:Us.length=M.us.length:=by rw [←HPO.out.us,List.length_map]
  have HKD:=Zh (kdo2_any sealA none 0 _ HP.out hsh (Sd.new HR.out) (bytes_nil _))
  have HBK:=Lib.hid' hback
  clear hsh hback hS hy hC s6 hun hn hxd hxs hR he0 hj0 hcut HE
  rw [show ac9V sealA none 0=.agg #[.int .i64 1,.int .i64 1,.int .i64 0,.slice none 0 0] from rfl] at HKD
  go_wp2_with fail
  refine HKD.out.mono ?_
  rintro e w9 ⟨rfl,us9,hs9,h9⟩
  have H9:=Zh (HBK.out _ _ us9 w9 [] hs9 h9)
  clear h9 HBK HKD
  have hres:M.add room=((doS ⟨U.new,0,false⟩ (newD room) sealA).1,(M.grow (newU room)).put M.us.length ⟨(doS ⟨U.new,0,false⟩ (newD room) sealA).2.2.2,some (doS ⟨U.new,0,false⟩ (newD room) sealA).2.2.1⟩):=by rw [HA2.out,HDO.out]
  have HRES:=Lib.hid' hres
  clear hres
  go_wp2_with fail
  go_ret
  rw [HRES.out]
  refine ⟨rfl,?_⟩
  have h10:=H9.out
  rw [hUM] at h10
  exact h10
end SL
end Go.Proofs.YtaodldbgikiekaaGreatDoor

namespace Go.Proofs.YtaodldbgikiekaaGreatDoor
open Go.RowKit
namespace SL
open DK SH SQ
def Cl.addN (room:Int):Nat→Cl→Nat×Cl
 | 0,M=>(0,M)
 | k+1,M=>if (M.add room).1≠0 then M.add room else Cl.addN room k (M.add room).2
/-- a cluster without units -/
def cl0 (X:List (List Int)):Cl:=⟨[],⟨1,X⟩,⟨0,0⟩⟩
def newCl (units room:Int) (X:List (List Int)):Nat×Cl :=
 if units<1∨8<units then (1,cl0 X) else
 if (⟨1,X⟩:Pj).check≠0 then ((⟨1,X⟩:Pj).check,cl0 X) else
 if (unitsOf (⟨1,X⟩:Pj).all).any (fun u=>decide (units≤u))=true then (1,cl0 X) else
 if (Cl.addN room units.toNat (cl0 X)).1≠0 then ((Cl.addN room units.toNat (cl0 X)).1,cl0 X) else
 (0,{ (Cl.addN room units.toNat (cl0 X)).2 with q:=⟨1,0⟩})
theorem add_len (M:Cl) (room:Int):(M.add room).2.us.length≤M.us.length+1∧(M.add room).2.p=M.p∧(M.add room).2.q=M.q:=by
 unfold Cl.add
 split
 ·exact ⟨Nat.le_succ _,rfl,rfl⟩
 ·have:=Cl.do_len (M.grow (newU room)) M.us.length sealA
  refine ⟨?_,this.2.1,this.2.2⟩
  rw [this.1]
  show (M.us++[newU room]).length≤_
  simp
theorem addN_step {room:Int} {k:Nat} {M:Cl} (h:(M.add room).1=0):Cl.addN room (k+1) M=Cl.addN room k (M.add room).2:=by
 show (if (M.add room).1≠0 then _ else _)=_
 rw [if_neg (by rw [h];decide)]
theorem addN_stop {room:Int} {k:Nat} {M:Cl} (h:(M.add room).1≠0):Cl.addN room (k+1) M=M.add room:=by
 show (if (M.add room).1≠0 then _ else _)=_
 rw [if_pos h]
/-- what New answers: an error, or a cluster beside L -/
def NewR (r:Nat×Cl) (L:List Asn) (W:World) (e:Ending) (w':World):Prop :=
 (r.1≠0∧e=.returned (.tuple #[.pointer none,errV r.1])∧Sep W NoF L w')∨(r.1=0∧∃ c J,e=.returned (.tuple #[ptrV c,.nilIface])∧ClAt c r.2 J L W w')
theorem chs_below {w w':World} {a:Option Addr} {c:Nat} {X:List Ch} (h:Chs w a c X) (hb:Below w.heap.size w w'):Chs w' a c X:=h.below (Nat.le_refl _) hb
set_option maxHeartbeats 16000000 in
theorem New_any {L:List Asn} {W:World} (units room:Int) (a:Option Addr) (c:Nat) (X:List Ch) (w:World) (hp:Pow W) (hL:Sep W NoF L w) (hX:Chs w a c X) (ht:(flatC X).length≤1099511627776) :
  Calls Tryz.prog 12 #[.int .i64 units,.int .i64 room,.slice a X.length c] w (NewR (newCl units room (X.map (·.1))) L W):=by
 have HP:=Lib.hid' hp
 have HL:=Lib.hid' hL
 have HX:=Lib.hid' hX
 have HN:=Zh (show newCl units room (X.map (·.1))=_ from rfl)
 have hXl:=hX.len
 clear hp hL hX
 by_cases hu:units<1∨8<units
 ·have HR:=Zh (show newCl units room (X.map (·.1))=(1,cl0 (X.map (·.1))) by unfold newCl;rw [if_pos hu])
  go_enter Tryz.func12, Tryz.ntmps12
  rcases hu with hu | hu
  ·go_wp2_with fail
   go_ret2
   rw [HR.out]
   exact .inl ⟨show (1:Nat)≠0 by decide,rfl,HL.out.below (by go_grown)⟩
  ·have hu1:¬units<1:=by omega
   go_wp2_with fail
   go_ret2
   rw [HR.out]
   exact .inl ⟨show (1:Nat)≠0 by decide,rfl,HL.out.below (by go_grown)⟩
 have hu1:¬units<1:=by omega
 have hu8:¬8<units:=by omega
 have HU:=Lib.hid' hu
 clear hu
 go_enter Tryz.func12, Tryz.ntmps12
 go_wp2_with fail
 have hb1:Below w.heap.size w (w.alloc (.cells #[.int .i64 1,.slice a X.length c] 74)):=by go_grown
 obtain ⟨n,rfl⟩:∃ n:Nat,units=n:=⟨units.toNat,by omega⟩
 have hn8:n≤8:=by omega
 have hz0:w.heap.size<(w.alloc (.cells #[.int .i64 1,.slice a X.length c] 74)).heap.size:=by simp
 have p0:(w.alloc (.cells #[.int .i64 1,.slice a X.length c] 74)).cell? ⟨w.heap.size,0,none⟩=some (.int .i64 1):=by simp [go_sem]
 have p1:(w.alloc (.cells #[.int .i64 1,.slice a X.length c] 74)).cell? ⟨w.heap.size,1,none⟩=some (.slice a X.length c):=by simp [go_sem]
 generalize w.alloc (.cells #[.int .i64 1,.slice a X.length c] 74)=w1 at *
 refine (pcheck_any 1 a c X w1 (chs_below HX.out hb1) ht).mono ?_
 rintro e w2 ⟨rfl,hb2⟩
 by_cases hz:(docJ 1 X).check=0
 rotate_left
 ·have HR:=Zh (show newCl n room (X.map (·.1))=((docJ 1 X).check,cl0 (X.map (·.1))) by unfold newCl;rw [if_neg HU.out,if_pos (show (⟨1,X.map (·.1)⟩:Pj).check≠0 from hz)];rfl)
  rw [errV_pos hz]
  have HZ:=Lib.hid' hz
  have HB:=Zh ((HL.out.below hb1).below hb2)
  clear hz
  go_wp2_with fail
  go_ret2
  rw [HR.out]
  exact .inl ⟨HZ.out,by rw [errV_pos HZ.out];rfl,HB.out⟩
 have HZ:=Lib.hid' hz
 rw [hz,errV_0]
 have hb12:Below w.heap.size w w2:=below_call hb1 hb1.size hb2
 have p02:=(hb2.cell (p:=⟨w.heap.size,0,none⟩) hz0).trans p0
 have p12:=(hb2.cell (p:=⟨w.heap.size,1,none⟩) hz0).trans p1
 have hz2:w.heap.size<w2.heap.size:=Nat.lt_of_lt_of_le hz0 hb2.size
 clear hz p0 p1 hz0 hb1 hb2
 go_wp2_with fail
 refine (punits_any 1 a c X w2 (chs_below HX.out hb12) ht).mono ?_
 rintro e w3 hun
 obtain ⟨ua,uc,rfl,ho,hb3⟩:∃ ua uc,e=.returned (.slice ua (unitsOf (flatC X)).length uc)∧w3.ownsRow w2.heap.size 3 1 (.slice ua (unitsOf (flatC X)).length uc) (unitsOf (flatC X)).length (zVs (unitsOf (flatC X)))∧Below w2.heap.size w2 w3:=hun
 have hb13:Below w.heap.size w w3:=below_call hb12 hb12.size hb3
 have p03:=(hb3.cell (p:=⟨w.heap.size,0,none⟩) hz2).trans p02
 have p13:=(hb3.cell (p:=⟨w.heap.size,1,none⟩) hz2).trans p12
 have hz3:w.heap.size<w3.heap.size:=Nat.lt_of_lt_of_le hz2 hb3.size
 have HZS:=Zh (show Zs w3 (.slice ua (unitsOf (flatC X)).length uc) (unitsOf (flatC X)) from SlV.of_own ho)
 obtain ⟨l,hl⟩:∃ l,unitsOf (flatC X)=l:=⟨_,rfl⟩
 rw [hl] at HZS ⊢
 have HLL:=Lib.hid' hl
 have hll:l.length≤1099511627776:=by rw [←hl];exact Nat.le_trans (unitsOf_len _) ht
 have HB13:=Lib.hid' hb13
 clear hl ho hb3 hb12 p02 p12 hz2 hb13
 go_wp2_with fail
 go_loop [31] (fun v31=>∃ k:Nat,v31=.int .i64 k∧k≤l.length∧Hid (∀ y∈l.take k,y<(n:Int))) (fun v31=>l.length - (intOf v31).toNat)
 case atStart=>exact ⟨0,rfl,Nat.zero_le _,Zh (by simp)⟩
 case round =>
  obtain ⟨k,rfl,hk,HNO⟩:=hrel
  by_cases hlt:k<l.length
  ·obtain ⟨gb,go,rfl,hgb,hgc⟩:=HZS.out.at hlt
   have HM:=Zh (show l[k]∈l from List.getElem_mem hlt)
   have HT:=Zh (fun (h:l[k]<(n:Int))=>show ∀ y∈l.take (k+1),y<(n:Int) from fun y hy=>by
    rw [List.take_succ_eq_append_getElem hlt] at hy
    rcases List.mem_append.1 hy with hy | hy
    ·exact HNO.out y hy
    ·rw [List.mem_singleton.1 hy];exact h)
   generalize l[k]=y at *
   by_cases hy:(n:Int)≤y
   ·have HR:=Zh (show newCl n room (X.map (·.1))=(1,cl0 (X.map (·.1))) by
     unfold newCl
     rw [if_neg HU.out,if_neg (show ¬(⟨1,X.map (·.1)⟩:Pj).check≠0 from fun h=>h HZ.out),if_pos]
     rw [List.any_eq_true]
     exact ⟨y,by rw [show unitsOf (⟨1,X.map (·.1)⟩:Pj).all=l from HLL.out];exact HM.out,by simpa using hy⟩)
    go_wp2_with fail
    go_ret2
    rw [HR.out]
    exact .inl ⟨show (1:Nat)≠0 by decide,rfl,HL.out.below HB13.out⟩
   ·have HT2:=Zh (HT.out (by omega))
    go_wp2_with fail
    go_round
    case rel=>exact ⟨k+1,by go_num,by omega,HT2⟩
    case measure=>simp [intOf];omega
  ·have HNA:=Zh (show ∀ y∈l,y<(n:Int) from fun y hy=>HNO.out y (by rw [List.take_of_length_le (by omega)];exact hy))
   clear HNO HZS
   go_wp2_with fail
   have hpk:=pj_ok HZ.out
   have hXn:X.length≤4:=by have:=hpk.n.2;simpa [docJ] using this
   have hXe:∀ x∈X,x.1.length≤4:=fun x hx=>(hpk.each x.1 (List.mem_map_of_mem (f:=(·.1)) hx)).2
   refine (pcopy_any 1 a c X w3 (chs_below HX.out HB13.out) (by omega) (fun x hx=>by have:=hXe x hx;omega)).mono ?_
   rintro e w4 ⟨a4,c4,K4,rfl,hj,hmap,hb4⟩
   have H4:=Zh ((HL.out.below HB13.out).pastJ hb4 hj)
   have hKl:K4.length=X.length:=by have:=congrArg List.length hmap;simpa using this
   have HMP:=Lib.hid' hmap
   have hp04:=(hb4.cell (p:=⟨w.heap.size,0,none⟩) hz3).trans p03
   rw [show pjV 1 a4 c4 K4=.agg #[.int .i64 1,.slice a4 K4.length c4] from rfl]
   clear hpk hXe hj hmap hb4 p03 p13 hp04 hz3 hXn
   have HKL:=Lib.hid' hKl
   clear hKl
   go_wp2_with fail
   refine (SQ.new_any _).mono ?_
   rintro e w5 ⟨rfl,h5⟩
   have H5:=Zh (H4.out.call0 h5)
   generalize w4.heap.size=b5 at *
   clear h5 H4
   go_wp2_with fail
   have G:=((((H5.out.allocAt w5.heap.size [.slice none 0 0,.slice none 0 0,.int .i64 1,.slice a4 K4.length c4,ptrV b5] 77 rfl).nilRow 146 1).nilRow 149 1).pool0)
   have G2:=((((((G.focus 5 rfl).focus 6 rfl).focus 3 rfl).focus 4 rfl).focus 6 rfl).focus 6 rfl)
   have HC:=Zh (show ClAt w5.heap.size (cl0 (X.map (·.1))) ⟨a4,c4,K4⟩ L W (w5.alloc (.cells #[.slice none 0 0,.slice none 0 0,.int .i64 1,.slice a4 K4.length c4,ptrV b5] 77)) from ⟨⟨b5,.slice none 0 0,.slice none 0 0,[],⟨a4,c4,K4⟩,NoF,[nilB]⟩,rfl,⟨rfl,HMP.out⟩,G2⟩)
   clear G G2 H5
   obtain ⟨w6,hw6⟩:∃ w6,w5.alloc (.cells #[.slice none 0 0,.slice none 0 0,.int .i64 1,.slice a4 K4.length c4,ptrV b5] 77)=w6:=⟨_,rfl⟩
   have hzw:w5.alloc (.cells #[.slice none 0 0,.slice none 0 0,.int .i64 1,.slice a4 K4.length c4,.pointer (some ⟨b5,0,none⟩)] 77)=w6:=hw6
   rw [hw6] at HC
   first | rw [hzw] | rw [hw6]
   clear hw6 hzw
   generalize w5.heap.size=cc at *
   go_loopw [46] (fun v46 wr=>∃ (k:Nat) (M':Cl),v46=.int .i64 k∧k≤n∧Hid (ClAt cc M' ⟨a4,c4,K4⟩ L W wr)∧Hid (M'.us.length≤k∧M'.q=⟨0,0⟩)∧Hid (Cl.addN room n (cl0 (X.map (·.1)))=Cl.addN room (n - k) M')) (fun v46 _=>n - (intOf v46).toNat)
   case atStart=>exact ⟨0,_,rfl,Nat.zero_le _,HC,Lib.hid' ⟨Nat.zero_le _,rfl⟩,Lib.hid' rfl⟩
   case round =>
    clear HC
    obtain ⟨k,M',rfl,hk,HC,HQ,HE⟩:=hrel
    by_cases hlt2:k<n
    ·have HADD:=Zh (add_any room wr HP.out HC.out (by have:=HQ.out.1;omega))
     go_wp2_with fail
     refine HADD.out.mono ?_
     rintro e w7 ⟨rfl,h7⟩
     have H7:=Lib.hid' h7
     clear h7 HADD
     have HLE:=Zh (add_len M' room)
     by_cases h0:(M'.add room).1=0
     ·have HE2:=Zh (show Cl.addN room n (cl0 (X.map (·.1)))=Cl.addN room (n - (k+1)) (M'.add room).2 by
       rw [HE.out,show n - k=(n - (k+1))+1 by omega,addN_step h0])
      rw [h0,errV_0]
      clear h0
      go_wp2_with fail
      go_roundw
      case rel=>exact ⟨k+1,(M'.add room).2,by go_num,by omega,H7,Lib.hid' ⟨by have:=HLE.out.1;have:=HQ.out.1;omega,HLE.out.2.2.trans HQ.out.2⟩,HE2⟩
      case measure=>simp [intOf];omega
     ·have HR:=Zh (show newCl n room (X.map (·.1))=((M'.add room).1,cl0 (X.map (·.1))) by
       have hE2:Cl.addN room n (cl0 (X.map (·.1)))=M'.add room:=by rw [HE.out,show n - k=(n - (k+1))+1 by omega,addN_stop h0]
       unfold newCl
       rw [if_neg HU.out,if_neg (show ¬(⟨1,X.map (·.1)⟩:Pj).check≠0 from fun h=>h HZ.out),if_neg,if_pos]
       ·rw [show Int.toNat (n:Int)=n by omega,hE2]
       ·rw [show Int.toNat (n:Int)=n by omega,hE2];exact h0
       ·rw [Bool.not_eq_true,List.any_eq_false]
        intro y hy
        rw [show unitsOf (⟨1,X.map (·.1)⟩:Pj).all=l from HLL.out] at hy
        have:=HNA.out y hy
        simp;omega)
      rw [errV_pos h0]
      have H0:=Lib.hid' h0
      clear h0
      go_wp2_with fail
      go_ret2
      rw [HR.out]
      exact .inl ⟨H0.out,by rw [errV_pos H0.out];rfl,H7.out.side⟩
    ·obtain rfl:k=n:=by omega
     have HE2:=Zh (show Cl.addN room k (cl0 (X.map (·.1)))=(0,M') by rw [HE.out,Nat.sub_self];rfl)
     have HR:=Zh (show newCl k room (X.map (·.1))=(0,{ M' with q:=⟨1,0⟩}) by
      unfold newCl
      rw [if_neg HU.out,if_neg (show ¬(⟨1,X.map (·.1)⟩:Pj).check≠0 from fun h=>h HZ.out),if_neg,if_neg]
      ·rw [show Int.toNat (k:Int)=k by omega,HE2.out]
      ·rw [show Int.toNat (k:Int)=k by omega,HE2.out];simp
      ·rw [Bool.not_eq_true,List.any_eq_false]
       intro y hy
       rw [show unitsOf (⟨1,X.map (·.1)⟩:Pj).all=l from HLL.out] at hy
       have:=HNA.out y hy
       simp;omega)
     obtain ⟨bq,Kq,hb4,hsq,_,hback⟩:=HC.out.seqd
     have hcl:=HC.out.c2.2
     rw [HQ.out.2] at hsq
     have HSET:=Zh (SQ.set_any 1 0 hsq)
     rw [show (⟨0,0⟩:Q).set 1 0=(0,⟨1,0⟩) from rfl] at HSET
     have HBK:=Lib.hid' hback
     clear hsq hback
     go_wp2_with fail
     refine HSET.out.mono ?_
     rintro e w8 ⟨rfl,h8⟩
     have H8:=Zh (HBK.out _ _ h8).1
     clear h8
     rw [errV_0]
     go_wp2_with fail
     go_ret2
     rw [HR.out]
     exact .inr ⟨rfl,cc,⟨a4,c4,K4⟩,rfl,H8.out⟩
theorem ClAt.newB {c:Nat} {M:Cl} {J:CJ} {L:List Asn} {W w w':World} {A:Asn} (h:ClAt c M J L W w) (hb:Below w.heap.size w w') (hA:A.holds w') (hf:∀ b,A.foot b→w.heap.size≤b):ClAt c M J (A::L) W w':=by
 obtain ⟨P,hJ,hP,H⟩:=h
 refine ⟨P,hJ,hP,(H.below1 hb hA hf).perm ?_⟩
 have e1:∀ L,clL c M P L=(clK c M P++(Asn.pool P.Z P.vs::P.Us.map (unA P.vs)))++L:=fun L=>by unfold clL;simp
 rw [e1 L,e1 (_::L)]
 exact List.perm_middle.symm
theorem add_one {r:Int} (h:400≤r∧r≤1073741824):∃ x,Fine r 1 u1 x∧Sd x.d∧(cl0 [[0]]).add r=(0,⟨[x],⟨1,[[0]]⟩,⟨0,0⟩⟩):=by
 obtain ⟨S,D,S',D',hx,e,hF⟩:=(Fine.new r).act (by decide) (by omega) sealA
 have ha:(apU U.new sealA).1=0∧(apU U.new sealA).2.2=u1:=ap1
 have hsd:Sd D':=by
  have h2:=Sd.doS (D:=D) (S:=S) (by have:newD r=D:=congrArg Un.d hx;rw [←this];exact Sd.new ⟨by omega,h.2⟩) sealA
  rw [e] at h2;exact h2
 rw [ha.1,ha.2] at hF
 simp only [if_pos] at hF
 refine ⟨_,hF,hsd,?_⟩
 have hd:(cl0 [[0]]).grow (newU r)=⟨[⟨D,some S⟩],⟨1,[[0]]⟩,⟨0,0⟩⟩:=by
  unfold Cl.grow cl0 newU
  rw [hx];rfl
 unfold Cl.add
 rw [if_neg (by omega),hd]
 show (((⟨[⟨D,some S⟩],⟨1,[[0]]⟩,⟨0,0⟩⟩:Cl).do 0 sealA).1,((⟨[⟨D,some S⟩],⟨1,[[0]]⟩,⟨0,0⟩⟩:Cl).do 0 sealA).2.2)=_
 rw [do_on (u:=0) sealA (show (⟨[⟨D,some S⟩],⟨1,[[0]]⟩,⟨0,0⟩⟩:Cl).us[0]?=some ⟨D,some S⟩ from rfl),e]
 rw [ha.1];rfl
theorem uni1:unitsOf [0]=[0]:=by
 have h1:sortI [0]=[0]:=by unfold sortI;simp
 unfold unitsOf
 rw [h1];rfl
theorem chk1:(⟨1,[[0]]⟩:Pj).check=0:=by
 have h1:(⟨1,[[0]]⟩:Pj).all=[0]:=rfl
 unfold Pj.check
 rw [h1,uni1]
 decide
theorem new_one {r:Int} (h:400≤r∧r≤1073741824):∃ x,Fine r 1 u1 x∧Sd x.d∧newCl 1 r [[0]]=(0,M1 x 0):=by
 obtain ⟨x,hx,hs,e⟩:=add_one h
 refine ⟨x,hx,hs,?_⟩
 have h1:Cl.addN r (Int.toNat 1) (cl0 [[0]])=(0,⟨[x],⟨1,[[0]]⟩,⟨0,0⟩⟩):=by
  show (if ((cl0 [[0]]).add r).1≠0 then (cl0 [[0]]).add r else Cl.addN r 0 ((cl0 [[0]]).add r).2)=_
  rw [e];rfl
 unfold newCl
 rw [if_neg (by omega),if_neg (by rw [chk1];decide),if_neg (by rw [show (⟨1,[[0]]⟩:Pj).all=[0] from rfl,uni1];decide),h1]
 rfl
def u2:U:=⟨1,0,[(0,⟨1,[97]⟩)]⟩
theorem m1_ok {r:Int} {k:Nat} {u:U} {x:Un} {n:Int} (h:Fine r k u x) (hs:Sd x.d) (hn:0≤n∧n≤1048576):(M1 x n).ok :=
 ⟨chk1,by show [x].length≤8;simp,fun v hv=>by
  have:v=0:=by simpa [M1,Pj.all] using hv
  subst this
  exact ⟨Int.le_refl _,by show (0:Int)<(([x]:List Un).length:Int);simp⟩,⟨by show (0:Int)≤1∧(1:Int)≤_;decide,hn⟩,fun y hy=>by
  have:y=x:=by simpa [M1] using hy
  rw [this];exact hs⟩
end SL
end Go.Proofs.YtaodldbgikiekaaGreatDoor

namespace Go.Proofs.YtaodldbgikiekaaGreatDoor
open Go.RowKit
namespace SH
open DK
theorem kunit_any {q N:Nat} {S:Sf} {D:Dk} {vs:PoolL} {L:List Asn} {W:World} (w:World) (h:ShAt q N S D vs L NoF W w) :
  Calls Tryz.prog 125 #[ptrV q] w fun e w'=>∃ bu bm us,e=.returned (ptrV bu)∧(∀ x∈vs,x∈us)∧ShAt q N S D us (.unit bu bm S.u us::L) NoF W w':=by
 obtain ⟨F',h1,hback⟩:=h.enter
 refine (sunit_any w h1).mono ?_
 rintro e w' ⟨bu,bm,us,rfl,hs,h2⟩
 exact ⟨bu,bm,us,rfl,hs,hback _ _ _ _ _ h2⟩
end SH
end Go.Proofs.YtaodldbgikiekaaGreatDoor

namespace Go.Proofs.YtaodldbgikiekaaGreatDoor
open Go.RowKit
namespace SL
open DK SH SQ
/-- a cluster's parts -/
def clB (c:Nat) (M:Cl) (P:ClP):List Asn:=clK c M P++(Asn.pool P.Z P.vs::P.Us.map (unA P.vs))
theorem clL_eq (c:Nat) (M:Cl) (P:ClP) (L:List Asn):clL c M P L=clB c M P++L:=by unfold clL clB;simp
/-- two clusters, with what lies ahead of them -/
def Two (Z:List Asn) (a:Nat) (Ma:Cl) (b:Nat) (Mb:Cl) (W w:World):Prop:=∃ Pa Pb,ClOK Ma Pa∧ClOK Mb Pb∧Sep W NoF (Z++(clB a Ma Pa++clB b Mb Pb)) w
theorem Two.toBelow {Z:List Asn} {a b:Nat} {Ma Mb:Cl} {W w:World} (h:Two Z a Ma b Mb W w):Below W.heap.size W w:=by
 obtain ⟨_,_,_,_,H⟩:=h
 exact H.toBelow
/-- the first of two clusters, by itself; and back -/
theorem Two.fst {Z:List Asn} {a b:Nat} {Ma Mb:Cl} {W w:World} (h:Two Z a Ma b Mb W w):∃ J Pb,ClAt a Ma J (Z++clB b Mb Pb) W w∧∀ Ma' w',ClAt a Ma' J (Z++clB b Mb Pb) W w'→Two Z a Ma' b Mb W w':=by
 obtain ⟨Pa,Pb,h1,h2,H⟩:=h
 have p:∀ X:List Asn,(Z++(X++clB b Mb Pb)).Perm (X++(Z++clB b Mb Pb)):=fun X=>by
  rw [←List.append_assoc,←List.append_assoc]
  exact List.perm_append_comm.append_right _
 refine ⟨Pa.J,Pb,⟨Pa,rfl,h1,by rw [clL_eq];exact H.perm (p _)⟩,fun Ma' w' h'=>?_⟩
 obtain ⟨P',_,h3,H'⟩:=h'
 rw [clL_eq] at H'
 exact ⟨P',Pb,h3,h2,H'.perm (p _).symm⟩
/-- an append to the first of two -/
theorem two_append {Z:List Asn} {a b:Nat} {Ma Mb:Cl} {W:World} (d:List UInt8) (da:Option Addr) (dc:Nat) (w:World) (hp:Pow W) (h:Two Z a Ma b Mb W w) (hok:Ma.ok) (hB:∀ {L:List Asn} (w':World),Sep W NoF (Z++L) w'→Bytes w' (.slice da d.length dc) d) :
  Calls Tryz.prog 42 #[ptrV a,.slice da d.length dc] w fun e w'=>e=.returned (.tuple #[.int .i64 (Ma.append d).2.1,errV (Ma.append d).1])∧Two Z a (Ma.append d).2.2 b Mb W w':=by
 obtain ⟨J,Pb,h1,hback⟩:=h.fst
 refine (append_any d da dc w hp h1 hok (fun M' w' h'=>hB w' h'.side)).mono ?_
 intro e w' hE
 obtain ⟨he,h2⟩:=hE
 exact ⟨he,hback _ _ h2⟩
/-- a new cluster beside nothing, and beside another one -/
theorem chs_one {w:World}:∃ w0:World,(w.alloc (.cells #[.int .i64 0] 3)).alloc (.cells #[.slice (some ⟨w.heap.size,0,none⟩) 1 1] 30)=w0∧Below w.heap.size w w0∧Chs w0 (some ⟨w.heap.size+1,0,none⟩) 1 [([0],some ⟨w.heap.size,0,none⟩,1)]:=by
 have g1:=(Sep.start w).allocAt w.heap.size [.int .i64 0] 3 rfl
 have g2:=g1.allocAt (w.heap.size+1) [.slice (some ⟨w.heap.size,0,none⟩) 1 1] 30 (by simp)
 exact ⟨_,rfl,g2.toBelow,slv_box g2 0 rfl,fun x hx=>by
  obtain rfl:=List.mem_singleton.1 hx
  exact slv_box g2 1 rfl⟩
end SL
end Go.Proofs.YtaodldbgikiekaaGreatDoor
