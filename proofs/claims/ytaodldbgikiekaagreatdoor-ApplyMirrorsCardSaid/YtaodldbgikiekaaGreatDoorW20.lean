/- Proved here: a part of the proof (20 of 35). -/
import Derived.Test.YtaodldbgikiekaaGreatDoorW18
import Derived.Test.YtaodldbgikiekaaGreatDoorW19
import Derived.Lib.IndexAny
set_option linter.unusedSimpArgs false
set_option linter.unusedVariables false
set_option maxRecDepth 20000
namespace Go.Proofs.YtaodldbgikiekaaGreatDoor
open Go.RowKit
namespace DK
def listDk (D:Dk):Nat×List Nm:=if D.down=true then (14,[]) else (0,namesOf D.shown)
def NamesR (r:Nat×List Nm) (w:World) (e:Ending) (w':World):Prop:=∃ a c,e=.returned (.tuple #[.slice a r.2.length c,errV r.1])∧w'.ownsRow w.heap.size 9 1 (.slice a r.2.length c) r.2.length (strVs r.2)∧Below w.heap.size w w'
set_option maxHeartbeats 1000000 in
theorem dlist_any {m N:Nat} {D:Dk} {G:Nat→Prop} (w:World) (h:(Asn.disk N D G).holds w) (ho:Ok m D) (hm:m≤1073741824):Calls Tryz.prog 161 #[ptrV N] w (NamesR (listDk D) w):=by
 obtain ⟨bs,bh,v,k,Ls,Lh,vs,hin⟩:=disk_in h
 have c2:=hin.c2
 have c5:=hin.c5
 have hl:=hin.lt
 have hln:Lh.length=(namesOf D.shown).length:=by rw [(namesOf_perm D.shown).length_eq,List.length_map];exact hin.fh.len
 have HS:=Zh (sortS_any bh Lh D.shown w hin.mh hin.fh.keys (fun p hp=>by
  obtain ⟨q,hq,hr⟩:=F2.mem_left hin.fh hp
  have h1:=(ho.shown.files q hq).1
  unfold named at h1
  simp only [Bool.and_eq_true,decide_eq_true_eq] at h1
  have h2:p.1=q.1:=hr.1
  have h3:=h1.1.2
  rw [h2];unfold maxLen;omega) (by have:=ho.fewS;have:=hin.fh.len;omega))
 rw [hln] at HS
 cases hd:D.down with
 | true =>
  have HF:=Zh (show listDk D=(14,[]) by unfold listDk;rw [if_pos hd])
  rw [hd] at c5
  clear hd hin h ho HS hln
  go_enter Tryz.func161, Tryz.ntmps161
  go_wp2_with (go_at_call 203;refine (looks_any N true _ c5 hl).mono ?_;rintro e w' ⟨rfl,rfl⟩)
  go_ret2
  rw [HF.out]
  exact ⟨none,0,rfl,own_nil _ _ _ _,Below.refl _ _⟩
 | false =>
  have HF:=Zh (show listDk D=(0,namesOf D.shown) by unfold listDk;rw [if_neg (by rw [hd];decide)])
  rw [hd] at c5
  clear hd hin h ho hln
  go_enter Tryz.func161, Tryz.ntmps161
  go_wp2_with (first | (go_at_call 203;refine (looks_any N false _ c5 hl).mono ?_;rintro e w' ⟨rfl,rfl⟩) | (go_at_call 205;refine (keyS_any _ _).mono ?_;rintro e w2 ⟨rfl,rfl⟩) | (go_at_call 204;refine HS.out.mono ?_;rintro e w3 ⟨v3,rfl,hrow,_,hb3⟩))
  go_ret2
  rw [HF.out]
  obtain ⟨a,c,rfl⟩:=own_shape hrow
  exact ⟨a,c,rfl,own_base hrow (by omega),((Below.refl w.heap.size w).alloc (Nat.le_refl _) _).trans (hb3.mono (by simp))⟩

theorem noTilde_is (n:Nm):decide (0≤Go.Lib.indexByte n.data.toList 126)=!noTilde n:=by
 rw [←Go.Lib.contains_iff_indexByte]
 unfold noTilde
 induction n.data.toList with
 | nil=>rfl
 | cons x l ih =>
  simp only [List.contains_cons,List.all_cons,ih]
  by_cases hx:x=126
  ·subst hx;simp
  ·have h1:((126:UInt8)==x)=false:=by rw [beq_eq_false_iff_ne];exact fun e=>hx e.symm
   have h2:(x != 126)=true:=by simpa using hx
   rw [h1,h2];simp
theorem begun_is (n:Nm):Go.Lib.hasPrefix n.data.toList [126]=begun n:=by
 unfold Go.Lib.hasPrefix begun
 cases n.data.toList with
 | nil=>rfl
 | cons x l =>
  simp only [List.isPrefixOf,List.head?_cons,Bool.and_true]
  by_cases hx:x=126
  ·subst hx;rfl
  ·have h1:((126:UInt8)==x)=false:=by rw [beq_eq_false_iff_ne];exact fun e=>hx e.symm
   rw [h1]
   symm
   rw [beq_eq_false_iff_ne]
   simpa using hx
set_option maxHeartbeats 1000000 in
theorem snamed_any (n:Nm) (w:World):Calls Tryz.prog 211 #[.string n] w fun e w'=>e=.returned (.bool (objNamed n))∧Below w.heap.size w w':=by
 by_cases h1:n.size≤20
 ·have g1:(n.size:Int)≤20:=by omega
  cases h2:named n with
  | false =>
   have HF:=Zh (show objNamed n=false by unfold objNamed;rw [h2];simp)
   clear h1
   go_enter Tryz.func211, Tryz.ntmps211
   go_wp2_with (go_at_call 208;refine (named_any n _).mono ?_;rintro e w1 ⟨rfl,hb⟩;rw [h2])
   go_ret
   exact ⟨by rw [HF.out];rfl,hb⟩
  | true =>
   have HF:=Zh (show objNamed n=noTilde n by unfold objNamed;rw [h2];simp [h1])
   clear h1
   go_enter Tryz.func211, Tryz.ntmps211
   go_wp2_with (first | (go_at_call 208;refine (named_any n _).mono ?_;rintro e w1 ⟨rfl,hb⟩;rw [h2]) | (go_at_call 243;refine (contains1_any n 126 _).mono ?_;rintro e w2 ⟨rfl,rfl⟩;rw [noTilde_is]))
   go_ret
   exact ⟨by rw [HF.out];simp,hb⟩
 ·have HF:=Zh (show objNamed n=false by unfold objNamed;simp [h1])
  have g1:¬(n.size:Int)≤20:=by omega
  clear h1
  go_enter Tryz.func211, Tryz.ntmps211
  go_wp2
  go_ret
  exact ⟨by rw [HF.out];rfl,Below.refl _ _⟩
/-- a store's box, apart from its disk -/
structure StoAt (p N:Nat) (G:Nat→Prop) (w:World):Prop where
 c0:w.cell? ⟨p,0,none⟩=some (ptrV N)
 lt:p<w.heap.size
 off:¬G p
theorem StoAt.after {p N:Nat} {G G1:Nat→Prop} {w w1:World} {L:List Asn} {D:Dk} (h:StoAt p N G w) (hk:Sep w G (Asn.disk N D G1::L) w1):StoAt p N G1 w1 :=
 ⟨hk.fr.cell h.c0 h.off,Nat.lt_of_lt_of_le h.lt hk.fr.size,fun hg=>(hk.new _ List.mem_cons_self p hg).elim (fun hh=>by have:=h.lt;omega) h.off⟩
theorem StoAt.below {p N:Nat} {G:Nat→Prop} {w w1:World} (h:StoAt p N G w) (hb:Below w.heap.size w w1):StoAt p N G w1 :=
 ⟨(hb.cell (p:=⟨p,0,none⟩) h.lt).trans h.c0,Nat.lt_of_lt_of_le h.lt hb.size,h.off⟩
theorem asks_any7 (p:Nat) (n:Nm) (w:World):Calls Tryz.prog 178 #[ptrV p,.string n] w fun e w'=>e=.returned (errV (if objNamed n=true then 0 else 2))∧Below w.heap.size w w':=by
 cases h:objNamed n with
 | true =>
  go_enter Tryz.func178, Tryz.ntmps178
  go_wp2_with (go_at_call 211;refine (snamed_any n _).mono ?_;rintro e w1 ⟨rfl,hb⟩;rw [h])
  go_ret
  exact ⟨rfl,hb⟩
 | false =>
  go_enter Tryz.func178, Tryz.ntmps178
  go_wp2_with (go_at_call 211;refine (snamed_any n _).mono ?_;rintro e w1 ⟨rfl,hb⟩;rw [h])
  go_ret
  exact ⟨rfl,hb⟩
set_option maxHeartbeats 1000000 in
theorem get_any7 {m p N:Nat} {D:Dk} {G:Nat→Prop} (n:Nm) (w:World) (h:(Asn.disk N D G).holds w) (hs:StoAt p N G w) (ho:Ok m D):Calls Tryz.prog 167 #[ptrV p,.string n] w (ReadDR (getD D n) w):=by
 have HH:=Lib.hid' h
 cases hn:objNamed n with
 | false =>
  have HF:=Zh (show getD D n=(2,[]) by unfold getD;rw [if_pos hn])
  have HA:=Zh (asks_any7 p n w)
  rw [if_neg (by rw [hn];decide)] at HA
  clear hs h ho
  go_enter Tryz.func167, Tryz.ntmps167
  go_wp2_with (go_at_call 178;refine HA.out.mono ?_;rintro e w1 ⟨rfl,hb⟩)
  go_ret2
  rw [HF.out]
  exact ⟨none,0,rfl,own_nil _ _ _ _,hb⟩
 | true =>
  have HF:=Zh (show getD D n=readD D n by unfold getD;rw [if_neg (by rw [hn];decide)])
  have HA:=Zh (asks_any7 p n w)
  rw [if_pos hn] at HA
  have HO:=Lib.hid' ho
  have HSt:=Lib.hid' hs
  clear hs h ho
  go_enter Tryz.func167, Tryz.ntmps167
  go_upto_region 2 with (go_at_call 178;refine HA.out.mono ?_;rintro e w1 ⟨rfl,hb⟩;rw [errV_0])
  have hs1:=HSt.out.below hb
  have c0:=hs1.c0
  have hl:=hs1.lt
  have HD1:=Zh ((Sep.idle HH.out).below hb)
  go_wp2_with (go_at_call 215;refine (dread_any n _ (HD1.out.at 0 rfl) HO.out).mono ?_;rintro e w2 ⟨a,c,rfl,hrow,hb2⟩)
  go_ret2
  rw [HF.out]
  exact ⟨a,c,rfl,own_base hrow hb.size,hb.trans (hb2.mono hb.size)⟩
theorem pend_write (D:Dk) (n:Nm) (d:List UInt8):(writeD D n d).2.pend.length≤D.pend.length+1:=by
 have h:=congrArg List.length (pend_works D)
 unfold writeD
 simp only
 repeat' split
 all_goals first | (simp only [addD,List.length_append,List.length_singleton];omega) | omega
theorem pend_sync (D:Dk):(syncD D).2.pend.length≤D.pend.length:=by
 have h:=congrArg List.length (pend_works D)
 unfold syncD
 simp only
 split
 ·omega
 ·simp
theorem pend_remove (D:Dk) (n:Nm):(removeD D n).2.pend.length≤D.pend.length+1:=by
 have h:=congrArg List.length (pend_works D)
 unfold removeD
 simp only
 repeat' split
 all_goals first | (simp only [addD,List.length_append,List.length_singleton];omega) | omega
set_option maxHeartbeats 4000000 in
theorem put_any7 {m p N:Nat} {D:Dk} {G:Nat→Prop} (n:Nm) (a:Option Addr) (c:Nat) (d:List UInt8) (w:World) (h:(Asn.disk N D G).holds w) (hs:StoAt p N G w) (ho:Ok m D) (hm:m≤1073741824) (hp:D.pend.length≤1073741000) (hd:Bytes w (.slice a d.length c) d) (hout:SlIn (fun k=>¬G k) (.slice a d.length c)) :
  Calls Tryz.prog 121 #[ptrV p,.string n,.slice a d.length c] w (DiskR N G (putD D n d).2 (errV (putD D n d).1) w):=by
 have HH:=Lib.hid' h
 have HA:=Zh (asks_any7 p n w)
 cases hn:objNamed n with
 | false =>
  have HF:=Zh (show putD D n d=(2,D) by unfold putD;rw [if_pos hn])
  rw [if_neg (by rw [hn];decide)] at HA
  clear hs h ho hd hout
  go_enter Tryz.func121, Tryz.ntmps121
  go_wp2_with (go_at_call 178;refine HA.out.mono ?_;rintro e w1 ⟨rfl,hb⟩)
  go_ret
  rw [HF.out]
  exact DiskR.idle HH.out hb
 | true =>
  have hsz:¬9223372036854775807<1+n.size:=by
   unfold objNamed at hn
   simp only [Bool.and_eq_true,decide_eq_true_eq] at hn
   omega
  rw [if_pos hn] at HA
  have HSt:=Lib.hid' hs
  have HF0:=Zh (show putD D n d=(if (writeD D (tilde++n) d).1≠0 then writeD D (tilde++n) d else
   if (syncD (writeD D (tilde++n) d).2).1≠0 then syncD (writeD D (tilde++n) d).2 else
   if (renameD (syncD (writeD D (tilde++n) d).2).2 (tilde++n) n).1≠0 then renameD (syncD (writeD D (tilde++n) d).2).2 (tilde++n) n else
   syncD (renameD (syncD (writeD D (tilde++n) d).2).2 (tilde++n) n).2) by unfold putD;rw [if_neg (by rw [hn];decide)])
  have ho1:=ho.write (tilde++n) d
  have ho2:=ho1.sync
  have ho3:=ho2.rename (tilde++n) n
  have hp1:=pend_write D (tilde++n) d
  have hp2:=pend_sync (writeD D (tilde++n) d).2
  have HWR:=Zh (fun (wq:World) (hb:Below w.heap.size w wq)=>write_any6 (tilde++n) a c d wq (((Sep.idle HH.out).below hb).at 0 rfl) ho hm (by omega) (SlV.below hd (Nat.le_refl _) hb) hout)
  clear hs h ho hd hout
  go_enter Tryz.func121, Tryz.ntmps121
  go_upto_region 2 with (go_at_call 178;refine HA.out.mono ?_;rintro e w1 ⟨rfl,hb⟩;rw [errV_0])
  have hs1:=HSt.out.below hb
  have HD1:=Zh ((Sep.idle HH.out).below hb)
  have HWR1:=Zh (HWR.out w1 hb)
  have c0:=hs1.c0
  have hl:=hs1.lt
  clear HWR HA hb
  generalize writeD D (tilde++n) d=r1 at *
  obtain ⟨e1,D1⟩:=r1
  simp only at ho1 ho2 ho3 hp1 hp2 HF0 HWR1
  by_cases h1:e1=0
  rotate_left
  ·have HF:=Zh (show putD D n d=(e1,D1) by rw [HF0.out,if_pos h1])
   have H1:=Lib.hid' h1
   clear h1 ho1 ho2 ho3 HF0
   go_wp2_with (go_at_call 179;refine HWR1.out.mono ?_;rintro e w2 ⟨rfl,G2,hk2⟩;rw [errV_pos H1.out])
   go_ret
   rw [HF.out]
   simp only [errV_pos H1.out]
   exact ⟨rfl,G2,HD1.out.call hk2⟩
  subst h1
  go_upto_region 5 with (go_at_call 179;refine HWR1.out.mono ?_;rintro e w2 ⟨rfl,G2,hk2⟩;rw [errV_0])
  have hs2:=hs1.after hk2
  have HSY:=Zh (sync_any w2 (hk2.at 0 rfl) ho1)
  have HD2:=Zh (HD1.out.call hk2)
  clear c0 hl HWR1 hk2
  have c0:=hs2.c0
  have hl:=hs2.lt
  generalize syncD D1=r2 at *
  obtain ⟨e2,D2⟩:=r2
  simp only at ho2 ho3 hp2 HF0 HSY
  by_cases h2:e2=0
  rotate_left
  ·have HF:=Zh (show putD D n d=(e2,D2) by rw [HF0.out,if_neg (by simp),if_pos h2])
   have H2:=Lib.hid' h2
   clear h2 ho1 ho2 ho3 HF0
   go_wp2_with (go_at_call 164;refine HSY.out.mono ?_;rintro e w3 ⟨rfl,G3,hk3⟩;rw [errV_pos H2.out])
   go_ret
   rw [HF.out]
   simp only [errV_pos H2.out]
   exact ⟨rfl,G3,HD2.out.call hk3⟩
  subst h2
  go_upto_region 8 with (go_at_call 164;refine HSY.out.mono ?_;rintro e w3 ⟨rfl,G3,hk3⟩;rw [errV_0])
  have hs3:=hs2.after hk3
  have HRN:=Zh (rename_any (tilde++n) n w3 (hk3.at 0 rfl) ho2 (by omega))
  have HD3:=Zh (HD2.out.call hk3)
  clear c0 hl HSY hk3
  have c0:=hs3.c0
  have hl:=hs3.lt
  generalize renameD D2 (tilde++n) n=r3 at *
  obtain ⟨e3,D3⟩:=r3
  simp only at ho3 HF0 HRN
  by_cases h3:e3=0
  rotate_left
  ·have HF:=Zh (show putD D n d=(e3,D3) by rw [HF0.out,if_neg (by simp),if_neg (by simp),if_pos h3])
   have H3:=Lib.hid' h3
   clear h3 ho1 ho2 ho3 HF0
   go_wp2_with (go_at_call 180;refine HRN.out.mono ?_;rintro e w4 ⟨rfl,G4,hk4⟩;rw [errV_pos H3.out])
   go_ret
   rw [HF.out]
   simp only [errV_pos H3.out]
   exact ⟨rfl,G4,HD3.out.call hk4⟩
  subst h3
  have HF:=Zh (show putD D n d=syncD D3 by rw [HF0.out,if_neg (by simp),if_neg (by simp),if_neg (by simp)])
  go_upto_region 11 with (go_at_call 180;refine HRN.out.mono ?_;rintro e w4 ⟨rfl,G4,hk4⟩;rw [errV_0])
  have hs4:=hs3.after hk4
  have HSY:=Zh (sync_any w4 (hk4.at 0 rfl) ho3)
  have HD4:=Zh (HD3.out.call hk4)
  clear c0 hl HRN hk4 ho1 ho2 ho3 HF0
  have c0:=hs4.c0
  have hl:=hs4.lt
  go_wp2_with (go_at_call 164;refine HSY.out.mono ?_;rintro e w5 ⟨rfl,hk5⟩)
  go_ret
  rw [HF.out]
  exact ⟨rfl,DiskR.then HD4.out hk5⟩
theorem etStr:ElemT Tryz.prog 242 9 1 16:=ElemT.mk' (z:=.string ⟨#[]⟩) Tryz.underlying242 (by kernel_rfl) rfl (by decide) (by decide)
theorem strs_flat:∀ l:List Nm,l.flatMap (fun b=>[Value.string b])=strVs l
 | []=>rfl
 | b::ks=>by
  have ih:=strs_flat ks
  rw [List.flatMap_cons,ih];rfl
theorem str_at {w:World} {e n:Nat} {v:Value} {l:List Nm} (h:w.ownsRow 0 e 1 v n (strVs l)) (hn:n=l.length) {k:Nat} (hk:k<l.length) :
  ∃ b off cap,v=.slice (some ⟨b,off,none⟩) n cap∧b<w.heap.size∧w.cell? ⟨b,off+k,none⟩=some (.string l[k]):=by
 obtain ⟨a,c,rfl⟩:=own_shape h
 have h2:SlV w (.slice a n c) n (l.flatMap (fun b=>[Value.string b])):=by rw [strs_flat];exact SlV.of_own h
 obtain ⟨b,off,he,hb,hc⟩:=SlV.row (f:=fun b:Nm=>[Value.string b]) (s:=1) (fun _=>rfl) (by decide) h2 hk
 refine ⟨b,off,c,by rw [he],hb,?_⟩
 have:=hc 0 _ rfl
 rwa [Nat.mul_one,Nat.add_zero] at this
theorem listN_succ (l:List Nm) (b:Nm) {k:Nat} (h:k<l.length):listN (l.take (k+1)) b=listN (l.take k) b++(if (objNamed l[k]&&begins b l[k])=true then [l[k]] else []):=by
 unfold listN
 rw [List.take_add_one,List.getElem?_eq_getElem h,List.filter_append]
 simp only [Option.toList_some]
 congr 1
 by_cases hb:(objNamed l[k]&&begins b l[k])=true
 ·rw [if_pos hb,List.filter_cons_of_pos (p:=fun n=>objNamed n&&begins b n) hb];rfl
 ·rw [if_neg hb,List.filter_cons_of_neg (p:=fun n=>objNamed n&&begins b n) hb];rfl
theorem listN_len (l:List Nm) (b:Nm) (k:Nat):(listN (l.take k) b).length≤l.length:=by
 unfold listN
 have h1:=List.length_filter_le (fun n=>objNamed n&&begins b n) (l.take k)
 have h2:=List.length_take_le k l
 rw [List.length_take] at h1;omega
def slistD (D:Dk) (b:Nm):Nat×List Nm:=if D.down=true then (14,[]) else (0,listN (namesOf D.shown) b)
theorem names_len {m:Nat} {D:Dk} (ho:Ok m D):(namesOf D.shown).length≤m:=by rw [(namesOf_perm D.shown).length_eq,List.length_map];exact ho.fewS
set_option maxHeartbeats 4000000 in
theorem slist_any {m p N:Nat} {D:Dk} {G:Nat→Prop} (b:Nm) (w:World) (h:(Asn.disk N D G).holds w) (hs:StoAt p N G w) (ho:Ok m D) (hm:m≤1073741824):Calls Tryz.prog 165 #[ptrV p,.string b] w (NamesR (slistD D b) w):=by
 have HL:=Zh (dlist_any w h ho hm)
 have hnl:=names_len ho
 have c0:=hs.c0
 have hl:=hs.lt
 clear h hs ho
 cases hd:D.down with
 | true =>
  have HF:=Zh (show slistD D b=(14,[]) by unfold slistD;rw [if_pos hd])
  have HG:=Zh (show listDk D=(14,[]) by unfold listDk;rw [if_pos hd])
  rw [HG.out] at HL
  clear hd
  go_enter Tryz.func165, Tryz.ntmps165
  go_wp2_with (go_at_call 161;refine HL.out.mono ?_;rintro e w1 ⟨a,c,rfl,hrow,hb⟩)
  go_ret2
  rw [HF.out]
  exact ⟨none,0,rfl,own_nil _ _ _ _,hb⟩
 | false =>
  have HG:=Zh (show listDk D=(0,namesOf D.shown) by unfold listDk;rw [if_neg (by rw [hd];decide)])
  have HF:=Zh (show slistD D b=(0,listN (namesOf D.shown) b) by unfold slistD;rw [if_neg (by rw [hd];decide)])
  rw [HG.out] at HL
  clear hd HG
  generalize namesOf D.shown=l at *
  go_enter Tryz.func165, Tryz.ntmps165
  go_upto_region 4 with (go_at_call 161;refine HL.out.mono ?_;rintro e w1 ⟨a,c,rfl,hrow,hb⟩)
  have H1:=((Sep.start w).belowRow hb hrow).nilRow 9 1
  have H:=Lib.hid' H1
  clear H1 hrow hb c0 hl HL
  have hl30:l.length≤1073741824:=by omega
  clear hnl
  go_wp2_with fail
  go_loopw [27,8] (fun v27 v8 wr=>∃ (k:Nat) (oa:Option Addr) (oc:Nat),v27=.int .i64 (k:Nat)∧v8=.slice oa (listN (l.take k) b).length oc∧k≤l.length∧Hid (Sep w NoF [.row 9 1 (.slice oa (listN (l.take k) b).length oc) (listN (l.take k) b).length (strVs (listN (l.take k) b)),.row 9 1 (.slice a l.length c) l.length (strVs l)] wr)) (fun v27 _ _=>l.length - (intOf v27).toNat)
  case atStart=>exact ⟨0,none,0,rfl,rfl,Nat.zero_le _,H⟩
  case round =>
   clear H
   obtain ⟨k,oa,oc,rfl,rfl,hk,HS⟩:=hrel
   by_cases hlt:k<l.length
   ·have hlt':(k:Int)<(l.length:Int):=by omega
    have H0:=HS.out
    obtain ⟨bb,off,cap,he,hbb,d0⟩:=str_at (H0.row 1 rfl) rfl hlt
    simp only [Value.slice.injEq,true_and] at he
    obtain ⟨rfl,rfl⟩:=he
    have HSU:=Zh (listN_succ l b hlt)
    have hfl:=listN_len l b k
    clear HS
    obtain ⟨F,hF⟩:∃ F,listN (l.take k) b=F:=⟨_,rfl⟩
    rw [hF] at hfl H0 HSU ⊢
    have HFk:=Lib.hid' hF
    have HX:=Lib.hid' H0
    clear hF H0
    obtain ⟨z,hz⟩:∃ z,l[k]=z:=⟨_,rfl⟩
    rw [hz] at d0 HSU
    clear hz
    cases hn:objNamed z with
    | false =>
     rw [hn] at HSU
     have HF2:=Zh (show listN (l.take (k+1)) b=F by rw [HSU.out];simp)
     go_wp2_with (go_at_call 211;refine (snamed_any z _).mono ?_;rintro e w2 ⟨rfl,hb2⟩;rw [hn])
     go_roundw
     case rel=>exact ⟨k+1,oa,oc,by go_num,by rw [HF2.out],by omega,Zh (by rw [HF2.out];exact HX.out.below hb2)⟩
     case measure=>simp [intOf];omega
    | true =>
     cases hg:begins b z with
     | false =>
      rw [hn,hg] at HSU
      have HF2:=Zh (show listN (l.take (k+1)) b=F by rw [HSU.out];simp)
      have HPX:=Zh (show ∀ w:World,Calls Tryz.prog 162 #[.string z,.string b] w fun e w'=>e=.returned (.bool false)∧w'=w from fun w=>by have:=hasPrefix_any z b w;rwa [show Go.Lib.hasPrefix z.data.toList b.data.toList=false from hg] at this)
      go_wp2_with (first | (go_at_call 211;refine (snamed_any z _).mono ?_;rintro e w2 ⟨rfl,hb2⟩;rw [hn]) | (go_at_call 162;refine (HPX.out _).mono ?_;rintro e w3 ⟨rfl,rfl⟩))
      go_roundw
      case rel=>exact ⟨k+1,oa,oc,by go_num,by rw [HF2.out],by omega,Zh (by rw [HF2.out];exact HX.out.below hb2)⟩
      case measure=>simp [intOf];omega
     | true =>
      rw [hn,hg] at HSU
      have HF2:=Zh (show listN (l.take (k+1)) b=F++[z] by rw [HSU.out];rfl)
      have HPX:=Zh (show ∀ w:World,Calls Tryz.prog 162 #[.string z,.string b] w fun e w'=>e=.returned (.bool true)∧w'=w from fun w=>by have:=hasPrefix_any z b w;rwa [show Go.Lib.hasPrefix z.data.toList b.data.toList=true from hg] at this)
      go_wp2_with (first | (go_at_call 211;refine (snamed_any z _).mono ?_;rintro e w2 ⟨rfl,hb2⟩;rw [hn];have HX2:=HX.out.below hb2) | (go_at_call 162;refine (HPX.out _).mono ?_;rintro e w3 ⟨rfl,rfl⟩) | (at_builtin;refine Sep.append etStr rfl (.tmp 38) (.tmp 40) rfl [.string z] rfl HX2 0 rfl rfl rfl (by simp [Value.oneCell']) (by omega) ?_;intro aq cq wq HA))
      go_roundw
      case rel=>exact ⟨k+1,aq,cq,by go_num,by rw [HF2.out,List.length_append];rfl,by omega,Zh (by rw [HF2.out];have:=HA;unfold strVs at this ⊢;rw [List.map_append,List.length_append];exact this)⟩
      case measure=>simp [intOf];omega
   ·obtain rfl:k=l.length:=by omega
    have H0:=HS.out
    rw [List.take_length] at H0
    have HX:=Lib.hid' H0
    clear HS H0
    rw [List.take_length]
    go_wp2_with fail
    go_ret2
    rw [HF.out]
    exact ⟨oa,oc,rfl,HX.out.own 0 rfl,HX.out.toBelow⟩
theorem sweep_skip {z:Nm} {l:List Nm} {s:Bool} {E:Dk} (h:begun z=false):sweepD (z::l) s E=sweepD l s E:=by rw [sweepD,if_pos h]
theorem sweep_take {z:Nm} {l:List Nm} {s:Bool} {E:Dk} (h:¬begun z=false) (h1:(removeD E z).1=0):sweepD (z::l) s E=sweepD l true (removeD E z).2:=by rw [sweepD,if_neg h,if_neg (by omega)]
theorem sweep_bad {z:Nm} {l:List Nm} {s:Bool} {E:Dk} (h:¬begun z=false) (h1:¬(removeD E z).1=0):sweepD (z::l) s E=((removeD E z).1,s,(removeD E z).2):=by rw [sweepD,if_neg h,if_pos h1]
/-- the store of a disk is opened -/
def SOpenR (N:Nat) (G:Nat→Prop) (r:Nat×Dk) (w:World) (e:Ending) (w':World):Prop :=
 (r.1≠0∧e=.returned (.tuple #[.pointer none,errV r.1])∧∃ G',Sep w G [Asn.disk N r.2 G'] w') ∨
 (r.1=0∧∃ p G',e=.returned (.tuple #[ptrV p,.nilIface])∧Sep w G [.box p [ptrV N] 248,Asn.disk N r.2 G'] w')
set_option maxHeartbeats 8000000 in
theorem sopen_any {m N:Nat} {D:Dk} {G:Nat→Prop} (w:World) (h:(Asn.disk N D G).holds w) (ho:Ok m D) (hm:m≤536870912) (hp:D.pend.length≤536870912):Calls Tryz.prog 114 #[ptrV N] w (SOpenR N G (openD (namesOf D.shown) D) w):=by
 have HL:=Zh (dlist_any w h ho (by omega))
 have HH:=Lib.hid' h
 have hnl:=names_len ho
 clear h
 cases hd:D.down with
 | true =>
  have HF:=Zh (show openD (namesOf D.shown) D=(14,D) by unfold openD;rw [if_pos hd])
  have HG:=Zh (show listDk D=(14,[]) by unfold listDk;rw [if_pos hd])
  rw [HG.out] at HL
  clear hd
  go_enter Tryz.func114, Tryz.ntmps114
  go_wp2_with (go_at_call 161;refine HL.out.mono ?_;rintro e w1 ⟨a,c,rfl,hrow,hb⟩)
  go_ret2
  rw [HF.out]
  exact .inl ⟨by simp,rfl,G,(Sep.idle HH.out).below hb⟩
 | false =>
  have HG:=Zh (show listDk D=(0,namesOf D.shown) by unfold listDk;rw [if_neg (by rw [hd];decide)])
  have HF:=Zh (show openD (namesOf D.shown) D=(if (sweepD (namesOf D.shown) false D).1≠0 then ((sweepD (namesOf D.shown) false D).1,(sweepD (namesOf D.shown) false D).2.2) else if (sweepD (namesOf D.shown) false D).2.1=true then syncD (sweepD (namesOf D.shown) false D).2.2 else (0,(sweepD (namesOf D.shown) false D).2.2)) by unfold openD;rw [if_neg (by rw [hd];decide)])
  rw [HG.out] at HL
  clear hd HG
  generalize namesOf D.shown=l at *
  go_enter Tryz.func114, Tryz.ntmps114
  go_upto_region 4 with (go_at_call 161;refine HL.out.mono ?_;rintro e w1 ⟨a,c,rfl,hrow,hb⟩;simp only [errV_0])
  have H:=Zh (((Sep.idle HH.out).belowRow hb hrow).swap1)
  clear hrow hb HL HH
  have hl30:l.length≤536870912:=by omega
  clear hnl
  go_wp2_with fail
  go_loopw [24,6] (fun v24 v6 wr=>∃ (k:Nat) (s:Bool) (Dk':Dk) (Gk:Nat→Prop),v24=.int .i64 (k:Nat)∧v6=.bool s∧k≤l.length∧Hid (sweepD (l.drop k) s Dk'=sweepD l false D)∧Hid (Ok m Dk'∧Dk'.pend.length≤D.pend.length+k)∧Hid (Sep w G [Asn.disk N Dk' Gk,.row 9 1 (.slice a l.length c) l.length (strVs l)] wr)) (fun v24 _ _=>l.length - (intOf v24).toNat)
  case atStart=>exact ⟨0,false,D,G,rfl,rfl,Nat.zero_le _,Lib.hid' rfl,Lib.hid' ⟨ho,Nat.le_refl _⟩,H⟩
  case round =>
   clear H ho
   obtain ⟨k,s,E,Gk,rfl,rfl,hk,HSW,HOK,HS⟩:=hrel
   by_cases hlt:k<l.length
   ·have hlt':(k:Int)<(l.length:Int):=by omega
    have H0:=HS.out
    obtain ⟨bb,off,cap,he,hbb,d0⟩:=str_at (H0.row 1 rfl) rfl hlt
    simp only [Value.slice.injEq,true_and] at he
    obtain ⟨rfl,rfl⟩:=he
    have hsw:=HSW.out
    rw [List.drop_eq_getElem_cons hlt] at hsw
    have hpe:=HOK.out.2
    have HRM:=Zh (remove_any l[k] wr (H0.at 0 rfl) HOK.out.1 (by omega))
    have HO2:=Zh (HOK.out.1.remove l[k])
    have HPE:=Zh (pend_remove E l[k])
    clear H0 HSW
    generalize l[k]=z at *
    cases hg:begun z with
    | false =>
     have HSW2:=Zh (show sweepD (l.drop (k+1)) s E=sweepD l false D by rw [←hsw,sweep_skip hg])
     have HPX:=Zh (show ∀ w:World,Calls Tryz.prog 162 #[.string z,.string ⟨#[126]⟩] w fun e w'=>e=.returned (.bool false)∧w'=w from fun w=>by have:=hasPrefix_any z ⟨#[126]⟩ w;rwa [show Go.Lib.hasPrefix z.data.toList [126]=false from (begun_is z).trans hg] at this)
     clear hsw
     go_wp2_with (go_at_call 162;refine (HPX.out _).mono ?_;rintro e w3 ⟨rfl,rfl⟩)
     go_roundw
     case rel=>exact ⟨k+1,s,E,Gk,by go_num,rfl,by omega,HSW2,Lib.hid' ⟨HOK.out.1,by omega⟩,HS⟩
     case measure=>simp [intOf];omega
    | true =>
     have HPX:=Zh (show ∀ w:World,Calls Tryz.prog 162 #[.string z,.string ⟨#[126]⟩] w fun e w'=>e=.returned (.bool true)∧w'=w from fun w=>by have:=hasPrefix_any z ⟨#[126]⟩ w;rwa [show Go.Lib.hasPrefix z.data.toList [126]=true from (begun_is z).trans hg] at this)
     have hgn:¬begun z=false:=by rw [hg];decide
     by_cases h1:(removeD E z).1=0
     ·have HSW2:=Zh (show sweepD (l.drop (k+1)) true (removeD E z).2=sweepD l false D by rw [←hsw,sweep_take hgn h1])
      have H1:=Lib.hid' h1
      clear hsw h1 hgn
      go_wp2_with (first | (go_at_call 162;refine (HPX.out _).mono ?_;rintro e w3 ⟨rfl,rfl⟩) | (go_at_call 163;refine HRM.out.mono ?_;rintro e w4 ⟨rfl,G4,hk4⟩;rw [H1.out,errV_0]))
      go_roundw
      case rel=>exact ⟨k+1,true,(removeD E z).2,G4,by go_num,rfl,by omega,HSW2,Lib.hid' ⟨HO2.out,by have:=HPE.out;omega⟩,Zh (HS.out.call hk4)⟩
      case measure=>simp [intOf];omega
     ·have HSW2:=Zh (show sweepD l false D=((removeD E z).1,s,(removeD E z).2) by rw [←hsw,sweep_bad hgn h1])
      have H1:=Lib.hid' h1
      clear hsw h1 hgn
      go_wp2_with (first | (go_at_call 162;refine (HPX.out _).mono ?_;rintro e w3 ⟨rfl,rfl⟩) | (go_at_call 163;refine HRM.out.mono ?_;rintro e w4 ⟨rfl,G4,hk4⟩;rw [errV_pos H1.out]))
      go_ret2
      rw [HF.out,HSW2.out,if_pos H1.out]
      exact .inl ⟨H1.out,by rw [errV_pos H1.out];rfl,G4,(HS.out.call hk4).keepOnly (by simp)⟩
   ·obtain rfl:k=l.length:=by omega
    have HE:=Zh (show sweepD l false D=(0,s,E) by have:=HSW.out;rw [List.drop_length] at this;exact this.symm)
    have HS2:=Zh ((HS.out).drop 1)
    clear HSW HS hlt hk
    cases s with
    | false =>
     go_wp2_with fail
     go_ret2
     rw [HF.out,HE.out,if_neg (by simp),if_neg (by simp)]
     exact .inr ⟨rfl,_,Gk,rfl,HS2.out.alloc [ptrV N] 248⟩
    | true =>
     have HSY:=Zh (sync_any wr (HS2.out.at 0 rfl) HOK.out.1)
     have HF2:=Zh (show openD l D=syncD E by rw [HF.out,HE.out,if_neg (by simp),if_pos rfl])
     by_cases h1:(syncD E).1=0
     ·have H1:=Lib.hid' h1
      clear h1
      go_wp2_with (go_at_call 164;refine HSY.out.mono ?_;rintro e w4 ⟨rfl,G4,hk4⟩;rw [H1.out,errV_0])
      go_ret2
      rw [HF2.out]
      exact .inr ⟨H1.out,_,G4,rfl,(HS2.out.call hk4).alloc [ptrV N] 248⟩
     ·have H1:=Lib.hid' h1
      clear h1
      go_wp2_with (go_at_call 164;refine HSY.out.mono ?_;rintro e w4 ⟨rfl,G4,hk4⟩;rw [errV_pos H1.out])
      go_ret2
      rw [HF2.out]
      exact .inl ⟨H1.out,by rw [errV_pos H1.out];rfl,G4,HS2.out.call hk4⟩
end DK
end Go.Proofs.YtaodldbgikiekaaGreatDoor
