/- Proved here: a part of the proof (13 of 35). -/
import Derived.Test.YtaodldbgikiekaaGreatDoorW10
import Derived.Test.YtaodldbgikiekaaGreatDoorW11
import Derived.Test.YtaodldbgikiekaaGreatDoorW1
import Derived.Laws.StructEq
import Derived.Test.YtaodldbgikiekaaGreatDoorW12
import Derived.Lib.ConvBytes
import Derived.Lib.AtoiErrMem
set_option linter.unusedSimpArgs false
set_option linter.unusedVariables false
set_option maxRecDepth 100000
namespace Go.Proofs.YtaodldbgikiekaaGreatDoor
open Go.RowKit

def apU (u:U) (x:Ac):Nat×Int×U :=
 if x.check≠0 then (x.check,0,u) else if x.k=1 then u.sealE x.e else if x.k=2 then ((u.write x.e x.a x.d).1,0,(u.write x.e x.a x.d).2)
 else if x.k=3 then ((u.fill x.e x.a).1,0,(u.fill x.e x.a).2) else if x.k=4 then ((u.trim x.e x.a).1,0,(u.trim x.e x.a).2) else u.cut x.e x.a
theorem apU_ok {u:U} (h:u.ok) (x:Ac):(apU u x).2.2.ok:=by
 unfold apU
 split;· exact h
 split;· exact U.ok_sealE h _
 split;· exact U.ok_write h _ _ _
 split;· exact U.ok_fill h _ _
 split;· exact U.ok_trim h _ _
 exact U.ok_cut h _ _
set_option maxHeartbeats 8000000 in
theorem rapply_any {A:Nat→Prop} {bu bm:Nat} {u:U} (x:Ac) (a:Option Addr) (c:Nat) (w:World) (h:UnitAt A w bu bm u) (hA:∀ k,A k→k<w.heap.size) (hlen:u.cells.length≤1048576) (hB:Bytes w (.slice a x.d.length c) x.d) :
  Calls Tryz.prog 119 #[.pointer (some ⟨bu,0,none⟩),ac9V x a c] w (UnitR (.tuple #[.int .i64 (apU u x).2.1,errV (apU u x).1]) A bu bm (apU u x).2.2 w):=by
 have HU:=Lib.hid' h
 have HB:=Lib.hid' hB
 have HA:=Lib.hid' hA
 have hl:=bytes_len hB
 have HCK:=Zh (fun wq=>rcheck9_any x a c hl wq)
 obtain ⟨p,hp⟩:∃ p,p=apU u x:=⟨_,rfl⟩
 rw [←hp]
 unfold apU at hp
 have HAP:=Lib.hid' hp
 clear hp
 have hOK:=@Ac.check_ok x
 obtain ⟨ck,hck⟩:∃ ck,ck=x.check:=⟨_,rfl⟩
 rw [←hck] at HCK HAP hOK
 clear hck h hB hA
 unfold ac9V at HCK ⊢
 by_cases h0:ck=0
 rotate_left
 ·skip
  have HV:=Zh (HAP.out.trans (if_pos h0))
  rw [HV.out]
  clear HV HAP hOK
  have HE:=Zh (errV_pos h0)
  go_enter Tryz.func119, Tryz.ntmps119
  go_wp2_with fail
  have H0:Sep w NoF [] w:=Sep.start _
  have H1:Sep w NoF [.box (w.heap.size) [.int .i64 x.k,.int .i64 x.e,.int .i64 x.a,.slice a x.d.length c] 154] ((w.alloc (.cells #[.int .i64 x.k,.int .i64 x.e,.int .i64 x.a,.slice a x.d.length c] 154))):=(H0.allocAt (w.heap.size) [.int .i64 x.k,.int .i64 x.e,.int .i64 x.a,.slice a x.d.length c] 154 (by simp))
  clear H0
  generalize (w.alloc (.cells #[.int .i64 x.k,.int .i64 x.e,.int .i64 x.a,.slice a x.d.length c] 154))=w1 at *
  go_wp2_with fail
  refine (HCK.out w1).mono ?_
  rintro e w2 ⟨rfl,hb2⟩
  have H2:Sep w NoF [.box (w.heap.size) [.int .i64 x.k,.int .i64 x.e,.int .i64 x.a,.slice a x.d.length c] 154] (w2):=(H1.below hb2)
  clear H1 hb2
  have HU2:=Zh (HU.out.below (Nat.le_refl _) H2.toBelow)
  have hA2:∀ k,A k→k<w2.heap.size:=fun k hk=>Nat.lt_of_lt_of_le (HA.out k hk) H2.toBelow.size
  rw [HE.out]
  clear h0
  go_wp2
  go_ret2
  exact ⟨by rw [HE.out];rfl,HU2.out,Fr.of_below H2.toBelow⟩
 have g1:=(hOK h0).1
 have g2:=(hOK h0).2.1
 have HQ:=Zh (HAP.out.trans (if_neg (by simpa using h0)))
 subst h0
 clear HAP hOK
 by_cases hk:x.k=1
 ·skip
  skip
  have HV:=Zh (HQ.out.trans (if_pos hk))
  rw [HV.out]
  clear HV HQ
  have b1:(x.k==1)=true:=by rw [beq_iff_eq];omega
  clear hk
  go_enter Tryz.func119, Tryz.ntmps119
  go_wp2_with fail
  have H0:Sep w NoF [] w:=Sep.start _
  have H1:Sep w NoF [.box (w.heap.size) [.int .i64 x.k,.int .i64 x.e,.int .i64 x.a,.slice a x.d.length c] 154] ((w.alloc (.cells #[.int .i64 x.k,.int .i64 x.e,.int .i64 x.a,.slice a x.d.length c] 154))):=(H0.allocAt (w.heap.size) [.int .i64 x.k,.int .i64 x.e,.int .i64 x.a,.slice a x.d.length c] 154 (by simp))
  clear H0
  generalize (w.alloc (.cells #[.int .i64 x.k,.int .i64 x.e,.int .i64 x.a,.slice a x.d.length c] 154))=w1 at *
  go_wp2_with fail
  refine (HCK.out w1).mono ?_
  rintro e w2 ⟨rfl,hb2⟩
  have H2:Sep w NoF [.box (w.heap.size) [.int .i64 x.k,.int .i64 x.e,.int .i64 x.a,.slice a x.d.length c] 154] (w2):=(H1.below hb2)
  clear H1 hb2
  have HU2:=Zh (HU.out.below (Nat.le_refl _) H2.toBelow)
  have hA2:∀ k,A k→k<w2.heap.size:=fun k hk=>Nat.lt_of_lt_of_le (HA.out k hk) H2.toBelow.size
  rw [errV_0]
  have Xc0:=H2.cell 0 rfl 0 rfl
  have Xc1:=H2.cell 0 rfl 1 rfl
  have Xc2:=H2.cell 0 rfl 2 rfl
  have Xc3:=H2.cell 0 rfl 3 rfl
  have Xl:=H2.lt 0 rfl
  go_wp2_with fail
  refine (seal_any x.e _ HU2.out).mono ?_
  rintro en w3 ⟨rfl,hu,hf⟩
  have HU3:=Lib.hid' hu
  have HF3:=Zh ((Fr.of_below H2.toBelow).trans hf (fun i hi=>.inl hi))
  clear hu hf Xc0 Xc1 Xc2 Xc3 Xl
  go_wp2
  go_ret2
  exact ⟨rfl,HU3.out,HF3.out⟩
 have HQ1:=Zh (HQ.out.trans (if_neg hk))
 clear HQ
 have HQ:=HQ1
 clear HQ1
 have hk1:=hk
 clear hk
 by_cases hk:x.k=2
 ·skip
  skip
  have HV:=Zh (HQ.out.trans (if_pos hk))
  rw [HV.out]
  clear HV HQ
  have b1:(x.k==1)=false:=by rw [beq_eq_false_iff_ne];omega
  have b2:(x.k==2)=true:=by rw [beq_iff_eq];omega
  clear hk
  go_enter Tryz.func119, Tryz.ntmps119
  go_wp2_with fail
  have H0:Sep w NoF [] w:=Sep.start _
  have H1:Sep w NoF [.box (w.heap.size) [.int .i64 x.k,.int .i64 x.e,.int .i64 x.a,.slice a x.d.length c] 154] ((w.alloc (.cells #[.int .i64 x.k,.int .i64 x.e,.int .i64 x.a,.slice a x.d.length c] 154))):=(H0.allocAt (w.heap.size) [.int .i64 x.k,.int .i64 x.e,.int .i64 x.a,.slice a x.d.length c] 154 (by simp))
  clear H0
  generalize (w.alloc (.cells #[.int .i64 x.k,.int .i64 x.e,.int .i64 x.a,.slice a x.d.length c] 154))=w1 at *
  go_wp2_with fail
  refine (HCK.out w1).mono ?_
  rintro e w2 ⟨rfl,hb2⟩
  have H2:Sep w NoF [.box (w.heap.size) [.int .i64 x.k,.int .i64 x.e,.int .i64 x.a,.slice a x.d.length c] 154] (w2):=(H1.below hb2)
  clear H1 hb2
  have HU2:=Zh (HU.out.below (Nat.le_refl _) H2.toBelow)
  have hA2:∀ k,A k→k<w2.heap.size:=fun k hk=>Nat.lt_of_lt_of_le (HA.out k hk) H2.toBelow.size
  rw [errV_0]
  have Xc0:=H2.cell 0 rfl 0 rfl
  have Xc1:=H2.cell 0 rfl 1 rfl
  have Xc2:=H2.cell 0 rfl 2 rfl
  have Xc3:=H2.cell 0 rfl 3 rfl
  have Xl:=H2.lt 0 rfl
  go_wp2_with fail
  refine (write_any x.e x.a (.slice a x.d.length c) x.d _ HU2.out hA2 (H2.oldBytes HB.out)).mono ?_
  rintro en w3 ⟨rfl,hu,hf⟩
  have HU3:=Lib.hid' hu
  have HF3:=Zh ((Fr.of_below H2.toBelow).trans hf (fun i hi=>.inl hi))
  clear hu hf Xc0 Xc1 Xc2 Xc3 Xl
  go_wp2
  go_ret2
  exact ⟨rfl,HU3.out,HF3.out⟩
 have HQ2:=Zh (HQ.out.trans (if_neg hk))
 clear HQ
 have HQ:=HQ2
 clear HQ2
 have hk2:=hk
 clear hk
 by_cases hk:x.k=3
 ·skip
  skip
  have HV:=Zh (HQ.out.trans (if_pos hk))
  rw [HV.out]
  clear HV HQ
  have b1:(x.k==1)=false:=by rw [beq_eq_false_iff_ne];omega
  have b2:(x.k==2)=false:=by rw [beq_eq_false_iff_ne];omega
  have b3:(x.k==3)=true:=by rw [beq_iff_eq];omega
  clear hk
  go_enter Tryz.func119, Tryz.ntmps119
  go_wp2_with fail
  have H0:Sep w NoF [] w:=Sep.start _
  have H1:Sep w NoF [.box (w.heap.size) [.int .i64 x.k,.int .i64 x.e,.int .i64 x.a,.slice a x.d.length c] 154] ((w.alloc (.cells #[.int .i64 x.k,.int .i64 x.e,.int .i64 x.a,.slice a x.d.length c] 154))):=(H0.allocAt (w.heap.size) [.int .i64 x.k,.int .i64 x.e,.int .i64 x.a,.slice a x.d.length c] 154 (by simp))
  clear H0
  generalize (w.alloc (.cells #[.int .i64 x.k,.int .i64 x.e,.int .i64 x.a,.slice a x.d.length c] 154))=w1 at *
  go_wp2_with fail
  refine (HCK.out w1).mono ?_
  rintro e w2 ⟨rfl,hb2⟩
  have H2:Sep w NoF [.box (w.heap.size) [.int .i64 x.k,.int .i64 x.e,.int .i64 x.a,.slice a x.d.length c] 154] (w2):=(H1.below hb2)
  clear H1 hb2
  have HU2:=Zh (HU.out.below (Nat.le_refl _) H2.toBelow)
  have hA2:∀ k,A k→k<w2.heap.size:=fun k hk=>Nat.lt_of_lt_of_le (HA.out k hk) H2.toBelow.size
  rw [errV_0]
  have Xc0:=H2.cell 0 rfl 0 rfl
  have Xc1:=H2.cell 0 rfl 1 rfl
  have Xc2:=H2.cell 0 rfl 2 rfl
  have Xc3:=H2.cell 0 rfl 3 rfl
  have Xl:=H2.lt 0 rfl
  go_wp2_with fail
  refine (fill_any x.e x.a _ HU2.out hA2).mono ?_
  rintro en w3 ⟨rfl,hu,hf⟩
  have HU3:=Lib.hid' hu
  have HF3:=Zh ((Fr.of_below H2.toBelow).trans hf (fun i hi=>.inl hi))
  clear hu hf Xc0 Xc1 Xc2 Xc3 Xl
  go_wp2
  go_ret2
  exact ⟨rfl,HU3.out,HF3.out⟩
 have HQ3:=Zh (HQ.out.trans (if_neg hk))
 clear HQ
 have HQ:=HQ3
 clear HQ3
 have hk3:=hk
 clear hk
 by_cases hk:x.k=4
 ·skip
  skip
  have HV:=Zh (HQ.out.trans (if_pos hk))
  rw [HV.out]
  clear HV HQ
  have b1:(x.k==1)=false:=by rw [beq_eq_false_iff_ne];omega
  have b2:(x.k==2)=false:=by rw [beq_eq_false_iff_ne];omega
  have b3:(x.k==3)=false:=by rw [beq_eq_false_iff_ne];omega
  have b4:(x.k==4)=true:=by rw [beq_iff_eq];omega
  clear hk
  go_enter Tryz.func119, Tryz.ntmps119
  go_wp2_with fail
  have H0:Sep w NoF [] w:=Sep.start _
  have H1:Sep w NoF [.box (w.heap.size) [.int .i64 x.k,.int .i64 x.e,.int .i64 x.a,.slice a x.d.length c] 154] ((w.alloc (.cells #[.int .i64 x.k,.int .i64 x.e,.int .i64 x.a,.slice a x.d.length c] 154))):=(H0.allocAt (w.heap.size) [.int .i64 x.k,.int .i64 x.e,.int .i64 x.a,.slice a x.d.length c] 154 (by simp))
  clear H0
  generalize (w.alloc (.cells #[.int .i64 x.k,.int .i64 x.e,.int .i64 x.a,.slice a x.d.length c] 154))=w1 at *
  go_wp2_with fail
  refine (HCK.out w1).mono ?_
  rintro e w2 ⟨rfl,hb2⟩
  have H2:Sep w NoF [.box (w.heap.size) [.int .i64 x.k,.int .i64 x.e,.int .i64 x.a,.slice a x.d.length c] 154] (w2):=(H1.below hb2)
  clear H1 hb2
  have HU2:=Zh (HU.out.below (Nat.le_refl _) H2.toBelow)
  have hA2:∀ k,A k→k<w2.heap.size:=fun k hk=>Nat.lt_of_lt_of_le (HA.out k hk) H2.toBelow.size
  rw [errV_0]
  have Xc0:=H2.cell 0 rfl 0 rfl
  have Xc1:=H2.cell 0 rfl 1 rfl
  have Xc2:=H2.cell 0 rfl 2 rfl
  have Xc3:=H2.cell 0 rfl 3 rfl
  have Xl:=H2.lt 0 rfl
  go_wp2_with fail
  refine (trim_any x.e x.a _ HU2.out hA2).mono ?_
  rintro en w3 ⟨rfl,hu,hf⟩
  have HU3:=Lib.hid' hu
  have HF3:=Zh ((Fr.of_below H2.toBelow).trans hf (fun i hi=>.inl hi))
  clear hu hf Xc0 Xc1 Xc2 Xc3 Xl
  go_wp2
  go_ret2
  exact ⟨rfl,HU3.out,HF3.out⟩
 have HQ4:=Zh (HQ.out.trans (if_neg hk))
 clear HQ
 have HQ:=HQ4
 clear HQ4
 have hk4:=hk
 clear hk
 have HV:=HQ
 rw [HV.out]
 clear HV HQ
 have b1:(x.k==1)=false:=by rw [beq_eq_false_iff_ne];omega
 have b2:(x.k==2)=false:=by rw [beq_eq_false_iff_ne];omega
 have b3:(x.k==3)=false:=by rw [beq_eq_false_iff_ne];omega
 have b4:(x.k==4)=false:=by rw [beq_eq_false_iff_ne];omega
 go_enter Tryz.func119, Tryz.ntmps119
 go_wp2_with fail
 have H0:Sep w NoF [] w:=Sep.start _
 have H1:Sep w NoF [.box (w.heap.size) [.int .i64 x.k,.int .i64 x.e,.int .i64 x.a,.slice a x.d.length c] 154] ((w.alloc (.cells #[.int .i64 x.k,.int .i64 x.e,.int .i64 x.a,.slice a x.d.length c] 154))):=(H0.allocAt (w.heap.size) [.int .i64 x.k,.int .i64 x.e,.int .i64 x.a,.slice a x.d.length c] 154 (by simp))
 clear H0
 generalize (w.alloc (.cells #[.int .i64 x.k,.int .i64 x.e,.int .i64 x.a,.slice a x.d.length c] 154))=w1 at *
 go_wp2_with fail
 refine (HCK.out w1).mono ?_
 rintro e w2 ⟨rfl,hb2⟩
 have H2:Sep w NoF [.box (w.heap.size) [.int .i64 x.k,.int .i64 x.e,.int .i64 x.a,.slice a x.d.length c] 154] (w2):=(H1.below hb2)
 clear H1 hb2
 have HU2:=Zh (HU.out.below (Nat.le_refl _) H2.toBelow)
 have hA2:∀ k,A k→k<w2.heap.size:=fun k hk=>Nat.lt_of_lt_of_le (HA.out k hk) H2.toBelow.size
 rw [errV_0]
 have Xc0:=H2.cell 0 rfl 0 rfl
 have Xc1:=H2.cell 0 rfl 1 rfl
 have Xc2:=H2.cell 0 rfl 2 rfl
 have Xc3:=H2.cell 0 rfl 3 rfl
 have Xl:=H2.lt 0 rfl
 go_wp2_with fail
 refine (cut_any x.e x.a _ HU2.out hA2 hlen).mono ?_
 rintro en w3 ⟨rfl,hu,hf⟩
 have HU3:=Lib.hid' hu
 have HF3:=Zh ((Fr.of_below H2.toBelow).trans hf (fun i hi=>.inl hi))
 clear hu hf Xc0 Xc1 Xc2 Xc3 Xl
 go_wp2
 go_ret2
 exact ⟨rfl,HU3.out,HF3.out⟩

end Go.Proofs.YtaodldbgikiekaaGreatDoor

namespace Go.Proofs.YtaodldbgikiekaaGreatDoor
namespace SH
structure Ueq (u v:U):Prop where
 e:u.e=v.e
 l:u.l=v.l
 cells:u.cells.Perm v.cells
theorem Ueq.refl (u:U):Ueq u u:=⟨rfl,rfl,List.Perm.refl _⟩
theorem Ueq.symm {u v:U} (h:Ueq u v):Ueq v u:=⟨h.e.symm,h.l.symm,h.cells.symm⟩
theorem Ueq.trans {u v x:U} (h:Ueq u v) (k:Ueq v x):Ueq u x:=⟨h.e.trans k.e,h.l.trans k.l,h.cells.trans k.cells⟩
theorem lookC_mem {L:List (Int×C)} (hn:(L.map (·.1)).Nodup) {a:Int} {c:C} (h:(a,c)∈L):lookC L a=c:=by
 unfold lookC
 induction L with
 | nil=>simp at h
 | cons x L ih =>
  simp only [List.map_cons,List.nodup_cons] at hn
  rcases List.mem_cons.1 h with e | h
  ·rw [←e,List.find?_cons_of_pos (by simp)];rfl
  ·have hx:x.1≠a:=fun e=>hn.1 (by rw [e];exact List.mem_map_of_mem (f:=(·.1)) h)
   rw [List.find?_cons_of_neg (by simpa using hx)]
   exact ih hn.2 h
theorem lookC_none {L:List (Int×C)} {a:Int} (h:∀ c,(a,c)∉L):lookC L a=⟨0,[]⟩:=by
 unfold lookC
 have:L.find? (·.1==a)=none:=by
  rw [List.find?_eq_none]
  intro x hx hxa
  have:x.1=a:=by simpa using hxa
  exact h x.2 (by rw [←this];exact hx)
 rw [this];rfl
theorem lookC_perm {L M:List (Int×C)} (h:L.Perm M) (hn:(L.map (·.1)).Nodup) (a:Int):lookC L a=lookC M a:=by
 have hm:(M.map (·.1)).Nodup:=(h.map _).nodup_iff.1 hn
 by_cases hx:∃ c,(a,c)∈L
 ·obtain ⟨c,hc⟩:=hx
  rw [lookC_mem hn hc,lookC_mem hm (h.mem_iff.1 hc)]
 ·rw [lookC_none (fun c hc=>hx ⟨c,hc⟩),lookC_none (fun c hc=>hx ⟨c,h.mem_iff.2 hc⟩)]
theorem tail_perm {L M:List (Int×C)} (h:L.Perm M) (m:Int):L.foldl tailF m=M.foldl tailF m:=by
 induction h generalizing m with
 | nil=>rfl
 | cons x _ ih=>simp only [List.foldl_cons];exact ih _
 | swap x y l=>simp only [List.foldl_cons];rw [tailF_comm]
 | trans _ _ ih1 ih2=>rw [ih1,ih2]
theorem any_perm {L M:List (Int×C)} (h:L.Perm M) (f:Int×C→Bool):L.any f=M.any f:=by
 rw [Bool.eq_iff_iff,List.any_eq_true,List.any_eq_true]
 exact ⟨fun ⟨x,hx,hf⟩=>⟨x,h.mem_iff.1 hx,hf⟩,fun ⟨x,hx,hf⟩=>⟨x,h.mem_iff.2 hx,hf⟩⟩
theorem putC_perm {L M:List (Int×C)} (h:L.Perm M) (a:Int) (c:C):(putC L a c).Perm (putC M a c):=by
 unfold putC
 rw [any_perm h]
 split
 ·exact h.map _
 ·exact h.append (List.Perm.refl _)
theorem at_eq {u v:U} (h:Ueq u v) (hn:(u.cells.map (·.1)).Nodup) (a:Int):u.at a=v.at a:=by
 unfold U.at;rw [h.l,lookC_perm h.cells hn]
theorem cur_eq {u v:U} (h:Ueq u v) (e:Int):u.cur e=v.cur e:=by unfold U.cur;rw [h.e]
theorem asks_eq {u v:U} (h:Ueq u v) (e:Int) (f:Bool):u.asks e f=v.asks e f:=by unfold U.asks;rw [cur_eq h]
theorem utail_eq {u v:U} (h:Ueq u v):u.tail=v.tail:=by unfold U.tail;rw [h.l,tail_perm h.cells]
theorem seal_eq {u v:U} (h:Ueq u v) (e:Int):(u.sealE e).1=(v.sealE e).1∧(u.sealE e).2.1=(v.sealE e).2.1∧Ueq (u.sealE e).2.2 (v.sealE e).2.2:=by
 unfold U.sealE
 rw [h.e,utail_eq h]
 split
 ·exact ⟨rfl,rfl,h⟩
 ·split
  ·exact ⟨rfl,rfl,h⟩
  ·exact ⟨rfl,rfl,rfl,h.l,h.cells⟩
theorem write_eq {u v:U} (h:Ueq u v) (hn:(u.cells.map (·.1)).Nodup) (e a:Int) (d:List UInt8):(u.write e a d).1=(v.write e a d).1∧Ueq (u.write e a d).2 (v.write e a d).2:=by
 unfold U.write
 rw [cur_eq h,at_eq h hn]
 repeat' split
 all_goals first | exact ⟨rfl,h⟩ | exact ⟨rfl,h.e,h.l,putC_perm h.cells _ _⟩
theorem fill_eq {u v:U} (h:Ueq u v) (hn:(u.cells.map (·.1)).Nodup) (e a:Int):(u.fill e a).1=(v.fill e a).1∧Ueq (u.fill e a).2 (v.fill e a).2:=by
 unfold U.fill
 rw [asks_eq h,at_eq h hn]
 repeat' split
 all_goals first | exact ⟨rfl,h⟩ | exact ⟨rfl,h.e,h.l,putC_perm h.cells _ _⟩
theorem trim_eq {u v:U} (h:Ueq u v) (e b:Int):(u.trim e b).1=(v.trim e b).1∧Ueq (u.trim e b).2 (v.trim e b).2:=by
 unfold U.trim
 rw [asks_eq h,h.l]
 split
 ·exact ⟨rfl,h⟩
 ·exact ⟨rfl,h.e,rfl,h.cells.filter _⟩
theorem cut_eq {u v:U} (h:Ueq u v) (e f:Int):(u.cut e f).1=(v.cut e f).1∧(u.cut e f).2.1=(v.cut e f).2.1∧Ueq (u.cut e f).2.2 (v.cut e f).2.2:=by
 unfold U.cut
 rw [asks_eq h,h.l]
 split
 ·exact ⟨rfl,rfl,h⟩
 ·split
  ·exact ⟨rfl,rfl,h⟩
  ·refine ⟨rfl,?_,h.e,rfl,h.cells.filter _⟩
   show (u.cells.length:Int) - _=(v.cells.length:Int) - _
   rw [h.cells.length_eq,(h.cells.filter _).length_eq]
theorem ap_eq {u v:U} (h:Ueq u v) (hn:(u.cells.map (·.1)).Nodup) (x:Ac):(apU u x).1=(apU v x).1∧(apU u x).2.1=(apU v x).2.1∧Ueq (apU u x).2.2 (apU v x).2.2:=by
 have h1:=seal_eq h x.e
 have h2:=write_eq h hn x.e x.a x.d
 have h3:=fill_eq h hn x.e x.a
 have h4:=trim_eq h x.e x.a
 have h5:=cut_eq h x.e x.a
 unfold apU
 repeat' split
 all_goals first | exact ⟨rfl,rfl,h⟩ | exact h1 | exact h5 | exact ⟨h2.1,rfl,h2.2⟩ | exact ⟨h3.1,rfl,h3.2⟩ | exact ⟨h4.1,rfl,h4.2⟩
end SH
end Go.Proofs.YtaodldbgikiekaaGreatDoor
