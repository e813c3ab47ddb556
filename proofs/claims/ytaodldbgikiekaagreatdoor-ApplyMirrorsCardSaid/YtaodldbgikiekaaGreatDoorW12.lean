/- Proved here: a part of the proof (12 of 35). -/
import Derived.Test.YtaodldbgikiekaaGreatDoorW7
import Derived.Test.YtaodldbgikiekaaGreatDoorW1
set_option linter.unusedSimpArgs false
set_option linter.unusedVariables false
set_option maxRecDepth 100000
namespace Go.Proofs.YtaodldbgikiekaaGreatDoor
open Go.RowKit

/-- the bytes that Put answers -/
def Ac.putB (x:Ac):List UInt8:=if x.check≠0 then [] else x.put
def RPutR (x:Ac) (w:World) (en:Ending) (w':World):Prop :=
 ∃ a c,en=.returned (.tuple #[.slice a x.putB.length c,errV x.check])∧w'.ownsRow w.heap.size 5 1 (.slice a x.putB.length c) x.putB.length (byteVs x.putB)∧Below w.heap.size w w'
theorem us_two (w:World) (x y:Nat) (t:Nat):Us (w.alloc (.cells #[.int .u64 (x:Int),.int .u64 (y:Int)] t)) (.slice (some ⟨w.heap.size,0,none⟩) 2 2) [x,y] :=
 SlV.new w [.int .u64 (x:Int),.int .u64 (y:Int)] 2 t (by decide)
theorem Ac.text_one {e:Nat} {d:List UInt8}:(Ac.mk 1 e 0 d).text=vbs [1,e]:=by simp [Ac.text,vbs]
theorem Ac.text_two {e a:Nat} {d:List UInt8}:(Ac.mk 2 e a d).text=vbs [2,e]++vbs [a]++headB d:=by simp [Ac.text,vbs]
theorem Ac.text_any {k e a:Nat} {d:List UInt8} (h1:1<k) (h2:k≠2):(Ac.mk k e a d).text=vbs [k,e]++vbs [a]:=by
 unfold Ac.text
 simp only
 rw [if_pos (show (1:Int)<(k:Int) by omega),if_neg (show ¬(k:Int)=2 by omega)]
 simp [vbs]
set_option maxHeartbeats 4000000 in
theorem rput9_any (x:Ac) (a:Option Addr) (c:Nat) (w:World) (hB:Bytes w (.slice a x.d.length c) x.d):Calls Tryz.prog 120 #[ac9V x a c] w (RPutR x w):=by
 have hlen:=bytes_len hB
 have HCK:=Zh (fun w=>rcheck9_any x a c hlen w)
 have hOK:=@Ac.check_ok x
 have hTL:=@Ac.text_len x
 have hPB:=@Ac.text_len x
 obtain ⟨ck,hck⟩:∃ ck,ck=x.check:=⟨_,rfl⟩
 have HX:=Lib.hid' hck
 rw [←hck] at HCK hOK hTL
 clear hck hPB
 have HB:=Lib.hid' hB
 clear hB
 by_cases h0:ck=0
 rotate_left
 ·clear hOK hTL
  have HP:=Zh (show x.putB=[] by unfold Ac.putB;rw [←HX.out,if_pos h0])
  have HE:=Zh (errV_pos h0)
  obtain ⟨k,e,ad,d⟩:=x
  unfold ac9V at HCK ⊢
  simp only at HCK HB hlen ⊢
  go_enter Tryz.func120, Tryz.ntmps120
  go_wp2_with fail
  have hz0:(w.alloc (.cells #[.int .i64 k,.int .i64 e,.int .i64 ad,.slice a d.length c] 154)).heap.size=w.heap.size+1:=by simp
  have HG0:=Zh (show Below w.heap.size w (w.alloc (.cells #[.int .i64 k,.int .i64 e,.int .i64 ad,.slice a d.length c] 154)) by go_grown)
  generalize w.alloc (.cells #[.int .i64 k,.int .i64 e,.int .i64 ad,.slice a d.length c] 154)=w0 at *
  refine (HCK.out w0).mono ?_
  rintro e1 w1 ⟨rfl,hb1⟩
  have HB1:=Zh (HG0.out.trans (hb1.mono (by omega)))
  clear hb1
  rw [HE.out]
  clear hz0 h0
  go_wp2
  refine bodyPost_ret (v:=.tuple #[.slice none 0 0,.iface 70 (.int .i64 ck)]) (by simp [results,Tryz.results120,go_sem]) rfl ?_
  refine ⟨none,0,?_,?_,HB1.out⟩
  ·rw [HP.out,←HX.out,HE.out];rfl
  ·rw [HP.out];exact own_nil _ _ _ _
 subst h0
 obtain ⟨g1,g2,g3,g4,g5,g6,g7,g8,g9⟩:=hOK rfl
 have htl:=hTL rfl
 clear hOK hTL
 have HP:=Zh (show x.putB=fputB [] x.text by unfold Ac.putB fputB;rw [←HX.out,if_neg (by simp),if_neg (by omega)];rfl)
 have HN:=Zh (show fputN x.text=0 by unfold fputN;rw [if_neg (by omega)])
 obtain ⟨k,e,ad,d⟩:=x
 simp only at g1 g2 g3 g4 g5 g6 g7 g8 g9
 obtain ⟨en,rfl⟩:∃ n:Nat,e=n:=⟨e.toNat,by omega⟩
 unfold ac9V at HCK ⊢
 simp only at HCK HB hlen ⊢
 have G8:=Lib.hid' g8
 have G9:=Lib.hid' g9
 clear g8 g9
 by_cases hk1:k=1
 ·have ha0:ad=0:=G8.out hk1
  subst hk1;subst ha0
  go_enter Tryz.func120, Tryz.ntmps120
  go_wp2_with fail
  have hz0:(w.alloc (.cells #[.int .i64 1,.int .i64 (en:Int),.int .i64 0,.slice a d.length c] 154)).heap.size=w.heap.size+1:=by simp
  have HG0:=Zh (show Below w.heap.size w (w.alloc (.cells #[.int .i64 1,.int .i64 (en:Int),.int .i64 0,.slice a d.length c] 154)) by go_grown)
  have HBX:=Zh (BoxW.start w [.int .i64 1,.int .i64 (en:Int),.int .i64 0,.slice a d.length c] 154)
  generalize w.alloc (.cells #[.int .i64 1,.int .i64 (en:Int),.int .i64 0,.slice a d.length c] 154)=w0 at *
  refine (HCK.out w0).mono ?_
  rintro e1 w1 ⟨rfl,hb1⟩
  have HG1:=Zh (HG0.out.trans (hb1.mono (by omega)))
  have HX1:=Zh (HBX.out.below (Nat.le_refl _) hb1)
  have hz1:=hb1.size
  clear hb1 HBX HG0 HCK
  rw [errV_0]
  have hx0:=HX1.out.box.1 0 _ rfl
  have hx1:=HX1.out.box.1 1 _ rfl
  have hx2:=HX1.out.box.1 2 _ rfl
  have hx3:=HX1.out.box.1 3 _ rfl
  go_wp2_with fail
  clear hx0 hx1 hx2 hx3
  have hu2:Us (w1.alloc (.cells #[.int .u64 1,.int .u64 (en:Int)] 172)) (.slice (some ⟨w1.heap.size,0,none⟩) 2 2) [1,en]:=us_two w1 1 en 172
  have hz2:(w1.alloc (.cells #[.int .u64 1,.int .u64 (en:Int)] 172)).heap.size=w1.heap.size+1:=by simp
  have hg2:Below w1.heap.size w1 (w1.alloc (.cells #[.int .u64 1,.int .u64 (en:Int)] 172)):=by go_grown
  have HC2:=Zh (vPut_any [] none 0 [1,en] (some ⟨w1.heap.size,0,none⟩) 2 _ (SlV.empty _ _ _ (Nat.zero_le _) (fun _=>rfl)) hu2 (by intro n hn;simp at hn;omega) (by simp) (by simp))
  have HX2:=Zh (HX1.out.below (Nat.le_refl _) hg2)
  have HG2:=Zh (HG1.out.trans (hg2.mono (by omega)))
  clear hg2 hu2 HX1 HG1
  generalize (w1.alloc (.cells #[.int .u64 1,.int .u64 (en:Int)] 172))=w2 at *
  refine HC2.out.mono ?_
  rintro e2 w3 ⟨a3,c3,rfl,ho3,hb3⟩
  rw [List.nil_append] at ho3 ⊢
  have hl3:(vbs [1,en]).length≤20:=by have:=vbs_len (l:=[1,en]) (by intro n hn;simp at hn;omega);simpa using this
  obtain ⟨r3,hr3⟩:∃ r,r=vbs [1,en]:=⟨_,rfl⟩
  rw [←hr3] at ho3 hl3 ⊢
  have HR3:=Lib.hid' hr3
  have HX3:=Zh (HX2.out.below (Nat.le_refl _) hb3)
  have HG3:=Zh (HG2.out.trans (hb3.mono (by omega)))
  have HO3:=Zh (show Bytes w3 (.slice a3 r3.length c3) r3 from SlV.of_own ho3)
  have hz3:=hb3.size
  clear hr3 ho3 hb3 HX2 HG2 HC2
  have hx0:=HX3.out.box.1 0 _ rfl
  have hx1:=HX3.out.box.1 1 _ rfl
  have hx2:=HX3.out.box.1 2 _ rfl
  have hx3:=HX3.out.box.1 3 _ rfl
  go_wp2_with fail
  have HT:=Zh (show ({ k:=1,e:=en,a:=0,d:=d }:Ac).text=r3 from by rw [HR3.out];exact Ac.text_one)
  rw [HT.out] at HP HN
  have HC8:=Zh (fput_any [] r3 none a3 0 c3 w3 (SlV.empty _ _ _ (Nat.zero_le _) (fun _=>rfl)) HO3.out (by simp))
  refine HC8.out.mono ?_
  unfold FPutR
  rintro e8 w9 ⟨a9,c9,rfl,ho9,hb9⟩
  have HG9:=Zh (HG3.out.trans (hb9.mono (by omega)))
  have HO9:=Zh (own_base (B':=w.heap.size) ho9 (by omega))
  clear ho9 hb9 HC8
  obtain ⟨q,hq⟩:∃ q,q=fputB [] r3:=⟨_,rfl⟩
  have HQ:=Zh (HP.out.trans hq.symm)
  rw [←hq] at HO9 ⊢
  have HN9:=Zh (HN.out)
  rw [HN.out,errV_0]
  clear hq HP
  go_wp2_with fail
  refine bodyPost_ret (v:=.tuple #[.slice a9 q.length c9,.nilIface]) (by simp [results,Tryz.results120,go_sem]) rfl ?_
  refine ⟨a9,c9,?_,?_,HG9.out⟩
  ·rw [HQ.out,←HX.out];rfl
  ·rw [HQ.out];exact HO9.out

 obtain ⟨an,rfl⟩:∃ n:Nat,ad=n:=⟨ad.toNat,by omega⟩
 by_cases hk2:k=2
 ·subst hk2
  go_enter Tryz.func120, Tryz.ntmps120
  go_wp2_with fail
  have hz0:(w.alloc (.cells #[.int .i64 2,.int .i64 (en:Int),.int .i64 (an:Int),.slice a d.length c] 154)).heap.size=w.heap.size+1:=by simp
  have HG0:=Zh (show Below w.heap.size w (w.alloc (.cells #[.int .i64 2,.int .i64 (en:Int),.int .i64 (an:Int),.slice a d.length c] 154)) by go_grown)
  have HBX:=Zh (BoxW.start w [.int .i64 2,.int .i64 (en:Int),.int .i64 (an:Int),.slice a d.length c] 154)
  generalize w.alloc (.cells #[.int .i64 2,.int .i64 (en:Int),.int .i64 (an:Int),.slice a d.length c] 154)=w0 at *
  refine (HCK.out w0).mono ?_
  rintro e1 w1 ⟨rfl,hb1⟩
  have HG1:=Zh (HG0.out.trans (hb1.mono (by omega)))
  have HX1:=Zh (HBX.out.below (Nat.le_refl _) hb1)
  have hz1:=hb1.size
  clear hb1 HBX HG0 HCK
  rw [errV_0]
  have hx0:=HX1.out.box.1 0 _ rfl
  have hx1:=HX1.out.box.1 1 _ rfl
  have hx2:=HX1.out.box.1 2 _ rfl
  have hx3:=HX1.out.box.1 3 _ rfl
  go_wp2_with fail
  clear hx0 hx1 hx2 hx3
  have hu2:Us (w1.alloc (.cells #[.int .u64 2,.int .u64 (en:Int)] 172)) (.slice (some ⟨w1.heap.size,0,none⟩) 2 2) [2,en]:=us_two w1 2 en 172
  have hz2:(w1.alloc (.cells #[.int .u64 2,.int .u64 (en:Int)] 172)).heap.size=w1.heap.size+1:=by simp
  have hg2:Below w1.heap.size w1 (w1.alloc (.cells #[.int .u64 2,.int .u64 (en:Int)] 172)):=by go_grown
  have HC2:=Zh (vPut_any [] none 0 [2,en] (some ⟨w1.heap.size,0,none⟩) 2 _ (SlV.empty _ _ _ (Nat.zero_le _) (fun _=>rfl)) hu2 (by intro n hn;simp at hn;omega) (by simp) (by simp))
  have HX2:=Zh (HX1.out.below (Nat.le_refl _) hg2)
  have HG2:=Zh (HG1.out.trans (hg2.mono (by omega)))
  clear hg2 hu2 HX1 HG1
  generalize (w1.alloc (.cells #[.int .u64 2,.int .u64 (en:Int)] 172))=w2 at *
  refine HC2.out.mono ?_
  rintro e2 w3 ⟨a3,c3,rfl,ho3,hb3⟩
  rw [List.nil_append] at ho3 ⊢
  have hl3:(vbs [2,en]).length≤20:=by have:=vbs_len (l:=[2,en]) (by intro n hn;simp at hn;omega);simpa using this
  obtain ⟨r3,hr3⟩:∃ r,r=vbs [2,en]:=⟨_,rfl⟩
  rw [←hr3] at ho3 hl3 ⊢
  have HR3:=Lib.hid' hr3
  have HX3:=Zh (HX2.out.below (Nat.le_refl _) hb3)
  have HG3:=Zh (HG2.out.trans (hb3.mono (by omega)))
  have HO3:=Zh (show Bytes w3 (.slice a3 r3.length c3) r3 from SlV.of_own ho3)
  have hz3:=hb3.size
  clear hr3 ho3 hb3 HX2 HG2 HC2
  have hx0:=HX3.out.box.1 0 _ rfl
  have hx1:=HX3.out.box.1 1 _ rfl
  have hx2:=HX3.out.box.1 2 _ rfl
  have hx3:=HX3.out.box.1 3 _ rfl
  go_wp2_with fail
  clear hx0 hx1 hx2 hx3
  have hu4:=us_one w3 an 172
  have hz4:(w3.alloc (.cells #[.int .u64 (an:Int)] 172)).heap.size=w3.heap.size+1:=by simp
  have hg4:Below w3.heap.size w3 (w3.alloc (.cells #[.int .u64 (an:Int)] 172)):=by go_grown
  have HC4:=Zh (vPut_any r3 a3 c3 [an] (some ⟨w3.heap.size,0,none⟩) 1 _ (show Bytes (w3.alloc (.cells #[.int .u64 (an:Int)] 172)) (.slice a3 r3.length c3) r3 from SlV.below HO3.out (Nat.le_refl _) hg4) hu4 (by intro n hn;simp at hn;omega) (by omega) (by simp))
  have HX4:=Zh (HX3.out.below (Nat.le_refl _) hg4)
  have HG4:=Zh (HG3.out.trans (hg4.mono (by omega)))
  clear hg4 hu4 HX3 HG3 HO3
  generalize (w3.alloc (.cells #[.int .u64 (an:Int)] 172))=w4 at *
  have hl5:(vbs [an]).length≤10:=by have:=vbs_len (l:=[an]) (by intro n hn;simp at hn;omega);simpa using this
  obtain ⟨r5,hr5⟩:∃ r,r=r3++vbs [an]:=⟨_,rfl⟩
  have hl5':r5.length≤30:=by rw [hr5,List.length_append];omega
  rw [←hr5] at HC4
  have HR5:=Lib.hid' hr5
  clear hr5 hl5
  refine HC4.out.mono ?_
  rintro e4 w5 ⟨a5,c5,rfl,ho5,hb5⟩
  have HX5:=Zh (HX4.out.below (Nat.le_refl _) hb5)
  have HG5:=Zh (HG4.out.trans (hb5.mono (by omega)))
  have HO5:=Zh (show Bytes w5 (.slice a5 r5.length c5) r5 from SlV.of_own ho5)
  have hz5:=hb5.size
  clear ho5 hb5 HX4 HG4 HC4
  have hx0:=HX5.out.box.1 0 _ rfl
  have hx1:=HX5.out.box.1 1 _ rfl
  have hx2:=HX5.out.box.1 2 _ rfl
  have hx3:=HX5.out.box.1 3 _ rfl
  go_wp2_with fail
  clear hx0 hx1 hx2 hx3
  have HD5:=Zh (show Bytes w5 (.slice a d.length c) d from SlV.below HB.out (Nat.le_refl _) HG5.out)
  have hhl:(headB d).length≤80:=by
   have:=vb_len10 (n:=d.length) (by omega)
   unfold headB;rw [List.length_append];omega
  have HC6:=Zh (vPutText_any r5 d a5 a c5 c w5 HO5.out HD5.out (by omega) (by omega))
  obtain ⟨r7,hr7⟩:∃ r,r=r5++headB d:=⟨_,rfl⟩
  have hl7:r7.length≤110:=by rw [hr7,List.length_append];omega
  rw [←hr7] at HC6
  have HR7:=Lib.hid' hr7
  clear hr7 hhl
  refine HC6.out.mono ?_
  rintro e6 w7 ⟨a7,c7,rfl,ho7,hb7⟩
  have HG7:=Zh (HG5.out.trans (hb7.mono (by omega)))
  have HO7:=Zh (show Bytes w7 (.slice a7 r7.length c7) r7 from SlV.of_own ho7)
  have hz7:=hb7.size
  clear ho7 hb7 HX5 HG5 HC6 HO5 HD5
  go_wp2_with fail
  have HT:=Zh (show ({ k:=2,e:=en,a:=(an:Int),d:=d }:Ac).text=r7 from by rw [HR7.out,HR5.out,HR3.out];exact Ac.text_two)
  rw [HT.out] at HP HN
  have HC8:=Zh (fput_any [] r7 none a7 0 c7 w7 (SlV.empty _ _ _ (Nat.zero_le _) (fun _=>rfl)) HO7.out (by simp))
  refine HC8.out.mono ?_
  unfold FPutR
  rintro e8 w9 ⟨a9,c9,rfl,ho9,hb9⟩
  have HG9:=Zh (HG7.out.trans (hb9.mono (by omega)))
  have HO9:=Zh (own_base (B':=w.heap.size) ho9 (by omega))
  clear ho9 hb9 HC8
  obtain ⟨q,hq⟩:∃ q,q=fputB [] r7:=⟨_,rfl⟩
  have HQ:=Zh (HP.out.trans hq.symm)
  rw [←hq] at HO9 ⊢
  have HN9:=Zh (HN.out)
  rw [HN.out,errV_0]
  clear hq HP
  go_wp2_with fail
  refine bodyPost_ret (v:=.tuple #[.slice a9 q.length c9,.nilIface]) (by simp [results,Tryz.results120,go_sem]) rfl ?_
  refine ⟨a9,c9,?_,?_,HG9.out⟩
  ·rw [HQ.out,←HX.out];rfl
  ·rw [HQ.out];exact HO9.out

 ·obtain ⟨kn,rfl⟩:∃ n:Nat,k=n:=⟨k.toNat,by omega⟩
  have b1:((kn:Int)==1)=false:=by rw [beq_eq_false_iff_ne];omega
  have b2:((kn:Int)==2)=false:=by rw [beq_eq_false_iff_ne];omega
  go_enter Tryz.func120, Tryz.ntmps120
  go_wp2_with fail
  have hz0:(w.alloc (.cells #[.int .i64 (kn:Int),.int .i64 (en:Int),.int .i64 (an:Int),.slice a d.length c] 154)).heap.size=w.heap.size+1:=by simp
  have HG0:=Zh (show Below w.heap.size w (w.alloc (.cells #[.int .i64 (kn:Int),.int .i64 (en:Int),.int .i64 (an:Int),.slice a d.length c] 154)) by go_grown)
  have HBX:=Zh (BoxW.start w [.int .i64 (kn:Int),.int .i64 (en:Int),.int .i64 (an:Int),.slice a d.length c] 154)
  generalize w.alloc (.cells #[.int .i64 (kn:Int),.int .i64 (en:Int),.int .i64 (an:Int),.slice a d.length c] 154)=w0 at *
  refine (HCK.out w0).mono ?_
  rintro e1 w1 ⟨rfl,hb1⟩
  have HG1:=Zh (HG0.out.trans (hb1.mono (by omega)))
  have HX1:=Zh (HBX.out.below (Nat.le_refl _) hb1)
  have hz1:=hb1.size
  clear hb1 HBX HG0 HCK
  rw [errV_0]
  have hx0:=HX1.out.box.1 0 _ rfl
  have hx1:=HX1.out.box.1 1 _ rfl
  have hx2:=HX1.out.box.1 2 _ rfl
  have hx3:=HX1.out.box.1 3 _ rfl
  go_wp2_with fail
  clear hx0 hx1 hx2 hx3
  have hu2:Us (w1.alloc (.cells #[.int .u64 (kn:Int),.int .u64 (en:Int)] 172)) (.slice (some ⟨w1.heap.size,0,none⟩) 2 2) [kn,en]:=us_two w1 kn en 172
  have hz2:(w1.alloc (.cells #[.int .u64 (kn:Int),.int .u64 (en:Int)] 172)).heap.size=w1.heap.size+1:=by simp
  have hg2:Below w1.heap.size w1 (w1.alloc (.cells #[.int .u64 (kn:Int),.int .u64 (en:Int)] 172)):=by go_grown
  have HC2:=Zh (vPut_any [] none 0 [kn,en] (some ⟨w1.heap.size,0,none⟩) 2 _ (SlV.empty _ _ _ (Nat.zero_le _) (fun _=>rfl)) hu2 (by intro n hn;simp at hn;omega) (by simp) (by simp))
  have HX2:=Zh (HX1.out.below (Nat.le_refl _) hg2)
  have HG2:=Zh (HG1.out.trans (hg2.mono (by omega)))
  clear hg2 hu2 HX1 HG1
  generalize (w1.alloc (.cells #[.int .u64 (kn:Int),.int .u64 (en:Int)] 172))=w2 at *
  refine HC2.out.mono ?_
  rintro e2 w3 ⟨a3,c3,rfl,ho3,hb3⟩
  rw [List.nil_append] at ho3 ⊢
  have hl3:(vbs [kn,en]).length≤20:=by have:=vbs_len (l:=[kn,en]) (by intro n hn;simp at hn;omega);simpa using this
  obtain ⟨r3,hr3⟩:∃ r,r=vbs [kn,en]:=⟨_,rfl⟩
  rw [←hr3] at ho3 hl3 ⊢
  have HR3:=Lib.hid' hr3
  have HX3:=Zh (HX2.out.below (Nat.le_refl _) hb3)
  have HG3:=Zh (HG2.out.trans (hb3.mono (by omega)))
  have HO3:=Zh (show Bytes w3 (.slice a3 r3.length c3) r3 from SlV.of_own ho3)
  have hz3:=hb3.size
  clear hr3 ho3 hb3 HX2 HG2 HC2
  have hx0:=HX3.out.box.1 0 _ rfl
  have hx1:=HX3.out.box.1 1 _ rfl
  have hx2:=HX3.out.box.1 2 _ rfl
  have hx3:=HX3.out.box.1 3 _ rfl
  go_wp2_with fail
  clear hx0 hx1 hx2 hx3
  have hu4:=us_one w3 an 172
  have hz4:(w3.alloc (.cells #[.int .u64 (an:Int)] 172)).heap.size=w3.heap.size+1:=by simp
  have hg4:Below w3.heap.size w3 (w3.alloc (.cells #[.int .u64 (an:Int)] 172)):=by go_grown
  have HC4:=Zh (vPut_any r3 a3 c3 [an] (some ⟨w3.heap.size,0,none⟩) 1 _ (show Bytes (w3.alloc (.cells #[.int .u64 (an:Int)] 172)) (.slice a3 r3.length c3) r3 from SlV.below HO3.out (Nat.le_refl _) hg4) hu4 (by intro n hn;simp at hn;omega) (by omega) (by simp))
  have HX4:=Zh (HX3.out.below (Nat.le_refl _) hg4)
  have HG4:=Zh (HG3.out.trans (hg4.mono (by omega)))
  clear hg4 hu4 HX3 HG3 HO3
  generalize (w3.alloc (.cells #[.int .u64 (an:Int)] 172))=w4 at *
  have hl5:(vbs [an]).length≤10:=by have:=vbs_len (l:=[an]) (by intro n hn;simp at hn;omega);simpa using this
  obtain ⟨r5,hr5⟩:∃ r,r=r3++vbs [an]:=⟨_,rfl⟩
  have hl5':r5.length≤30:=by rw [hr5,List.length_append];omega
  rw [←hr5] at HC4
  have HR5:=Lib.hid' hr5
  clear hr5 hl5
  refine HC4.out.mono ?_
  rintro e4 w5 ⟨a5,c5,rfl,ho5,hb5⟩
  have HX5:=Zh (HX4.out.below (Nat.le_refl _) hb5)
  have HG5:=Zh (HG4.out.trans (hb5.mono (by omega)))
  have HO5:=Zh (show Bytes w5 (.slice a5 r5.length c5) r5 from SlV.of_own ho5)
  have hz5:=hb5.size
  clear ho5 hb5 HX4 HG4 HC4
  have hx0:=HX5.out.box.1 0 _ rfl
  have hx1:=HX5.out.box.1 1 _ rfl
  have hx2:=HX5.out.box.1 2 _ rfl
  have hx3:=HX5.out.box.1 3 _ rfl
  go_wp2_with fail
  have HT:=Zh (show ({ k:=kn,e:=en,a:=(an:Int),d:=d }:Ac).text=r5 from by rw [HR5.out,HR3.out];exact Ac.text_any (by omega) (by omega))
  rw [HT.out] at HP HN
  have HC8:=Zh (fput_any [] r5 none a5 0 c5 w5 (SlV.empty _ _ _ (Nat.zero_le _) (fun _=>rfl)) HO5.out (by simp))
  refine HC8.out.mono ?_
  unfold FPutR
  rintro e8 w9 ⟨a9,c9,rfl,ho9,hb9⟩
  have HG9:=Zh (HG5.out.trans (hb9.mono (by omega)))
  have HO9:=Zh (own_base (B':=w.heap.size) ho9 (by omega))
  clear ho9 hb9 HC8
  obtain ⟨q,hq⟩:∃ q,q=fputB [] r5:=⟨_,rfl⟩
  have HQ:=Zh (HP.out.trans hq.symm)
  rw [←hq] at HO9 ⊢
  have HN9:=Zh (HN.out)
  rw [HN.out,errV_0]
  clear hq HP
  go_wp2_with fail
  refine bodyPost_ret (v:=.tuple #[.slice a9 q.length c9,.nilIface]) (by simp [results,Tryz.results120,go_sem]) rfl ?_
  refine ⟨a9,c9,?_,?_,HG9.out⟩
  ·rw [HQ.out,←HX.out];rfl
  ·rw [HQ.out];exact HO9.out


/-- a block of which nothing is told -/
def Asn.blk (N:Nat):Asn where
 holds:=fun w=>N<w.heap.size
 foot:=fun b=>b=N
 lt:=fun _ h b e=>by subst e;exact h
 keep:=fun w w' h k=>by
  have h1:=k N rfl
  rw [Array.getElem?_eq_getElem h] at h1
  exact (Array.getElem?_eq_some_iff.1 h1).1
/-- a call that writes that block alone -/
theorem Sep.rd {w0 w w':World} {F:Nat→Prop} {L:List Asn} (h:Sep w0 F L w) (i:Nat) {N:Nat} (hi:L[i]?=some (Asn.blk N)) (hf:Fr (fun k=>k=N) w w'):Sep w0 F (Asn.blk N::L.eraseIdx i) w' :=
 (h.focus i hi).fr1 (A:=Asn.blk N) (B:=Asn.blk N) hf (Nat.lt_of_lt_of_le (h.at i hi) hf.size) (fun b hb=>.inr hb)
theorem Sep.push {α:Type} (f:α→Asn) {w0 w:World} {F:Nat→Prop} {L:List Asn} {Ks:List α} {y:α} (h:Sep w0 F (f y::Asn.all (Ks.map f)::L) w):Sep w0 F (Asn.all ((Ks++[y]).map f)::L) w:=by
 have h1:=h.join
 have h2:=(h1.at 0 rfl)
 refine h1.turn ?_ ?_
 ·obtain ⟨a,b,c⟩:=h2
  obtain ⟨b1,b2⟩:=Asn.all_holds.1 b
  rw [List.map_append]
  refine Asn.all_holds.2 ⟨?_,List.pairwise_append.2 ⟨b2,List.pairwise_singleton _ _,?_⟩⟩
  ·intro A hA
   rcases List.mem_append.1 hA with hA | hA
   ·exact b1 A hA
   ·simp only [List.map_cons,List.map_nil,List.mem_singleton] at hA;subst hA;exact a
  ·intro A hA B hB k hk hk2
   simp only [List.map_cons,List.map_nil,List.mem_singleton] at hB;subst hB
   exact c k hk2 (Asn.all_foot.2 ⟨A,hA,hk⟩)
 ·intro k hk
  rw [List.map_append] at hk
  obtain ⟨A,hA,hk⟩:=Asn.all_foot.1 hk
  rcases List.mem_append.1 hA with hA | hA
  ·exact .inr (Asn.all_foot.2 ⟨A,hA,hk⟩)
  ·simp only [List.map_cons,List.map_nil,List.mem_singleton] at hA;subst hA;exact .inl hk
theorem Sep.none {α:Type} (f:α→Asn) {w0 w:World} {F:Nat→Prop} {L:List Asn} (h:Sep w0 F L w):Sep w0 F (Asn.all (([]:List α).map f)::L) w:=h.addEmp trivial (fun _ h=>h)
/-- one of many parts holds -/
theorem Sep.one {α:Type} (f:α→Asn) {w0 w:World} {F:Nat→Prop} {L:List Asn} {Ks:List α} (h:Sep w0 F L w) (i:Nat) (hi:L[i]?=some (Asn.all (Ks.map f))) {x:α} (hx:x∈Ks):(f x).holds w:=(Asn.all_holds.1 (h.at i hi)).1 (f x) (List.mem_map_of_mem hx)
theorem Fr.setH {F:Nat→Prop} {w0 w:World} (h:Fr F w0 w) {N:Nat} (hN:F N) (j:Nat) (v:Value):Fr F w0 (w.setCell ⟨N,j,none⟩ v) :=
 h.trans (fr_set w N j v) (fun i hi=>.inl (by subst hi;exact hN))
end Go.Proofs.YtaodldbgikiekaaGreatDoor

namespace Go.Proofs.YtaodldbgikiekaaGreatDoor
namespace SL
/-- how many cells a run begins with that have a kind -/
def rowK (k:Int):List C→Nat
 | []=>0
 | x::X=>if x.k=k then rowK k X+1 else 0
/-- of what is left, how many are alike to the run's first one, which is no data -/
def rowT (X0 Y:List C):Nat:=match X0 with
 | []=>0
 | x::_=>if x.k=1 then 0 else rowK x.k Y
def rowN (X:List C):Nat:=rowT X X
theorem rowT_end {X:List C} {n:Nat} (h:X.length≤n):rowT X (X.drop n)=0:=by
 rw [List.drop_eq_nil_of_le h]
 unfold rowT
 cases X with
 | nil=>rfl
 | cons x X=>simp only;split<;>rfl
theorem rowT_step {X:List C} {n:Nat} (h:n<X.length) (h1:X[n].k≠1) (h2:X[n].k=(X[0]'(by omega)).k):rowT X (X.drop n)=rowT X (X.drop (n+1))+1:=by
 cases X with
 | nil=>simp at h
 | cons x X =>
  have e:(x::X)[0].k=x.k:=rfl
  rw [e] at h2
  unfold rowT
  simp only
  rw [if_neg (by rw [←h2];exact h1),if_neg (by rw [←h2];exact h1),List.drop_eq_getElem_cons h]
  show (if _ then _ else _)=_
  rw [if_pos h2]
theorem rowT_stop {X:List C} {n:Nat} (h:n<X.length) (h1:X[n].k=1∨X[n].k≠(X[0]'(by omega)).k):rowT X (X.drop n)=0:=by
 cases X with
 | nil=>simp at h
 | cons x X =>
  have e:(x::X)[0].k=x.k:=rfl
  rw [e] at h1
  unfold rowT
  simp only
  split
  ·rfl
  ·rename_i hx
   rw [List.drop_eq_getElem_cons h]
   show (if _ then _ else _)=_
   rw [if_neg]
   rintro h2
   rcases h1 with h1 | h1
   ·exact hx (by rw [←h2];exact h1)
   ·exact h1 h2
theorem rowK_le (k:Int):∀ X:List C,rowK k X≤X.length
 | []=>Nat.le_refl _
 | x::X=>by
  have e:rowK k (x::X)=if x.k=k then rowK k X+1 else 0:=rfl
  have:=rowK_le k X
  rw [e]
  split
  ·simp only [List.length_cons];omega
  ·exact Nat.zero_le _
theorem rowK_all (k:Int):∀ X:List C,∀ x∈X.take (rowK k X),x.k=k
 | [],_,h=>by simp [rowK] at h
 | y::X,x,h=>by
  have e:rowK k (y::X)=if y.k=k then rowK k X+1 else 0:=rfl
  rw [e] at h
  split at h
  ·rename_i hy
   rw [List.take_succ_cons] at h
   rcases List.mem_cons.1 h with rfl | h
   ·exact hy
   ·exact rowK_all k X x h
  ·simp at h
theorem rowK_next (k:Int):∀ X:List C,∀ x,X[rowK k X]?=some x→x.k≠k
 | [],_,h=>by simp at h
 | y::X,x,h=>by
  have e:rowK k (y::X)=if y.k=k then rowK k X+1 else 0:=rfl
  rw [e] at h
  split at h
  ·rw [List.getElem?_cons_succ] at h
   exact rowK_next k X x h
  ·rename_i hy
   simp at h
   rw [←h];exact hy
theorem rowN_le (X:List C):rowN X≤X.length:=by
 unfold rowN rowT
 cases X with
 | nil=>exact Nat.le_refl _
 | cons x X=>simp only;split;exact Nat.zero_le _;exact rowK_le _ _
theorem rowN_data {x:C} {X:List C} (h:x.k=1):rowN (x::X)=0:=if_pos h
theorem rowN_row {x:C} {X:List C} (h:x.k≠1):rowN (x::X)=rowK x.k (x::X):=if_neg h
theorem rowN_pos {x:C} {X:List C} (h:x.k≠1):0<rowN (x::X):=by
 rw [rowN_row h]
 show 0<if _ then _ else _
 rw [if_pos rfl];omega
/-- how many first bytes two texts have in common -/
def alikeN:List UInt8→List UInt8→Nat
 | x::a,y::b=>if x=y then alikeN a b+1 else 0
 | _,_=>0
theorem alikeN_le:∀ a b:List UInt8,alikeN a b≤a.length∧alikeN a b≤b.length
 | [],b=>by simp [alikeN]
 | x::a,[]=>by simp [alikeN]
 | x::a,y::b=>by
  have:=alikeN_le a b
  unfold alikeN
  split<;>simp<;>omega
theorem alikeN_end {a b:List UInt8} {n:Nat} (h:a.length≤n∨b.length≤n):alikeN (a.drop n) (b.drop n)=0:=by
 rcases h with h | h
 ·rw [List.drop_eq_nil_of_le h];cases b.drop n<;>rfl
 ·rw [List.drop_eq_nil_of_le h];cases a.drop n<;>rfl
theorem alikeN_step {a b:List UInt8} {n:Nat} (h:n<a.length) (h':n<b.length):alikeN (a.drop n) (b.drop n)=if a[n]=b[n] then alikeN (a.drop (n+1)) (b.drop (n+1))+1 else 0:=by
 rw [List.drop_eq_getElem_cons h,List.drop_eq_getElem_cons h']
 rfl
theorem alikeN_self:∀ a b:List UInt8,a.take (alikeN a b)=b.take (alikeN a b)
 | [],b=>by simp [alikeN]
 | x::a,[]=>by simp [alikeN]
 | x::a,y::b=>by
  unfold alikeN
  split
  ·rename_i h;rw [List.take_succ_cons,List.take_succ_cons,h,alikeN_self a b]
  ·rfl
def dataB (last d:List UInt8):List UInt8:=vbs [0,d.length,alikeN last d]++d.drop (alikeN last d)
def rowB (n:Nat) (k:Int):List UInt8:=vbs [n,k.toNat]
/-- a run's bytes, behind its length -/
def runB (last:List UInt8) (X:List C):List UInt8:=match X with
 | []=>[]
 | x::X=>if h:x.k=1 then dataB last x.d++runB x.d X else rowB (rowN (x::X)) x.k++runB last ((x::X).drop (rowN (x::X)))
termination_by X.length
decreasing_by
 ·simp
 ·have:=rowN_pos (X:=X) h
  simp only [List.length_drop,List.length_cons];omega
theorem runB_nil (last:List UInt8):runB last []=[]:=by rw [runB]
theorem runB_data {last:List UInt8} {x:C} {X:List C} (h:x.k=1):runB last (x::X)=dataB last x.d++runB x.d X:=by rw [runB,dif_pos h]
theorem runB_row {last:List UInt8} {x:C} {X:List C} (h:x.k≠1):runB last (x::X)=rowB (rowN (x::X)) x.k++runB last ((x::X).drop (rowN (x::X))):=by rw [runB,dif_neg h]
/-- cells that a run may have -/
def CellOk (x:C):Prop:=0≤x.k∧x.k≤3∧x.d.length≤64∧(x.k≠1→x.d=[])
theorem row_take {x:C} {X:List C} (h:x.k≠1) (hok:∀ y∈x::X,CellOk y):(x::X).take (rowN (x::X))=List.replicate (rowN (x::X)) ⟨x.k,[]⟩:=by
 rw [rowN_row h]
 refine List.eq_replicate_iff.2 ⟨by rw [List.length_take];have:=rowK_le x.k (x::X);omega,fun y hy=>?_⟩
 have h1:=rowK_all x.k _ y hy
 have h2:=hok y (List.mem_of_mem_take hy)
 obtain ⟨yk,yd⟩:=y
 simp only at h1
 subst h1
 rw [show yd=[] from h2.2.2.2 h]
theorem row_next {x y:C} {X:List C} (h:x.k≠1) (hy:((x::X).drop (rowN (x::X))).head?=some y):y.k≠x.k:=by
 rw [rowN_row h,List.head?_drop] at hy
 exact rowK_next x.k _ y hy
theorem runB_len:∀ (n:Nat) (X:List C) (last:List UInt8),X.length≤n→n≤64→(∀ x∈X,CellOk x)→(runB last X).length≤100*n
 | 0,[],last,_,_,_=>by rw [runB_nil];simp
 | n+1,[],last,_,_,_=>by rw [runB_nil];simp
 | 0,x::X,last,h,_,_=>by simp at h
 | n+1,x::X,last,h,hn,hX=>by
  simp only [List.length_cons] at h
  have hx:=hX x List.mem_cons_self
  by_cases hk:x.k=1
  ·rw [runB_data hk,List.length_append]
   have ih:=runB_len n X x.d (by omega) (by omega) (fun y hy=>hX y (List.mem_cons_of_mem _ hy))
   have h1:=(alikeN_le last x.d).2
   have h2:=hx.2.2.1
   have h3:=vbs_len (l:=[0,x.d.length,alikeN last x.d]) (by simp;omega)
   have:(dataB last x.d).length≤30+64:=by
    unfold dataB
    rw [List.length_append,List.length_drop]
    simp only [List.length_cons,List.length_nil] at h3
    omega
   omega
  ·rw [runB_row hk,List.length_append]
   have h1:=rowN_pos (X:=X) hk
   have h0:=rowN_le (x::X)
   simp only [List.length_cons] at h0
   have ih:=runB_len n ((x::X).drop (rowN (x::X))) last (by simp only [List.length_drop,List.length_cons];omega) (by omega) (fun y hy=>hX y (List.mem_of_mem_drop hy))
   have h3:=vbs_len (l:=[rowN (x::X),x.k.toNat]) (by have:=hx.2.1;simp;omega)
   simp only [List.length_cons,List.length_nil] at h3
   have:(rowB (rowN (x::X)) x.k).length≤20:=h3
   omega
end SL
end Go.Proofs.YtaodldbgikiekaaGreatDoor
