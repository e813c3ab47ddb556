/- Proved here: a part of the proof (12 of 34). -/
import Derived.Test.YtcpkeddgkpjioaaGreatDoorB7
import Derived.Test.YtcpkeddgkpjioaaGreatDoorB1
set_option linter.unusedSimpArgs false
set_option linter.unusedVariables false
set_option maxRecDepth 100000
namespace Go.Proofs.YtcpkeddgkpjioaaGreatDoor
open Go.RowKit

/-- the bytes that Put answers -/
def Ac.putB (x : Ac) : List UInt8 := if x.check ≠ 0 then [] else x.put
def RPutR (x : Ac) (w : World) (en : Ending) (w' : World) : Prop :=
 ∃ a c, en = .returned (.tuple #[.slice a x.putB.length c, errV x.check]) ∧ w'.ownsRow w.heap.size 5 1 (.slice a x.putB.length c) x.putB.length (byteVs x.putB) ∧ Below w.heap.size w w'
theorem us_two (w : World) (x y : Nat) (t : Nat) : Us (w.alloc (.cells #[.int .u64 (x : Int), .int .u64 (y : Int)] t)) (.slice (some ⟨w.heap.size, 0, none⟩) 2 2) [x, y] :=
 SlV.new w [.int .u64 (x : Int), .int .u64 (y : Int)] 2 t (by decide)
theorem Ac.text_one {e : Nat} {d : List UInt8} : (Ac.mk 1 e 0 d).text = vbs [1, e] := by simp [Ac.text, vbs]
theorem Ac.text_two {e a : Nat} {d : List UInt8} : (Ac.mk 2 e a d).text = vbs [2, e] ++ vbs [a] ++ headB d := by simp [Ac.text, vbs]
theorem Ac.text_any {k e a : Nat} {d : List UInt8} (h1 : 1 < k) (h2 : k ≠ 2) : (Ac.mk k e a d).text = vbs [k, e] ++ vbs [a] := by
 unfold Ac.text
 simp only
 rw [if_pos (show (1 : Int) < (k : Int) by omega), if_neg (show ¬ (k : Int) = 2 by omega)]
 simp [vbs]
set_option maxHeartbeats 4000000 in
theorem rput9_any (x : Ac) (a : Option Addr) (c : Nat) (w : World) (hB : Bytes w (.slice a x.d.length c) x.d) : Calls Tryz.prog 97 #[ac9V x a c] w (RPutR x w) := by
 have hlen := bytes_len hB
 have HCK := Zh (fun w => rcheck9_any x a c hlen w)
 have hOK := @Ac.check_ok x
 have hTL := @Ac.text_len x
 have hPB := @Ac.text_len x
 obtain ⟨ck, hck⟩ : ∃ ck, ck = x.check := ⟨_, rfl⟩
 have HX := Lib.hid' hck
 rw [← hck] at HCK hOK hTL
 clear hck hPB
 have HB := Lib.hid' hB
 clear hB
 by_cases h0 : ck = 0
 rotate_left
 ·clear hOK hTL
  have HP := Zh (show x.putB = [] by unfold Ac.putB; rw [← HX.out, if_pos h0])
  have HE := Zh (errV_pos h0)
  obtain ⟨k, e, ad, d⟩ := x
  unfold ac9V at HCK ⊢
  simp only at HCK HB hlen ⊢
  go_enter Tryz.func97, Tryz.ntmps97
  go_wp2_with fail
  have hz0 : (w.alloc (.cells #[.int .i64 k, .int .i64 e, .int .i64 ad, .slice a d.length c] 112)).heap.size = w.heap.size + 1 := by simp
  have HG0 := Zh (show Below w.heap.size w (w.alloc (.cells #[.int .i64 k, .int .i64 e, .int .i64 ad, .slice a d.length c] 112)) by go_grown)
  generalize w.alloc (.cells #[.int .i64 k, .int .i64 e, .int .i64 ad, .slice a d.length c] 112) = w0 at *
  refine (HCK.out w0).mono ?_
  rintro e1 w1 ⟨rfl, hb1⟩
  have HB1 := Zh (HG0.out.trans (hb1.mono (by omega)))
  clear hb1
  rw [HE.out]
  clear hz0 h0
  go_wp2
  refine bodyPost_ret (v := .tuple #[.slice none 0 0, .iface 69 (.int .i64 ck)]) (by simp [results, Tryz.results97, go_sem]) rfl ?_
  refine ⟨none, 0, ?_, ?_, HB1.out⟩
  ·rw [HP.out, ← HX.out, HE.out]; rfl
  ·rw [HP.out]; exact own_nil _ _ _ _
 subst h0
 obtain ⟨g1, g2, g3, g4, g5, g6, g7, g8, g9⟩ := hOK rfl
 have htl := hTL rfl
 clear hOK hTL
 have HP := Zh (show x.putB = fputB [] x.text by unfold Ac.putB fputB; rw [← HX.out, if_neg (by simp), if_neg (by omega)]; rfl)
 have HN := Zh (show fputN x.text = 0 by unfold fputN; rw [if_neg (by omega)])
 obtain ⟨k, e, ad, d⟩ := x
 simp only at g1 g2 g3 g4 g5 g6 g7 g8 g9
 obtain ⟨en, rfl⟩ : ∃ n : Nat, e = n := ⟨e.toNat, by omega⟩
 unfold ac9V at HCK ⊢
 simp only at HCK HB hlen ⊢
 have G8 := Lib.hid' g8
 have G9 := Lib.hid' g9
 clear g8 g9
 by_cases hk1 : k = 1
 ·have ha0 : ad = 0 := G8.out hk1
  subst hk1; subst ha0
  go_enter Tryz.func97, Tryz.ntmps97
  go_wp2_with fail
  have hz0 : (w.alloc (.cells #[.int .i64 1, .int .i64 (en : Int), .int .i64 0, .slice a d.length c] 112)).heap.size = w.heap.size + 1 := by simp
  have HG0 := Zh (show Below w.heap.size w (w.alloc (.cells #[.int .i64 1, .int .i64 (en : Int), .int .i64 0, .slice a d.length c] 112)) by go_grown)
  have HBX := Zh (BoxW.start w [.int .i64 1, .int .i64 (en : Int), .int .i64 0, .slice a d.length c] 112)
  generalize w.alloc (.cells #[.int .i64 1, .int .i64 (en : Int), .int .i64 0, .slice a d.length c] 112) = w0 at *
  refine (HCK.out w0).mono ?_
  rintro e1 w1 ⟨rfl, hb1⟩
  have HG1 := Zh (HG0.out.trans (hb1.mono (by omega)))
  have HX1 := Zh (HBX.out.below (Nat.le_refl _) hb1)
  have hz1 := hb1.size
  clear hb1 HBX HG0 HCK
  rw [errV_0]
  have hx0 := HX1.out.box.1 0 _ rfl
  have hx1 := HX1.out.box.1 1 _ rfl
  have hx2 := HX1.out.box.1 2 _ rfl
  have hx3 := HX1.out.box.1 3 _ rfl
  go_wp2_with fail
  clear hx0 hx1 hx2 hx3
  have hu2 : Us (w1.alloc (.cells #[.int .u64 1, .int .u64 (en : Int)] 186)) (.slice (some ⟨w1.heap.size, 0, none⟩) 2 2) [1, en] := us_two w1 1 en 186
  have hz2 : (w1.alloc (.cells #[.int .u64 1, .int .u64 (en : Int)] 186)).heap.size = w1.heap.size + 1 := by simp
  have hg2 : Below w1.heap.size w1 (w1.alloc (.cells #[.int .u64 1, .int .u64 (en : Int)] 186)) := by go_grown
  have HC2 := Zh (vPut_any [] none 0 [1, en] (some ⟨w1.heap.size, 0, none⟩) 2 _ (SlV.empty _ _ _ (Nat.zero_le _) (fun _ => rfl)) hu2 (by intro n hn; simp at hn; omega) (by simp) (by simp))
  have HX2 := Zh (HX1.out.below (Nat.le_refl _) hg2)
  have HG2 := Zh (HG1.out.trans (hg2.mono (by omega)))
  clear hg2 hu2 HX1 HG1
  generalize (w1.alloc (.cells #[.int .u64 1, .int .u64 (en : Int)] 186)) = w2 at *
  refine HC2.out.mono ?_
  rintro e2 w3 ⟨a3, c3, rfl, ho3, hb3⟩
  rw [List.nil_append] at ho3 ⊢
  have hl3 : (vbs [1, en]).length ≤ 20 := by have := vbs_len (l := [1, en]) (by intro n hn; simp at hn; omega); simpa using this
  obtain ⟨r3, hr3⟩ : ∃ r, r = vbs [1, en] := ⟨_, rfl⟩
  rw [← hr3] at ho3 hl3 ⊢
  have HR3 := Lib.hid' hr3
  have HX3 := Zh (HX2.out.below (Nat.le_refl _) hb3)
  have HG3 := Zh (HG2.out.trans (hb3.mono (by omega)))
  have HO3 := Zh (show Bytes w3 (.slice a3 r3.length c3) r3 from SlV.of_own ho3)
  have hz3 := hb3.size
  clear hr3 ho3 hb3 HX2 HG2 HC2
  have hx0 := HX3.out.box.1 0 _ rfl
  have hx1 := HX3.out.box.1 1 _ rfl
  have hx2 := HX3.out.box.1 2 _ rfl
  have hx3 := HX3.out.box.1 3 _ rfl
  go_wp2_with fail
  have HT := Zh (show ({ k := 1, e := en, a := 0, d := d } : Ac).text = r3 from by rw [HR3.out]; exact Ac.text_one)
  rw [HT.out] at HP HN
  have HC8 := Zh (fput_any [] r3 none a3 0 c3 w3 (SlV.empty _ _ _ (Nat.zero_le _) (fun _ => rfl)) HO3.out (by simp))
  refine HC8.out.mono ?_
  unfold FPutR
  rintro e8 w9 ⟨a9, c9, rfl, ho9, hb9⟩
  have HG9 := Zh (HG3.out.trans (hb9.mono (by omega)))
  have HO9 := Zh (own_base (B' := w.heap.size) ho9 (by omega))
  clear ho9 hb9 HC8
  obtain ⟨q, hq⟩ : ∃ q, q = fputB [] r3 := ⟨_, rfl⟩
  have HQ := Zh (HP.out.trans hq.symm)
  rw [← hq] at HO9 ⊢
  have HN9 := Zh (HN.out)
  rw [HN.out, errV_0]
  clear hq HP
  go_wp2_with fail
  refine bodyPost_ret (v := .tuple #[.slice a9 q.length c9, .nilIface]) (by simp [results, Tryz.results97, go_sem]) rfl ?_
  refine ⟨a9, c9, ?_, ?_, HG9.out⟩
  ·rw [HQ.out, ← HX.out]; rfl
  ·rw [HQ.out]; exact HO9.out

 obtain ⟨an, rfl⟩ : ∃ n : Nat, ad = n := ⟨ad.toNat, by omega⟩
 by_cases hk2 : k = 2
 ·subst hk2
  go_enter Tryz.func97, Tryz.ntmps97
  go_wp2_with fail
  have hz0 : (w.alloc (.cells #[.int .i64 2, .int .i64 (en : Int), .int .i64 (an : Int), .slice a d.length c] 112)).heap.size = w.heap.size + 1 := by simp
  have HG0 := Zh (show Below w.heap.size w (w.alloc (.cells #[.int .i64 2, .int .i64 (en : Int), .int .i64 (an : Int), .slice a d.length c] 112)) by go_grown)
  have HBX := Zh (BoxW.start w [.int .i64 2, .int .i64 (en : Int), .int .i64 (an : Int), .slice a d.length c] 112)
  generalize w.alloc (.cells #[.int .i64 2, .int .i64 (en : Int), .int .i64 (an : Int), .slice a d.length c] 112) = w0 at *
  refine (HCK.out w0).mono ?_
  rintro e1 w1 ⟨rfl, hb1⟩
  have HG1 := Zh (HG0.out.trans (hb1.mono (by omega)))
  have HX1 := Zh (HBX.out.below (Nat.le_refl _) hb1)
  have hz1 := hb1.size
  clear hb1 HBX HG0 HCK
  rw [errV_0]
  have hx0 := HX1.out.box.1 0 _ rfl
  have hx1 := HX1.out.box.1 1 _ rfl
  have hx2 := HX1.out.box.1 2 _ rfl
  have hx3 := HX1.out.box.1 3 _ rfl
  go_wp2_with fail
  clear hx0 hx1 hx2 hx3
  have hu2 : Us (w1.alloc (.cells #[.int .u64 2, .int .u64 (en : Int)] 186)) (.slice (some ⟨w1.heap.size, 0, none⟩) 2 2) [2, en] := us_two w1 2 en 186
  have hz2 : (w1.alloc (.cells #[.int .u64 2, .int .u64 (en : Int)] 186)).heap.size = w1.heap.size + 1 := by simp
  have hg2 : Below w1.heap.size w1 (w1.alloc (.cells #[.int .u64 2, .int .u64 (en : Int)] 186)) := by go_grown
  have HC2 := Zh (vPut_any [] none 0 [2, en] (some ⟨w1.heap.size, 0, none⟩) 2 _ (SlV.empty _ _ _ (Nat.zero_le _) (fun _ => rfl)) hu2 (by intro n hn; simp at hn; omega) (by simp) (by simp))
  have HX2 := Zh (HX1.out.below (Nat.le_refl _) hg2)
  have HG2 := Zh (HG1.out.trans (hg2.mono (by omega)))
  clear hg2 hu2 HX1 HG1
  generalize (w1.alloc (.cells #[.int .u64 2, .int .u64 (en : Int)] 186)) = w2 at *
  refine HC2.out.mono ?_
  rintro e2 w3 ⟨a3, c3, rfl, ho3, hb3⟩
  rw [List.nil_append] at ho3 ⊢
  have hl3 : (vbs [2, en]).length ≤ 20 := by have := vbs_len (l := [2, en]) (by intro n hn; simp at hn; omega); simpa using this
  obtain ⟨r3, hr3⟩ : ∃ r, r = vbs [2, en] := ⟨_, rfl⟩
  rw [← hr3] at ho3 hl3 ⊢
  have HR3 := Lib.hid' hr3
  have HX3 := Zh (HX2.out.below (Nat.le_refl _) hb3)
  have HG3 := Zh (HG2.out.trans (hb3.mono (by omega)))
  have HO3 := Zh (show Bytes w3 (.slice a3 r3.length c3) r3 from SlV.of_own ho3)
  have hz3 := hb3.size
  clear hr3 ho3 hb3 HX2 HG2 HC2
  have hx0 := HX3.out.box.1 0 _ rfl
  have hx1 := HX3.out.box.1 1 _ rfl
  have hx2 := HX3.out.box.1 2 _ rfl
  have hx3 := HX3.out.box.1 3 _ rfl
  go_wp2_with fail
  clear hx0 hx1 hx2 hx3
  have hu4 := us_one w3 an 186
  have hz4 : (w3.alloc (.cells #[.int .u64 (an : Int)] 186)).heap.size = w3.heap.size + 1 := by simp
  have hg4 : Below w3.heap.size w3 (w3.alloc (.cells #[.int .u64 (an : Int)] 186)) := by go_grown
  have HC4 := Zh (vPut_any r3 a3 c3 [an] (some ⟨w3.heap.size, 0, none⟩) 1 _ (show Bytes (w3.alloc (.cells #[.int .u64 (an : Int)] 186)) (.slice a3 r3.length c3) r3 from SlV.below HO3.out (Nat.le_refl _) hg4) hu4 (by intro n hn; simp at hn; omega) (by omega) (by simp))
  have HX4 := Zh (HX3.out.below (Nat.le_refl _) hg4)
  have HG4 := Zh (HG3.out.trans (hg4.mono (by omega)))
  clear hg4 hu4 HX3 HG3 HO3
  generalize (w3.alloc (.cells #[.int .u64 (an : Int)] 186)) = w4 at *
  have hl5 : (vbs [an]).length ≤ 10 := by have := vbs_len (l := [an]) (by intro n hn; simp at hn; omega); simpa using this
  obtain ⟨r5, hr5⟩ : ∃ r, r = r3 ++ vbs [an] := ⟨_, rfl⟩
  have hl5' : r5.length ≤ 30 := by rw [hr5, List.length_append]; omega
  rw [← hr5] at HC4
  have HR5 := Lib.hid' hr5
  clear hr5 hl5
  refine HC4.out.mono ?_
  rintro e4 w5 ⟨a5, c5, rfl, ho5, hb5⟩
  have HX5 := Zh (HX4.out.below (Nat.le_refl _) hb5)
  have HG5 := Zh (HG4.out.trans (hb5.mono (by omega)))
  have HO5 := Zh (show Bytes w5 (.slice a5 r5.length c5) r5 from SlV.of_own ho5)
  have hz5 := hb5.size
  clear ho5 hb5 HX4 HG4 HC4
  have hx0 := HX5.out.box.1 0 _ rfl
  have hx1 := HX5.out.box.1 1 _ rfl
  have hx2 := HX5.out.box.1 2 _ rfl
  have hx3 := HX5.out.box.1 3 _ rfl
  go_wp2_with fail
  clear hx0 hx1 hx2 hx3
  have HD5 := Zh (show Bytes w5 (.slice a d.length c) d from SlV.below HB.out (Nat.le_refl _) HG5.out)
  have hhl : (headB d).length ≤ 80 := by
   have := vb_len10 (n := d.length) (by omega)
   unfold headB; rw [List.length_append]; omega
  have HC6 := Zh (vPutText_any r5 d a5 a c5 c w5 HO5.out HD5.out (by omega) (by omega))
  obtain ⟨r7, hr7⟩ : ∃ r, r = r5 ++ headB d := ⟨_, rfl⟩
  have hl7 : r7.length ≤ 110 := by rw [hr7, List.length_append]; omega
  rw [← hr7] at HC6
  have HR7 := Lib.hid' hr7
  clear hr7 hhl
  refine HC6.out.mono ?_
  rintro e6 w7 ⟨a7, c7, rfl, ho7, hb7⟩
  have HG7 := Zh (HG5.out.trans (hb7.mono (by omega)))
  have HO7 := Zh (show Bytes w7 (.slice a7 r7.length c7) r7 from SlV.of_own ho7)
  have hz7 := hb7.size
  clear ho7 hb7 HX5 HG5 HC6 HO5 HD5
  go_wp2_with fail
  have HT := Zh (show ({ k := 2, e := en, a := (an : Int), d := d } : Ac).text = r7 from by rw [HR7.out, HR5.out, HR3.out]; exact Ac.text_two)
  rw [HT.out] at HP HN
  have HC8 := Zh (fput_any [] r7 none a7 0 c7 w7 (SlV.empty _ _ _ (Nat.zero_le _) (fun _ => rfl)) HO7.out (by simp))
  refine HC8.out.mono ?_
  unfold FPutR
  rintro e8 w9 ⟨a9, c9, rfl, ho9, hb9⟩
  have HG9 := Zh (HG7.out.trans (hb9.mono (by omega)))
  have HO9 := Zh (own_base (B' := w.heap.size) ho9 (by omega))
  clear ho9 hb9 HC8
  obtain ⟨q, hq⟩ : ∃ q, q = fputB [] r7 := ⟨_, rfl⟩
  have HQ := Zh (HP.out.trans hq.symm)
  rw [← hq] at HO9 ⊢
  have HN9 := Zh (HN.out)
  rw [HN.out, errV_0]
  clear hq HP
  go_wp2_with fail
  refine bodyPost_ret (v := .tuple #[.slice a9 q.length c9, .nilIface]) (by simp [results, Tryz.results97, go_sem]) rfl ?_
  refine ⟨a9, c9, ?_, ?_, HG9.out⟩
  ·rw [HQ.out, ← HX.out]; rfl
  ·rw [HQ.out]; exact HO9.out

 ·obtain ⟨kn, rfl⟩ : ∃ n : Nat, k = n := ⟨k.toNat, by omega⟩
  have b1 : ((kn : Int) == 1) = false := by rw [beq_eq_false_iff_ne]; omega
  have b2 : ((kn : Int) == 2) = false := by rw [beq_eq_false_iff_ne]; omega
  go_enter Tryz.func97, Tryz.ntmps97
  go_wp2_with fail
  have hz0 : (w.alloc (.cells #[.int .i64 (kn : Int), .int .i64 (en : Int), .int .i64 (an : Int), .slice a d.length c] 112)).heap.size = w.heap.size + 1 := by simp
  have HG0 := Zh (show Below w.heap.size w (w.alloc (.cells #[.int .i64 (kn : Int), .int .i64 (en : Int), .int .i64 (an : Int), .slice a d.length c] 112)) by go_grown)
  have HBX := Zh (BoxW.start w [.int .i64 (kn : Int), .int .i64 (en : Int), .int .i64 (an : Int), .slice a d.length c] 112)
  generalize w.alloc (.cells #[.int .i64 (kn : Int), .int .i64 (en : Int), .int .i64 (an : Int), .slice a d.length c] 112) = w0 at *
  refine (HCK.out w0).mono ?_
  rintro e1 w1 ⟨rfl, hb1⟩
  have HG1 := Zh (HG0.out.trans (hb1.mono (by omega)))
  have HX1 := Zh (HBX.out.below (Nat.le_refl _) hb1)
  have hz1 := hb1.size
  clear hb1 HBX HG0 HCK
  rw [errV_0]
  have hx0 := HX1.out.box.1 0 _ rfl
  have hx1 := HX1.out.box.1 1 _ rfl
  have hx2 := HX1.out.box.1 2 _ rfl
  have hx3 := HX1.out.box.1 3 _ rfl
  go_wp2_with fail
  clear hx0 hx1 hx2 hx3
  have hu2 : Us (w1.alloc (.cells #[.int .u64 (kn : Int), .int .u64 (en : Int)] 186)) (.slice (some ⟨w1.heap.size, 0, none⟩) 2 2) [kn, en] := us_two w1 kn en 186
  have hz2 : (w1.alloc (.cells #[.int .u64 (kn : Int), .int .u64 (en : Int)] 186)).heap.size = w1.heap.size + 1 := by simp
  have hg2 : Below w1.heap.size w1 (w1.alloc (.cells #[.int .u64 (kn : Int), .int .u64 (en : Int)] 186)) := by go_grown
  have HC2 := Zh (vPut_any [] none 0 [kn, en] (some ⟨w1.heap.size, 0, none⟩) 2 _ (SlV.empty _ _ _ (Nat.zero_le _) (fun _ => rfl)) hu2 (by intro n hn; simp at hn; omega) (by simp) (by simp))
  have HX2 := Zh (HX1.out.below (Nat.le_refl _) hg2)
  have HG2 := Zh (HG1.out.trans (hg2.mono (by omega)))
  clear hg2 hu2 HX1 HG1
  generalize (w1.alloc (.cells #[.int .u64 (kn : Int), .int .u64 (en : Int)] 186)) = w2 at *
  refine HC2.out.mono ?_
  rintro e2 w3 ⟨a3, c3, rfl, ho3, hb3⟩
  rw [List.nil_append] at ho3 ⊢
  have hl3 : (vbs [kn, en]).length ≤ 20 := by have := vbs_len (l := [kn, en]) (by intro n hn; simp at hn; omega); simpa using this
  obtain ⟨r3, hr3⟩ : ∃ r, r = vbs [kn, en] := ⟨_, rfl⟩
  rw [← hr3] at ho3 hl3 ⊢
  have HR3 := Lib.hid' hr3
  have HX3 := Zh (HX2.out.below (Nat.le_refl _) hb3)
  have HG3 := Zh (HG2.out.trans (hb3.mono (by omega)))
  have HO3 := Zh (show Bytes w3 (.slice a3 r3.length c3) r3 from SlV.of_own ho3)
  have hz3 := hb3.size
  clear hr3 ho3 hb3 HX2 HG2 HC2
  have hx0 := HX3.out.box.1 0 _ rfl
  have hx1 := HX3.out.box.1 1 _ rfl
  have hx2 := HX3.out.box.1 2 _ rfl
  have hx3 := HX3.out.box.1 3 _ rfl
  go_wp2_with fail
  clear hx0 hx1 hx2 hx3
  have hu4 := us_one w3 an 186
  have hz4 : (w3.alloc (.cells #[.int .u64 (an : Int)] 186)).heap.size = w3.heap.size + 1 := by simp
  have hg4 : Below w3.heap.size w3 (w3.alloc (.cells #[.int .u64 (an : Int)] 186)) := by go_grown
  have HC4 := Zh (vPut_any r3 a3 c3 [an] (some ⟨w3.heap.size, 0, none⟩) 1 _ (show Bytes (w3.alloc (.cells #[.int .u64 (an : Int)] 186)) (.slice a3 r3.length c3) r3 from SlV.below HO3.out (Nat.le_refl _) hg4) hu4 (by intro n hn; simp at hn; omega) (by omega) (by simp))
  have HX4 := Zh (HX3.out.below (Nat.le_refl _) hg4)
  have HG4 := Zh (HG3.out.trans (hg4.mono (by omega)))
  clear hg4 hu4 HX3 HG3 HO3
  generalize (w3.alloc (.cells #[.int .u64 (an : Int)] 186)) = w4 at *
  have hl5 : (vbs [an]).length ≤ 10 := by have := vbs_len (l := [an]) (by intro n hn; simp at hn; omega); simpa using this
  obtain ⟨r5, hr5⟩ : ∃ r, r = r3 ++ vbs [an] := ⟨_, rfl⟩
  have hl5' : r5.length ≤ 30 := by rw [hr5, List.length_append]; omega
  rw [← hr5] at HC4
  have HR5 := Lib.hid' hr5
  clear hr5 hl5
  refine HC4.out.mono ?_
  rintro e4 w5 ⟨a5, c5, rfl, ho5, hb5⟩
  have HX5 := Zh (HX4.out.below (Nat.le_refl _) hb5)
  have HG5 := Zh (HG4.out.trans (hb5.mono (by omega)))
  have HO5 := Zh (show Bytes w5 (.slice a5 r5.length c5) r5 from SlV.of_own ho5)
  have hz5 := hb5.size
  clear ho5 hb5 HX4 HG4 HC4
  have hx0 := HX5.out.box.1 0 _ rfl
  have hx1 := HX5.out.box.1 1 _ rfl
  have hx2 := HX5.out.box.1 2 _ rfl
  have hx3 := HX5.out.box.1 3 _ rfl
  go_wp2_with fail
  have HT := Zh (show ({ k := kn, e := en, a := (an : Int), d := d } : Ac).text = r5 from by rw [HR5.out, HR3.out]; exact Ac.text_any (by omega) (by omega))
  rw [HT.out] at HP HN
  have HC8 := Zh (fput_any [] r5 none a5 0 c5 w5 (SlV.empty _ _ _ (Nat.zero_le _) (fun _ => rfl)) HO5.out (by simp))
  refine HC8.out.mono ?_
  unfold FPutR
  rintro e8 w9 ⟨a9, c9, rfl, ho9, hb9⟩
  have HG9 := Zh (HG5.out.trans (hb9.mono (by omega)))
  have HO9 := Zh (own_base (B' := w.heap.size) ho9 (by omega))
  clear ho9 hb9 HC8
  obtain ⟨q, hq⟩ : ∃ q, q = fputB [] r5 := ⟨_, rfl⟩
  have HQ := Zh (HP.out.trans hq.symm)
  rw [← hq] at HO9 ⊢
  have HN9 := Zh (HN.out)
  rw [HN.out, errV_0]
  clear hq HP
  go_wp2_with fail
  refine bodyPost_ret (v := .tuple #[.slice a9 q.length c9, .nilIface]) (by simp [results, Tryz.results97, go_sem]) rfl ?_
  refine ⟨a9, c9, ?_, ?_, HG9.out⟩
  ·rw [HQ.out, ← HX.out]; rfl
  ·rw [HQ.out]; exact HO9.out

end Go.Proofs.YtcpkeddgkpjioaaGreatDoor

namespace Go.Proofs.YtcpkeddgkpjioaaGreatDoor
open Go.RowKit

def RTakeR (r : Nat × Ac) (w : World) (en : Ending) (w' : World) : Prop :=
 ∃ a c, en = .returned (.tuple #[ac9V r.2 a c, errV r.1]) ∧ Bytes w' (.slice a r.2.d.length c) r.2.d ∧ Below w.heap.size w w'
theorem RTakeR.bad {w w' : World} {n : Nat} (h : Below w.heap.size w w') : RTakeR (n, Ac.zero) w (.returned (.tuple #[.agg #[.int .i64 0, .int .i64 0, .int .i64 0, .slice none 0 0], errV n])) w' :=
 ⟨none, 0, rfl, SlV.empty _ _ _ (Nat.zero_le _) (fun _ => rfl), h⟩
theorem RD.within_le (r : RD) (most : Nat) : (r.within most).1 ≤ most := by
 unfold RD.within
 split
 ·simp
 ·omega
theorem fr_set4 {w : World} {N : Nat} {a b c d : Value} : Fr (fun k => k = N) w ((((w.setCell ⟨N, 0, none⟩ a).setCell ⟨N, 1, none⟩ b).setCell ⟨N, 2, none⟩ c).setCell ⟨N, 3, none⟩ d) :=
 frb (frb (frb (fr_set _ _ _ _) (fr_set _ _ _ _)) (fr_set _ _ _ _)) (fr_set _ _ _ _)
theorem set4_cells {N t : Nat} {a b c d a' b' c' d' : Value} {w : World} (h : BoxW N [a, b, c, d] t w) :
  (w.setCell ⟨N, 0, none⟩ a').cell? ⟨N, 0, none⟩ = some a' ∧ ((w.setCell ⟨N, 0, none⟩ a').setCell ⟨N, 1, none⟩ b').cell? ⟨N, 1, none⟩ = some b' ∧ (((w.setCell ⟨N, 0, none⟩ a').setCell ⟨N, 1, none⟩ b').setCell ⟨N, 2, none⟩ c').cell? ⟨N, 2, none⟩ = some c' ∧ ((((w.setCell ⟨N, 0, none⟩ a').setCell ⟨N, 1, none⟩ b').setCell ⟨N, 2, none⟩ c').setCell ⟨N, 3, none⟩ d').cell? ⟨N, 3, none⟩ = some d' :=
 ⟨(h.set 0 a').box.1 0 _ rfl, ((h.set 0 a').set 1 b').box.1 1 _ rfl, (((h.set 0 a').set 1 b').set 2 c').box.1 2 _ rfl, ((((h.set 0 a').set 1 b').set 2 c').set 3 d').box.1 3 _ rfl⟩
theorem ac_no {k e a : Int} {p : Option Addr} {n c : Nat} : ∀ x : UInt8, byteV x ∉ [Value.int .i64 k, .int .i64 e, .int .i64 a, .slice p n c] := by
 intro x h; simp [byteV] at h
set_option maxHeartbeats 4000000 in
theorem rtake9_any (b : List UInt8) (a : Option Addr) (c : Nat) (w : World) (h : Bytes w (.slice a b.length c) b) : Calls Tryz.prog 125 #[.slice a b.length c] w (RTakeR (Ac.take b) w) := by
 have HB := Lib.hid' h
 have hbl := bytes_len h
 clear h
 go_enter Tryz.func125, Tryz.ntmps125
 go_wp2_with fail
 have hz0 : (w.alloc (.cells #[.int .i64 0, .int .i64 0, .int .i64 0, .slice none 0 0] 112)).heap.size = w.heap.size + 1 := by simp
 have HG0 := Zh (show Below w.heap.size w (w.alloc (.cells #[.int .i64 0, .int .i64 0, .int .i64 0, .slice none 0 0] 112)) by go_grown)
 have HX0 := Zh (BoxW.start w [.int .i64 0, .int .i64 0, .int .i64 0, .slice none 0 0] 112)
 generalize (w.alloc (.cells #[.int .i64 0, .int .i64 0, .int .i64 0, .slice none 0 0] 112)) = w0 at *
 refine (fone_any b a c w0 (SlV.below HB.out (Nat.le_refl _) HG0.out)).mono ?_
 rintro e1 w1 ⟨a1, c1, rfl, hy, hb1⟩
 have HX1 := Zh (HX0.out.below (Nat.le_refl _) hb1)
 have HG1 := Zh (HG0.out.trans (hb1.mono (by omega)))
 have HY := Lib.hid' hy
 have hz1 := hb1.size
 clear hb1 hy HX0 HG0
 obtain ⟨⟨bad, t⟩, hr⟩ : ∃ r, r = fone b := ⟨_, rfl⟩
 rw [← hr] at HY ⊢
 have HR := Lib.hid' hr
 clear hr
 simp only at HY ⊢
 by_cases h0 : bad = 0
 rotate_left
 ·have HF := Zh (show Ac.take b = (bad, Ac.zero) by unfold Ac.take; rw [← HR.out]; exact if_pos h0)
  have HE := Zh (errV_pos h0)
  rw [errV_pos h0]
  clear h0
  have x0 := HX1.out.box.1 0 _ rfl
  have x1 := HX1.out.box.1 1 _ rfl
  have x2 := HX1.out.box.1 2 _ rfl
  have x3 := HX1.out.box.1 3 _ rfl
  have xf := HX1.out.box.2.1
  go_wp2
  obtain ⟨y0, y1, y2, y3⟩ := set4_cells (a' := .int .i64 0) (b' := .int .i64 0) (c' := .int .i64 0) (d' := .slice none 0 0) HX1.out
  refine bodyPost_ret (v := .tuple #[.agg #[.int .i64 0, .int .i64 0, .int .i64 0, .slice none 0 0], .iface 69 (.int .i64 bad)]) (by simp [results, Tryz.results125, go_sem, y0, y1, y2, y3]) rfl ?_
  rw [HF.out, ← HE.out]
  exact RTakeR.bad (HG1.out.trans (fr_set4.below HG1.out.size (fun q hq => by omega)))
 subst h0
 rw [errV_0]
 go_wp2_with fail
 refine (vNew_any t a1 c1 w1 HY.out).mono ?_
 rintro e2 w2 ⟨rfl, hr2, hb2, hz2⟩
 have HX2 := Zh (HX1.out.below (Nat.le_refl _) hb2)
 have HG2 := Zh (HG1.out.trans (hb2.mono (by omega)))
 have HR2 := Lib.hid' hr2
 have hR1 : w.heap.size < w1.heap.size := by omega
 have hR2 : w1.heap.size < w2.heap.size := by omega
 clear hr2 hb2 hz2 HX1 HG1 HY hz1 hz0
 generalize w1.heap.size = R at *
 skip
 go_wp2_with fail
 have HW := within_r_any R ⟨t, 0⟩ 5 (by omega) w2 HR2.out
 have hk5 := RD.within_le ⟨t, 0⟩ 5
 obtain ⟨⟨k, r3⟩, hp⟩ : ∃ p, p = RD.within ⟨t, 0⟩ 5 := ⟨_, rfl⟩
 rw [← hp] at HW hk5
 simp only at HW hk5
 have HP := Lib.hid' hp
 clear hp
 refine HW.mono ?_
 rintro e3 w3 ⟨rfl, hr3, hf3⟩
 have HX3 := Zh (HX2.out.fr hf3 (by omega))
 have HG3 := Zh (HG2.out.trans (hf3.below HG2.out.size (fun q hq => by omega)))
 have HR3 := Lib.hid' hr3
 have hR3 : R < w3.heap.size := by have := hf3.size; omega
 clear hr3 hf3 HX2 HG2 HR2 HW hR2
 by_cases hqA : k < 1
 ·skip
  have hl1 : (k : Int) < 1 := by omega
  have c1 : ((k : Int) != 1) = true := by rw [bne_iff_ne]; omega
  have b2 : ((k : Int) == 2) = false := by rw [beq_eq_false_iff_ne]; omega
  go_wp2_with fail
  have hz4 : w3.heap.size < (w3.alloc (.cells #[.int .i64 (k : Int), .int .i64 0, .int .i64 0, .slice none 0 0] 112)).heap.size := by simp
  have hg4 : Below w3.heap.size w3 (w3.alloc (.cells #[.int .i64 (k : Int), .int .i64 0, .int .i64 0, .slice none 0 0] 112)) := by go_grown
  have HM4 := Zh (BoxW.start w3 [.int .i64 (k : Int), .int .i64 0, .int .i64 0, .slice none 0 0] 112)
  have HX4 := Zh (HX3.out.below (Nat.le_refl _) hg4)
  have HG4 := Zh (HG3.out.trans (hg4.mono (by omega)))
  have HR4 := Zh (HR3.out.below (Nat.le_refl _) hg4)
  clear hg4 HX3 HG3 HR3
  generalize (w3.alloc (.cells #[.int .i64 (k : Int), .int .i64 0, .int .i64 0, .slice none 0 0] 112)) = w4 at *
  generalize w3.heap.size = M at *
  obtain ⟨r4, hq4⟩ : ∃ r, r = r3.fail 1 := ⟨_, rfl⟩
  have HC5 := fail_any R r3 1 (by decide) w4 HR4.out
  rw [← hq4] at HC5
  have HQ4 := Lib.hid' hq4
  clear hq4
  refine (HC5).mono ?_
  rintro e5 w5 ⟨rfl, hr5, hf5⟩
  have HX5 := Zh (HX4.out.fr hf5 (by omega))
  have HM5 := Zh (HM4.out.fr hf5 (by omega))
  have HG5 := Zh (HG4.out.trans (hf5.below HG4.out.size (fun q hq => by omega)))
  have HR5 := Lib.hid' hr5
  have hz5 : M < w5.heap.size := by have := hf5.size; omega
  clear hr5 hf5 HX4 HG4 HR4 HM4 hz4
  clear HC5
  have m0 := HM5.out.box.1 0 _ rfl
  have m1 := HM5.out.box.1 1 _ rfl
  have m2 := HM5.out.box.1 2 _ rfl
  have m3 := HM5.out.box.1 3 _ rfl
  have mf := HM5.out.box.2.1
  go_wp2_with fail
  clear m0 m1 m2 m3 mf
  have HW := within_r_any R r4 1099511627776 (by omega) w5 HR5.out
  have hke := RD.within_le r4 1099511627776
  obtain ⟨⟨e, r6⟩, hp⟩ : ∃ p, p = RD.within r4 1099511627776 := ⟨_, rfl⟩
  rw [← hp] at HW hke
  simp only at HW hke
  have HPE := Lib.hid' hp
  clear hp
  refine (HW).mono ?_
  rintro e6 w6 ⟨rfl, hr6, hf6⟩
  have HX6 := Zh (HX5.out.fr hf6 (by omega))
  have HM6 := Zh (HM5.out.fr hf6 (by omega))
  have HG6 := Zh (HG5.out.trans (hf6.below HG5.out.size (fun q hq => by omega)))
  have HR6 := Lib.hid' hr6
  have hz6 : M < w6.heap.size := by have := hf6.size; omega
  clear hr6 hf6 HX5 HG5 HR5 HM5 hz5
  clear HW
  have m0 := HM6.out.box.1 0 _ rfl
  have m1 := HM6.out.box.1 1 _ rfl
  have m2 := HM6.out.box.1 2 _ rfl
  have m3 := HM6.out.box.1 3 _ rfl
  have mf := HM6.out.box.2.1
  go_wp2_with fail
  clear m0 m1 m2 m3 mf
  skip
  have hfs : Fr (fun q => q = M) w6 (w6.setCell ⟨M, 1, none⟩ (.int .i64 (e : Int))) := fr_set _ _ _ _
  have HX7 := Zh (HX6.out.fr hfs (by omega))
  have HM7 := Zh (HM6.out.set 1 (.int .i64 (e : Int)))
  simp only [List.set_cons_zero, List.set_cons_succ] at HM7
  have HG7 := Zh (HG6.out.trans (hfs.below HG6.out.size (fun q hq => by omega)))
  have HR7 := Zh (HR6.out.fr hfs (by omega) (fun a c hd => HM6.out.bytes ac_no hd hfs))
  have hz7 : M < (w6.setCell ⟨M, 1, none⟩ (.int .i64 (e : Int))).heap.size := by have := hfs.size; omega
  clear hfs HX6 HG6 HR6 HM6 hz6
  generalize w6.setCell ⟨M, 1, none⟩ (.int .i64 (e : Int)) = w7 at *
  have HW := within_r_any R r6 1048576 (by omega) w7 HR7.out
  have hka := RD.within_le r6 1048576
  obtain ⟨⟨an, r8⟩, hp⟩ : ∃ p, p = RD.within r6 1048576 := ⟨_, rfl⟩
  rw [← hp] at HW hka
  simp only at HW hka
  have HPA := Lib.hid' hp
  clear hp
  refine (HW).mono ?_
  rintro e8 w8 ⟨rfl, hr8, hf8⟩
  have HX8 := Zh (HX7.out.fr hf8 (by omega))
  have HM8 := Zh (HM7.out.fr hf8 (by omega))
  have HG8 := Zh (HG7.out.trans (hf8.below HG7.out.size (fun q hq => by omega)))
  have HR8 := Lib.hid' hr8
  have hz8 : M < w8.heap.size := by have := hf8.size; omega
  clear hr8 hf8 HX7 HG7 HR7 HM7 hz7
  clear HW
  have m0 := HM8.out.box.1 0 _ rfl
  have m1 := HM8.out.box.1 1 _ rfl
  have m2 := HM8.out.box.1 2 _ rfl
  have m3 := HM8.out.box.1 3 _ rfl
  have mf := HM8.out.box.2.1
  go_wp2_with fail
  clear m0 m1 m2 m3 mf
  skip
  have hfs : Fr (fun q => q = M) w8 (w8.setCell ⟨M, 2, none⟩ (.int .i64 (an : Int))) := fr_set _ _ _ _
  have HX9 := Zh (HX8.out.fr hfs (by omega))
  have HM9 := Zh (HM8.out.set 2 (.int .i64 (an : Int)))
  simp only [List.set_cons_zero, List.set_cons_succ] at HM9
  have HG9 := Zh (HG8.out.trans (hfs.below HG8.out.size (fun q hq => by omega)))
  have HR9 := Zh (HR8.out.fr hfs (by omega) (fun a c hd => HM8.out.bytes ac_no hd hfs))
  have hz9 : M < (w8.setCell ⟨M, 2, none⟩ (.int .i64 (an : Int))).heap.size := by have := hfs.size; omega
  clear hfs HX8 HG8 HR8 HM8 hz8
  generalize w8.setCell ⟨M, 2, none⟩ (.int .i64 (an : Int)) = w9 at *
  obtain ⟨d, hd⟩ : ∃ d : List UInt8, d = [] := ⟨_, rfl⟩
  have HD9 := Zh (show Bytes w9 (.slice none d.length 0) d by rw [hd]; exact SlV.empty _ _ _ (Nat.zero_le _) (fun _ => rfl))
  have hdl : d.length ≤ 9223372036854775807 := by rw [hd]; simp
  have HDD := Lib.hid' hd
  have hdn : d.length = 0 := by rw [hd]; rfl
  have HDN := Lib.hid' hdn
  clear hd hdn
  have HRD := Zh (show Ac.read ⟨t, 0⟩ = (⟨k, e, (an : Int), d⟩, r8) by
   unfold Ac.read
   simp only
   rw [← HP.out]
   simp only
   rw [if_pos (show k < 1 by omega), ← HQ4.out, ← HPE.out]
   simp only
   rw [if_pos (show k ≠ 1 by omega), ← HPA.out]
   simp only
   rw [if_neg (show ¬ k = 2 by omega), HDD.out])
  have HTK := Zh (show Ac.take b = if r8.fin ≠ 0 then (r8.fin, Ac.zero) else if (Ac.mk k e (an : Int) d).check ≠ 0 then ((Ac.mk k e (an : Int) d).check, Ac.zero) else (0, ⟨k, e, (an : Int), d⟩) by
   unfold Ac.take
   rw [← HR.out]
   simp only [ne_eq, not_true_eq_false, if_false]
   rw [HRD.out])
  clear HRD HP HPE HPA HDD HQ4
  have HCE := end_any R r8 w9 HR9.out
  obtain ⟨fn, hfn⟩ : ∃ n, n = r8.fin := ⟨_, rfl⟩
  rw [← hfn] at HCE HTK
  clear hfn
  refine HCE.mono ?_
  rintro e12 w12 ⟨rfl, rfl⟩
  clear HCE
  by_cases hf0 : fn = 0
  rotate_left
  ·have HF := Zh (HTK.out.trans (if_pos hf0))
   have HE := Zh (errV_pos hf0)
   rw [errV_pos hf0]
   clear hf0 HTK HM9
   have x0 := HX9.out.box.1 0 _ rfl
   have x1 := HX9.out.box.1 1 _ rfl
   have x2 := HX9.out.box.1 2 _ rfl
   have x3 := HX9.out.box.1 3 _ rfl
   have xf := HX9.out.box.2.1
   go_wp2
   obtain ⟨y0, y1, y2, y3⟩ := set4_cells (a' := .int .i64 0) (b' := .int .i64 0) (c' := .int .i64 0) (d' := .slice none 0 0) HX9.out
   refine bodyPost_ret (v := .tuple #[.agg #[.int .i64 0, .int .i64 0, .int .i64 0, .slice none 0 0], .iface 69 (.int .i64 fn)]) (by simp [results, Tryz.results125, go_sem, y0, y1, y2, y3]) rfl ?_
   rw [HF.out, ← HE.out]
   exact RTakeR.bad (HG9.out.trans (fr_set4.below HG9.out.size (fun q hq => by omega)))
  subst hf0
  rw [errV_0]
  have HTK2 := Zh (HTK.out.trans (if_neg (by simp)))
  clear HTK
  have m0 := HM9.out.box.1 0 _ rfl
  have m1 := HM9.out.box.1 1 _ rfl
  have m2 := HM9.out.box.1 2 _ rfl
  have m3 := HM9.out.box.1 3 _ rfl
  have mf := HM9.out.box.2.1
  go_wp2_with fail
  clear m0 m1 m2 m3 mf
  have HCK := rcheck9_any ⟨k, e, (an : Int), d⟩ none 0 hdl w9
  obtain ⟨ck, hck⟩ : ∃ n, n = (Ac.mk k e (an : Int) d).check := ⟨_, rfl⟩
  rw [← hck] at HCK HTK2
  clear hck
  unfold ac9V at HCK
  simp only at HCK
  rw [HDN.out] at HCK
  refine HCK.mono ?_
  rintro e13 w13 ⟨rfl, hb13⟩
  have HX13 := Zh (HX9.out.below (Nat.le_refl _) hb13)
  have HM13 := Zh (HM9.out.below (Nat.le_refl _) hb13)
  have HG13 := Zh (HG9.out.trans (hb13.mono HG9.out.size))
  have HD13 := Zh (show Bytes w13 (.slice none d.length 0) d from SlV.below HD9.out (Nat.le_refl _) hb13)
  clear hb13 HX9 HM9 HG9 HD9 HCK HR9 hz9
  by_cases hc0 : ck = 0
  rotate_left
  ·have HF := Zh (HTK2.out.trans (if_pos hc0))
   have HE := Zh (errV_pos hc0)
   rw [errV_pos hc0]
   clear hc0 HTK2 HM13
   have x0 := HX13.out.box.1 0 _ rfl
   have x1 := HX13.out.box.1 1 _ rfl
   have x2 := HX13.out.box.1 2 _ rfl
   have x3 := HX13.out.box.1 3 _ rfl
   have xf := HX13.out.box.2.1
   go_wp2
   obtain ⟨y0, y1, y2, y3⟩ := set4_cells (a' := .int .i64 0) (b' := .int .i64 0) (c' := .int .i64 0) (d' := .slice none 0 0) HX13.out
   refine bodyPost_ret (v := .tuple #[.agg #[.int .i64 0, .int .i64 0, .int .i64 0, .slice none 0 0], .iface 69 (.int .i64 ck)]) (by simp [results, Tryz.results125, go_sem, y0, y1, y2, y3]) rfl ?_
   rw [HF.out, ← HE.out]
   exact RTakeR.bad (HG13.out.trans (fr_set4.below HG13.out.size (fun q hq => by omega)))
  subst hc0
  rw [errV_0]
  have HF := Zh (HTK2.out.trans (if_neg (by simp)))
  clear HTK2
  have m0 := HM13.out.box.1 0 _ rfl
  have m1 := HM13.out.box.1 1 _ rfl
  have m2 := HM13.out.box.1 2 _ rfl
  have m3 := HM13.out.box.1 3 _ rfl
  have mf := HM13.out.box.2.1
  have x0 := HX13.out.box.1 0 _ rfl
  have x1 := HX13.out.box.1 1 _ rfl
  have x2 := HX13.out.box.1 2 _ rfl
  have x3 := HX13.out.box.1 3 _ rfl
  have xf := HX13.out.box.2.1
  go_wp2
  obtain ⟨y0, y1, y2, y3⟩ := set4_cells (a' := .int .i64 (k : Int)) (b' := .int .i64 (e : Int)) (c' := .int .i64 (an : Int)) (d' := .slice none 0 0) HX13.out
  refine bodyPost_ret (v := .tuple #[.agg #[.int .i64 (k : Int), .int .i64 (e : Int), .int .i64 (an : Int), .slice none 0 0], .nilIface]) (by simp [results, Tryz.results125, go_sem, y0, y1, y2, y3]) rfl ?_
  rw [HF.out]
  exact ⟨none, 0, by simp only [ac9V, errV_0, HDN.out], HX13.out.bytes ac_no HD13.out fr_set4, HG13.out.trans (fr_set4.below HG13.out.size (fun q hq => by omega))⟩
 by_cases hqB : k < 2
 ·skip
  have hl1 : ¬ (k : Int) < 1 := by omega
  have c1 : ((k : Int) != 1) = false := by rw [bne_eq_false_iff_eq]; omega
  have b2 : ((k : Int) == 2) = false := by rw [beq_eq_false_iff_ne]; omega
  go_wp2_with fail
  have hz4 : w3.heap.size < (w3.alloc (.cells #[.int .i64 (k : Int), .int .i64 0, .int .i64 0, .slice none 0 0] 112)).heap.size := by simp
  have hg4 : Below w3.heap.size w3 (w3.alloc (.cells #[.int .i64 (k : Int), .int .i64 0, .int .i64 0, .slice none 0 0] 112)) := by go_grown
  have HM4 := Zh (BoxW.start w3 [.int .i64 (k : Int), .int .i64 0, .int .i64 0, .slice none 0 0] 112)
  have HX4 := Zh (HX3.out.below (Nat.le_refl _) hg4)
  have HG4 := Zh (HG3.out.trans (hg4.mono (by omega)))
  have HR4 := Zh (HR3.out.below (Nat.le_refl _) hg4)
  clear hg4 HX3 HG3 HR3
  generalize (w3.alloc (.cells #[.int .i64 (k : Int), .int .i64 0, .int .i64 0, .slice none 0 0] 112)) = w4 at *
  generalize w3.heap.size = M at *
  have hz5 := hz4
  have HX5 := HX4
  have HG5 := HG4
  have HR5 := HR4
  have HM5 := HM4
  clear hz4 HX4 HG4 HR4 HM4
  generalize w4 = w5 at *
  have HW := within_r_any R r3 1099511627776 (by omega) w5 HR5.out
  have hke := RD.within_le r3 1099511627776
  obtain ⟨⟨e, r6⟩, hp⟩ : ∃ p, p = RD.within r3 1099511627776 := ⟨_, rfl⟩
  rw [← hp] at HW hke
  simp only at HW hke
  have HPE := Lib.hid' hp
  clear hp
  refine (HW).mono ?_
  rintro e6 w6 ⟨rfl, hr6, hf6⟩
  have HX6 := Zh (HX5.out.fr hf6 (by omega))
  have HM6 := Zh (HM5.out.fr hf6 (by omega))
  have HG6 := Zh (HG5.out.trans (hf6.below HG5.out.size (fun q hq => by omega)))
  have HR6 := Lib.hid' hr6
  have hz6 : M < w6.heap.size := by have := hf6.size; omega
  clear hr6 hf6 HX5 HG5 HR5 HM5 hz5
  clear HW
  have m0 := HM6.out.box.1 0 _ rfl
  have m1 := HM6.out.box.1 1 _ rfl
  have m2 := HM6.out.box.1 2 _ rfl
  have m3 := HM6.out.box.1 3 _ rfl
  have mf := HM6.out.box.2.1
  go_wp2_with fail
  clear m0 m1 m2 m3 mf
  skip
  have hfs : Fr (fun q => q = M) w6 (w6.setCell ⟨M, 1, none⟩ (.int .i64 (e : Int))) := fr_set _ _ _ _
  have HX7 := Zh (HX6.out.fr hfs (by omega))
  have HM7 := Zh (HM6.out.set 1 (.int .i64 (e : Int)))
  simp only [List.set_cons_zero, List.set_cons_succ] at HM7
  have HG7 := Zh (HG6.out.trans (hfs.below HG6.out.size (fun q hq => by omega)))
  have HR7 := Zh (HR6.out.fr hfs (by omega) (fun a c hd => HM6.out.bytes ac_no hd hfs))
  have hz7 : M < (w6.setCell ⟨M, 1, none⟩ (.int .i64 (e : Int))).heap.size := by have := hfs.size; omega
  clear hfs HX6 HG6 HR6 HM6 hz6
  generalize w6.setCell ⟨M, 1, none⟩ (.int .i64 (e : Int)) = w7 at *
  obtain ⟨d, hd⟩ : ∃ d : List UInt8, d = [] := ⟨_, rfl⟩
  have HD7 := Zh (show Bytes w7 (.slice none d.length 0) d by rw [hd]; exact SlV.empty _ _ _ (Nat.zero_le _) (fun _ => rfl))
  have hdl : d.length ≤ 9223372036854775807 := by rw [hd]; simp
  have HDD := Lib.hid' hd
  have hdn : d.length = 0 := by rw [hd]; rfl
  have HDN := Lib.hid' hdn
  clear hd hdn
  have HRD := Zh (show Ac.read ⟨t, 0⟩ = (⟨k, e, 0, d⟩, r6) by
   unfold Ac.read
   simp only
   rw [← HP.out]
   simp only
   rw [if_neg (show ¬ k < 1 by omega), ← HPE.out]
   simp only
   rw [if_neg (show ¬ k ≠ 1 by omega)]
   simp only
   rw [if_neg (show ¬ k = 2 by omega), HDD.out]
   rfl)
  have HTK := Zh (show Ac.take b = if r6.fin ≠ 0 then (r6.fin, Ac.zero) else if (Ac.mk k e 0 d).check ≠ 0 then ((Ac.mk k e 0 d).check, Ac.zero) else (0, ⟨k, e, 0, d⟩) by
   unfold Ac.take
   rw [← HR.out]
   simp only [ne_eq, not_true_eq_false, if_false]
   rw [HRD.out])
  clear HRD HP HPE HDD
  have HCE := end_any R r6 w7 HR7.out
  obtain ⟨fn, hfn⟩ : ∃ n, n = r6.fin := ⟨_, rfl⟩
  rw [← hfn] at HCE HTK
  clear hfn
  skip
  refine HCE.mono ?_
  rintro e12 w12 ⟨rfl, rfl⟩
  clear HCE
  by_cases hf0 : fn = 0
  rotate_left
  ·have HF := Zh (HTK.out.trans (if_pos hf0))
   have HE := Zh (errV_pos hf0)
   rw [errV_pos hf0]
   clear hf0 HTK HM7
   have x0 := HX7.out.box.1 0 _ rfl
   have x1 := HX7.out.box.1 1 _ rfl
   have x2 := HX7.out.box.1 2 _ rfl
   have x3 := HX7.out.box.1 3 _ rfl
   have xf := HX7.out.box.2.1
   go_wp2
   obtain ⟨y0, y1, y2, y3⟩ := set4_cells (a' := .int .i64 0) (b' := .int .i64 0) (c' := .int .i64 0) (d' := .slice none 0 0) HX7.out
   refine bodyPost_ret (v := .tuple #[.agg #[.int .i64 0, .int .i64 0, .int .i64 0, .slice none 0 0], .iface 69 (.int .i64 fn)]) (by simp [results, Tryz.results125, go_sem, y0, y1, y2, y3]) rfl ?_
   rw [HF.out, ← HE.out]
   exact RTakeR.bad (HG7.out.trans (fr_set4.below HG7.out.size (fun q hq => by omega)))
  subst hf0
  rw [errV_0]
  have HTK2 := Zh (HTK.out.trans (if_neg (by simp)))
  clear HTK
  have m0 := HM7.out.box.1 0 _ rfl
  have m1 := HM7.out.box.1 1 _ rfl
  have m2 := HM7.out.box.1 2 _ rfl
  have m3 := HM7.out.box.1 3 _ rfl
  have mf := HM7.out.box.2.1
  go_wp2_with fail
  clear m0 m1 m2 m3 mf
  have HCK := rcheck9_any ⟨k, e, 0, d⟩ none 0 hdl w7
  obtain ⟨ck, hck⟩ : ∃ n, n = (Ac.mk k e 0 d).check := ⟨_, rfl⟩
  rw [← hck] at HCK HTK2
  clear hck
  unfold ac9V at HCK
  simp only at HCK
  rw [HDN.out] at HCK
  refine HCK.mono ?_
  rintro e13 w13 ⟨rfl, hb13⟩
  have HX13 := Zh (HX7.out.below (Nat.le_refl _) hb13)
  have HM13 := Zh (HM7.out.below (Nat.le_refl _) hb13)
  have HG13 := Zh (HG7.out.trans (hb13.mono HG7.out.size))
  have HD13 := Zh (show Bytes w13 (.slice none d.length 0) d from SlV.below HD7.out (Nat.le_refl _) hb13)
  clear hb13 HX7 HM7 HG7 HD7 HCK HR7 hz7
  by_cases hc0 : ck = 0
  rotate_left
  ·have HF := Zh (HTK2.out.trans (if_pos hc0))
   have HE := Zh (errV_pos hc0)
   rw [errV_pos hc0]
   clear hc0 HTK2 HM13
   have x0 := HX13.out.box.1 0 _ rfl
   have x1 := HX13.out.box.1 1 _ rfl
   have x2 := HX13.out.box.1 2 _ rfl
   have x3 := HX13.out.box.1 3 _ rfl
   have xf := HX13.out.box.2.1
   go_wp2
   obtain ⟨y0, y1, y2, y3⟩ := set4_cells (a' := .int .i64 0) (b' := .int .i64 0) (c' := .int .i64 0) (d' := .slice none 0 0) HX13.out
   refine bodyPost_ret (v := .tuple #[.agg #[.int .i64 0, .int .i64 0, .int .i64 0, .slice none 0 0], .iface 69 (.int .i64 ck)]) (by simp [results, Tryz.results125, go_sem, y0, y1, y2, y3]) rfl ?_
   rw [HF.out, ← HE.out]
   exact RTakeR.bad (HG13.out.trans (fr_set4.below HG13.out.size (fun q hq => by omega)))
  subst hc0
  rw [errV_0]
  have HF := Zh (HTK2.out.trans (if_neg (by simp)))
  clear HTK2
  have m0 := HM13.out.box.1 0 _ rfl
  have m1 := HM13.out.box.1 1 _ rfl
  have m2 := HM13.out.box.1 2 _ rfl
  have m3 := HM13.out.box.1 3 _ rfl
  have mf := HM13.out.box.2.1
  have x0 := HX13.out.box.1 0 _ rfl
  have x1 := HX13.out.box.1 1 _ rfl
  have x2 := HX13.out.box.1 2 _ rfl
  have x3 := HX13.out.box.1 3 _ rfl
  have xf := HX13.out.box.2.1
  go_wp2
  obtain ⟨y0, y1, y2, y3⟩ := set4_cells (a' := .int .i64 (k : Int)) (b' := .int .i64 (e : Int)) (c' := .int .i64 0) (d' := .slice none 0 0) HX13.out
  refine bodyPost_ret (v := .tuple #[.agg #[.int .i64 (k : Int), .int .i64 (e : Int), .int .i64 0, .slice none 0 0], .nilIface]) (by simp [results, Tryz.results125, go_sem, y0, y1, y2, y3]) rfl ?_
  rw [HF.out]
  exact ⟨none, 0, by simp only [ac9V, errV_0, HDN.out], HX13.out.bytes ac_no HD13.out fr_set4, HG13.out.trans (fr_set4.below HG13.out.size (fun q hq => by omega))⟩
 by_cases hqC : k < 3
 ·skip
  have hl1 : ¬ (k : Int) < 1 := by omega
  have c1 : ((k : Int) != 1) = true := by rw [bne_iff_ne]; omega
  have b2 : ((k : Int) == 2) = true := by rw [beq_iff_eq]; omega
  go_wp2_with fail
  have hz4 : w3.heap.size < (w3.alloc (.cells #[.int .i64 (k : Int), .int .i64 0, .int .i64 0, .slice none 0 0] 112)).heap.size := by simp
  have hg4 : Below w3.heap.size w3 (w3.alloc (.cells #[.int .i64 (k : Int), .int .i64 0, .int .i64 0, .slice none 0 0] 112)) := by go_grown
  have HM4 := Zh (BoxW.start w3 [.int .i64 (k : Int), .int .i64 0, .int .i64 0, .slice none 0 0] 112)
  have HX4 := Zh (HX3.out.below (Nat.le_refl _) hg4)
  have HG4 := Zh (HG3.out.trans (hg4.mono (by omega)))
  have HR4 := Zh (HR3.out.below (Nat.le_refl _) hg4)
  clear hg4 HX3 HG3 HR3
  generalize (w3.alloc (.cells #[.int .i64 (k : Int), .int .i64 0, .int .i64 0, .slice none 0 0] 112)) = w4 at *
  generalize w3.heap.size = M at *
  have hz5 := hz4
  have HX5 := HX4
  have HG5 := HG4
  have HR5 := HR4
  have HM5 := HM4
  clear hz4 HX4 HG4 HR4 HM4
  generalize w4 = w5 at *
  have HW := within_r_any R r3 1099511627776 (by omega) w5 HR5.out
  have hke := RD.within_le r3 1099511627776
  obtain ⟨⟨e, r6⟩, hp⟩ : ∃ p, p = RD.within r3 1099511627776 := ⟨_, rfl⟩
  rw [← hp] at HW hke
  simp only at HW hke
  have HPE := Lib.hid' hp
  clear hp
  refine (HW).mono ?_
  rintro e6 w6 ⟨rfl, hr6, hf6⟩
  have HX6 := Zh (HX5.out.fr hf6 (by omega))
  have HM6 := Zh (HM5.out.fr hf6 (by omega))
  have HG6 := Zh (HG5.out.trans (hf6.below HG5.out.size (fun q hq => by omega)))
  have HR6 := Lib.hid' hr6
  have hz6 : M < w6.heap.size := by have := hf6.size; omega
  clear hr6 hf6 HX5 HG5 HR5 HM5 hz5
  clear HW
  have m0 := HM6.out.box.1 0 _ rfl
  have m1 := HM6.out.box.1 1 _ rfl
  have m2 := HM6.out.box.1 2 _ rfl
  have m3 := HM6.out.box.1 3 _ rfl
  have mf := HM6.out.box.2.1
  go_wp2_with fail
  clear m0 m1 m2 m3 mf
  skip
  have hfs : Fr (fun q => q = M) w6 (w6.setCell ⟨M, 1, none⟩ (.int .i64 (e : Int))) := fr_set _ _ _ _
  have HX7 := Zh (HX6.out.fr hfs (by omega))
  have HM7 := Zh (HM6.out.set 1 (.int .i64 (e : Int)))
  simp only [List.set_cons_zero, List.set_cons_succ] at HM7
  have HG7 := Zh (HG6.out.trans (hfs.below HG6.out.size (fun q hq => by omega)))
  have HR7 := Zh (HR6.out.fr hfs (by omega) (fun a c hd => HM6.out.bytes ac_no hd hfs))
  have hz7 : M < (w6.setCell ⟨M, 1, none⟩ (.int .i64 (e : Int))).heap.size := by have := hfs.size; omega
  clear hfs HX6 HG6 HR6 HM6 hz6
  generalize w6.setCell ⟨M, 1, none⟩ (.int .i64 (e : Int)) = w7 at *
  have HW := within_r_any R r6 1048576 (by omega) w7 HR7.out
  have hka := RD.within_le r6 1048576
  obtain ⟨⟨an, r8⟩, hp⟩ : ∃ p, p = RD.within r6 1048576 := ⟨_, rfl⟩
  rw [← hp] at HW hka
  simp only at HW hka
  have HPA := Lib.hid' hp
  clear hp
  refine (HW).mono ?_
  rintro e8 w8 ⟨rfl, hr8, hf8⟩
  have HX8 := Zh (HX7.out.fr hf8 (by omega))
  have HM8 := Zh (HM7.out.fr hf8 (by omega))
  have HG8 := Zh (HG7.out.trans (hf8.below HG7.out.size (fun q hq => by omega)))
  have HR8 := Lib.hid' hr8
  have hz8 : M < w8.heap.size := by have := hf8.size; omega
  clear hr8 hf8 HX7 HG7 HR7 HM7 hz7
  clear HW
  have m0 := HM8.out.box.1 0 _ rfl
  have m1 := HM8.out.box.1 1 _ rfl
  have m2 := HM8.out.box.1 2 _ rfl
  have m3 := HM8.out.box.1 3 _ rfl
  have mf := HM8.out.box.2.1
  go_wp2_with fail
  clear m0 m1 m2 m3 mf
  skip
  have hfs : Fr (fun q => q = M) w8 (w8.setCell ⟨M, 2, none⟩ (.int .i64 (an : Int))) := fr_set _ _ _ _
  have HX9 := Zh (HX8.out.fr hfs (by omega))
  have HM9 := Zh (HM8.out.set 2 (.int .i64 (an : Int)))
  simp only [List.set_cons_zero, List.set_cons_succ] at HM9
  have HG9 := Zh (HG8.out.trans (hfs.below HG8.out.size (fun q hq => by omega)))
  have HR9 := Zh (HR8.out.fr hfs (by omega) (fun a c hd => HM8.out.bytes ac_no hd hfs))
  have hz9 : M < (w8.setCell ⟨M, 2, none⟩ (.int .i64 (an : Int))).heap.size := by have := hfs.size; omega
  clear hfs HX8 HG8 HR8 HM8 hz8
  generalize w8.setCell ⟨M, 2, none⟩ (.int .i64 (an : Int)) = w9 at *
  have HW := text_r_any R r8 64 (by omega) w9 HR9.out
  obtain ⟨⟨d, r10⟩, hp⟩ : ∃ p, p = RD.text r8 64 := ⟨_, rfl⟩
  rw [← hp] at HW
  simp only at HW
  have HPD := Lib.hid' hp
  clear hp
  unfold FixR at HW
  refine (HW).mono ?_
  rintro e10 w10 ⟨a10, c10, rfl, ho10, hr10, hf10⟩
  have HD10 := Zh (show Bytes w10 (.slice a10 d.length c10) d from SlV.of_own ho10)
  have hdl := bytes_len HD10.out
  clear ho10
  have HX10 := Zh (HX9.out.fr hf10 (by omega))
  have HM10 := Zh (HM9.out.fr hf10 (by omega))
  have HG10 := Zh (HG9.out.trans (hf10.below HG9.out.size (fun q hq => by omega)))
  have HR10 := Lib.hid' hr10
  have hz10 : M < w10.heap.size := by have := hf10.size; omega
  clear hr10 hf10 HX9 HG9 HR9 HM9 hz9
  clear HW
  have m0 := HM10.out.box.1 0 _ rfl
  have m1 := HM10.out.box.1 1 _ rfl
  have m2 := HM10.out.box.1 2 _ rfl
  have m3 := HM10.out.box.1 3 _ rfl
  have mf := HM10.out.box.2.1
  go_wp2_with fail
  clear m0 m1 m2 m3 mf
  skip
  have hfs : Fr (fun q => q = M) w10 (w10.setCell ⟨M, 3, none⟩ (.slice a10 d.length c10)) := fr_set _ _ _ _
  have HX11 := Zh (HX10.out.fr hfs (by omega))
  have HM11 := Zh (HM10.out.set 3 (.slice a10 d.length c10))
  simp only [List.set_cons_zero, List.set_cons_succ] at HM11
  have HG11 := Zh (HG10.out.trans (hfs.below HG10.out.size (fun q hq => by omega)))
  have HR11 := Zh (HR10.out.fr hfs (by omega) (fun a c hd => HM10.out.bytes ac_no hd hfs))
  have hz11 : M < (w10.setCell ⟨M, 3, none⟩ (.slice a10 d.length c10)).heap.size := by have := hfs.size; omega
  have HD11 := Zh (HM10.out.bytes ac_no HD10.out hfs)
  clear HD10
  clear hfs HX10 HG10 HR10 HM10 hz10
  generalize w10.setCell ⟨M, 3, none⟩ (.slice a10 d.length c10) = w11 at *
  have HRD := Zh (show Ac.read ⟨t, 0⟩ = (⟨k, e, (an : Int), d⟩, r10) by
   unfold Ac.read
   simp only
   rw [← HP.out]
   simp only
   rw [if_neg (show ¬ k < 1 by omega), ← HPE.out]
   simp only
   rw [if_pos (show k ≠ 1 by omega), ← HPA.out]
   simp only
   rw [if_pos (show k = 2 by omega), ← HPD.out])
  have HTK := Zh (show Ac.take b = if r10.fin ≠ 0 then (r10.fin, Ac.zero) else if (Ac.mk k e (an : Int) d).check ≠ 0 then ((Ac.mk k e (an : Int) d).check, Ac.zero) else (0, ⟨k, e, (an : Int), d⟩) by
   unfold Ac.take
   rw [← HR.out]
   simp only [ne_eq, not_true_eq_false, if_false]
   rw [HRD.out])
  clear HRD HP HPE HPA HPD
  have HCE := end_any R r10 w11 HR11.out
  obtain ⟨fn, hfn⟩ : ∃ n, n = r10.fin := ⟨_, rfl⟩
  rw [← hfn] at HCE HTK
  clear hfn
  refine HCE.mono ?_
  rintro e12 w12 ⟨rfl, rfl⟩
  clear HCE
  by_cases hf0 : fn = 0
  rotate_left
  ·have HF := Zh (HTK.out.trans (if_pos hf0))
   have HE := Zh (errV_pos hf0)
   rw [errV_pos hf0]
   clear hf0 HTK HM11
   have x0 := HX11.out.box.1 0 _ rfl
   have x1 := HX11.out.box.1 1 _ rfl
   have x2 := HX11.out.box.1 2 _ rfl
   have x3 := HX11.out.box.1 3 _ rfl
   have xf := HX11.out.box.2.1
   go_wp2
   obtain ⟨y0, y1, y2, y3⟩ := set4_cells (a' := .int .i64 0) (b' := .int .i64 0) (c' := .int .i64 0) (d' := .slice none 0 0) HX11.out
   refine bodyPost_ret (v := .tuple #[.agg #[.int .i64 0, .int .i64 0, .int .i64 0, .slice none 0 0], .iface 69 (.int .i64 fn)]) (by simp [results, Tryz.results125, go_sem, y0, y1, y2, y3]) rfl ?_
   rw [HF.out, ← HE.out]
   exact RTakeR.bad (HG11.out.trans (fr_set4.below HG11.out.size (fun q hq => by omega)))
  subst hf0
  rw [errV_0]
  have HTK2 := Zh (HTK.out.trans (if_neg (by simp)))
  clear HTK
  have m0 := HM11.out.box.1 0 _ rfl
  have m1 := HM11.out.box.1 1 _ rfl
  have m2 := HM11.out.box.1 2 _ rfl
  have m3 := HM11.out.box.1 3 _ rfl
  have mf := HM11.out.box.2.1
  go_wp2_with fail
  clear m0 m1 m2 m3 mf
  have HCK := rcheck9_any ⟨k, e, (an : Int), d⟩ a10 c10 hdl w11
  obtain ⟨ck, hck⟩ : ∃ n, n = (Ac.mk k e (an : Int) d).check := ⟨_, rfl⟩
  rw [← hck] at HCK HTK2
  clear hck
  unfold ac9V at HCK
  simp only at HCK
  refine HCK.mono ?_
  rintro e13 w13 ⟨rfl, hb13⟩
  have HX13 := Zh (HX11.out.below (Nat.le_refl _) hb13)
  have HM13 := Zh (HM11.out.below (Nat.le_refl _) hb13)
  have HG13 := Zh (HG11.out.trans (hb13.mono HG11.out.size))
  have HD13 := Zh (show Bytes w13 (.slice a10 d.length c10) d from SlV.below HD11.out (Nat.le_refl _) hb13)
  clear hb13 HX11 HM11 HG11 HD11 HCK HR11 hz11
  by_cases hc0 : ck = 0
  rotate_left
  ·have HF := Zh (HTK2.out.trans (if_pos hc0))
   have HE := Zh (errV_pos hc0)
   rw [errV_pos hc0]
   clear hc0 HTK2 HM13
   have x0 := HX13.out.box.1 0 _ rfl
   have x1 := HX13.out.box.1 1 _ rfl
   have x2 := HX13.out.box.1 2 _ rfl
   have x3 := HX13.out.box.1 3 _ rfl
   have xf := HX13.out.box.2.1
   go_wp2
   obtain ⟨y0, y1, y2, y3⟩ := set4_cells (a' := .int .i64 0) (b' := .int .i64 0) (c' := .int .i64 0) (d' := .slice none 0 0) HX13.out
   refine bodyPost_ret (v := .tuple #[.agg #[.int .i64 0, .int .i64 0, .int .i64 0, .slice none 0 0], .iface 69 (.int .i64 ck)]) (by simp [results, Tryz.results125, go_sem, y0, y1, y2, y3]) rfl ?_
   rw [HF.out, ← HE.out]
   exact RTakeR.bad (HG13.out.trans (fr_set4.below HG13.out.size (fun q hq => by omega)))
  subst hc0
  rw [errV_0]
  have HF := Zh (HTK2.out.trans (if_neg (by simp)))
  clear HTK2
  have m0 := HM13.out.box.1 0 _ rfl
  have m1 := HM13.out.box.1 1 _ rfl
  have m2 := HM13.out.box.1 2 _ rfl
  have m3 := HM13.out.box.1 3 _ rfl
  have mf := HM13.out.box.2.1
  have x0 := HX13.out.box.1 0 _ rfl
  have x1 := HX13.out.box.1 1 _ rfl
  have x2 := HX13.out.box.1 2 _ rfl
  have x3 := HX13.out.box.1 3 _ rfl
  have xf := HX13.out.box.2.1
  go_wp2
  obtain ⟨y0, y1, y2, y3⟩ := set4_cells (a' := .int .i64 (k : Int)) (b' := .int .i64 (e : Int)) (c' := .int .i64 (an : Int)) (d' := .slice a10 d.length c10) HX13.out
  refine bodyPost_ret (v := .tuple #[.agg #[.int .i64 (k : Int), .int .i64 (e : Int), .int .i64 (an : Int), .slice a10 d.length c10], .nilIface]) (by simp [results, Tryz.results125, go_sem, y0, y1, y2, y3]) rfl ?_
  rw [HF.out]
  exact ⟨a10, c10, by simp only [ac9V, errV_0], HX13.out.bytes ac_no HD13.out fr_set4, HG13.out.trans (fr_set4.below HG13.out.size (fun q hq => by omega))⟩
 have hl1 : ¬ (k : Int) < 1 := by omega
 have c1 : ((k : Int) != 1) = true := by rw [bne_iff_ne]; omega
 have b2 : ((k : Int) == 2) = false := by rw [beq_eq_false_iff_ne]; omega
 go_wp2_with fail
 have hz4 : w3.heap.size < (w3.alloc (.cells #[.int .i64 (k : Int), .int .i64 0, .int .i64 0, .slice none 0 0] 112)).heap.size := by simp
 have hg4 : Below w3.heap.size w3 (w3.alloc (.cells #[.int .i64 (k : Int), .int .i64 0, .int .i64 0, .slice none 0 0] 112)) := by go_grown
 have HM4 := Zh (BoxW.start w3 [.int .i64 (k : Int), .int .i64 0, .int .i64 0, .slice none 0 0] 112)
 have HX4 := Zh (HX3.out.below (Nat.le_refl _) hg4)
 have HG4 := Zh (HG3.out.trans (hg4.mono (by omega)))
 have HR4 := Zh (HR3.out.below (Nat.le_refl _) hg4)
 clear hg4 HX3 HG3 HR3
 generalize (w3.alloc (.cells #[.int .i64 (k : Int), .int .i64 0, .int .i64 0, .slice none 0 0] 112)) = w4 at *
 generalize w3.heap.size = M at *
 have hz5 := hz4
 have HX5 := HX4
 have HG5 := HG4
 have HR5 := HR4
 have HM5 := HM4
 clear hz4 HX4 HG4 HR4 HM4
 generalize w4 = w5 at *
 have HW := within_r_any R r3 1099511627776 (by omega) w5 HR5.out
 have hke := RD.within_le r3 1099511627776
 obtain ⟨⟨e, r6⟩, hp⟩ : ∃ p, p = RD.within r3 1099511627776 := ⟨_, rfl⟩
 rw [← hp] at HW hke
 simp only at HW hke
 have HPE := Lib.hid' hp
 clear hp
 refine (HW).mono ?_
 rintro e6 w6 ⟨rfl, hr6, hf6⟩
 have HX6 := Zh (HX5.out.fr hf6 (by omega))
 have HM6 := Zh (HM5.out.fr hf6 (by omega))
 have HG6 := Zh (HG5.out.trans (hf6.below HG5.out.size (fun q hq => by omega)))
 have HR6 := Lib.hid' hr6
 have hz6 : M < w6.heap.size := by have := hf6.size; omega
 clear hr6 hf6 HX5 HG5 HR5 HM5 hz5
 clear HW
 have m0 := HM6.out.box.1 0 _ rfl
 have m1 := HM6.out.box.1 1 _ rfl
 have m2 := HM6.out.box.1 2 _ rfl
 have m3 := HM6.out.box.1 3 _ rfl
 have mf := HM6.out.box.2.1
 go_wp2_with fail
 clear m0 m1 m2 m3 mf
 skip
 have hfs : Fr (fun q => q = M) w6 (w6.setCell ⟨M, 1, none⟩ (.int .i64 (e : Int))) := fr_set _ _ _ _
 have HX7 := Zh (HX6.out.fr hfs (by omega))
 have HM7 := Zh (HM6.out.set 1 (.int .i64 (e : Int)))
 simp only [List.set_cons_zero, List.set_cons_succ] at HM7
 have HG7 := Zh (HG6.out.trans (hfs.below HG6.out.size (fun q hq => by omega)))
 have HR7 := Zh (HR6.out.fr hfs (by omega) (fun a c hd => HM6.out.bytes ac_no hd hfs))
 have hz7 : M < (w6.setCell ⟨M, 1, none⟩ (.int .i64 (e : Int))).heap.size := by have := hfs.size; omega
 clear hfs HX6 HG6 HR6 HM6 hz6
 generalize w6.setCell ⟨M, 1, none⟩ (.int .i64 (e : Int)) = w7 at *
 have HW := within_r_any R r6 1048576 (by omega) w7 HR7.out
 have hka := RD.within_le r6 1048576
 obtain ⟨⟨an, r8⟩, hp⟩ : ∃ p, p = RD.within r6 1048576 := ⟨_, rfl⟩
 rw [← hp] at HW hka
 simp only at HW hka
 have HPA := Lib.hid' hp
 clear hp
 refine (HW).mono ?_
 rintro e8 w8 ⟨rfl, hr8, hf8⟩
 have HX8 := Zh (HX7.out.fr hf8 (by omega))
 have HM8 := Zh (HM7.out.fr hf8 (by omega))
 have HG8 := Zh (HG7.out.trans (hf8.below HG7.out.size (fun q hq => by omega)))
 have HR8 := Lib.hid' hr8
 have hz8 : M < w8.heap.size := by have := hf8.size; omega
 clear hr8 hf8 HX7 HG7 HR7 HM7 hz7
 clear HW
 have m0 := HM8.out.box.1 0 _ rfl
 have m1 := HM8.out.box.1 1 _ rfl
 have m2 := HM8.out.box.1 2 _ rfl
 have m3 := HM8.out.box.1 3 _ rfl
 have mf := HM8.out.box.2.1
 go_wp2_with fail
 clear m0 m1 m2 m3 mf
 skip
 have hfs : Fr (fun q => q = M) w8 (w8.setCell ⟨M, 2, none⟩ (.int .i64 (an : Int))) := fr_set _ _ _ _
 have HX9 := Zh (HX8.out.fr hfs (by omega))
 have HM9 := Zh (HM8.out.set 2 (.int .i64 (an : Int)))
 simp only [List.set_cons_zero, List.set_cons_succ] at HM9
 have HG9 := Zh (HG8.out.trans (hfs.below HG8.out.size (fun q hq => by omega)))
 have HR9 := Zh (HR8.out.fr hfs (by omega) (fun a c hd => HM8.out.bytes ac_no hd hfs))
 have hz9 : M < (w8.setCell ⟨M, 2, none⟩ (.int .i64 (an : Int))).heap.size := by have := hfs.size; omega
 clear hfs HX8 HG8 HR8 HM8 hz8
 generalize w8.setCell ⟨M, 2, none⟩ (.int .i64 (an : Int)) = w9 at *
 obtain ⟨d, hd⟩ : ∃ d : List UInt8, d = [] := ⟨_, rfl⟩
 have HD9 := Zh (show Bytes w9 (.slice none d.length 0) d by rw [hd]; exact SlV.empty _ _ _ (Nat.zero_le _) (fun _ => rfl))
 have hdl : d.length ≤ 9223372036854775807 := by rw [hd]; simp
 have HDD := Lib.hid' hd
 have hdn : d.length = 0 := by rw [hd]; rfl
 have HDN := Lib.hid' hdn
 clear hd hdn
 have HRD := Zh (show Ac.read ⟨t, 0⟩ = (⟨k, e, (an : Int), d⟩, r8) by
  unfold Ac.read
  simp only
  rw [← HP.out]
  simp only
  rw [if_neg (show ¬ k < 1 by omega), ← HPE.out]
  simp only
  rw [if_pos (show k ≠ 1 by omega), ← HPA.out]
  simp only
  rw [if_neg (show ¬ k = 2 by omega), HDD.out])
 have HTK := Zh (show Ac.take b = if r8.fin ≠ 0 then (r8.fin, Ac.zero) else if (Ac.mk k e (an : Int) d).check ≠ 0 then ((Ac.mk k e (an : Int) d).check, Ac.zero) else (0, ⟨k, e, (an : Int), d⟩) by
  unfold Ac.take
  rw [← HR.out]
  simp only [ne_eq, not_true_eq_false, if_false]
  rw [HRD.out])
 clear HRD HP HPE HPA HDD
 have HCE := end_any R r8 w9 HR9.out
 obtain ⟨fn, hfn⟩ : ∃ n, n = r8.fin := ⟨_, rfl⟩
 rw [← hfn] at HCE HTK
 clear hfn
 refine HCE.mono ?_
 rintro e12 w12 ⟨rfl, rfl⟩
 clear HCE
 by_cases hf0 : fn = 0
 rotate_left
 ·have HF := Zh (HTK.out.trans (if_pos hf0))
  have HE := Zh (errV_pos hf0)
  rw [errV_pos hf0]
  clear hf0 HTK HM9
  have x0 := HX9.out.box.1 0 _ rfl
  have x1 := HX9.out.box.1 1 _ rfl
  have x2 := HX9.out.box.1 2 _ rfl
  have x3 := HX9.out.box.1 3 _ rfl
  have xf := HX9.out.box.2.1
  go_wp2
  obtain ⟨y0, y1, y2, y3⟩ := set4_cells (a' := .int .i64 0) (b' := .int .i64 0) (c' := .int .i64 0) (d' := .slice none 0 0) HX9.out
  refine bodyPost_ret (v := .tuple #[.agg #[.int .i64 0, .int .i64 0, .int .i64 0, .slice none 0 0], .iface 69 (.int .i64 fn)]) (by simp [results, Tryz.results125, go_sem, y0, y1, y2, y3]) rfl ?_
  rw [HF.out, ← HE.out]
  exact RTakeR.bad (HG9.out.trans (fr_set4.below HG9.out.size (fun q hq => by omega)))
 subst hf0
 rw [errV_0]
 have HTK2 := Zh (HTK.out.trans (if_neg (by simp)))
 clear HTK
 have m0 := HM9.out.box.1 0 _ rfl
 have m1 := HM9.out.box.1 1 _ rfl
 have m2 := HM9.out.box.1 2 _ rfl
 have m3 := HM9.out.box.1 3 _ rfl
 have mf := HM9.out.box.2.1
 go_wp2_with fail
 clear m0 m1 m2 m3 mf
 have HCK := rcheck9_any ⟨k, e, (an : Int), d⟩ none 0 hdl w9
 obtain ⟨ck, hck⟩ : ∃ n, n = (Ac.mk k e (an : Int) d).check := ⟨_, rfl⟩
 rw [← hck] at HCK HTK2
 clear hck
 unfold ac9V at HCK
 simp only at HCK
 rw [HDN.out] at HCK
 refine HCK.mono ?_
 rintro e13 w13 ⟨rfl, hb13⟩
 have HX13 := Zh (HX9.out.below (Nat.le_refl _) hb13)
 have HM13 := Zh (HM9.out.below (Nat.le_refl _) hb13)
 have HG13 := Zh (HG9.out.trans (hb13.mono HG9.out.size))
 have HD13 := Zh (show Bytes w13 (.slice none d.length 0) d from SlV.below HD9.out (Nat.le_refl _) hb13)
 clear hb13 HX9 HM9 HG9 HD9 HCK HR9 hz9
 by_cases hc0 : ck = 0
 rotate_left
 ·have HF := Zh (HTK2.out.trans (if_pos hc0))
  have HE := Zh (errV_pos hc0)
  rw [errV_pos hc0]
  clear hc0 HTK2 HM13
  have x0 := HX13.out.box.1 0 _ rfl
  have x1 := HX13.out.box.1 1 _ rfl
  have x2 := HX13.out.box.1 2 _ rfl
  have x3 := HX13.out.box.1 3 _ rfl
  have xf := HX13.out.box.2.1
  go_wp2
  obtain ⟨y0, y1, y2, y3⟩ := set4_cells (a' := .int .i64 0) (b' := .int .i64 0) (c' := .int .i64 0) (d' := .slice none 0 0) HX13.out
  refine bodyPost_ret (v := .tuple #[.agg #[.int .i64 0, .int .i64 0, .int .i64 0, .slice none 0 0], .iface 69 (.int .i64 ck)]) (by simp [results, Tryz.results125, go_sem, y0, y1, y2, y3]) rfl ?_
  rw [HF.out, ← HE.out]
  exact RTakeR.bad (HG13.out.trans (fr_set4.below HG13.out.size (fun q hq => by omega)))
 subst hc0
 rw [errV_0]
 have HF := Zh (HTK2.out.trans (if_neg (by simp)))
 clear HTK2
 have m0 := HM13.out.box.1 0 _ rfl
 have m1 := HM13.out.box.1 1 _ rfl
 have m2 := HM13.out.box.1 2 _ rfl
 have m3 := HM13.out.box.1 3 _ rfl
 have mf := HM13.out.box.2.1
 have x0 := HX13.out.box.1 0 _ rfl
 have x1 := HX13.out.box.1 1 _ rfl
 have x2 := HX13.out.box.1 2 _ rfl
 have x3 := HX13.out.box.1 3 _ rfl
 have xf := HX13.out.box.2.1
 go_wp2
 obtain ⟨y0, y1, y2, y3⟩ := set4_cells (a' := .int .i64 (k : Int)) (b' := .int .i64 (e : Int)) (c' := .int .i64 (an : Int)) (d' := .slice none 0 0) HX13.out
 refine bodyPost_ret (v := .tuple #[.agg #[.int .i64 (k : Int), .int .i64 (e : Int), .int .i64 (an : Int), .slice none 0 0], .nilIface]) (by simp [results, Tryz.results125, go_sem, y0, y1, y2, y3]) rfl ?_
 rw [HF.out]
 exact ⟨none, 0, by simp only [ac9V, errV_0, HDN.out], HX13.out.bytes ac_no HD13.out fr_set4, HG13.out.trans (fr_set4.below HG13.out.size (fun q hq => by omega))⟩
end Go.Proofs.YtcpkeddgkpjioaaGreatDoor

namespace Go.Proofs.YtcpkeddgkpjioaaGreatDoor
open Go.RowKit

/-- a block of which nothing is told -/
def Asn.blk (N : Nat) : Asn where
 holds := fun w => N < w.heap.size
 foot := fun b => b = N
 lt := fun _ h b e => by subst e; exact h
 keep := fun w w' h k => by
  have h1 := k N rfl
  rw [Array.getElem?_eq_getElem h] at h1
  exact (Array.getElem?_eq_some_iff.1 h1).1
theorem Sep.blk0 {w : World} {N : Nat} (h : N < w.heap.size) : Sep w (fun k => k = N) [Asn.blk N] w := Sep.start1 (Asn.blk N) h
/-- a call that writes that block alone -/
theorem Sep.rd {w0 w w' : World} {F : Nat → Prop} {L : List Asn} (h : Sep w0 F L w) (i : Nat) {N : Nat} (hi : L[i]? = some (Asn.blk N)) (hf : Fr (fun k => k = N) w w') : Sep w0 F (Asn.blk N :: L.eraseIdx i) w' :=
 (h.focus i hi).fr1 (A := Asn.blk N) (B := Asn.blk N) hf (Nat.lt_of_lt_of_le (h.at i hi) hf.size) (fun b hb => .inr hb)
/-- .. and makes a row -/
theorem Sep.rdRow {w0 w w' : World} {F : Nat → Prop} {L : List Asn} (h : Sep w0 F L w) (i : Nat) {N : Nat} (hi : L[i]? = some (Asn.blk N)) (hf : Fr (fun k => k = N) w w') {e size n : Nat} {v : Value} {xs : List Value} (hr : w'.ownsRow w.heap.size e size v n xs) : Sep w0 F (.row e size v n xs :: Asn.blk N :: L.eraseIdx i) w' := by
 refine (h.focus i hi).call (A := Asn.blk N) (K := [.row e size v n xs, Asn.blk N]) ⟨hf, ?_, ?_, ?_⟩
 ·simp only [List.mem_cons, List.not_mem_nil, or_false]
  rintro A (rfl | rfl)
  ·exact own_base hr (Nat.zero_le _)
  ·exact Nat.lt_of_lt_of_le (h.at i hi) hf.size
 ·simp only [List.pairwise_cons, List.mem_singleton, forall_eq, List.not_mem_nil, false_implies, implies_true, List.Pairwise.nil, and_true]
  intro b hb1 hb2
  have h1 := (own_blk hr hb1).1
  have h2 : b = N := hb2
  have h3 : N < w.heap.size := h.at i hi
  omega
 ·simp only [List.mem_cons, List.not_mem_nil, or_false]
  rintro A (rfl | rfl) b hb
  ·exact .inl (own_blk hr hb).1
  ·exact .inr hb
/-- a row lies in a new block, the block N being told of beside it -/
theorem Sep.own1 {w0 w : World} {N : Nat} {L : List Asn} (h : Sep w0 (fun k => k = N) L w) (i j : Nat) (hij : i ≠ j) {e size n : Nat} {v : Value} {xs : List Value} (hi : L[i]? = some (.row e size v n xs)) (hj : L[j]? = some (Asn.blk N)) : w.ownsRow w0.heap.size e size v n xs := by
 have h1 := h.row i hi
 refine ⟨h1.1, ?_⟩
 rcases h1.2 with h2 | ⟨g, cap, cur, hv, hg, r⟩
 ·exact Or.inl h2
 ·refine Or.inr ⟨g, cap, cur, hv, ?_, r⟩
  have hf : (Asn.row e size v n xs).foot g := by show v.ownBlock = some g; rw [hv]; rfl
  rcases h.new _ (List.mem_of_getElem? hi) g hf with h3 | h3
  ·exact h3
  ·exact absurd h3 (h.off i j hi hj hij g hf)
theorem Sep.push {α : Type} (f : α → Asn) {w0 w : World} {F : Nat → Prop} {L : List Asn} {Ks : List α} {y : α} (h : Sep w0 F (f y :: Asn.all (Ks.map f) :: L) w) : Sep w0 F (Asn.all ((Ks ++ [y]).map f) :: L) w := by
 have h1 := h.join
 have h2 := (h1.at 0 rfl)
 refine h1.turn ?_ ?_
 ·obtain ⟨a, b, c⟩ := h2
  obtain ⟨b1, b2⟩ := Asn.all_holds.1 b
  rw [List.map_append]
  refine Asn.all_holds.2 ⟨?_, List.pairwise_append.2 ⟨b2, List.pairwise_singleton _ _, ?_⟩⟩
  ·intro A hA
   rcases List.mem_append.1 hA with hA | hA
   ·exact b1 A hA
   ·simp only [List.map_cons, List.map_nil, List.mem_singleton] at hA; subst hA; exact a
  ·intro A hA B hB k hk hk2
   simp only [List.map_cons, List.map_nil, List.mem_singleton] at hB; subst hB
   exact c k hk2 (Asn.all_foot.2 ⟨A, hA, hk⟩)
 ·intro k hk
  rw [List.map_append] at hk
  obtain ⟨A, hA, hk⟩ := Asn.all_foot.1 hk
  rcases List.mem_append.1 hA with hA | hA
  ·exact .inr (Asn.all_foot.2 ⟨A, hA, hk⟩)
  ·simp only [List.map_cons, List.map_nil, List.mem_singleton] at hA; subst hA; exact .inl hk
theorem Sep.none {α : Type} (f : α → Asn) {w0 w : World} {F : Nat → Prop} {L : List Asn} (h : Sep w0 F L w) : Sep w0 F (Asn.all (([] : List α).map f) :: L) w := h.addEmp trivial (fun _ h => h)
/-- one of many parts holds -/
theorem Sep.one {α : Type} (f : α → Asn) {w0 w : World} {F : Nat → Prop} {L : List Asn} {Ks : List α} (h : Sep w0 F L w) (i : Nat) (hi : L[i]? = some (Asn.all (Ks.map f))) {x : α} (hx : x ∈ Ks) : (f x).holds w := (Asn.all_holds.1 (h.at i hi)).1 (f x) (List.mem_map_of_mem hx)
/-- .. and lies in a new block, the block N being told of beside it -/
theorem Sep.oneAt {w0 w : World} {N : Nat} {α : Type} (f : α → Asn) {L : List Asn} {Ks : List α} (h : Sep w0 (fun k => k = N) L w) (i j : Nat) (hij : i ≠ j) (hi : L[i]? = some (Asn.all (Ks.map f))) (hj : L[j]? = some (Asn.blk N)) {x : α} (hx : x ∈ Ks) {e size n : Nat} {v : Value} {xs : List Value} (hf : f x = .row e size v n xs) : w.ownsRow w0.heap.size e size v n xs := by
 have h1 := h.one f i hi hx
 rw [hf] at h1
 refine ⟨h1.1, ?_⟩
 rcases h1.2 with h2 | ⟨g, cap, cur, hv, hg, r⟩
 ·exact Or.inl h2
 ·refine Or.inr ⟨g, cap, cur, hv, ?_, r⟩
  have hg2 : (Asn.all (Ks.map f)).foot g := Asn.all_foot.2 ⟨f x, List.mem_map_of_mem hx, by rw [hf]; show v.ownBlock = some g; rw [hv]; rfl⟩
  rcases h.new _ (List.mem_of_getElem? hi) g hg2 with h3 | h3
  ·exact h3
  ·exact absurd h3 (h.off i j hi hj hij g hg2)
theorem Sep.rowHi {w0 w : World} {N : Nat} {L : List Asn} (h : Sep w0 (fun k => k = N) L w) (hN : N < w0.heap.size) (i j : Nat) (hij : i ≠ j) {e size n : Nat} {v : Value} {xs : List Value} (hi : L[i]? = some (.row e size v n xs)) (hj : L[j]? = some (Asn.blk N)) : ∀ k, v.ownBlock = some k → N < k := by
 intro k hk
 rcases h.new _ (List.mem_of_getElem? hi) k hk with h3 | h3
 ·omega
 ·exact absurd h3 (h.off i j hi hj hij k hk)
theorem Fr.allocH {F : Nat → Prop} {w0 w : World} (h : Fr F w0 w) (o : Obj) : Fr F w0 (w.alloc o) := h.trans_below ((Below.refl _ w).alloc (Nat.le_refl _) o)
theorem Fr.setH {F : Nat → Prop} {w0 w : World} (h : Fr F w0 w) {N : Nat} (hN : F N) (j : Nat) (v : Value) : Fr F w0 (w.setCell ⟨N, j, none⟩ v) :=
 h.trans (fr_set w N j v) (fun i hi => .inl (by subst hi; exact hN))
theorem RAt.hi {w w' : World} {b : Nat} {r : RD} (h : RAt w b r) (hf : Fr (fun k => b < k) w w') : RAt w' b r := h.high hf (fun _ h => h)
end Go.Proofs.YtcpkeddgkpjioaaGreatDoor
