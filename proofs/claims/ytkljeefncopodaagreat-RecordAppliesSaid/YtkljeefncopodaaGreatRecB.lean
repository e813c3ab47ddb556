/- Layer 9 (record): Word, Put. -/
import Derived.Test.YtkljeefncopodaaGreatRecA
namespace Go.Proofs.YtkljeefncopodaaGreat
open Go.RowKit
set_option linter.unusedSimpArgs false
set_option linter.unusedVariables false
set_option maxRecDepth 100000

def wordB (k : Int) : ByteArray := if k = 1 then ⟨#[115, 101, 97, 108]⟩ else if k = 2 then ⟨#[119, 114, 105, 116, 101]⟩ else if k = 3 then ⟨#[102, 105, 108, 108]⟩ else if k = 4 then ⟨#[116, 114, 105, 109]⟩ else if k = 5 then ⟨#[99, 117, 116]⟩ else ⟨#[]⟩

/-- the bytes that Put answers -/
def Ac.putB (x : Ac) : List UInt8 := if x.check ≠ 0 then [] else x.put
def RPutR (x : Ac) (w : World) (en : Ending) (w' : World) : Prop :=
  ∃ a c, en = .returned (.tuple #[.slice a x.putB.length c, errV x.check]) ∧ w'.ownsRow w.heap.size 5 1 (.slice a x.putB.length c) x.putB.length (byteVs x.putB) ∧ Below w.heap.size w w'
theorem us_two (w : World) (x y : Nat) (t : Nat) : Us (w.alloc (.cells #[.int .u64 (x : Int), .int .u64 (y : Int)] t)) (.slice (some ⟨w.heap.size, 0, none⟩) 2 2) [x, y] :=
  SlV.new w [.int .u64 (x : Int), .int .u64 (y : Int)] 2 t (by decide)
theorem Ac.text_one {e : Nat} {d : List UInt8} : (Ac.mk 1 e 0 d).text = vbs [1, e] := by simp [Ac.text, vbs]
theorem Ac.text_two {e a : Nat} {d : List UInt8} : (Ac.mk 2 e a d).text = vbs [2, e] ++ vbs [a] ++ headB d := by simp [Ac.text, vbs]
theorem Ac.text_any {k e a : Nat} {d : List UInt8} (h1 : 1 < k) (h2 : k ≠ 2) : (Ac.mk k e a d).text = vbs [k, e] ++ vbs [a] := by
  unfold Ac.text
  simp only
  rw [if_pos (show (1 : Int) < (k : Int) by omega), if_neg (show ¬ (k : Int) = 2 by omega)]
  simp [vbs]
theorem Ac.put_len {x : Ac} (h : x.check = 0) : x.put.length ≤ 65560 := by
  have h1 := Ac.text_len h
  have h2 := vb_len10 (n := x.text.length) (by omega)
  unfold Ac.put
  rw [frameB_len]; omega
set_option maxHeartbeats 4000000 in
theorem rput9_any (x : Ac) (a : Option Addr) (c : Nat) (w : World) (hB : Bytes w (.slice a x.d.length c) x.d) : Calls Tryz.prog 25 #[ac9V x a c] w (RPutR x w) := by
  have hlen := bytes_len hB
  have HCK := Lib.hid' (fun w => rcheck9_any x a c hlen w)
  have hOK := @Ac.check_ok x
  have hTL := @Ac.text_len x
  have hPB := @Ac.text_len x
  obtain ⟨ck, hck⟩ : ∃ ck, ck = x.check := ⟨_, rfl⟩
  have HX := Lib.hid' hck
  rw [← hck] at HCK hOK hTL
  clear hck hPB
  have HB := Lib.hid' hB
  clear hB
  by_cases h0 : ck = 0
  rotate_left
  · clear hOK hTL
    have HP := Lib.hid' (show x.putB = [] by unfold Ac.putB; rw [← HX.out, if_pos h0])
    have HE := Lib.hid' (errV_pos h0)
    obtain ⟨k, e, ad, d⟩ := x
    unfold ac9V at HCK ⊢
    simp only at HCK HB hlen ⊢
    go_enter Tryz.func25, Tryz.ntmps25
    go_wp2_with fail
    have hz0 : (w.alloc (.cells #[.int .i64 k, .int .i64 e, .int .i64 ad, .slice a d.length c] 41)).heap.size = w.heap.size + 1 := by simp
    have HG0 := Lib.hid' (show Below w.heap.size w (w.alloc (.cells #[.int .i64 k, .int .i64 e, .int .i64 ad, .slice a d.length c] 41)) by go_grown)
    generalize w.alloc (.cells #[.int .i64 k, .int .i64 e, .int .i64 ad, .slice a d.length c] 41) = w0 at *
    refine (HCK.out w0).mono ?_
    rintro e1 w1 ⟨rfl, hb1⟩
    have HB1 := Lib.hid' (HG0.out.trans (hb1.mono (by omega)))
    clear hb1
    rw [HE.out]
    clear hz0 h0
    go_wp2
    refine bodyPost_ret (v := .tuple #[.slice none 0 0, .iface 71 (.int .i64 ck)]) (by simp [results, Tryz.results25, go_sem]) rfl ?_
    refine ⟨none, 0, ?_, ?_, HB1.out⟩
    · rw [HP.out, ← HX.out, HE.out]; rfl
    · rw [HP.out]; exact own_nil _ _ _ _
  subst h0
  obtain ⟨g1, g2, g3, g4, g5, g6, g7, g8, g9⟩ := hOK rfl
  have htl := hTL rfl
  clear hOK hTL
  have HP := Lib.hid' (show x.putB = fputB [] x.text by unfold Ac.putB fputB; rw [← HX.out, if_neg (by simp), if_neg (by omega)]; rfl)
  have HN := Lib.hid' (show fputN x.text = 0 by unfold fputN; rw [if_neg (by omega)])
  obtain ⟨k, e, ad, d⟩ := x
  simp only at g1 g2 g3 g4 g5 g6 g7 g8 g9
  obtain ⟨en, rfl⟩ : ∃ n : Nat, e = n := ⟨e.toNat, by omega⟩
  unfold ac9V at HCK ⊢
  simp only at HCK HB hlen ⊢
  have G8 := Lib.hid' g8
  have G9 := Lib.hid' g9
  clear g8 g9
  by_cases hk1 : k = 1
  · have ha0 : ad = 0 := G8.out hk1
    subst hk1; subst ha0
    go_enter Tryz.func25, Tryz.ntmps25
    go_wp2_with fail
    have hz0 : (w.alloc (.cells #[.int .i64 1, .int .i64 (en : Int), .int .i64 0, .slice a d.length c] 41)).heap.size = w.heap.size + 1 := by simp
    have HG0 := Lib.hid' (show Below w.heap.size w (w.alloc (.cells #[.int .i64 1, .int .i64 (en : Int), .int .i64 0, .slice a d.length c] 41)) by go_grown)
    have HBX := Lib.hid' (BoxW.start w [.int .i64 1, .int .i64 (en : Int), .int .i64 0, .slice a d.length c] 41)
    generalize w.alloc (.cells #[.int .i64 1, .int .i64 (en : Int), .int .i64 0, .slice a d.length c] 41) = w0 at *
    refine (HCK.out w0).mono ?_
    rintro e1 w1 ⟨rfl, hb1⟩
    have HG1 := Lib.hid' (HG0.out.trans (hb1.mono (by omega)))
    have HX1 := Lib.hid' (HBX.out.below (Nat.le_refl _) hb1)
    have hz1 := hb1.size
    clear hb1 HBX HG0 HCK
    rw [errV_0]
    have hx0 := HX1.out.box.1 0 _ rfl
    have hx1 := HX1.out.box.1 1 _ rfl
    have hx2 := HX1.out.box.1 2 _ rfl
    have hx3 := HX1.out.box.1 3 _ rfl
    go_wp2_with fail
    clear hx0 hx1 hx2 hx3
    have hu2 : Us (w1.alloc (.cells #[.int .u64 1, .int .u64 (en : Int)] 86)) (.slice (some ⟨w1.heap.size, 0, none⟩) 2 2) [1, en] := us_two w1 1 en 86
    have hz2 : (w1.alloc (.cells #[.int .u64 1, .int .u64 (en : Int)] 86)).heap.size = w1.heap.size + 1 := by simp
    have hg2 : Below w1.heap.size w1 (w1.alloc (.cells #[.int .u64 1, .int .u64 (en : Int)] 86)) := by go_grown
    have HC2 := Lib.hid' (vPut_any [] none 0 [1, en] (some ⟨w1.heap.size, 0, none⟩) 2 _ (SlV.empty _ _ _ (Nat.zero_le _) (fun _ => rfl)) hu2 (by intro n hn; simp at hn; omega) (by simp) (by simp))
    have HX2 := Lib.hid' (HX1.out.below (Nat.le_refl _) hg2)
    have HG2 := Lib.hid' (HG1.out.trans (hg2.mono (by omega)))
    clear hg2 hu2 HX1 HG1
    generalize (w1.alloc (.cells #[.int .u64 1, .int .u64 (en : Int)] 86)) = w2 at *
    refine HC2.out.mono ?_
    rintro e2 w3 ⟨a3, c3, rfl, ho3, hb3⟩
    rw [List.nil_append] at ho3 ⊢
    have hl3 : (vbs [1, en]).length ≤ 20 := by have := vbs_len (l := [1, en]) (by intro n hn; simp at hn; omega); simpa using this
    obtain ⟨r3, hr3⟩ : ∃ r, r = vbs [1, en] := ⟨_, rfl⟩
    rw [← hr3] at ho3 hl3 ⊢
    have HR3 := Lib.hid' hr3
    have HX3 := Lib.hid' (HX2.out.below (Nat.le_refl _) hb3)
    have HG3 := Lib.hid' (HG2.out.trans (hb3.mono (by omega)))
    have HO3 := Lib.hid' (show Bytes w3 (.slice a3 r3.length c3) r3 from SlV.of_own ho3)
    have hz3 := hb3.size
    clear hr3 ho3 hb3 HX2 HG2 HC2
    have hx0 := HX3.out.box.1 0 _ rfl
    have hx1 := HX3.out.box.1 1 _ rfl
    have hx2 := HX3.out.box.1 2 _ rfl
    have hx3 := HX3.out.box.1 3 _ rfl
    go_wp2_with fail
    have HT := Lib.hid' (show ({ k := 1, e := en, a := 0, d := d } : Ac).text = r3 from by rw [HR3.out]; exact Ac.text_one)
    rw [HT.out] at HP HN
    have HC8 := Lib.hid' (fput_any [] r3 none a3 0 c3 w3 (SlV.empty _ _ _ (Nat.zero_le _) (fun _ => rfl)) HO3.out (by simp))
    refine HC8.out.mono ?_
    unfold FPutR
    rintro e8 w9 ⟨a9, c9, rfl, ho9, hb9⟩
    have HG9 := Lib.hid' (HG3.out.trans (hb9.mono (by omega)))
    have HO9 := Lib.hid' (own_base (B' := w.heap.size) ho9 (by omega))
    clear ho9 hb9 HC8
    obtain ⟨q, hq⟩ : ∃ q, q = fputB [] r3 := ⟨_, rfl⟩
    have HQ := Lib.hid' (HP.out.trans hq.symm)
    rw [← hq] at HO9 ⊢
    have HN9 := Lib.hid' (HN.out)
    rw [HN.out, errV_0]
    clear hq HP
    go_wp2_with fail
    refine bodyPost_ret (v := .tuple #[.slice a9 q.length c9, .nilIface]) (by simp [results, Tryz.results25, go_sem]) rfl ?_
    refine ⟨a9, c9, ?_, ?_, HG9.out⟩
    · rw [HQ.out, ← HX.out]; rfl
    · rw [HQ.out]; exact HO9.out

  obtain ⟨an, rfl⟩ : ∃ n : Nat, ad = n := ⟨ad.toNat, by omega⟩
  by_cases hk2 : k = 2
  · subst hk2
    go_enter Tryz.func25, Tryz.ntmps25
    go_wp2_with fail
    have hz0 : (w.alloc (.cells #[.int .i64 2, .int .i64 (en : Int), .int .i64 (an : Int), .slice a d.length c] 41)).heap.size = w.heap.size + 1 := by simp
    have HG0 := Lib.hid' (show Below w.heap.size w (w.alloc (.cells #[.int .i64 2, .int .i64 (en : Int), .int .i64 (an : Int), .slice a d.length c] 41)) by go_grown)
    have HBX := Lib.hid' (BoxW.start w [.int .i64 2, .int .i64 (en : Int), .int .i64 (an : Int), .slice a d.length c] 41)
    generalize w.alloc (.cells #[.int .i64 2, .int .i64 (en : Int), .int .i64 (an : Int), .slice a d.length c] 41) = w0 at *
    refine (HCK.out w0).mono ?_
    rintro e1 w1 ⟨rfl, hb1⟩
    have HG1 := Lib.hid' (HG0.out.trans (hb1.mono (by omega)))
    have HX1 := Lib.hid' (HBX.out.below (Nat.le_refl _) hb1)
    have hz1 := hb1.size
    clear hb1 HBX HG0 HCK
    rw [errV_0]
    have hx0 := HX1.out.box.1 0 _ rfl
    have hx1 := HX1.out.box.1 1 _ rfl
    have hx2 := HX1.out.box.1 2 _ rfl
    have hx3 := HX1.out.box.1 3 _ rfl
    go_wp2_with fail
    clear hx0 hx1 hx2 hx3
    have hu2 : Us (w1.alloc (.cells #[.int .u64 2, .int .u64 (en : Int)] 86)) (.slice (some ⟨w1.heap.size, 0, none⟩) 2 2) [2, en] := us_two w1 2 en 86
    have hz2 : (w1.alloc (.cells #[.int .u64 2, .int .u64 (en : Int)] 86)).heap.size = w1.heap.size + 1 := by simp
    have hg2 : Below w1.heap.size w1 (w1.alloc (.cells #[.int .u64 2, .int .u64 (en : Int)] 86)) := by go_grown
    have HC2 := Lib.hid' (vPut_any [] none 0 [2, en] (some ⟨w1.heap.size, 0, none⟩) 2 _ (SlV.empty _ _ _ (Nat.zero_le _) (fun _ => rfl)) hu2 (by intro n hn; simp at hn; omega) (by simp) (by simp))
    have HX2 := Lib.hid' (HX1.out.below (Nat.le_refl _) hg2)
    have HG2 := Lib.hid' (HG1.out.trans (hg2.mono (by omega)))
    clear hg2 hu2 HX1 HG1
    generalize (w1.alloc (.cells #[.int .u64 2, .int .u64 (en : Int)] 86)) = w2 at *
    refine HC2.out.mono ?_
    rintro e2 w3 ⟨a3, c3, rfl, ho3, hb3⟩
    rw [List.nil_append] at ho3 ⊢
    have hl3 : (vbs [2, en]).length ≤ 20 := by have := vbs_len (l := [2, en]) (by intro n hn; simp at hn; omega); simpa using this
    obtain ⟨r3, hr3⟩ : ∃ r, r = vbs [2, en] := ⟨_, rfl⟩
    rw [← hr3] at ho3 hl3 ⊢
    have HR3 := Lib.hid' hr3
    have HX3 := Lib.hid' (HX2.out.below (Nat.le_refl _) hb3)
    have HG3 := Lib.hid' (HG2.out.trans (hb3.mono (by omega)))
    have HO3 := Lib.hid' (show Bytes w3 (.slice a3 r3.length c3) r3 from SlV.of_own ho3)
    have hz3 := hb3.size
    clear hr3 ho3 hb3 HX2 HG2 HC2
    have hx0 := HX3.out.box.1 0 _ rfl
    have hx1 := HX3.out.box.1 1 _ rfl
    have hx2 := HX3.out.box.1 2 _ rfl
    have hx3 := HX3.out.box.1 3 _ rfl
    go_wp2_with fail
    clear hx0 hx1 hx2 hx3
    have hu4 := us_one w3 an 86
    have hz4 : (w3.alloc (.cells #[.int .u64 (an : Int)] 86)).heap.size = w3.heap.size + 1 := by simp
    have hg4 : Below w3.heap.size w3 (w3.alloc (.cells #[.int .u64 (an : Int)] 86)) := by go_grown
    have HC4 := Lib.hid' (vPut_any r3 a3 c3 [an] (some ⟨w3.heap.size, 0, none⟩) 1 _ (show Bytes (w3.alloc (.cells #[.int .u64 (an : Int)] 86)) (.slice a3 r3.length c3) r3 from SlV.below HO3.out (Nat.le_refl _) hg4) hu4 (by intro n hn; simp at hn; omega) (by omega) (by simp))
    have HX4 := Lib.hid' (HX3.out.below (Nat.le_refl _) hg4)
    have HG4 := Lib.hid' (HG3.out.trans (hg4.mono (by omega)))
    clear hg4 hu4 HX3 HG3 HO3
    generalize (w3.alloc (.cells #[.int .u64 (an : Int)] 86)) = w4 at *
    have hl5 : (vbs [an]).length ≤ 10 := by have := vbs_len (l := [an]) (by intro n hn; simp at hn; omega); simpa using this
    obtain ⟨r5, hr5⟩ : ∃ r, r = r3 ++ vbs [an] := ⟨_, rfl⟩
    have hl5' : r5.length ≤ 30 := by rw [hr5, List.length_append]; omega
    rw [← hr5] at HC4
    have HR5 := Lib.hid' hr5
    clear hr5 hl5
    refine HC4.out.mono ?_
    rintro e4 w5 ⟨a5, c5, rfl, ho5, hb5⟩
    have HX5 := Lib.hid' (HX4.out.below (Nat.le_refl _) hb5)
    have HG5 := Lib.hid' (HG4.out.trans (hb5.mono (by omega)))
    have HO5 := Lib.hid' (show Bytes w5 (.slice a5 r5.length c5) r5 from SlV.of_own ho5)
    have hz5 := hb5.size
    clear ho5 hb5 HX4 HG4 HC4
    have hx0 := HX5.out.box.1 0 _ rfl
    have hx1 := HX5.out.box.1 1 _ rfl
    have hx2 := HX5.out.box.1 2 _ rfl
    have hx3 := HX5.out.box.1 3 _ rfl
    go_wp2_with fail
    clear hx0 hx1 hx2 hx3
    have HD5 := Lib.hid' (show Bytes w5 (.slice a d.length c) d from SlV.below HB.out (Nat.le_refl _) HG5.out)
    have hhl : (headB d).length ≤ 80 := by
      have := vb_len10 (n := d.length) (by omega)
      unfold headB; rw [List.length_append]; omega
    have HC6 := Lib.hid' (vPutText_any r5 d a5 a c5 c w5 HO5.out HD5.out (by omega) (by omega))
    obtain ⟨r7, hr7⟩ : ∃ r, r = r5 ++ headB d := ⟨_, rfl⟩
    have hl7 : r7.length ≤ 110 := by rw [hr7, List.length_append]; omega
    rw [← hr7] at HC6
    have HR7 := Lib.hid' hr7
    clear hr7 hhl
    refine HC6.out.mono ?_
    rintro e6 w7 ⟨a7, c7, rfl, ho7, hb7⟩
    have HG7 := Lib.hid' (HG5.out.trans (hb7.mono (by omega)))
    have HO7 := Lib.hid' (show Bytes w7 (.slice a7 r7.length c7) r7 from SlV.of_own ho7)
    have hz7 := hb7.size
    clear ho7 hb7 HX5 HG5 HC6 HO5 HD5
    go_wp2_with fail
    have HT := Lib.hid' (show ({ k := 2, e := en, a := (an : Int), d := d } : Ac).text = r7 from by rw [HR7.out, HR5.out, HR3.out]; exact Ac.text_two)
    rw [HT.out] at HP HN
    have HC8 := Lib.hid' (fput_any [] r7 none a7 0 c7 w7 (SlV.empty _ _ _ (Nat.zero_le _) (fun _ => rfl)) HO7.out (by simp))
    refine HC8.out.mono ?_
    unfold FPutR
    rintro e8 w9 ⟨a9, c9, rfl, ho9, hb9⟩
    have HG9 := Lib.hid' (HG7.out.trans (hb9.mono (by omega)))
    have HO9 := Lib.hid' (own_base (B' := w.heap.size) ho9 (by omega))
    clear ho9 hb9 HC8
    obtain ⟨q, hq⟩ : ∃ q, q = fputB [] r7 := ⟨_, rfl⟩
    have HQ := Lib.hid' (HP.out.trans hq.symm)
    rw [← hq] at HO9 ⊢
    have HN9 := Lib.hid' (HN.out)
    rw [HN.out, errV_0]
    clear hq HP
    go_wp2_with fail
    refine bodyPost_ret (v := .tuple #[.slice a9 q.length c9, .nilIface]) (by simp [results, Tryz.results25, go_sem]) rfl ?_
    refine ⟨a9, c9, ?_, ?_, HG9.out⟩
    · rw [HQ.out, ← HX.out]; rfl
    · rw [HQ.out]; exact HO9.out

  · obtain ⟨kn, rfl⟩ : ∃ n : Nat, k = n := ⟨k.toNat, by omega⟩
    have b1 : ((kn : Int) == 1) = false := by rw [beq_eq_false_iff_ne]; omega
    have b2 : ((kn : Int) == 2) = false := by rw [beq_eq_false_iff_ne]; omega
    go_enter Tryz.func25, Tryz.ntmps25
    go_wp2_with fail
    have hz0 : (w.alloc (.cells #[.int .i64 (kn : Int), .int .i64 (en : Int), .int .i64 (an : Int), .slice a d.length c] 41)).heap.size = w.heap.size + 1 := by simp
    have HG0 := Lib.hid' (show Below w.heap.size w (w.alloc (.cells #[.int .i64 (kn : Int), .int .i64 (en : Int), .int .i64 (an : Int), .slice a d.length c] 41)) by go_grown)
    have HBX := Lib.hid' (BoxW.start w [.int .i64 (kn : Int), .int .i64 (en : Int), .int .i64 (an : Int), .slice a d.length c] 41)
    generalize w.alloc (.cells #[.int .i64 (kn : Int), .int .i64 (en : Int), .int .i64 (an : Int), .slice a d.length c] 41) = w0 at *
    refine (HCK.out w0).mono ?_
    rintro e1 w1 ⟨rfl, hb1⟩
    have HG1 := Lib.hid' (HG0.out.trans (hb1.mono (by omega)))
    have HX1 := Lib.hid' (HBX.out.below (Nat.le_refl _) hb1)
    have hz1 := hb1.size
    clear hb1 HBX HG0 HCK
    rw [errV_0]
    have hx0 := HX1.out.box.1 0 _ rfl
    have hx1 := HX1.out.box.1 1 _ rfl
    have hx2 := HX1.out.box.1 2 _ rfl
    have hx3 := HX1.out.box.1 3 _ rfl
    go_wp2_with fail
    clear hx0 hx1 hx2 hx3
    have hu2 : Us (w1.alloc (.cells #[.int .u64 (kn : Int), .int .u64 (en : Int)] 86)) (.slice (some ⟨w1.heap.size, 0, none⟩) 2 2) [kn, en] := us_two w1 kn en 86
    have hz2 : (w1.alloc (.cells #[.int .u64 (kn : Int), .int .u64 (en : Int)] 86)).heap.size = w1.heap.size + 1 := by simp
    have hg2 : Below w1.heap.size w1 (w1.alloc (.cells #[.int .u64 (kn : Int), .int .u64 (en : Int)] 86)) := by go_grown
    have HC2 := Lib.hid' (vPut_any [] none 0 [kn, en] (some ⟨w1.heap.size, 0, none⟩) 2 _ (SlV.empty _ _ _ (Nat.zero_le _) (fun _ => rfl)) hu2 (by intro n hn; simp at hn; omega) (by simp) (by simp))
    have HX2 := Lib.hid' (HX1.out.below (Nat.le_refl _) hg2)
    have HG2 := Lib.hid' (HG1.out.trans (hg2.mono (by omega)))
    clear hg2 hu2 HX1 HG1
    generalize (w1.alloc (.cells #[.int .u64 (kn : Int), .int .u64 (en : Int)] 86)) = w2 at *
    refine HC2.out.mono ?_
    rintro e2 w3 ⟨a3, c3, rfl, ho3, hb3⟩
    rw [List.nil_append] at ho3 ⊢
    have hl3 : (vbs [kn, en]).length ≤ 20 := by have := vbs_len (l := [kn, en]) (by intro n hn; simp at hn; omega); simpa using this
    obtain ⟨r3, hr3⟩ : ∃ r, r = vbs [kn, en] := ⟨_, rfl⟩
    rw [← hr3] at ho3 hl3 ⊢
    have HR3 := Lib.hid' hr3
    have HX3 := Lib.hid' (HX2.out.below (Nat.le_refl _) hb3)
    have HG3 := Lib.hid' (HG2.out.trans (hb3.mono (by omega)))
    have HO3 := Lib.hid' (show Bytes w3 (.slice a3 r3.length c3) r3 from SlV.of_own ho3)
    have hz3 := hb3.size
    clear hr3 ho3 hb3 HX2 HG2 HC2
    have hx0 := HX3.out.box.1 0 _ rfl
    have hx1 := HX3.out.box.1 1 _ rfl
    have hx2 := HX3.out.box.1 2 _ rfl
    have hx3 := HX3.out.box.1 3 _ rfl
    go_wp2_with fail
    clear hx0 hx1 hx2 hx3
    have hu4 := us_one w3 an 86
    have hz4 : (w3.alloc (.cells #[.int .u64 (an : Int)] 86)).heap.size = w3.heap.size + 1 := by simp
    have hg4 : Below w3.heap.size w3 (w3.alloc (.cells #[.int .u64 (an : Int)] 86)) := by go_grown
    have HC4 := Lib.hid' (vPut_any r3 a3 c3 [an] (some ⟨w3.heap.size, 0, none⟩) 1 _ (show Bytes (w3.alloc (.cells #[.int .u64 (an : Int)] 86)) (.slice a3 r3.length c3) r3 from SlV.below HO3.out (Nat.le_refl _) hg4) hu4 (by intro n hn; simp at hn; omega) (by omega) (by simp))
    have HX4 := Lib.hid' (HX3.out.below (Nat.le_refl _) hg4)
    have HG4 := Lib.hid' (HG3.out.trans (hg4.mono (by omega)))
    clear hg4 hu4 HX3 HG3 HO3
    generalize (w3.alloc (.cells #[.int .u64 (an : Int)] 86)) = w4 at *
    have hl5 : (vbs [an]).length ≤ 10 := by have := vbs_len (l := [an]) (by intro n hn; simp at hn; omega); simpa using this
    obtain ⟨r5, hr5⟩ : ∃ r, r = r3 ++ vbs [an] := ⟨_, rfl⟩
    have hl5' : r5.length ≤ 30 := by rw [hr5, List.length_append]; omega
    rw [← hr5] at HC4
    have HR5 := Lib.hid' hr5
    clear hr5 hl5
    refine HC4.out.mono ?_
    rintro e4 w5 ⟨a5, c5, rfl, ho5, hb5⟩
    have HX5 := Lib.hid' (HX4.out.below (Nat.le_refl _) hb5)
    have HG5 := Lib.hid' (HG4.out.trans (hb5.mono (by omega)))
    have HO5 := Lib.hid' (show Bytes w5 (.slice a5 r5.length c5) r5 from SlV.of_own ho5)
    have hz5 := hb5.size
    clear ho5 hb5 HX4 HG4 HC4
    have hx0 := HX5.out.box.1 0 _ rfl
    have hx1 := HX5.out.box.1 1 _ rfl
    have hx2 := HX5.out.box.1 2 _ rfl
    have hx3 := HX5.out.box.1 3 _ rfl
    go_wp2_with fail
    have HT := Lib.hid' (show ({ k := kn, e := en, a := (an : Int), d := d } : Ac).text = r5 from by rw [HR5.out, HR3.out]; exact Ac.text_any (by omega) (by omega))
    rw [HT.out] at HP HN
    have HC8 := Lib.hid' (fput_any [] r5 none a5 0 c5 w5 (SlV.empty _ _ _ (Nat.zero_le _) (fun _ => rfl)) HO5.out (by simp))
    refine HC8.out.mono ?_
    unfold FPutR
    rintro e8 w9 ⟨a9, c9, rfl, ho9, hb9⟩
    have HG9 := Lib.hid' (HG5.out.trans (hb9.mono (by omega)))
    have HO9 := Lib.hid' (own_base (B' := w.heap.size) ho9 (by omega))
    clear ho9 hb9 HC8
    obtain ⟨q, hq⟩ : ∃ q, q = fputB [] r5 := ⟨_, rfl⟩
    have HQ := Lib.hid' (HP.out.trans hq.symm)
    rw [← hq] at HO9 ⊢
    have HN9 := Lib.hid' (HN.out)
    rw [HN.out, errV_0]
    clear hq HP
    go_wp2_with fail
    refine bodyPost_ret (v := .tuple #[.slice a9 q.length c9, .nilIface]) (by simp [results, Tryz.results25, go_sem]) rfl ?_
    refine ⟨a9, c9, ?_, ?_, HG9.out⟩
    · rw [HQ.out, ← HX.out]; rfl
    · rw [HQ.out]; exact HO9.out

end Go.Proofs.YtkljeefncopodaaGreat
