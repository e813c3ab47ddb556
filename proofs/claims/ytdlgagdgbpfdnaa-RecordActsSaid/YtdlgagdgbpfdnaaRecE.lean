/- Layer 9 (record): the fixed fact; which acts there are, their bytes and words. -/
import Derived.Test.YtdlgagdgbpfdnaaRecC
import Derived.Test.YtdlgagdgbpfdnaaRecD
import Derived.Test.YtdlgagdgbpfdnaaCell
namespace Go.Proofs.Ytdlgagdgbpfdnaa
open Go.RowKit
set_option linter.unusedSimpArgs false
set_option linter.unusedVariables false
set_option maxRecDepth 100000

def A1 : Ac := ⟨1, 1, 0, []⟩
theorem a1_ck : A1.check = 0 := by decide
theorem a1_put : ∃ q : List UInt8, q.length = 4 ∧ A1.putB = 2 :: 1 :: 1 :: q := by
  refine ⟨four (crcOf 0 [2, 1, 1]), four_length _, ?_⟩
  have h1 : vb 1 = [1] := by rw [vb_small (by decide)]; rfl
  have h2 : vb 2 = [2] := by rw [vb_small (by decide)]; rfl
  have ht : A1.text = [1, 1] := by
    show vb 1 ++ vb 1 ++ [] ++ [] = _
    rw [h1]; rfl
  have hh : headB [1, 1] = [2, 1, 1] := by
    show vb 2 ++ [1, 1] = _
    rw [h2]; rfl
  unfold Ac.putB
  rw [a1_ck, if_neg (by simp)]
  unfold Ac.put frameB
  rw [ht, hh]; rfl
theorem a1_take : Ac.take A1.putB = (0, A1) := by
  unfold Ac.putB
  rw [a1_ck, if_neg (by simp)]
  exact Ac.take_put a1_ck
set_option maxHeartbeats 2000000 in
theorem alive9_any (w : World) : Calls Try.prog 7 #[] w fun e w' => e = .returned (.bool true) ∧ Below w.heap.size w w' := by
  have HC := rput9_any A1 none 0 w (SlV.empty _ _ _ (Nat.zero_le _) (fun _ => rfl))
  unfold RPutR at HC
  rw [a1_ck] at HC
  obtain ⟨q, hq4, hpq⟩ := a1_put
  have htk := a1_take
  obtain ⟨pb, hpb⟩ : ∃ p, p = A1.putB := ⟨_, rfl⟩
  rw [← hpb] at HC hpq htk
  clear hpb
  have HPQ := Lib.hid' hpq
  have h1l : (1 : Int) < pb.length := by rw [hpq]; simp; omega
  have h2l : (2 : Int) < pb.length := by rw [hpq]; simp; omega
  have hlb : ((pb.length : Int) == 7) = true := by rw [beq_iff_eq, hpq]; simp; omega
  clear hpq hq4
  have HTK := Lib.hid' htk
  clear htk
  change Calls _ _ #[.agg #[.int .i64 1, .int .i64 1, .int .i64 0, .slice none 0 0]] _ _ at HC
  go_enter Try.func7, Try.ntmps7
  go_wp2_with fail
  refine HC.mono ?_
  rintro e w1 ⟨a1, c1, rfl, ho, hb1⟩
  have HY := Lib.hid' (show Bytes w1 (.slice a1 pb.length c1) pb from SlV.of_own ho)
  have HB1 := Lib.hid' hb1
  clear ho hb1 HC
  rw [errV_0]
  have HC := rtake9_any pb a1 c1 w1 HY.out
  unfold RTakeR at HC
  rw [HTK.out] at HC
  simp only [errV_0] at HC
  have hva : ∀ a c, ac9V A1 a c = .agg #[.int .i64 1, .int .i64 1, .int .i64 0, .slice a 0 c] := fun _ _ => rfl
  simp only [hva] at HC
  go_wp2_with fail
  refine HC.mono ?_
  rintro e w2 ⟨a2, c2, rfl, hy2, hb2⟩
  have HY2 := SlV.below HY.out (Nat.le_refl _) hb2
  have HB2 := Lib.hid' (HB1.out.trans (hb2.mono HB1.out.size))
  obtain ⟨bb, off, rfl, hbb, hc1⟩ := bytes_at (l := pb) HY2 (show 1 < pb.length by omega)
  obtain ⟨bb2, off2, he2, _, hc2⟩ := bytes_at (l := pb) HY2 (show 2 < pb.length by omega)
  simp only [Option.some.injEq, Addr.mk.injEq, and_true] at he2
  obtain ⟨rfl, rfl⟩ := he2
  rw [show (pb[1]'(by omega) : UInt8) = 1 by rw [List.getElem_of_eq HPQ.out]; rfl] at hc1
  rw [show (pb[2]'(by omega) : UInt8) = 1 by rw [List.getElem_of_eq HPQ.out]; rfl] at hc2
  have hc1' : w2.cell? ⟨bb, off + 1, none⟩ = some (.int .u8 1) := hc1
  have hc2' : w2.cell? ⟨bb, off + 2, none⟩ = some (.int .u8 1) := hc2
  clear hc1 hc2 hy2 hb2 HY2 HC HY HTK HPQ hva HB1
  go_wp2
  go_ret
  exact ⟨rfl, HB2.out.trans (Below.mono (by go_grown) HB2.out.size)⟩
theorem wordB_no {n : Int} (h : ¬ (1 ≤ n ∧ n ≤ 5)) : wordB n = ⟨#[]⟩ := by
  unfold wordB
  rw [if_neg (by omega), if_neg (by omega), if_neg (by omega), if_neg (by omega), if_neg (by omega)]
set_option maxHeartbeats 8000000 in
theorem recordActs_any (x : Ac) (a : Option Addr) (c : Nat) (n : Int) (w : World) (h : Bytes w (.slice a x.d.length c) x.d) :
    Calls Try.prog 3 #[ac9V x a c, .int .i64 n] w fun e w' => e = .returned (.bool true) ∧ Below w.heap.size w w' := by
  have HB := Lib.hid' h
  have hlen := bytes_len h
  clear h
  have HP := Lib.hid' (fun w h => rput9_any x a c w h)
  have HD := Lib.hid' (fun w h => doc9_any x a c w h)
  have HRC := Lib.hid' (fun w => refcheck_any x hlen w)
  have HCK := Lib.hid' (fun w => rcheck9_any x a c hlen w)
  have HRP := Lib.hid' (fun hc w => refput_any x hc w)
  have HNO := Lib.hid' (show x.check ≠ 0 → x.putB.length = 0 from fun hc => by unfold Ac.putB; rw [if_pos hc]; rfl)
  have HYES := Lib.hid' (show x.check = 0 → x.putB = x.put from fun hc => by unfold Ac.putB; rw [if_neg (by simpa using hc)])
  unfold RPutR at HP
  obtain ⟨ck, hck⟩ : ∃ k, k = x.check := ⟨_, rfl⟩
  obtain ⟨pb, hpb⟩ : ∃ p, p = x.putB := ⟨_, rfl⟩
  obtain ⟨pt, hpt⟩ : ∃ p, p = x.put := ⟨_, rfl⟩
  rw [← hck] at HP HRC HCK HRP HNO HYES
  rw [← hpb] at HP HNO HYES
  rw [← hpt] at HRP HYES
  clear hck hpb hpt
  obtain ⟨k, e, ad, d⟩ := x
  unfold ac9V at HP HD HCK ⊢
  unfold d9V at HD HRC HRP
  simp only at HB hlen HP HD HRC HCK HRP ⊢
  go_enter Try.func3, Try.ntmps3
  go_wp2_with fail
  have hz0 : (w.alloc (.cells #[.int .i64 k, .int .i64 e, .int .i64 ad, .slice a d.length c] 24)).heap.size = w.heap.size + 1 := by simp
  have HG0 := Lib.hid' (show Below w.heap.size w (w.alloc (.cells #[.int .i64 k, .int .i64 e, .int .i64 ad, .slice a d.length c] 24)) by go_grown)
  have HX0 := Lib.hid' (BoxW.start w [.int .i64 k, .int .i64 e, .int .i64 ad, .slice a d.length c] 24)
  generalize (w.alloc (.cells #[.int .i64 k, .int .i64 e, .int .i64 ad, .slice a d.length c] 24)) = w0 at *
  refine (alive9_any w0).mono ?_
  rintro e1 w1 ⟨rfl, hb1⟩
  have HX1 := Lib.hid' (HX0.out.below (Nat.le_refl _) hb1)
  have HG1 := Lib.hid' (HG0.out.trans (hb1.mono (by omega)))
  have hz1 : w.heap.size < w1.heap.size := by have := hb1.size; omega
  clear hb1 hz0 HX0 HG0
  have x0 := HX1.out.box.1 0 _ rfl
  have x1 := HX1.out.box.1 1 _ rfl
  have x2 := HX1.out.box.1 2 _ rfl
  have x3 := HX1.out.box.1 3 _ rfl
  by_cases h100 : 100 < d.length
  · go_wp2
    go_ret
    exact ⟨rfl, HG1.out⟩
  go_wp2_with fail
  clear x0 x1 x2 x3
  refine (HP.out w1 (SlV.below HB.out (Nat.le_refl _) HG1.out)).mono ?_
  rintro e2 w2 ⟨a2, c2, rfl, ho2, hb2⟩
  have HX2 := Lib.hid' (HX1.out.below (Nat.le_refl _) hb2)
  have HG2 := Lib.hid' (HG1.out.trans (hb2.mono (by omega)))
  have HO2 := Lib.hid' (show Bytes w2 (.slice a2 pb.length c2) pb from SlV.of_own ho2)
  have hz2 : w.heap.size < w2.heap.size := by have := hb2.size; omega
  clear ho2 hb2 HX1 HG1 hz1 HP
  have x0 := HX2.out.box.1 0 _ rfl
  have x1 := HX2.out.box.1 1 _ rfl
  have x2 := HX2.out.box.1 2 _ rfl
  have x3 := HX2.out.box.1 3 _ rfl
  go_wp2_with fail
  clear x0 x1 x2 x3
  refine (HD.out w2 (SlV.below HB.out (Nat.le_refl _) HG2.out)).mono ?_
  rintro e3 w3 ⟨rfl, hb3⟩
  have HX3 := Lib.hid' (HX2.out.below (Nat.le_refl _) hb3)
  have HG3 := Lib.hid' (HG2.out.trans (hb3.mono (by omega)))
  have HO3 := Lib.hid' (show Bytes w3 (.slice a2 pb.length c2) pb from SlV.below HO2.out (Nat.le_refl _) hb3)
  have hz3 : w.heap.size < w3.heap.size := by have := hb3.size; omega
  clear hb3 HX2 HG2 HO2 hz2 HD
  go_wp2_with fail
  have hz4 : w3.heap.size < (w3.alloc (.cells #[.int .i64 k, .int .i64 e, .int .i64 ad, .string (strOf d)] 31)).heap.size := by simp
  have hg4 : Below w3.heap.size w3 (w3.alloc (.cells #[.int .i64 k, .int .i64 e, .int .i64 ad, .string (strOf d)] 31)) := by go_grown
  have HM4 := Lib.hid' (BoxW.start w3 [.int .i64 k, .int .i64 e, .int .i64 ad, .string (strOf d)] 31)
  have HX4 := Lib.hid' (HX3.out.below (Nat.le_refl _) hg4)
  have HG4 := Lib.hid' (HG3.out.trans (hg4.mono (by omega)))
  have HO4 := Lib.hid' (show Bytes _ (.slice a2 pb.length c2) pb from SlV.below HO3.out (Nat.le_refl _) hg4)
  clear hg4 HX3 HG3 HO3
  generalize (w3.alloc (.cells #[.int .i64 k, .int .i64 e, .int .i64 ad, .string (strOf d)] 31)) = w4 at *
  generalize w3.heap.size = M at *
  refine (HRC.out w4).mono ?_
  rintro e5 w5 ⟨rfl, hb5⟩
  have HM5 := Lib.hid' (HM4.out.below (Nat.le_refl _) hb5)
  have HX5 := Lib.hid' (HX4.out.below (Nat.le_refl _) hb5)
  have HG5 := Lib.hid' (HG4.out.trans (hb5.mono (by omega)))
  have HO5 := Lib.hid' (show Bytes _ (.slice a2 pb.length c2) pb from SlV.below HO4.out (Nat.le_refl _) hb5)
  have hz5 : M < w5.heap.size := by have := hb5.size; omega
  clear hb5 HM4 HX4 HG4 HO4 hz4 HRC
  by_cases hn1 : n = 1
  · subst hn1
    have x0 := HX5.out.box.1 0 _ rfl
    have x1 := HX5.out.box.1 1 _ rfl
    have x2 := HX5.out.box.1 2 _ rfl
    have x3 := HX5.out.box.1 3 _ rfl
    have hzw : w.heap.size < w5.heap.size := by omega
    go_wp2_with fail
    clear x0 x1 x2 x3
    have hg6 : Below w5.heap.size w5 (w5.alloc (.cells #[.string ⟨#[115, 101, 97, 108]⟩, .string ⟨#[119, 114, 105, 116, 101]⟩, .string ⟨#[102, 105, 108, 108]⟩, .string ⟨#[116, 114, 105, 109]⟩, .string ⟨#[99, 117, 116]⟩] 9)) := by go_grown
    have hz6 : M < (w5.alloc (.cells #[.string ⟨#[115, 101, 97, 108]⟩, .string ⟨#[119, 114, 105, 116, 101]⟩, .string ⟨#[102, 105, 108, 108]⟩, .string ⟨#[116, 114, 105, 109]⟩, .string ⟨#[99, 117, 116]⟩] 9)).heap.size := by have := hg6.size; omega
    have HM6 := Lib.hid' (HM5.out.below (Nat.le_refl _) hg6)
    have HX6 := Lib.hid' (HX5.out.below (Nat.le_refl _) hg6)
    have HG6 := Lib.hid' (HG5.out.trans (hg6.mono (by omega)))
    have HO6 := Lib.hid' (show Bytes _ (.slice a2 pb.length c2) pb from SlV.below HO5.out (Nat.le_refl _) hg6)
    clear hg6 HM5 HX5 HG5 HO5 hz5
    generalize (w5.alloc (.cells #[.string ⟨#[115, 101, 97, 108]⟩, .string ⟨#[119, 114, 105, 116, 101]⟩, .string ⟨#[102, 105, 108, 108]⟩, .string ⟨#[116, 114, 105, 109]⟩, .string ⟨#[99, 117, 116]⟩] 9)) = w6 at *
    refine (HCK.out w6).mono ?_
    rintro e7 w7 ⟨rfl, hb7⟩
    have HM7 := Lib.hid' (HM6.out.below (Nat.le_refl _) hb7)
    have HG7 := Lib.hid' (HG6.out.trans (hb7.mono (by omega)))
    have HO7 := Lib.hid' (show Bytes _ (.slice a2 pb.length c2) pb from SlV.below HO6.out (Nat.le_refl _) hb7)
    have hz7 : M < w7.heap.size := by have := hb7.size; omega
    clear hb7 HM6 HX6 HG6 HO6 hz6 HCK
    go_wp2_with fail
    refine (num_any ck w7).mono ?_
    rintro e8 w8 ⟨rfl, rfl⟩
    go_wp2_with fail
    refine (num_any ck w7).mono ?_
    rintro e8 w8 ⟨rfl, rfl⟩
    go_wp2_with fail
    have HW := rword_any 1 w7
    rw [show wordB 1 = (⟨#[115, 101, 97, 108]⟩ : ByteArray) from rfl] at HW
    refine HW.mono ?_
    rintro e9 w9 ⟨rfl, hw9⟩
    obtain rfl : w7 = w9 := hw9.symm
    clear HW hw9
    by_cases hc : ck = 0
    rotate_left
    · have hcb : ((ck : Int) != 0) = true := by rw [bne_iff_ne]; omega
      have HPL := Lib.hid' (HNO.out hc)
      have hpl : ((pb.length : Int) == 0) = true := by rw [HPL.out]; rfl
      clear hc
      go_wp2
      go_ret
      exact ⟨rfl, HG7.out⟩
    have hcb : ((ck : Int) != 0) = false := by rw [bne_eq_false_iff_eq]; omega
    have HY := Lib.hid' (HYES.out hc)
    have HRQ := HRP.out hc w7
    have HCC := Lib.hid' hc
    clear hc
    have m0 := HM7.out.box.1 0 _ rfl
    have m1 := HM7.out.box.1 1 _ rfl
    have m2 := HM7.out.box.1 2 _ rfl
    have m3 := HM7.out.box.1 3 _ rfl
    go_wp2_with fail
    clear m0 m1 m2 m3
    refine HRQ.mono ?_
    rintro e10 w10 ⟨a10, c10, rfl, ho10, hb10⟩
    have HG10 := Lib.hid' (HG7.out.trans (hb10.mono (by omega)))
    have HO10 := Lib.hid' (show Bytes _ (.slice a2 pb.length c2) pb from SlV.below HO7.out (Nat.le_refl _) hb10)
    have HQ10 := Lib.hid' (show Bytes w10 (.slice a10 pt.length c10) pt from SlV.of_own ho10)
    clear ho10 hb10 HM7 HG7 HO7 HRQ
    go_wp2_with fail
    refine (numBytes_any _ _ pb pt w10 HO10.out HQ10.out).mono ?_
    rintro e11 w11 ⟨rfl, rfl⟩
    rw [HY.out, show (pt == pt) = true from by simp]
    go_wp2
    go_ret
    exact ⟨rfl, HG10.out⟩
  by_cases hn2 : n = 2
  · subst hn2
    have x0 := HX5.out.box.1 0 _ rfl
    have x1 := HX5.out.box.1 1 _ rfl
    have x2 := HX5.out.box.1 2 _ rfl
    have x3 := HX5.out.box.1 3 _ rfl
    have hzw : w.heap.size < w5.heap.size := by omega
    go_wp2_with fail
    clear x0 x1 x2 x3
    have hg6 : Below w5.heap.size w5 (w5.alloc (.cells #[.string ⟨#[115, 101, 97, 108]⟩, .string ⟨#[119, 114, 105, 116, 101]⟩, .string ⟨#[102, 105, 108, 108]⟩, .string ⟨#[116, 114, 105, 109]⟩, .string ⟨#[99, 117, 116]⟩] 9)) := by go_grown
    have hz6 : M < (w5.alloc (.cells #[.string ⟨#[115, 101, 97, 108]⟩, .string ⟨#[119, 114, 105, 116, 101]⟩, .string ⟨#[102, 105, 108, 108]⟩, .string ⟨#[116, 114, 105, 109]⟩, .string ⟨#[99, 117, 116]⟩] 9)).heap.size := by have := hg6.size; omega
    have HM6 := Lib.hid' (HM5.out.below (Nat.le_refl _) hg6)
    have HX6 := Lib.hid' (HX5.out.below (Nat.le_refl _) hg6)
    have HG6 := Lib.hid' (HG5.out.trans (hg6.mono (by omega)))
    have HO6 := Lib.hid' (show Bytes _ (.slice a2 pb.length c2) pb from SlV.below HO5.out (Nat.le_refl _) hg6)
    clear hg6 HM5 HX5 HG5 HO5 hz5
    generalize (w5.alloc (.cells #[.string ⟨#[115, 101, 97, 108]⟩, .string ⟨#[119, 114, 105, 116, 101]⟩, .string ⟨#[102, 105, 108, 108]⟩, .string ⟨#[116, 114, 105, 109]⟩, .string ⟨#[99, 117, 116]⟩] 9)) = w6 at *
    refine (HCK.out w6).mono ?_
    rintro e7 w7 ⟨rfl, hb7⟩
    have HM7 := Lib.hid' (HM6.out.below (Nat.le_refl _) hb7)
    have HG7 := Lib.hid' (HG6.out.trans (hb7.mono (by omega)))
    have HO7 := Lib.hid' (show Bytes _ (.slice a2 pb.length c2) pb from SlV.below HO6.out (Nat.le_refl _) hb7)
    have hz7 : M < w7.heap.size := by have := hb7.size; omega
    clear hb7 HM6 HX6 HG6 HO6 hz6 HCK
    go_wp2_with fail
    refine (num_any ck w7).mono ?_
    rintro e8 w8 ⟨rfl, rfl⟩
    go_wp2_with fail
    refine (num_any ck w7).mono ?_
    rintro e8 w8 ⟨rfl, rfl⟩
    go_wp2_with fail
    have HW := rword_any 2 w7
    rw [show wordB 2 = (⟨#[119, 114, 105, 116, 101]⟩ : ByteArray) from rfl] at HW
    refine HW.mono ?_
    rintro e9 w9 ⟨rfl, hw9⟩
    obtain rfl : w7 = w9 := hw9.symm
    clear HW hw9
    by_cases hc : ck = 0
    rotate_left
    · have hcb : ((ck : Int) != 0) = true := by rw [bne_iff_ne]; omega
      have HPL := Lib.hid' (HNO.out hc)
      have hpl : ((pb.length : Int) == 0) = true := by rw [HPL.out]; rfl
      clear hc
      go_wp2
      go_ret
      exact ⟨rfl, HG7.out⟩
    have hcb : ((ck : Int) != 0) = false := by rw [bne_eq_false_iff_eq]; omega
    have HY := Lib.hid' (HYES.out hc)
    have HRQ := HRP.out hc w7
    have HCC := Lib.hid' hc
    clear hc
    have m0 := HM7.out.box.1 0 _ rfl
    have m1 := HM7.out.box.1 1 _ rfl
    have m2 := HM7.out.box.1 2 _ rfl
    have m3 := HM7.out.box.1 3 _ rfl
    go_wp2_with fail
    clear m0 m1 m2 m3
    refine HRQ.mono ?_
    rintro e10 w10 ⟨a10, c10, rfl, ho10, hb10⟩
    have HG10 := Lib.hid' (HG7.out.trans (hb10.mono (by omega)))
    have HO10 := Lib.hid' (show Bytes _ (.slice a2 pb.length c2) pb from SlV.below HO7.out (Nat.le_refl _) hb10)
    have HQ10 := Lib.hid' (show Bytes w10 (.slice a10 pt.length c10) pt from SlV.of_own ho10)
    clear ho10 hb10 HM7 HG7 HO7 HRQ
    go_wp2_with fail
    refine (numBytes_any _ _ pb pt w10 HO10.out HQ10.out).mono ?_
    rintro e11 w11 ⟨rfl, rfl⟩
    rw [HY.out, show (pt == pt) = true from by simp]
    go_wp2
    go_ret
    exact ⟨rfl, HG10.out⟩
  by_cases hn3 : n = 3
  · subst hn3
    have x0 := HX5.out.box.1 0 _ rfl
    have x1 := HX5.out.box.1 1 _ rfl
    have x2 := HX5.out.box.1 2 _ rfl
    have x3 := HX5.out.box.1 3 _ rfl
    have hzw : w.heap.size < w5.heap.size := by omega
    go_wp2_with fail
    clear x0 x1 x2 x3
    have hg6 : Below w5.heap.size w5 (w5.alloc (.cells #[.string ⟨#[115, 101, 97, 108]⟩, .string ⟨#[119, 114, 105, 116, 101]⟩, .string ⟨#[102, 105, 108, 108]⟩, .string ⟨#[116, 114, 105, 109]⟩, .string ⟨#[99, 117, 116]⟩] 9)) := by go_grown
    have hz6 : M < (w5.alloc (.cells #[.string ⟨#[115, 101, 97, 108]⟩, .string ⟨#[119, 114, 105, 116, 101]⟩, .string ⟨#[102, 105, 108, 108]⟩, .string ⟨#[116, 114, 105, 109]⟩, .string ⟨#[99, 117, 116]⟩] 9)).heap.size := by have := hg6.size; omega
    have HM6 := Lib.hid' (HM5.out.below (Nat.le_refl _) hg6)
    have HX6 := Lib.hid' (HX5.out.below (Nat.le_refl _) hg6)
    have HG6 := Lib.hid' (HG5.out.trans (hg6.mono (by omega)))
    have HO6 := Lib.hid' (show Bytes _ (.slice a2 pb.length c2) pb from SlV.below HO5.out (Nat.le_refl _) hg6)
    clear hg6 HM5 HX5 HG5 HO5 hz5
    generalize (w5.alloc (.cells #[.string ⟨#[115, 101, 97, 108]⟩, .string ⟨#[119, 114, 105, 116, 101]⟩, .string ⟨#[102, 105, 108, 108]⟩, .string ⟨#[116, 114, 105, 109]⟩, .string ⟨#[99, 117, 116]⟩] 9)) = w6 at *
    refine (HCK.out w6).mono ?_
    rintro e7 w7 ⟨rfl, hb7⟩
    have HM7 := Lib.hid' (HM6.out.below (Nat.le_refl _) hb7)
    have HG7 := Lib.hid' (HG6.out.trans (hb7.mono (by omega)))
    have HO7 := Lib.hid' (show Bytes _ (.slice a2 pb.length c2) pb from SlV.below HO6.out (Nat.le_refl _) hb7)
    have hz7 : M < w7.heap.size := by have := hb7.size; omega
    clear hb7 HM6 HX6 HG6 HO6 hz6 HCK
    go_wp2_with fail
    refine (num_any ck w7).mono ?_
    rintro e8 w8 ⟨rfl, rfl⟩
    go_wp2_with fail
    refine (num_any ck w7).mono ?_
    rintro e8 w8 ⟨rfl, rfl⟩
    go_wp2_with fail
    have HW := rword_any 3 w7
    rw [show wordB 3 = (⟨#[102, 105, 108, 108]⟩ : ByteArray) from rfl] at HW
    refine HW.mono ?_
    rintro e9 w9 ⟨rfl, hw9⟩
    obtain rfl : w7 = w9 := hw9.symm
    clear HW hw9
    by_cases hc : ck = 0
    rotate_left
    · have hcb : ((ck : Int) != 0) = true := by rw [bne_iff_ne]; omega
      have HPL := Lib.hid' (HNO.out hc)
      have hpl : ((pb.length : Int) == 0) = true := by rw [HPL.out]; rfl
      clear hc
      go_wp2
      go_ret
      exact ⟨rfl, HG7.out⟩
    have hcb : ((ck : Int) != 0) = false := by rw [bne_eq_false_iff_eq]; omega
    have HY := Lib.hid' (HYES.out hc)
    have HRQ := HRP.out hc w7
    have HCC := Lib.hid' hc
    clear hc
    have m0 := HM7.out.box.1 0 _ rfl
    have m1 := HM7.out.box.1 1 _ rfl
    have m2 := HM7.out.box.1 2 _ rfl
    have m3 := HM7.out.box.1 3 _ rfl
    go_wp2_with fail
    clear m0 m1 m2 m3
    refine HRQ.mono ?_
    rintro e10 w10 ⟨a10, c10, rfl, ho10, hb10⟩
    have HG10 := Lib.hid' (HG7.out.trans (hb10.mono (by omega)))
    have HO10 := Lib.hid' (show Bytes _ (.slice a2 pb.length c2) pb from SlV.below HO7.out (Nat.le_refl _) hb10)
    have HQ10 := Lib.hid' (show Bytes w10 (.slice a10 pt.length c10) pt from SlV.of_own ho10)
    clear ho10 hb10 HM7 HG7 HO7 HRQ
    go_wp2_with fail
    refine (numBytes_any _ _ pb pt w10 HO10.out HQ10.out).mono ?_
    rintro e11 w11 ⟨rfl, rfl⟩
    rw [HY.out, show (pt == pt) = true from by simp]
    go_wp2
    go_ret
    exact ⟨rfl, HG10.out⟩
  by_cases hn4 : n = 4
  · subst hn4
    have x0 := HX5.out.box.1 0 _ rfl
    have x1 := HX5.out.box.1 1 _ rfl
    have x2 := HX5.out.box.1 2 _ rfl
    have x3 := HX5.out.box.1 3 _ rfl
    have hzw : w.heap.size < w5.heap.size := by omega
    go_wp2_with fail
    clear x0 x1 x2 x3
    have hg6 : Below w5.heap.size w5 (w5.alloc (.cells #[.string ⟨#[115, 101, 97, 108]⟩, .string ⟨#[119, 114, 105, 116, 101]⟩, .string ⟨#[102, 105, 108, 108]⟩, .string ⟨#[116, 114, 105, 109]⟩, .string ⟨#[99, 117, 116]⟩] 9)) := by go_grown
    have hz6 : M < (w5.alloc (.cells #[.string ⟨#[115, 101, 97, 108]⟩, .string ⟨#[119, 114, 105, 116, 101]⟩, .string ⟨#[102, 105, 108, 108]⟩, .string ⟨#[116, 114, 105, 109]⟩, .string ⟨#[99, 117, 116]⟩] 9)).heap.size := by have := hg6.size; omega
    have HM6 := Lib.hid' (HM5.out.below (Nat.le_refl _) hg6)
    have HX6 := Lib.hid' (HX5.out.below (Nat.le_refl _) hg6)
    have HG6 := Lib.hid' (HG5.out.trans (hg6.mono (by omega)))
    have HO6 := Lib.hid' (show Bytes _ (.slice a2 pb.length c2) pb from SlV.below HO5.out (Nat.le_refl _) hg6)
    clear hg6 HM5 HX5 HG5 HO5 hz5
    generalize (w5.alloc (.cells #[.string ⟨#[115, 101, 97, 108]⟩, .string ⟨#[119, 114, 105, 116, 101]⟩, .string ⟨#[102, 105, 108, 108]⟩, .string ⟨#[116, 114, 105, 109]⟩, .string ⟨#[99, 117, 116]⟩] 9)) = w6 at *
    refine (HCK.out w6).mono ?_
    rintro e7 w7 ⟨rfl, hb7⟩
    have HM7 := Lib.hid' (HM6.out.below (Nat.le_refl _) hb7)
    have HG7 := Lib.hid' (HG6.out.trans (hb7.mono (by omega)))
    have HO7 := Lib.hid' (show Bytes _ (.slice a2 pb.length c2) pb from SlV.below HO6.out (Nat.le_refl _) hb7)
    have hz7 : M < w7.heap.size := by have := hb7.size; omega
    clear hb7 HM6 HX6 HG6 HO6 hz6 HCK
    go_wp2_with fail
    refine (num_any ck w7).mono ?_
    rintro e8 w8 ⟨rfl, rfl⟩
    go_wp2_with fail
    refine (num_any ck w7).mono ?_
    rintro e8 w8 ⟨rfl, rfl⟩
    go_wp2_with fail
    have HW := rword_any 4 w7
    rw [show wordB 4 = (⟨#[116, 114, 105, 109]⟩ : ByteArray) from rfl] at HW
    refine HW.mono ?_
    rintro e9 w9 ⟨rfl, hw9⟩
    obtain rfl : w7 = w9 := hw9.symm
    clear HW hw9
    by_cases hc : ck = 0
    rotate_left
    · have hcb : ((ck : Int) != 0) = true := by rw [bne_iff_ne]; omega
      have HPL := Lib.hid' (HNO.out hc)
      have hpl : ((pb.length : Int) == 0) = true := by rw [HPL.out]; rfl
      clear hc
      go_wp2
      go_ret
      exact ⟨rfl, HG7.out⟩
    have hcb : ((ck : Int) != 0) = false := by rw [bne_eq_false_iff_eq]; omega
    have HY := Lib.hid' (HYES.out hc)
    have HRQ := HRP.out hc w7
    have HCC := Lib.hid' hc
    clear hc
    have m0 := HM7.out.box.1 0 _ rfl
    have m1 := HM7.out.box.1 1 _ rfl
    have m2 := HM7.out.box.1 2 _ rfl
    have m3 := HM7.out.box.1 3 _ rfl
    go_wp2_with fail
    clear m0 m1 m2 m3
    refine HRQ.mono ?_
    rintro e10 w10 ⟨a10, c10, rfl, ho10, hb10⟩
    have HG10 := Lib.hid' (HG7.out.trans (hb10.mono (by omega)))
    have HO10 := Lib.hid' (show Bytes _ (.slice a2 pb.length c2) pb from SlV.below HO7.out (Nat.le_refl _) hb10)
    have HQ10 := Lib.hid' (show Bytes w10 (.slice a10 pt.length c10) pt from SlV.of_own ho10)
    clear ho10 hb10 HM7 HG7 HO7 HRQ
    go_wp2_with fail
    refine (numBytes_any _ _ pb pt w10 HO10.out HQ10.out).mono ?_
    rintro e11 w11 ⟨rfl, rfl⟩
    rw [HY.out, show (pt == pt) = true from by simp]
    go_wp2
    go_ret
    exact ⟨rfl, HG10.out⟩
  by_cases hn5 : n = 5
  · subst hn5
    have x0 := HX5.out.box.1 0 _ rfl
    have x1 := HX5.out.box.1 1 _ rfl
    have x2 := HX5.out.box.1 2 _ rfl
    have x3 := HX5.out.box.1 3 _ rfl
    have hzw : w.heap.size < w5.heap.size := by omega
    go_wp2_with fail
    clear x0 x1 x2 x3
    have hg6 : Below w5.heap.size w5 (w5.alloc (.cells #[.string ⟨#[115, 101, 97, 108]⟩, .string ⟨#[119, 114, 105, 116, 101]⟩, .string ⟨#[102, 105, 108, 108]⟩, .string ⟨#[116, 114, 105, 109]⟩, .string ⟨#[99, 117, 116]⟩] 9)) := by go_grown
    have hz6 : M < (w5.alloc (.cells #[.string ⟨#[115, 101, 97, 108]⟩, .string ⟨#[119, 114, 105, 116, 101]⟩, .string ⟨#[102, 105, 108, 108]⟩, .string ⟨#[116, 114, 105, 109]⟩, .string ⟨#[99, 117, 116]⟩] 9)).heap.size := by have := hg6.size; omega
    have HM6 := Lib.hid' (HM5.out.below (Nat.le_refl _) hg6)
    have HX6 := Lib.hid' (HX5.out.below (Nat.le_refl _) hg6)
    have HG6 := Lib.hid' (HG5.out.trans (hg6.mono (by omega)))
    have HO6 := Lib.hid' (show Bytes _ (.slice a2 pb.length c2) pb from SlV.below HO5.out (Nat.le_refl _) hg6)
    clear hg6 HM5 HX5 HG5 HO5 hz5
    generalize (w5.alloc (.cells #[.string ⟨#[115, 101, 97, 108]⟩, .string ⟨#[119, 114, 105, 116, 101]⟩, .string ⟨#[102, 105, 108, 108]⟩, .string ⟨#[116, 114, 105, 109]⟩, .string ⟨#[99, 117, 116]⟩] 9)) = w6 at *
    refine (HCK.out w6).mono ?_
    rintro e7 w7 ⟨rfl, hb7⟩
    have HM7 := Lib.hid' (HM6.out.below (Nat.le_refl _) hb7)
    have HG7 := Lib.hid' (HG6.out.trans (hb7.mono (by omega)))
    have HO7 := Lib.hid' (show Bytes _ (.slice a2 pb.length c2) pb from SlV.below HO6.out (Nat.le_refl _) hb7)
    have hz7 : M < w7.heap.size := by have := hb7.size; omega
    clear hb7 HM6 HX6 HG6 HO6 hz6 HCK
    go_wp2_with fail
    refine (num_any ck w7).mono ?_
    rintro e8 w8 ⟨rfl, rfl⟩
    go_wp2_with fail
    refine (num_any ck w7).mono ?_
    rintro e8 w8 ⟨rfl, rfl⟩
    go_wp2_with fail
    have HW := rword_any 5 w7
    rw [show wordB 5 = (⟨#[99, 117, 116]⟩ : ByteArray) from rfl] at HW
    refine HW.mono ?_
    rintro e9 w9 ⟨rfl, hw9⟩
    obtain rfl : w7 = w9 := hw9.symm
    clear HW hw9
    by_cases hc : ck = 0
    rotate_left
    · have hcb : ((ck : Int) != 0) = true := by rw [bne_iff_ne]; omega
      have HPL := Lib.hid' (HNO.out hc)
      have hpl : ((pb.length : Int) == 0) = true := by rw [HPL.out]; rfl
      clear hc
      go_wp2
      go_ret
      exact ⟨rfl, HG7.out⟩
    have hcb : ((ck : Int) != 0) = false := by rw [bne_eq_false_iff_eq]; omega
    have HY := Lib.hid' (HYES.out hc)
    have HRQ := HRP.out hc w7
    have HCC := Lib.hid' hc
    clear hc
    have m0 := HM7.out.box.1 0 _ rfl
    have m1 := HM7.out.box.1 1 _ rfl
    have m2 := HM7.out.box.1 2 _ rfl
    have m3 := HM7.out.box.1 3 _ rfl
    go_wp2_with fail
    clear m0 m1 m2 m3
    refine HRQ.mono ?_
    rintro e10 w10 ⟨a10, c10, rfl, ho10, hb10⟩
    have HG10 := Lib.hid' (HG7.out.trans (hb10.mono (by omega)))
    have HO10 := Lib.hid' (show Bytes _ (.slice a2 pb.length c2) pb from SlV.below HO7.out (Nat.le_refl _) hb10)
    have HQ10 := Lib.hid' (show Bytes w10 (.slice a10 pt.length c10) pt from SlV.of_own ho10)
    clear ho10 hb10 HM7 HG7 HO7 HRQ
    go_wp2_with fail
    refine (numBytes_any _ _ pb pt w10 HO10.out HQ10.out).mono ?_
    rintro e11 w11 ⟨rfl, rfl⟩
    rw [HY.out, show (pt == pt) = true from by simp]
    go_wp2
    go_ret
    exact ⟨rfl, HG10.out⟩
  have HWN := Lib.hid' (wordB_no (n := n) (by omega))
  by_cases hn1' : 1 ≤ n
  · have hq5 : ¬ n ≤ 5 := by omega
    clear hn1 hn2 hn3 hn4 hn5
    have x0 := HX5.out.box.1 0 _ rfl
    have x1 := HX5.out.box.1 1 _ rfl
    have x2 := HX5.out.box.1 2 _ rfl
    have x3 := HX5.out.box.1 3 _ rfl
    have hzw : w.heap.size < w5.heap.size := by omega
    go_wp2_with fail
    clear x0 x1 x2 x3
    have hz6 := hz5
    have HM6 := HM5
    have HX6 := HX5
    have HG6 := HG5
    have HO6 := HO5
    clear HM5 HX5 HG5 HO5 hz5
    generalize w5 = w6 at *
    refine (HCK.out w6).mono ?_
    rintro e7 w7 ⟨rfl, hb7⟩
    have HM7 := Lib.hid' (HM6.out.below (Nat.le_refl _) hb7)
    have HG7 := Lib.hid' (HG6.out.trans (hb7.mono (by omega)))
    have HO7 := Lib.hid' (show Bytes _ (.slice a2 pb.length c2) pb from SlV.below HO6.out (Nat.le_refl _) hb7)
    have hz7 : M < w7.heap.size := by have := hb7.size; omega
    clear hb7 HM6 HX6 HG6 HO6 hz6 HCK
    go_wp2_with fail
    refine (num_any ck w7).mono ?_
    rintro e8 w8 ⟨rfl, rfl⟩
    go_wp2_with fail
    refine (num_any ck w7).mono ?_
    rintro e8 w8 ⟨rfl, rfl⟩
    go_wp2_with fail
    have HW := rword_any n w7
    rw [show wordB n = (⟨#[]⟩ : ByteArray) from HWN.out] at HW
    refine HW.mono ?_
    rintro e9 w9 ⟨rfl, hw9⟩
    obtain rfl : w7 = w9 := hw9.symm
    clear HW hw9
    by_cases hc : ck = 0
    rotate_left
    · have hcb : ((ck : Int) != 0) = true := by rw [bne_iff_ne]; omega
      have HPL := Lib.hid' (HNO.out hc)
      have hpl : ((pb.length : Int) == 0) = true := by rw [HPL.out]; rfl
      clear hc
      go_wp2
      go_ret
      exact ⟨rfl, HG7.out⟩
    have hcb : ((ck : Int) != 0) = false := by rw [bne_eq_false_iff_eq]; omega
    have HY := Lib.hid' (HYES.out hc)
    have HRQ := HRP.out hc w7
    have HCC := Lib.hid' hc
    clear hc
    have m0 := HM7.out.box.1 0 _ rfl
    have m1 := HM7.out.box.1 1 _ rfl
    have m2 := HM7.out.box.1 2 _ rfl
    have m3 := HM7.out.box.1 3 _ rfl
    go_wp2_with fail
    clear m0 m1 m2 m3
    refine HRQ.mono ?_
    rintro e10 w10 ⟨a10, c10, rfl, ho10, hb10⟩
    have HG10 := Lib.hid' (HG7.out.trans (hb10.mono (by omega)))
    have HO10 := Lib.hid' (show Bytes _ (.slice a2 pb.length c2) pb from SlV.below HO7.out (Nat.le_refl _) hb10)
    have HQ10 := Lib.hid' (show Bytes w10 (.slice a10 pt.length c10) pt from SlV.of_own ho10)
    clear ho10 hb10 HM7 HG7 HO7 HRQ
    go_wp2_with fail
    refine (numBytes_any _ _ pb pt w10 HO10.out HQ10.out).mono ?_
    rintro e11 w11 ⟨rfl, rfl⟩
    rw [HY.out, show (pt == pt) = true from by simp]
    go_wp2
    go_ret
    exact ⟨rfl, HG10.out⟩
  · clear hn1 hn2 hn3 hn4 hn5
    have x0 := HX5.out.box.1 0 _ rfl
    have x1 := HX5.out.box.1 1 _ rfl
    have x2 := HX5.out.box.1 2 _ rfl
    have x3 := HX5.out.box.1 3 _ rfl
    have hzw : w.heap.size < w5.heap.size := by omega
    go_wp2_with fail
    clear x0 x1 x2 x3
    have hz6 := hz5
    have HM6 := HM5
    have HX6 := HX5
    have HG6 := HG5
    have HO6 := HO5
    clear HM5 HX5 HG5 HO5 hz5
    generalize w5 = w6 at *
    refine (HCK.out w6).mono ?_
    rintro e7 w7 ⟨rfl, hb7⟩
    have HM7 := Lib.hid' (HM6.out.below (Nat.le_refl _) hb7)
    have HG7 := Lib.hid' (HG6.out.trans (hb7.mono (by omega)))
    have HO7 := Lib.hid' (show Bytes _ (.slice a2 pb.length c2) pb from SlV.below HO6.out (Nat.le_refl _) hb7)
    have hz7 : M < w7.heap.size := by have := hb7.size; omega
    clear hb7 HM6 HX6 HG6 HO6 hz6 HCK
    go_wp2_with fail
    refine (num_any ck w7).mono ?_
    rintro e8 w8 ⟨rfl, rfl⟩
    go_wp2_with fail
    refine (num_any ck w7).mono ?_
    rintro e8 w8 ⟨rfl, rfl⟩
    go_wp2_with fail
    have HW := rword_any n w7
    rw [show wordB n = (⟨#[]⟩ : ByteArray) from HWN.out] at HW
    refine HW.mono ?_
    rintro e9 w9 ⟨rfl, hw9⟩
    obtain rfl : w7 = w9 := hw9.symm
    clear HW hw9
    by_cases hc : ck = 0
    rotate_left
    · have hcb : ((ck : Int) != 0) = true := by rw [bne_iff_ne]; omega
      have HPL := Lib.hid' (HNO.out hc)
      have hpl : ((pb.length : Int) == 0) = true := by rw [HPL.out]; rfl
      clear hc
      go_wp2
      go_ret
      exact ⟨rfl, HG7.out⟩
    have hcb : ((ck : Int) != 0) = false := by rw [bne_eq_false_iff_eq]; omega
    have HY := Lib.hid' (HYES.out hc)
    have HRQ := HRP.out hc w7
    have HCC := Lib.hid' hc
    clear hc
    have m0 := HM7.out.box.1 0 _ rfl
    have m1 := HM7.out.box.1 1 _ rfl
    have m2 := HM7.out.box.1 2 _ rfl
    have m3 := HM7.out.box.1 3 _ rfl
    go_wp2_with fail
    clear m0 m1 m2 m3
    refine HRQ.mono ?_
    rintro e10 w10 ⟨a10, c10, rfl, ho10, hb10⟩
    have HG10 := Lib.hid' (HG7.out.trans (hb10.mono (by omega)))
    have HO10 := Lib.hid' (show Bytes _ (.slice a2 pb.length c2) pb from SlV.below HO7.out (Nat.le_refl _) hb10)
    have HQ10 := Lib.hid' (show Bytes w10 (.slice a10 pt.length c10) pt from SlV.of_own ho10)
    clear ho10 hb10 HM7 HG7 HO7 HRQ
    go_wp2_with fail
    refine (numBytes_any _ _ pb pt w10 HO10.out HQ10.out).mono ?_
    rintro e11 w11 ⟨rfl, rfl⟩
    rw [HY.out, show (pt == pt) = true from by simp]
    go_wp2
    go_ret
    exact ⟨rfl, HG10.out⟩
end Go.Proofs.Ytdlgagdgbpfdnaa
