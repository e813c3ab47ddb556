/- Proved here: a part of the proof (6 of 12). -/
import Derived.Test.YtkhnbdbcaebdaaaGreatDoorQ5
import Derived.Lib.ConvBytes
import Derived.Lib.AtoiErrMem
import Derived.Laws.Tables
import Derived.Deep.MidRow
import Derived.StillTailTactics
import Derived.Laws.Externs
import Derived.MapKept
import Derived.Maps.OwnOps
import Derived.Maps.RangeWalk
import Derived.Deep.RegionHeld
import Derived.Tactics
import Derived.Deep.DeepCutAuto
import Derived.Deep.CutBlock
namespace Go.Proofs.YtkhnbdbcaebdaaaGreatDoor
open Go.RowKit
set_option linter.unusedSimpArgs false
set_option linter.unusedVariables false
set_option maxRecDepth 100000

/-- the bytes that Put answers -/
def Ac.putB (x : Ac) : List UInt8 := if x.check ≠ 0 then [] else x.put
def RPutR (x : Ac) (w : World) (en : Ending) (w' : World) : Prop :=
  ∃ a c, en = .returned (.tuple #[.slice a x.putB.length c, errV x.check]) ∧ w'.ownsRow w.heap.size 5 1 (.slice a x.putB.length c) x.putB.length (byteVs x.putB) ∧ Below w.heap.size w w'
theorem us_two (w : World) (x y : Nat) (t : Nat) : Us (w.alloc (.cells #[.int .u64 (x : Int), .int .u64 (y : Int)] t)) (.slice (some ⟨w.heap.size, 0, none⟩) 2 2) [x, y] :=
  SlV.new w [.int .u64 (x : Int), .int .u64 (y : Int)] 2 t (by decide)
theorem Ac.text_one {e : Nat} {d : List UInt8} : (Ac.mk 1 e 0 d).text = vbs [1, e] := by simp [Ac.text, vbs]
theorem Ac.text_two {e a : Nat} {d : List UInt8} : (Ac.mk 2 e a d).text = vbs [2, e] ++ vbs [a] ++ headB d := by simp [Ac.text, vbs]
theorem Ac.text_any {k e a : Nat} {d : List UInt8} (h1 : 1 < k) (h2 : k ≠ 2) : (Ac.mk k e a d).text = vbs [k, e] ++ vbs [a] := by
  unfold Ac.text
  simp only
  rw [if_pos (show (1 : Int) < (k : Int) by omega), if_neg (show ¬ (k : Int) = 2 by omega)]
  simp [vbs]
set_option maxHeartbeats 4000000 in
theorem rput9_any (x : Ac) (a : Option Addr) (c : Nat) (w : World) (hB : Bytes w (.slice a x.d.length c) x.d) : Calls Tryz.prog 28 #[ac9V x a c] w (RPutR x w) := by
  have hlen := bytes_len hB
  have HCK := Lib.hid' (fun w => rcheck9_any x a c hlen w)
  have hOK := @Ac.check_ok x
  have hTL := @Ac.text_len x
  have hPB := @Ac.text_len x
  obtain ⟨ck, hck⟩ : ∃ ck, ck = x.check := ⟨_, rfl⟩
  have HX := Lib.hid' hck
  rw [← hck] at HCK hOK hTL
  clear hck hPB
  have HB := Lib.hid' hB
  clear hB
  by_cases h0 : ck = 0
  rotate_left
  · clear hOK hTL
    have HP := Lib.hid' (show x.putB = [] by unfold Ac.putB; rw [← HX.out, if_pos h0])
    have HE := Lib.hid' (errV_pos h0)
    obtain ⟨k, e, ad, d⟩ := x
    unfold ac9V at HCK ⊢
    simp only at HCK HB hlen ⊢
    go_enter Tryz.func28, Tryz.ntmps28
    go_wp2_with fail
    have hz0 : (w.alloc (.cells #[.int .i64 k, .int .i64 e, .int .i64 ad, .slice a d.length c] 34)).heap.size = w.heap.size + 1 := by simp
    have HG0 := Lib.hid' (show Below w.heap.size w (w.alloc (.cells #[.int .i64 k, .int .i64 e, .int .i64 ad, .slice a d.length c] 34)) by go_grown)
    generalize w.alloc (.cells #[.int .i64 k, .int .i64 e, .int .i64 ad, .slice a d.length c] 34) = w0 at *
    refine (HCK.out w0).mono ?_
    rintro e1 w1 ⟨rfl, hb1⟩
    have HB1 := Lib.hid' (HG0.out.trans (hb1.mono (by omega)))
    clear hb1
    rw [HE.out]
    clear hz0 h0
    go_wp2
    refine bodyPost_ret (v := .tuple #[.slice none 0 0, .iface 54 (.int .i64 ck)]) (by simp [results, Tryz.results28, go_sem]) rfl ?_
    refine ⟨none, 0, ?_, ?_, HB1.out⟩
    · rw [HP.out, ← HX.out, HE.out]; rfl
    · rw [HP.out]; exact own_nil _ _ _ _
  subst h0
  obtain ⟨g1, g2, g3, g4, g5, g6, g7, g8, g9⟩ := hOK rfl
  have htl := hTL rfl
  clear hOK hTL
  have HP := Lib.hid' (show x.putB = fputB [] x.text by unfold Ac.putB fputB; rw [← HX.out, if_neg (by simp), if_neg (by omega)]; rfl)
  have HN := Lib.hid' (show fputN x.text = 0 by unfold fputN; rw [if_neg (by omega)])
  obtain ⟨k, e, ad, d⟩ := x
  simp only at g1 g2 g3 g4 g5 g6 g7 g8 g9
  obtain ⟨en, rfl⟩ : ∃ n : Nat, e = n := ⟨e.toNat, by omega⟩
  unfold ac9V at HCK ⊢
  simp only at HCK HB hlen ⊢
  have G8 := Lib.hid' g8
  have G9 := Lib.hid' g9
  clear g8 g9
  by_cases hk1 : k = 1
  · have ha0 : ad = 0 := G8.out hk1
    subst hk1; subst ha0
    go_enter Tryz.func28, Tryz.ntmps28
    go_wp2_with fail
    have hz0 : (w.alloc (.cells #[.int .i64 1, .int .i64 (en : Int), .int .i64 0, .slice a d.length c] 34)).heap.size = w.heap.size + 1 := by simp
    have HG0 := Lib.hid' (show Below w.heap.size w (w.alloc (.cells #[.int .i64 1, .int .i64 (en : Int), .int .i64 0, .slice a d.length c] 34)) by go_grown)
    have HBX := Lib.hid' (BoxW.start w [.int .i64 1, .int .i64 (en : Int), .int .i64 0, .slice a d.length c] 34)
    generalize w.alloc (.cells #[.int .i64 1, .int .i64 (en : Int), .int .i64 0, .slice a d.length c] 34) = w0 at *
    refine (HCK.out w0).mono ?_
    rintro e1 w1 ⟨rfl, hb1⟩
    have HG1 := Lib.hid' (HG0.out.trans (hb1.mono (by omega)))
    have HX1 := Lib.hid' (HBX.out.below (Nat.le_refl _) hb1)
    have hz1 := hb1.size
    clear hb1 HBX HG0 HCK
    rw [errV_0]
    have hx0 := HX1.out.box.1 0 _ rfl
    have hx1 := HX1.out.box.1 1 _ rfl
    have hx2 := HX1.out.box.1 2 _ rfl
    have hx3 := HX1.out.box.1 3 _ rfl
    go_wp2_with fail
    clear hx0 hx1 hx2 hx3
    have hu2 : Us (w1.alloc (.cells #[.int .u64 1, .int .u64 (en : Int)] 113)) (.slice (some ⟨w1.heap.size, 0, none⟩) 2 2) [1, en] := us_two w1 1 en 113
    have hz2 : (w1.alloc (.cells #[.int .u64 1, .int .u64 (en : Int)] 113)).heap.size = w1.heap.size + 1 := by simp
    have hg2 : Below w1.heap.size w1 (w1.alloc (.cells #[.int .u64 1, .int .u64 (en : Int)] 113)) := by go_grown
    have HC2 := Lib.hid' (vPut_any [] none 0 [1, en] (some ⟨w1.heap.size, 0, none⟩) 2 _ (SlV.empty _ _ _ (Nat.zero_le _) (fun _ => rfl)) hu2 (by intro n hn; simp at hn; omega) (by simp) (by simp))
    have HX2 := Lib.hid' (HX1.out.below (Nat.le_refl _) hg2)
    have HG2 := Lib.hid' (HG1.out.trans (hg2.mono (by omega)))
    clear hg2 hu2 HX1 HG1
    generalize (w1.alloc (.cells #[.int .u64 1, .int .u64 (en : Int)] 113)) = w2 at *
    refine HC2.out.mono ?_
    rintro e2 w3 ⟨a3, c3, rfl, ho3, hb3⟩
    rw [List.nil_append] at ho3 ⊢
    have hl3 : (vbs [1, en]).length ≤ 20 := by have := vbs_len (l := [1, en]) (by intro n hn; simp at hn; omega); simpa using this
    obtain ⟨r3, hr3⟩ : ∃ r, r = vbs [1, en] := ⟨_, rfl⟩
    rw [← hr3] at ho3 hl3 ⊢
    have HR3 := Lib.hid' hr3
    have HX3 := Lib.hid' (HX2.out.below (Nat.le_refl _) hb3)
    have HG3 := Lib.hid' (HG2.out.trans (hb3.mono (by omega)))
    have HO3 := Lib.hid' (show Bytes w3 (.slice a3 r3.length c3) r3 from SlV.of_own ho3)
    have hz3 := hb3.size
    clear hr3 ho3 hb3 HX2 HG2 HC2
    have hx0 := HX3.out.box.1 0 _ rfl
    have hx1 := HX3.out.box.1 1 _ rfl
    have hx2 := HX3.out.box.1 2 _ rfl
    have hx3 := HX3.out.box.1 3 _ rfl
    go_wp2_with fail
    have HT := Lib.hid' (show ({ k := 1, e := en, a := 0, d := d } : Ac).text = r3 from by rw [HR3.out]; exact Ac.text_one)
    rw [HT.out] at HP HN
    have HC8 := Lib.hid' (fput_any [] r3 none a3 0 c3 w3 (SlV.empty _ _ _ (Nat.zero_le _) (fun _ => rfl)) HO3.out (by simp))
    refine HC8.out.mono ?_
    unfold FPutR
    rintro e8 w9 ⟨a9, c9, rfl, ho9, hb9⟩
    have HG9 := Lib.hid' (HG3.out.trans (hb9.mono (by omega)))
    have HO9 := Lib.hid' (own_base (B' := w.heap.size) ho9 (by omega))
    clear ho9 hb9 HC8
    obtain ⟨q, hq⟩ : ∃ q, q = fputB [] r3 := ⟨_, rfl⟩
    have HQ := Lib.hid' (HP.out.trans hq.symm)
    rw [← hq] at HO9 ⊢
    have HN9 := Lib.hid' (HN.out)
    rw [HN.out, errV_0]
    clear hq HP
    go_wp2_with fail
    refine bodyPost_ret (v := .tuple #[.slice a9 q.length c9, .nilIface]) (by simp [results, Tryz.results28, go_sem]) rfl ?_
    refine ⟨a9, c9, ?_, ?_, HG9.out⟩
    · rw [HQ.out, ← HX.out]; rfl
    · rw [HQ.out]; exact HO9.out

  obtain ⟨an, rfl⟩ : ∃ n : Nat, ad = n := ⟨ad.toNat, by omega⟩
  by_cases hk2 : k = 2
  · subst hk2
    go_enter Tryz.func28, Tryz.ntmps28
    go_wp2_with fail
    have hz0 : (w.alloc (.cells #[.int .i64 2, .int .i64 (en : Int), .int .i64 (an : Int), .slice a d.length c] 34)).heap.size = w.heap.size + 1 := by simp
    have HG0 := Lib.hid' (show Below w.heap.size w (w.alloc (.cells #[.int .i64 2, .int .i64 (en : Int), .int .i64 (an : Int), .slice a d.length c] 34)) by go_grown)
    have HBX := Lib.hid' (BoxW.start w [.int .i64 2, .int .i64 (en : Int), .int .i64 (an : Int), .slice a d.length c] 34)
    generalize w.alloc (.cells #[.int .i64 2, .int .i64 (en : Int), .int .i64 (an : Int), .slice a d.length c] 34) = w0 at *
    refine (HCK.out w0).mono ?_
    rintro e1 w1 ⟨rfl, hb1⟩
    have HG1 := Lib.hid' (HG0.out.trans (hb1.mono (by omega)))
    have HX1 := Lib.hid' (HBX.out.below (Nat.le_refl _) hb1)
    have hz1 := hb1.size
    clear hb1 HBX HG0 HCK
    rw [errV_0]
    have hx0 := HX1.out.box.1 0 _ rfl
    have hx1 := HX1.out.box.1 1 _ rfl
    have hx2 := HX1.out.box.1 2 _ rfl
    have hx3 := HX1.out.box.1 3 _ rfl
    go_wp2_with fail
    clear hx0 hx1 hx2 hx3
    have hu2 : Us (w1.alloc (.cells #[.int .u64 2, .int .u64 (en : Int)] 113)) (.slice (some ⟨w1.heap.size, 0, none⟩) 2 2) [2, en] := us_two w1 2 en 113
    have hz2 : (w1.alloc (.cells #[.int .u64 2, .int .u64 (en : Int)] 113)).heap.size = w1.heap.size + 1 := by simp
    have hg2 : Below w1.heap.size w1 (w1.alloc (.cells #[.int .u64 2, .int .u64 (en : Int)] 113)) := by go_grown
    have HC2 := Lib.hid' (vPut_any [] none 0 [2, en] (some ⟨w1.heap.size, 0, none⟩) 2 _ (SlV.empty _ _ _ (Nat.zero_le _) (fun _ => rfl)) hu2 (by intro n hn; simp at hn; omega) (by simp) (by simp))
    have HX2 := Lib.hid' (HX1.out.below (Nat.le_refl _) hg2)
    have HG2 := Lib.hid' (HG1.out.trans (hg2.mono (by omega)))
    clear hg2 hu2 HX1 HG1
    generalize (w1.alloc (.cells #[.int .u64 2, .int .u64 (en : Int)] 113)) = w2 at *
    refine HC2.out.mono ?_
    rintro e2 w3 ⟨a3, c3, rfl, ho3, hb3⟩
    rw [List.nil_append] at ho3 ⊢
    have hl3 : (vbs [2, en]).length ≤ 20 := by have := vbs_len (l := [2, en]) (by intro n hn; simp at hn; omega); simpa using this
    obtain ⟨r3, hr3⟩ : ∃ r, r = vbs [2, en] := ⟨_, rfl⟩
    rw [← hr3] at ho3 hl3 ⊢
    have HR3 := Lib.hid' hr3
    have HX3 := Lib.hid' (HX2.out.below (Nat.le_refl _) hb3)
    have HG3 := Lib.hid' (HG2.out.trans (hb3.mono (by omega)))
    have HO3 := Lib.hid' (show Bytes w3 (.slice a3 r3.length c3) r3 from SlV.of_own ho3)
    have hz3 := hb3.size
    clear hr3 ho3 hb3 HX2 HG2 HC2
    have hx0 := HX3.out.box.1 0 _ rfl
    have hx1 := HX3.out.box.1 1 _ rfl
    have hx2 := HX3.out.box.1 2 _ rfl
    have hx3 := HX3.out.box.1 3 _ rfl
    go_wp2_with fail
    clear hx0 hx1 hx2 hx3
    have hu4 := us_one w3 an 113
    have hz4 : (w3.alloc (.cells #[.int .u64 (an : Int)] 113)).heap.size = w3.heap.size + 1 := by simp
    have hg4 : Below w3.heap.size w3 (w3.alloc (.cells #[.int .u64 (an : Int)] 113)) := by go_grown
    have HC4 := Lib.hid' (vPut_any r3 a3 c3 [an] (some ⟨w3.heap.size, 0, none⟩) 1 _ (show Bytes (w3.alloc (.cells #[.int .u64 (an : Int)] 113)) (.slice a3 r3.length c3) r3 from SlV.below HO3.out (Nat.le_refl _) hg4) hu4 (by intro n hn; simp at hn; omega) (by omega) (by simp))
    have HX4 := Lib.hid' (HX3.out.below (Nat.le_refl _) hg4)
    have HG4 := Lib.hid' (HG3.out.trans (hg4.mono (by omega)))
    clear hg4 hu4 HX3 HG3 HO3
    generalize (w3.alloc (.cells #[.int .u64 (an : Int)] 113)) = w4 at *
    have hl5 : (vbs [an]).length ≤ 10 := by have := vbs_len (l := [an]) (by intro n hn; simp at hn; omega); simpa using this
    obtain ⟨r5, hr5⟩ : ∃ r, r = r3 ++ vbs [an] := ⟨_, rfl⟩
    have hl5' : r5.length ≤ 30 := by rw [hr5, List.length_append]; omega
    rw [← hr5] at HC4
    have HR5 := Lib.hid' hr5
    clear hr5 hl5
    refine HC4.out.mono ?_
    rintro e4 w5 ⟨a5, c5, rfl, ho5, hb5⟩
    have HX5 := Lib.hid' (HX4.out.below (Nat.le_refl _) hb5)
    have HG5 := Lib.hid' (HG4.out.trans (hb5.mono (by omega)))
    have HO5 := Lib.hid' (show Bytes w5 (.slice a5 r5.length c5) r5 from SlV.of_own ho5)
    have hz5 := hb5.size
    clear ho5 hb5 HX4 HG4 HC4
    have hx0 := HX5.out.box.1 0 _ rfl
    have hx1 := HX5.out.box.1 1 _ rfl
    have hx2 := HX5.out.box.1 2 _ rfl
    have hx3 := HX5.out.box.1 3 _ rfl
    go_wp2_with fail
    clear hx0 hx1 hx2 hx3
    have HD5 := Lib.hid' (show Bytes w5 (.slice a d.length c) d from SlV.below HB.out (Nat.le_refl _) HG5.out)
    have hhl : (headB d).length ≤ 80 := by
      have := vb_len10 (n := d.length) (by omega)
      unfold headB; rw [List.length_append]; omega
    have HC6 := Lib.hid' (vPutText_any r5 d a5 a c5 c w5 HO5.out HD5.out (by omega) (by omega))
    obtain ⟨r7, hr7⟩ : ∃ r, r = r5 ++ headB d := ⟨_, rfl⟩
    have hl7 : r7.length ≤ 110 := by rw [hr7, List.length_append]; omega
    rw [← hr7] at HC6
    have HR7 := Lib.hid' hr7
    clear hr7 hhl
    refine HC6.out.mono ?_
    rintro e6 w7 ⟨a7, c7, rfl, ho7, hb7⟩
    have HG7 := Lib.hid' (HG5.out.trans (hb7.mono (by omega)))
    have HO7 := Lib.hid' (show Bytes w7 (.slice a7 r7.length c7) r7 from SlV.of_own ho7)
    have hz7 := hb7.size
    clear ho7 hb7 HX5 HG5 HC6 HO5 HD5
    go_wp2_with fail
    have HT := Lib.hid' (show ({ k := 2, e := en, a := (an : Int), d := d } : Ac).text = r7 from by rw [HR7.out, HR5.out, HR3.out]; exact Ac.text_two)
    rw [HT.out] at HP HN
    have HC8 := Lib.hid' (fput_any [] r7 none a7 0 c7 w7 (SlV.empty _ _ _ (Nat.zero_le _) (fun _ => rfl)) HO7.out (by simp))
    refine HC8.out.mono ?_
    unfold FPutR
    rintro e8 w9 ⟨a9, c9, rfl, ho9, hb9⟩
    have HG9 := Lib.hid' (HG7.out.trans (hb9.mono (by omega)))
    have HO9 := Lib.hid' (own_base (B' := w.heap.size) ho9 (by omega))
    clear ho9 hb9 HC8
    obtain ⟨q, hq⟩ : ∃ q, q = fputB [] r7 := ⟨_, rfl⟩
    have HQ := Lib.hid' (HP.out.trans hq.symm)
    rw [← hq] at HO9 ⊢
    have HN9 := Lib.hid' (HN.out)
    rw [HN.out, errV_0]
    clear hq HP
    go_wp2_with fail
    refine bodyPost_ret (v := .tuple #[.slice a9 q.length c9, .nilIface]) (by simp [results, Tryz.results28, go_sem]) rfl ?_
    refine ⟨a9, c9, ?_, ?_, HG9.out⟩
    · rw [HQ.out, ← HX.out]; rfl
    · rw [HQ.out]; exact HO9.out

  · obtain ⟨kn, rfl⟩ : ∃ n : Nat, k = n := ⟨k.toNat, by omega⟩
    have b1 : ((kn : Int) == 1) = false := by rw [beq_eq_false_iff_ne]; omega
    have b2 : ((kn : Int) == 2) = false := by rw [beq_eq_false_iff_ne]; omega
    go_enter Tryz.func28, Tryz.ntmps28
    go_wp2_with fail
    have hz0 : (w.alloc (.cells #[.int .i64 (kn : Int), .int .i64 (en : Int), .int .i64 (an : Int), .slice a d.length c] 34)).heap.size = w.heap.size + 1 := by simp
    have HG0 := Lib.hid' (show Below w.heap.size w (w.alloc (.cells #[.int .i64 (kn : Int), .int .i64 (en : Int), .int .i64 (an : Int), .slice a d.length c] 34)) by go_grown)
    have HBX := Lib.hid' (BoxW.start w [.int .i64 (kn : Int), .int .i64 (en : Int), .int .i64 (an : Int), .slice a d.length c] 34)
    generalize w.alloc (.cells #[.int .i64 (kn : Int), .int .i64 (en : Int), .int .i64 (an : Int), .slice a d.length c] 34) = w0 at *
    refine (HCK.out w0).mono ?_
    rintro e1 w1 ⟨rfl, hb1⟩
    have HG1 := Lib.hid' (HG0.out.trans (hb1.mono (by omega)))
    have HX1 := Lib.hid' (HBX.out.below (Nat.le_refl _) hb1)
    have hz1 := hb1.size
    clear hb1 HBX HG0 HCK
    rw [errV_0]
    have hx0 := HX1.out.box.1 0 _ rfl
    have hx1 := HX1.out.box.1 1 _ rfl
    have hx2 := HX1.out.box.1 2 _ rfl
    have hx3 := HX1.out.box.1 3 _ rfl
    go_wp2_with fail
    clear hx0 hx1 hx2 hx3
    have hu2 : Us (w1.alloc (.cells #[.int .u64 (kn : Int), .int .u64 (en : Int)] 113)) (.slice (some ⟨w1.heap.size, 0, none⟩) 2 2) [kn, en] := us_two w1 kn en 113
    have hz2 : (w1.alloc (.cells #[.int .u64 (kn : Int), .int .u64 (en : Int)] 113)).heap.size = w1.heap.size + 1 := by simp
    have hg2 : Below w1.heap.size w1 (w1.alloc (.cells #[.int .u64 (kn : Int), .int .u64 (en : Int)] 113)) := by go_grown
    have HC2 := Lib.hid' (vPut_any [] none 0 [kn, en] (some ⟨w1.heap.size, 0, none⟩) 2 _ (SlV.empty _ _ _ (Nat.zero_le _) (fun _ => rfl)) hu2 (by intro n hn; simp at hn; omega) (by simp) (by simp))
    have HX2 := Lib.hid' (HX1.out.below (Nat.le_refl _) hg2)
    have HG2 := Lib.hid' (HG1.out.trans (hg2.mono (by omega)))
    clear hg2 hu2 HX1 HG1
    generalize (w1.alloc (.cells #[.int .u64 (kn : Int), .int .u64 (en : Int)] 113)) = w2 at *
    refine HC2.out.mono ?_
    rintro e2 w3 ⟨a3, c3, rfl, ho3, hb3⟩
    rw [List.nil_append] at ho3 ⊢
    have hl3 : (vbs [kn, en]).length ≤ 20 := by have := vbs_len (l := [kn, en]) (by intro n hn; simp at hn; omega); simpa using this
    obtain ⟨r3, hr3⟩ : ∃ r, r = vbs [kn, en] := ⟨_, rfl⟩
    rw [← hr3] at ho3 hl3 ⊢
    have HR3 := Lib.hid' hr3
    have HX3 := Lib.hid' (HX2.out.below (Nat.le_refl _) hb3)
    have HG3 := Lib.hid' (HG2.out.trans (hb3.mono (by omega)))
    have HO3 := Lib.hid' (show Bytes w3 (.slice a3 r3.length c3) r3 from SlV.of_own ho3)
    have hz3 := hb3.size
    clear hr3 ho3 hb3 HX2 HG2 HC2
    have hx0 := HX3.out.box.1 0 _ rfl
    have hx1 := HX3.out.box.1 1 _ rfl
    have hx2 := HX3.out.box.1 2 _ rfl
    have hx3 := HX3.out.box.1 3 _ rfl
    go_wp2_with fail
    clear hx0 hx1 hx2 hx3
    have hu4 := us_one w3 an 113
    have hz4 : (w3.alloc (.cells #[.int .u64 (an : Int)] 113)).heap.size = w3.heap.size + 1 := by simp
    have hg4 : Below w3.heap.size w3 (w3.alloc (.cells #[.int .u64 (an : Int)] 113)) := by go_grown
    have HC4 := Lib.hid' (vPut_any r3 a3 c3 [an] (some ⟨w3.heap.size, 0, none⟩) 1 _ (show Bytes (w3.alloc (.cells #[.int .u64 (an : Int)] 113)) (.slice a3 r3.length c3) r3 from SlV.below HO3.out (Nat.le_refl _) hg4) hu4 (by intro n hn; simp at hn; omega) (by omega) (by simp))
    have HX4 := Lib.hid' (HX3.out.below (Nat.le_refl _) hg4)
    have HG4 := Lib.hid' (HG3.out.trans (hg4.mono (by omega)))
    clear hg4 hu4 HX3 HG3 HO3
    generalize (w3.alloc (.cells #[.int .u64 (an : Int)] 113)) = w4 at *
    have hl5 : (vbs [an]).length ≤ 10 := by have := vbs_len (l := [an]) (by intro n hn; simp at hn; omega); simpa using this
    obtain ⟨r5, hr5⟩ : ∃ r, r = r3 ++ vbs [an] := ⟨_, rfl⟩
    have hl5' : r5.length ≤ 30 := by rw [hr5, List.length_append]; omega
    rw [← hr5] at HC4
    have HR5 := Lib.hid' hr5
    clear hr5 hl5
    refine HC4.out.mono ?_
    rintro e4 w5 ⟨a5, c5, rfl, ho5, hb5⟩
    have HX5 := Lib.hid' (HX4.out.below (Nat.le_refl _) hb5)
    have HG5 := Lib.hid' (HG4.out.trans (hb5.mono (by omega)))
    have HO5 := Lib.hid' (show Bytes w5 (.slice a5 r5.length c5) r5 from SlV.of_own ho5)
    have hz5 := hb5.size
    clear ho5 hb5 HX4 HG4 HC4
    have hx0 := HX5.out.box.1 0 _ rfl
    have hx1 := HX5.out.box.1 1 _ rfl
    have hx2 := HX5.out.box.1 2 _ rfl
    have hx3 := HX5.out.box.1 3 _ rfl
    go_wp2_with fail
    have HT := Lib.hid' (show ({ k := kn, e := en, a := (an : Int), d := d } : Ac).text = r5 from by rw [HR5.out, HR3.out]; exact Ac.text_any (by omega) (by omega))
    rw [HT.out] at HP HN
    have HC8 := Lib.hid' (fput_any [] r5 none a5 0 c5 w5 (SlV.empty _ _ _ (Nat.zero_le _) (fun _ => rfl)) HO5.out (by simp))
    refine HC8.out.mono ?_
    unfold FPutR
    rintro e8 w9 ⟨a9, c9, rfl, ho9, hb9⟩
    have HG9 := Lib.hid' (HG5.out.trans (hb9.mono (by omega)))
    have HO9 := Lib.hid' (own_base (B' := w.heap.size) ho9 (by omega))
    clear ho9 hb9 HC8
    obtain ⟨q, hq⟩ : ∃ q, q = fputB [] r5 := ⟨_, rfl⟩
    have HQ := Lib.hid' (HP.out.trans hq.symm)
    rw [← hq] at HO9 ⊢
    have HN9 := Lib.hid' (HN.out)
    rw [HN.out, errV_0]
    clear hq HP
    go_wp2_with fail
    refine bodyPost_ret (v := .tuple #[.slice a9 q.length c9, .nilIface]) (by simp [results, Tryz.results28, go_sem]) rfl ?_
    refine ⟨a9, c9, ?_, ?_, HG9.out⟩
    · rw [HQ.out, ← HX.out]; rfl
    · rw [HQ.out]; exact HO9.out

end Go.Proofs.YtkhnbdbcaebdaaaGreatDoor

namespace Go.Proofs.YtkhnbdbcaebdaaaGreatDoor
open Go.RowKit
set_option linter.unusedSimpArgs false
set_option linter.unusedVariables false
set_option maxRecDepth 20000

/-- no byte lies in a unit's own two blocks -/
theorem UnitAt.no_byte {A : Nat → Prop} {w : World} {bu bm : Nat} {u : U} (h : UnitAt A w bu bm u) {p : Addr} {b : UInt8} (hp : w.cell? p = some (byteV b)) : ¬ (p.block = bu ∨ p.block = bm) := by
  obtain ⟨blk, off, row⟩ := p
  obtain ⟨L, ⟨es, clock, h1, _⟩, _⟩ := h.map
  rintro (rfl | rfl)
  · unfold World.cell? at hp
    rw [h.blk] at hp
    simp only at hp
    split at hp
    · cases hp
    · match off with
      | 0 => simp [byteV] at hp
      | 1 => simp [byteV] at hp
      | 2 => simp [byteV] at hp
      | n + 3 => simp at hp
  · unfold World.cell? at hp
    rw [h1] at hp
    simp only at hp
    cases hp
theorem UnitAt.bytes {A : Nat → Prop} {w w' : World} {bu bm : Nat} {u : U} (h : UnitAt A w bu bm u) {v : Value} {d : List UInt8} (hd : Bytes w v d) (hf : Fr (fun k => k = bu ∨ k = bm) w w') : Bytes w' v d := by
  obtain ⟨a, cap, rfl, h1, h2, h3, h4⟩ := hd
  refine ⟨a, cap, rfl, h1, h2, h3, fun j x hx => ?_⟩
  obtain ⟨p, hp, hc⟩ := h4 j x hx
  refine ⟨p, hp, hf.cell hc ?_⟩
  have hx' : ∃ b, x = byteV b := by
    simp only [byteVs, List.getElem?_map] at hx
    cases hq : d[j]? with
    | none => rw [hq] at hx; simp at hx
    | some b => rw [hq] at hx; simp at hx; exact ⟨b, hx.symm⟩
  obtain ⟨b, rfl⟩ := hx'
  exact h.no_byte hc

end Go.Proofs.YtkhnbdbcaebdaaaGreatDoor

namespace Go.Proofs.YtkhnbdbcaebdaaaGreatDoor
open Go.RowKit
set_option linter.unusedSimpArgs false
set_option linter.unusedVariables false
set_option maxRecDepth 100000

def apU (u : U) (x : Ac) : Nat × Int × U :=
  if x.check ≠ 0 then (x.check, 0, u) else if x.k = 1 then u.sealE x.e else if x.k = 2 then ((u.write x.e x.a x.d).1, 0, (u.write x.e x.a x.d).2)
  else if x.k = 3 then ((u.fill x.e x.a).1, 0, (u.fill x.e x.a).2) else if x.k = 4 then ((u.trim x.e x.a).1, 0, (u.trim x.e x.a).2) else u.cut x.e x.a
theorem apU_ok {u : U} (h : u.ok) (x : Ac) : (apU u x).2.2.ok := by
  unfold apU
  split; · exact h
  split; · exact U.ok_sealE h _
  split; · exact U.ok_write h _ _ _
  split; · exact U.ok_fill h _ _
  split; · exact U.ok_trim h _ _
  exact U.ok_cut h _ _
theorem apU_len (u : U) (x : Ac) : (apU u x).2.2.cells.length ≤ u.cells.length + 1 := by
  unfold apU
  split; · simp
  split; · unfold U.sealE; (repeat' split) <;> simp
  split; · unfold U.write; (repeat' split) <;> first | exact putC_len _ _ _ | simp
  split; · unfold U.fill; (repeat' split) <;> first | exact putC_len _ _ _ | simp
  split; · unfold U.trim; split; · simp
           · exact Nat.le_succ_of_le (List.length_filter_le _ _)
  unfold U.cut; split; · simp
  split; · simp
  exact Nat.le_succ_of_le (List.length_filter_le _ _)

set_option maxHeartbeats 8000000 in
theorem rapply_any {A : Nat → Prop} {bu bm : Nat} {u : U} (x : Ac) (a : Option Addr) (c : Nat) (w : World) (h : UnitAt A w bu bm u) (hA : ∀ k, A k → k < w.heap.size) (hlen : u.cells.length ≤ 1048576) (hB : Bytes w (.slice a x.d.length c) x.d) :
    Calls Tryz.prog 17 #[.pointer (some ⟨bu, 0, none⟩), ac9V x a c] w (UnitR (.tuple #[.int .i64 (apU u x).2.1, errV (apU u x).1]) A bu bm (apU u x).2.2 w) := by
  have HU := Lib.hid' h
  have HB := Lib.hid' hB
  have HA := Lib.hid' hA
  have hl := bytes_len hB
  have HCK := Lib.hid' (fun wq => rcheck9_any x a c hl wq)
  obtain ⟨p, hp⟩ : ∃ p, p = apU u x := ⟨_, rfl⟩
  rw [← hp]
  unfold apU at hp
  have HAP := Lib.hid' hp
  clear hp
  have hOK := @Ac.check_ok x
  obtain ⟨ck, hck⟩ : ∃ ck, ck = x.check := ⟨_, rfl⟩
  rw [← hck] at HCK HAP hOK
  clear hck h hB hA
  unfold ac9V at HCK ⊢
  by_cases h0 : ck = 0
  rotate_left
  · skip
    have HV := Lib.hid' (HAP.out.trans (if_pos h0))
    rw [HV.out]
    clear HV HAP hOK
    have HE := Lib.hid' (errV_pos h0)
    go_enter Tryz.func17, Tryz.ntmps17
    go_wp2_with fail
    have H0 : Sep w NoF [] w := Sep.start _
    have H1 : Sep w NoF [.box (w.heap.size) [.int .i64 x.k, .int .i64 x.e, .int .i64 x.a, .slice a x.d.length c] 34] ((w.alloc (.cells #[.int .i64 x.k, .int .i64 x.e, .int .i64 x.a, .slice a x.d.length c] 34))) := (H0.allocAt (w.heap.size) [.int .i64 x.k, .int .i64 x.e, .int .i64 x.a, .slice a x.d.length c] 34 (by simp))
    clear H0
    generalize (w.alloc (.cells #[.int .i64 x.k, .int .i64 x.e, .int .i64 x.a, .slice a x.d.length c] 34)) = w1 at *
    go_wp2_with fail
    refine (HCK.out w1).mono ?_
    rintro e w2 ⟨rfl, hb2⟩
    have H2 : Sep w NoF [.box (w.heap.size) [.int .i64 x.k, .int .i64 x.e, .int .i64 x.a, .slice a x.d.length c] 34] (w2) := (H1.below hb2)
    clear H1 hb2
    have HU2 := Lib.hid' (HU.out.below (Nat.le_refl _) H2.toBelow)
    have hA2 : ∀ k, A k → k < w2.heap.size := fun k hk => Nat.lt_of_lt_of_le (HA.out k hk) H2.toBelow.size
    rw [HE.out]
    clear h0
    go_wp2
    go_ret2
    exact ⟨by rw [HE.out]; rfl, HU2.out, Fr.of_below H2.toBelow⟩
  have g1 := (hOK h0).1
  have g2 := (hOK h0).2.1
  have HQ := Lib.hid' (HAP.out.trans (if_neg (by simpa using h0)))
  subst h0
  clear HAP hOK
  by_cases hk : x.k = 1
  · skip
    skip
    have HV := Lib.hid' (HQ.out.trans (if_pos hk))
    rw [HV.out]
    clear HV HQ
    have b1 : (x.k == 1) = true := by rw [beq_iff_eq]; omega
    clear hk
    go_enter Tryz.func17, Tryz.ntmps17
    go_wp2_with fail
    have H0 : Sep w NoF [] w := Sep.start _
    have H1 : Sep w NoF [.box (w.heap.size) [.int .i64 x.k, .int .i64 x.e, .int .i64 x.a, .slice a x.d.length c] 34] ((w.alloc (.cells #[.int .i64 x.k, .int .i64 x.e, .int .i64 x.a, .slice a x.d.length c] 34))) := (H0.allocAt (w.heap.size) [.int .i64 x.k, .int .i64 x.e, .int .i64 x.a, .slice a x.d.length c] 34 (by simp))
    clear H0
    generalize (w.alloc (.cells #[.int .i64 x.k, .int .i64 x.e, .int .i64 x.a, .slice a x.d.length c] 34)) = w1 at *
    go_wp2_with fail
    refine (HCK.out w1).mono ?_
    rintro e w2 ⟨rfl, hb2⟩
    have H2 : Sep w NoF [.box (w.heap.size) [.int .i64 x.k, .int .i64 x.e, .int .i64 x.a, .slice a x.d.length c] 34] (w2) := (H1.below hb2)
    clear H1 hb2
    have HU2 := Lib.hid' (HU.out.below (Nat.le_refl _) H2.toBelow)
    have hA2 : ∀ k, A k → k < w2.heap.size := fun k hk => Nat.lt_of_lt_of_le (HA.out k hk) H2.toBelow.size
    rw [errV_0]
    have Xc0 := H2.cell 0 rfl 0 rfl
    have Xc1 := H2.cell 0 rfl 1 rfl
    have Xc2 := H2.cell 0 rfl 2 rfl
    have Xc3 := H2.cell 0 rfl 3 rfl
    have Xl := H2.lt 0 rfl
    go_wp2_with fail
    refine (seal_any x.e _ HU2.out).mono ?_
    rintro en w3 ⟨rfl, hu, hf⟩
    have HU3 := Lib.hid' hu
    have HF3 := Lib.hid' ((Fr.of_below H2.toBelow).trans hf (fun i hi => .inl hi))
    clear hu hf Xc0 Xc1 Xc2 Xc3 Xl
    go_wp2
    go_ret2
    exact ⟨rfl, HU3.out, HF3.out⟩
  have HQ1 := Lib.hid' (HQ.out.trans (if_neg hk))
  clear HQ
  have HQ := HQ1
  clear HQ1
  have hk1 := hk
  clear hk
  by_cases hk : x.k = 2
  · skip
    skip
    have HV := Lib.hid' (HQ.out.trans (if_pos hk))
    rw [HV.out]
    clear HV HQ
    have b1 : (x.k == 1) = false := by rw [beq_eq_false_iff_ne]; omega
    have b2 : (x.k == 2) = true := by rw [beq_iff_eq]; omega
    clear hk
    go_enter Tryz.func17, Tryz.ntmps17
    go_wp2_with fail
    have H0 : Sep w NoF [] w := Sep.start _
    have H1 : Sep w NoF [.box (w.heap.size) [.int .i64 x.k, .int .i64 x.e, .int .i64 x.a, .slice a x.d.length c] 34] ((w.alloc (.cells #[.int .i64 x.k, .int .i64 x.e, .int .i64 x.a, .slice a x.d.length c] 34))) := (H0.allocAt (w.heap.size) [.int .i64 x.k, .int .i64 x.e, .int .i64 x.a, .slice a x.d.length c] 34 (by simp))
    clear H0
    generalize (w.alloc (.cells #[.int .i64 x.k, .int .i64 x.e, .int .i64 x.a, .slice a x.d.length c] 34)) = w1 at *
    go_wp2_with fail
    refine (HCK.out w1).mono ?_
    rintro e w2 ⟨rfl, hb2⟩
    have H2 : Sep w NoF [.box (w.heap.size) [.int .i64 x.k, .int .i64 x.e, .int .i64 x.a, .slice a x.d.length c] 34] (w2) := (H1.below hb2)
    clear H1 hb2
    have HU2 := Lib.hid' (HU.out.below (Nat.le_refl _) H2.toBelow)
    have hA2 : ∀ k, A k → k < w2.heap.size := fun k hk => Nat.lt_of_lt_of_le (HA.out k hk) H2.toBelow.size
    rw [errV_0]
    have Xc0 := H2.cell 0 rfl 0 rfl
    have Xc1 := H2.cell 0 rfl 1 rfl
    have Xc2 := H2.cell 0 rfl 2 rfl
    have Xc3 := H2.cell 0 rfl 3 rfl
    have Xl := H2.lt 0 rfl
    go_wp2_with fail
    refine (write_any x.e x.a (.slice a x.d.length c) x.d _ HU2.out hA2 (H2.oldBytes HB.out)).mono ?_
    rintro en w3 ⟨rfl, hu, hf⟩
    have HU3 := Lib.hid' hu
    have HF3 := Lib.hid' ((Fr.of_below H2.toBelow).trans hf (fun i hi => .inl hi))
    clear hu hf Xc0 Xc1 Xc2 Xc3 Xl
    go_wp2
    go_ret2
    exact ⟨rfl, HU3.out, HF3.out⟩
  have HQ2 := Lib.hid' (HQ.out.trans (if_neg hk))
  clear HQ
  have HQ := HQ2
  clear HQ2
  have hk2 := hk
  clear hk
  by_cases hk : x.k = 3
  · skip
    skip
    have HV := Lib.hid' (HQ.out.trans (if_pos hk))
    rw [HV.out]
    clear HV HQ
    have b1 : (x.k == 1) = false := by rw [beq_eq_false_iff_ne]; omega
    have b2 : (x.k == 2) = false := by rw [beq_eq_false_iff_ne]; omega
    have b3 : (x.k == 3) = true := by rw [beq_iff_eq]; omega
    clear hk
    go_enter Tryz.func17, Tryz.ntmps17
    go_wp2_with fail
    have H0 : Sep w NoF [] w := Sep.start _
    have H1 : Sep w NoF [.box (w.heap.size) [.int .i64 x.k, .int .i64 x.e, .int .i64 x.a, .slice a x.d.length c] 34] ((w.alloc (.cells #[.int .i64 x.k, .int .i64 x.e, .int .i64 x.a, .slice a x.d.length c] 34))) := (H0.allocAt (w.heap.size) [.int .i64 x.k, .int .i64 x.e, .int .i64 x.a, .slice a x.d.length c] 34 (by simp))
    clear H0
    generalize (w.alloc (.cells #[.int .i64 x.k, .int .i64 x.e, .int .i64 x.a, .slice a x.d.length c] 34)) = w1 at *
    go_wp2_with fail
    refine (HCK.out w1).mono ?_
    rintro e w2 ⟨rfl, hb2⟩
    have H2 : Sep w NoF [.box (w.heap.size) [.int .i64 x.k, .int .i64 x.e, .int .i64 x.a, .slice a x.d.length c] 34] (w2) := (H1.below hb2)
    clear H1 hb2
    have HU2 := Lib.hid' (HU.out.below (Nat.le_refl _) H2.toBelow)
    have hA2 : ∀ k, A k → k < w2.heap.size := fun k hk => Nat.lt_of_lt_of_le (HA.out k hk) H2.toBelow.size
    rw [errV_0]
    have Xc0 := H2.cell 0 rfl 0 rfl
    have Xc1 := H2.cell 0 rfl 1 rfl
    have Xc2 := H2.cell 0 rfl 2 rfl
    have Xc3 := H2.cell 0 rfl 3 rfl
    have Xl := H2.lt 0 rfl
    go_wp2_with fail
    refine (fill_any x.e x.a _ HU2.out hA2).mono ?_
    rintro en w3 ⟨rfl, hu, hf⟩
    have HU3 := Lib.hid' hu
    have HF3 := Lib.hid' ((Fr.of_below H2.toBelow).trans hf (fun i hi => .inl hi))
    clear hu hf Xc0 Xc1 Xc2 Xc3 Xl
    go_wp2
    go_ret2
    exact ⟨rfl, HU3.out, HF3.out⟩
  have HQ3 := Lib.hid' (HQ.out.trans (if_neg hk))
  clear HQ
  have HQ := HQ3
  clear HQ3
  have hk3 := hk
  clear hk
  by_cases hk : x.k = 4
  · skip
    skip
    have HV := Lib.hid' (HQ.out.trans (if_pos hk))
    rw [HV.out]
    clear HV HQ
    have b1 : (x.k == 1) = false := by rw [beq_eq_false_iff_ne]; omega
    have b2 : (x.k == 2) = false := by rw [beq_eq_false_iff_ne]; omega
    have b3 : (x.k == 3) = false := by rw [beq_eq_false_iff_ne]; omega
    have b4 : (x.k == 4) = true := by rw [beq_iff_eq]; omega
    clear hk
    go_enter Tryz.func17, Tryz.ntmps17
    go_wp2_with fail
    have H0 : Sep w NoF [] w := Sep.start _
    have H1 : Sep w NoF [.box (w.heap.size) [.int .i64 x.k, .int .i64 x.e, .int .i64 x.a, .slice a x.d.length c] 34] ((w.alloc (.cells #[.int .i64 x.k, .int .i64 x.e, .int .i64 x.a, .slice a x.d.length c] 34))) := (H0.allocAt (w.heap.size) [.int .i64 x.k, .int .i64 x.e, .int .i64 x.a, .slice a x.d.length c] 34 (by simp))
    clear H0
    generalize (w.alloc (.cells #[.int .i64 x.k, .int .i64 x.e, .int .i64 x.a, .slice a x.d.length c] 34)) = w1 at *
    go_wp2_with fail
    refine (HCK.out w1).mono ?_
    rintro e w2 ⟨rfl, hb2⟩
    have H2 : Sep w NoF [.box (w.heap.size) [.int .i64 x.k, .int .i64 x.e, .int .i64 x.a, .slice a x.d.length c] 34] (w2) := (H1.below hb2)
    clear H1 hb2
    have HU2 := Lib.hid' (HU.out.below (Nat.le_refl _) H2.toBelow)
    have hA2 : ∀ k, A k → k < w2.heap.size := fun k hk => Nat.lt_of_lt_of_le (HA.out k hk) H2.toBelow.size
    rw [errV_0]
    have Xc0 := H2.cell 0 rfl 0 rfl
    have Xc1 := H2.cell 0 rfl 1 rfl
    have Xc2 := H2.cell 0 rfl 2 rfl
    have Xc3 := H2.cell 0 rfl 3 rfl
    have Xl := H2.lt 0 rfl
    go_wp2_with fail
    refine (trim_any x.e x.a _ HU2.out hA2).mono ?_
    rintro en w3 ⟨rfl, hu, hf⟩
    have HU3 := Lib.hid' hu
    have HF3 := Lib.hid' ((Fr.of_below H2.toBelow).trans hf (fun i hi => .inl hi))
    clear hu hf Xc0 Xc1 Xc2 Xc3 Xl
    go_wp2
    go_ret2
    exact ⟨rfl, HU3.out, HF3.out⟩
  have HQ4 := Lib.hid' (HQ.out.trans (if_neg hk))
  clear HQ
  have HQ := HQ4
  clear HQ4
  have hk4 := hk
  clear hk
  have HV := HQ
  rw [HV.out]
  clear HV HQ
  have b1 : (x.k == 1) = false := by rw [beq_eq_false_iff_ne]; omega
  have b2 : (x.k == 2) = false := by rw [beq_eq_false_iff_ne]; omega
  have b3 : (x.k == 3) = false := by rw [beq_eq_false_iff_ne]; omega
  have b4 : (x.k == 4) = false := by rw [beq_eq_false_iff_ne]; omega
  go_enter Tryz.func17, Tryz.ntmps17
  go_wp2_with fail
  have H0 : Sep w NoF [] w := Sep.start _
  have H1 : Sep w NoF [.box (w.heap.size) [.int .i64 x.k, .int .i64 x.e, .int .i64 x.a, .slice a x.d.length c] 34] ((w.alloc (.cells #[.int .i64 x.k, .int .i64 x.e, .int .i64 x.a, .slice a x.d.length c] 34))) := (H0.allocAt (w.heap.size) [.int .i64 x.k, .int .i64 x.e, .int .i64 x.a, .slice a x.d.length c] 34 (by simp))
  clear H0
  generalize (w.alloc (.cells #[.int .i64 x.k, .int .i64 x.e, .int .i64 x.a, .slice a x.d.length c] 34)) = w1 at *
  go_wp2_with fail
  refine (HCK.out w1).mono ?_
  rintro e w2 ⟨rfl, hb2⟩
  have H2 : Sep w NoF [.box (w.heap.size) [.int .i64 x.k, .int .i64 x.e, .int .i64 x.a, .slice a x.d.length c] 34] (w2) := (H1.below hb2)
  clear H1 hb2
  have HU2 := Lib.hid' (HU.out.below (Nat.le_refl _) H2.toBelow)
  have hA2 : ∀ k, A k → k < w2.heap.size := fun k hk => Nat.lt_of_lt_of_le (HA.out k hk) H2.toBelow.size
  rw [errV_0]
  have Xc0 := H2.cell 0 rfl 0 rfl
  have Xc1 := H2.cell 0 rfl 1 rfl
  have Xc2 := H2.cell 0 rfl 2 rfl
  have Xc3 := H2.cell 0 rfl 3 rfl
  have Xl := H2.lt 0 rfl
  go_wp2_with fail
  refine (cut_any x.e x.a _ HU2.out hA2 hlen).mono ?_
  rintro en w3 ⟨rfl, hu, hf⟩
  have HU3 := Lib.hid' hu
  have HF3 := Lib.hid' ((Fr.of_below H2.toBelow).trans hf (fun i hi => .inl hi))
  clear hu hf Xc0 Xc1 Xc2 Xc3 Xl
  go_wp2
  go_ret2
  exact ⟨rfl, HU3.out, HF3.out⟩

end Go.Proofs.YtkhnbdbcaebdaaaGreatDoor

namespace Go.Proofs.YtkhnbdbcaebdaaaGreatDoor
set_option linter.unusedVariables false
set_option linter.unusedSimpArgs false
namespace SH
open DK
structure Sf where
  u : U
  n : Nat
  br : Bool
def baseOf (l : List Nm) : Option (Nm × Nat) := l.reverse.findSome? (fun x => (numberN 98 x).map (fun n => (x, n)))
/-- the greatest base among objects' names; an error's number, the unit, its number -/
def baseD (l : List Nm) (D : Dk) : Nat × U × Nat := match baseOf l with
  | none => (0, U.new, 0)
  | some (x, n) => if (getD D x).1 ≠ 0 then ((getD D x).1, U.zero, 0) else ((takeU (getD D x).2).1, (takeU (getD D x).2).2, n)
/-- the next act that is there: an error's number, whether there was one, the unit and the number then -/
def againD (D : Dk) (u : U) (n : Nat) : Nat × Bool × U × Nat :=
  if 99999999 < n then (0, false, u, n) else
  if (getD D (nameN 114 n)).1 = 4 then (0, false, u, n) else if (getD D (nameN 114 n)).1 ≠ 0 then ((getD D (nameN 114 n)).1, false, u, n) else
  if (Ac.take (getD D (nameN 114 n)).2).1 ≠ 0 then ((Ac.take (getD D (nameN 114 n)).2).1, false, u, n) else
  if (apU u (Ac.take (getD D (nameN 114 n)).2).2).1 ≠ 0 then (13, false, (apU u (Ac.take (getD D (nameN 114 n)).2).2).2.2, n) else
  (0, true, (apU u (Ac.take (getD D (nameN 114 n)).2).2).2.2, n + 1)
def loopD (D : Dk) : Nat → U → Nat → Nat × U × Nat
  | 0, u, n => (0, u, n)
  | k + 1, u, n => if (againD D u n).1 ≠ 0 then ((againD D u n).1, (againD D u n).2.2.1, (againD D u n).2.2.2) else if (againD D u n).2.1 = true then loopD D k (againD D u n).2.2.1 (againD D u n).2.2.2 else (0, u, n)
def objs (D : Dk) (b : Nm) : List Nm := listN (namesOf D.shown) b
def bName : Nm := ⟨#[98]⟩
/-- a shelf is opened: an error's number, the shelf, the disk then -/
def openS (D : Dk) : Nat × Sf × Dk :=
  if (openD (namesOf D.shown) D).1 ≠ 0 then ((openD (namesOf D.shown) D).1, ⟨U.zero, 0, false⟩, (openD (namesOf D.shown) D).2) else
  if (openD (namesOf D.shown) D).2.down = true then (14, ⟨U.zero, 0, false⟩, (openD (namesOf D.shown) D).2) else
  if (baseD (objs (openD (namesOf D.shown) D).2 bName) (openD (namesOf D.shown) D).2).1 ≠ 0 then ((baseD (objs (openD (namesOf D.shown) D).2 bName) (openD (namesOf D.shown) D).2).1, ⟨U.zero, 0, false⟩, (openD (namesOf D.shown) D).2) else
  let b := baseD (objs (openD (namesOf D.shown) D).2 bName) (openD (namesOf D.shown) D).2
  let l := loopD (openD (namesOf D.shown) D).2 (100000000 - b.2.2) b.2.1 b.2.2
  (l.1, ⟨l.2.1, l.2.2, false⟩, (openD (namesOf D.shown) D).2)
def fallS (S : Sf) (e : Nat) : Sf := if e = 14 then { S with br := true } else S
/-- an act is done: an error's number, what is answered, the shelf and the disk then -/
def doS (S : Sf) (D : Dk) (x : Ac) : Nat × Int × Sf × Dk :=
  if S.br = true then (14, 0, S, D) else
  if (apU S.u x).1 ≠ 0 then ((apU S.u x).1, 0, S, D) else
  if 99999999 < S.n then (5, 0, S, D) else
  if (putD D (nameN 114 S.n) x.put).1 ≠ 0 then ((putD D (nameN 114 S.n) x.put).1, 0, fallS S (putD D (nameN 114 S.n) x.put).1, (putD D (nameN 114 S.n) x.put).2) else
  (0, (apU S.u x).2.1, ⟨(apU S.u x).2.2, S.n + 1, false⟩, (putD D (nameN 114 S.n) x.put).2)
def looksS (S : Sf) (D : Dk) : Nat := if S.br = true ∨ D.down = true then 14 else 0
def readS (S : Sf) (D : Dk) (e a : Int) : Nat × C := if looksS S D ≠ 0 then (looksS S D, ⟨0, []⟩) else S.u.read e a
/-- acts and bases but one are deleted -/
def sweepS (keep : Nm) : List Nm → Dk → Nat × Dk
  | [], D => (0, D)
  | x :: l, D => if ((numberN 114 x).isSome = true ∨ (numberN 98 x).isSome = true) ∧ x ≠ keep then (if (dropD D x).1 ≠ 0 then dropD D x else sweepS keep l (dropD D x).2) else sweepS keep l D
def sweepAll (keep : Nm) (D : Dk) : Nat × Dk := if D.down = true then (14, D) else sweepS keep (objs D ⟨#[]⟩) D
/-- a base is made -/
def compS (S : Sf) (D : Dk) : Nat × Sf × Dk :=
  if S.br = true then (14, S, D) else if 99999999 < S.n then (5, S, D) else
  if (putU S.u.e S.u.l (sortC S.u.cells)).1 ≠ 0 then ((putU S.u.e S.u.l (sortC S.u.cells)).1, S, D) else
  if (putD D (nameN 98 S.n) (putU S.u.e S.u.l (sortC S.u.cells)).2).1 ≠ 0 then ((putD D (nameN 98 S.n) (putU S.u.e S.u.l (sortC S.u.cells)).2).1, fallS S (putD D (nameN 98 S.n) (putU S.u.e S.u.l (sortC S.u.cells)).2).1, (putD D (nameN 98 S.n) (putU S.u.e S.u.l (sortC S.u.cells)).2).2) else
  ((sweepAll (nameN 98 S.n) (putD D (nameN 98 S.n) (putU S.u.e S.u.l (sortC S.u.cells)).2).2).1, fallS S (sweepAll (nameN 98 S.n) (putD D (nameN 98 S.n) (putU S.u.e S.u.l (sortC S.u.cells)).2).2).1, (sweepAll (nameN 98 S.n) (putD D (nameN 98 S.n) (putU S.u.e S.u.l (sortC S.u.cells)).2).2).2)
end SH
end Go.Proofs.YtkhnbdbcaebdaaaGreatDoor

namespace Go.Proofs.YtkhnbdbcaebdaaaGreatDoor
set_option linter.unusedVariables false
set_option linter.unusedSimpArgs false
namespace SH
open DK
theorem opt_eq {α : Type} {a b : Option α} (h : ∀ x, a = some x ↔ b = some x) : a = b := by
  cases a with
  | some x => exact ((h x).1 rfl).symm
  | none =>
    cases b with
    | none => rfl
    | some y => exact (h y).2 rfl
theorem getF_put {L : Fl} (h : (L.map (·.1)).Nodup) (n : Nm) (d : List UInt8) (x : Nm) : getF (putF L n d) x = if x = n then some d else getF L x := by
  refine opt_eq fun y => ?_
  rw [getF_iff (putF_keys h n d), putF_mem]
  by_cases hx : x = n
  · rw [if_pos hx]; subst hx
    constructor
    · rintro (e | ⟨_, e⟩)
      · rw [Prod.mk.injEq] at e; rw [e.2]
      · exact absurd rfl e
    · intro e; left; rw [Option.some.inj e]
  · rw [if_neg hx, getF_iff h]
    constructor
    · rintro (e | ⟨e, _⟩)
      · exact absurd (Prod.mk.inj e).1 hx
      · exact e
    · intro e; exact .inr ⟨e, hx⟩
theorem getF_del {L : Fl} (h : (L.map (·.1)).Nodup) (n : Nm) (x : Nm) : getF (delF L n) x = if x = n then none else getF L x := by
  refine opt_eq fun y => ?_
  rw [getF_iff (delF_keys h n)]
  unfold delF
  rw [List.mem_filter]
  by_cases hx : x = n
  · rw [if_pos hx]; subst hx; simp
  · rw [if_neg hx, getF_iff h]; simp [hx]
/-- what is seen of files: those that are not begun -/
def V (L : Fl) (x : Nm) : Option (List UInt8) := if DK.begun x = true then none else getF L x
abbrev Vw := Nm → Option (List UInt8)
def put1 (g : Vw) (n : Nm) (d : Option (List UInt8)) : Vw := fun x => if x = n then d else g x
theorem V_put {L : Fl} (h : (L.map (·.1)).Nodup) {n : Nm} (hn : DK.begun n = false) (d : List UInt8) : V (putF L n d) = put1 (V L) n (some d) := by
  funext x
  unfold V put1
  rw [getF_put h]
  by_cases hx : x = n
  · subst hx; simp [hn]
  · simp [hx]
theorem V_put_begun {L : Fl} (h : (L.map (·.1)).Nodup) {n : Nm} (hn : DK.begun n = true) (d : List UInt8) : V (putF L n d) = V L := by
  funext x
  unfold V
  rw [getF_put h]
  by_cases hx : x = n
  · subst hx; simp [hn]
  · simp [hx]
theorem V_del {L : Fl} (h : (L.map (·.1)).Nodup) (n : Nm) : V (delF L n) = put1 (V L) n none := by
  funext x
  unfold V put1
  rw [getF_del h]
  by_cases hx : x = n
  · subst hx; simp
  · simp [hx]
theorem V_del_begun {L : Fl} (h : (L.map (·.1)).Nodup) {n : Nm} (hn : DK.begun n = true) : V (delF L n) = V L := by
  funext x
  unfold V
  rw [getF_del h]
  by_cases hx : x = n
  · subst hx; simp [hn]
  · simp [hx]
theorem begun_tilde (n : Nm) : DK.begun (tilde ++ n) = true := by
  unfold DK.begun tilde; simp [ByteArray.data_append]
theorem begun_name {b : UInt8} (hb : b ≠ 126) (n : Nat) : DK.begun (nameN b n) = false := by
  unfold DK.begun nameN; simp [hb]
/-- a disk's files behind a whole put -/
def putL (L : Fl) (n : Nm) (d : List UInt8) : Fl := putF (delF (putF L (tilde ++ n) d) (tilde ++ n)) n d
theorem V_putL {L : Fl} (h : (L.map (·.1)).Nodup) {n : Nm} (hn : DK.begun n = false) (d : List UInt8) : V (putL L n d) = put1 (V L) n (some d) := by
  unfold putL
  rw [V_put (delF_keys (putF_keys h _ _) _) hn, V_del_begun (putF_keys h _ _) (begun_tilde n), V_put_begun h (begun_tilde n)]
theorem writeD_at (r : Int) (L S : Fl) (p : List Chg) (f : Int) (n : Nm) (d : List UInt8) (hn : named n = true) (hd : d.length ≤ 65536) (hs : S.length < 512) (hr : (usedF S : Int) + d.length ≤ r) :
    writeD ⟨r, L, S, p, f, false⟩ n d = if f = 0 then (14, ⟨r, L, S, p, f, true⟩) else (0, ⟨r, L, putF S n d, p ++ [⟨0, n, ⟨#[]⟩, d⟩], lower f, false⟩) := by
  unfold writeD worksD addD doF
  by_cases hf : f = 0
  · simp [hf]
  · simp only [hf, if_false, Bool.false_eq_true, ne_eq, not_true_eq_false]
    rw [if_neg (by rw [hn]; decide), if_neg (by omega), if_neg]
    · simp
    · rintro (⟨_, h⟩ | h) <;> omega
theorem syncD_at (r : Int) (L S : Fl) (p : List Chg) (f : Int) :
    syncD ⟨r, L, S, p, f, false⟩ = if f = 0 then (14, ⟨r, L, S, p, f, true⟩) else (0, ⟨r, S, S, [], lower f, false⟩) := by
  unfold syncD worksD
  by_cases hf : f = 0 <;> simp [hf]
theorem renameD_at (r : Int) (L S : Fl) (p : List Chg) (f : Int) (a b : Nm) (ha : named a = true) (hb : named b = true) {d : List UInt8} (h : getF S a = some d) :
    renameD ⟨r, L, S, p, f, false⟩ a b = if f = 0 then (14, ⟨r, L, S, p, f, true⟩) else (0, ⟨r, L, putF (delF S a) b d, p ++ [⟨1, a, b, []⟩], lower f, false⟩) := by
  unfold renameD worksD addD doF
  by_cases hf : f = 0
  · simp [hf]
  · simp [hf, ha, hb, h]
theorem removeD_at (r : Int) (L S : Fl) (p : List Chg) (f : Int) (a : Nm) (ha : named a = true) {d : List UInt8} (h : getF S a = some d) :
    removeD ⟨r, L, S, p, f, false⟩ a = if f = 0 then (14, ⟨r, L, S, p, f, true⟩) else (0, ⟨r, L, delF S a, p ++ [⟨2, a, ⟨#[]⟩, []⟩], lower f, false⟩) := by
  unfold removeD worksD addD doF
  by_cases hf : f = 0
  · simp [hf]
  · simp [hf, ha, h]
theorem kept_one (c : Chg) (ks : List Bool) : kept [c] ks = [] ∨ kept [c] ks = [c] := by
  cases ks with
  | nil => exact .inl rfl
  | cons k ks =>
    cases k
    · left; cases ks <;> simp [kept]
    · right; cases ks <;> simp [kept]
theorem kept_nil (ks : List Bool) : kept [] ks = [] := by cases ks <;> simp [kept]
/-- what a disk may show behind a cut -/
def AfterC (r : Int) (D : Dk) (P : Vw → Prop) : Prop := D.room = r ∧ D.down = true ∧ D.pend.length ≤ 1 ∧ ∀ ks, P (V (allF D.sure (kept D.pend ks)))
theorem AfterC.imp {r : Int} {D : Dk} {P Q : Vw → Prop} (h : AfterC r D P) (k : ∀ g, P g → Q g) : AfterC r D Q := ⟨h.1, h.2.1, h.2.2.1, fun ks => k _ (h.2.2.2 ks)⟩
theorem after_none {r : Int} {L S : Fl} {f : Int} {P : Vw → Prop} (h : P (V L)) : AfterC r ⟨r, L, S, [], f, true⟩ P :=
  ⟨rfl, rfl, Nat.zero_le 1, fun ks => by show P (V (allF L (kept [] ks))); rw [kept_nil]; exact h⟩
theorem after_one {r : Int} {L S : Fl} {c : Chg} {f : Int} {P : Vw → Prop} (h : P (V L)) (h2 : P (V (doF L c))) : AfterC r ⟨r, L, S, [c], f, true⟩ P :=
  ⟨rfl, rfl, Nat.le_refl 1, fun ks => by
    show P (V (allF L (kept [c] ks)))
    rcases kept_one c ks with e | e <;> rw [e]
    · exact h
    · exact h2⟩
theorem putD_cases (r : Int) (L : Fl) (f : Int) (n : Nm) (d : List UInt8) (hL : (L.map (·.1)).Nodup) (ho : objNamed n = true) (hb : DK.begun n = false) (hn : named (tilde ++ n) = true) (hd : d.length ≤ 65536) (hs : L.length < 512) (hr : (usedF L : Int) + d.length ≤ r) :
    (∃ f', putD ⟨r, L, L, [], f, false⟩ n d = (0, ⟨r, putL L n d, putL L n d, [], f', false⟩) ∧ (f = -1 → f' = -1)) ∨
    (f ≠ -1 ∧ ∃ D', putD ⟨r, L, L, [], f, false⟩ n d = (14, D') ∧ AfterC r D' (fun g => g = V L ∨ g = put1 (V L) n (some d))) := by
  have hnn : named n = true := by unfold objNamed at ho; simp only [Bool.and_eq_true] at ho; exact ho.1.2
  have hg : getF (putF L (tilde ++ n) d) (tilde ++ n) = some d := by rw [getF_put hL, if_pos rfl]
  have hV1 := V_put_begun hL (begun_tilde n) d
  have hV2 : V (putF (delF (putF L (tilde ++ n) d) (tilde ++ n)) n d) = put1 (V L) n (some d) := V_putL hL hb d
  unfold putD
  rw [if_neg (by rw [ho]; decide), writeD_at r L L [] f _ d hn hd hs hr]
  by_cases h0 : f = 0
  · right
    rw [if_pos h0, if_pos (by simp)]
    exact ⟨by omega, _, rfl, after_none (.inl rfl)⟩
  rw [if_neg h0]
  simp only [ne_eq, not_true_eq_false, if_false, List.nil_append]
  rw [syncD_at]
  by_cases h1 : lower f = 0
  · right
    rw [if_pos h1, if_pos (by simp)]
    refine ⟨fun e => by rw [e] at h1; exact absurd h1 (by decide), _, rfl, after_one (.inl rfl) (.inl ?_)⟩
    show V (if (0 : Nat) = 0 then putF L (tilde ++ n) d else _) = _
    rw [if_pos rfl, hV1]
  rw [if_neg h1]
  simp only [not_true_eq_false, if_false]
  rw [renameD_at _ _ _ _ _ _ _ hn hnn hg]
  by_cases h2 : lower (lower f) = 0
  · right
    rw [if_pos h2, if_pos (by simp)]
    exact ⟨fun e => by rw [e] at h2; exact absurd h2 (by decide), _, rfl, after_none (.inl hV1)⟩
  rw [if_neg h2]
  simp only [not_true_eq_false, if_false, List.nil_append]
  rw [syncD_at]
  by_cases h3 : lower (lower (lower f)) = 0
  · right
    rw [if_pos h3]
    refine ⟨fun e => by rw [e] at h3; exact absurd h3 (by decide), _, rfl, after_one (.inl hV1) (.inr ?_)⟩
    show V (if (1 : Nat) = 0 then _ else match getF (putF L (tilde ++ n) d) (tilde ++ n) with
      | none => _
      | some b => if (1 : Nat) = 1 then putF (delF (putF L (tilde ++ n) d) (tilde ++ n)) n b else _) = _
    rw [hg]
    exact hV2
  · left
    rw [if_neg h3]
    exact ⟨_, rfl, fun e => by rw [e]; rfl⟩
theorem dropD_cases (r : Int) (L : Fl) (f : Int) (n : Nm) (hL : (L.map (·.1)).Nodup) (ho : objNamed n = true) {d : List UInt8} (hg : getF L n = some d) :
    (∃ f', dropD ⟨r, L, L, [], f, false⟩ n = (0, ⟨r, delF L n, delF L n, [], f', false⟩) ∧ (f = -1 → f' = -1)) ∨
    (f ≠ -1 ∧ ∃ D', dropD ⟨r, L, L, [], f, false⟩ n = (14, D') ∧ AfterC r D' (fun g => g = V L ∨ g = put1 (V L) n none)) := by
  have hnn : named n = true := by unfold objNamed at ho; simp only [Bool.and_eq_true] at ho; exact ho.1.2
  unfold dropD
  rw [if_neg (by rw [ho]; decide), removeD_at r L L [] f _ hnn hg]
  by_cases h0 : f = 0
  · right
    rw [if_pos h0, if_pos (by simp)]
    exact ⟨by omega, _, rfl, after_none (.inl rfl)⟩
  rw [if_neg h0]
  simp only [ne_eq, not_true_eq_false, if_false, List.nil_append]
  rw [syncD_at]
  by_cases h1 : lower f = 0
  · right
    rw [if_pos h1]
    refine ⟨fun e => by rw [e] at h1; exact absurd h1 (by decide), _, rfl, after_one (.inl rfl) (.inr ?_)⟩
    show V (if (2 : Nat) = 0 then _ else match getF L n with
      | none => _
      | some b => if (2 : Nat) = 1 then _ else delF L n) = _
    rw [hg]
    exact V_del hL n
  · left
    rw [if_neg h1]
    exact ⟨_, rfl, fun e => by rw [e]; rfl⟩
end SH
end Go.Proofs.YtkhnbdbcaebdaaaGreatDoor

namespace Go.Proofs.YtkhnbdbcaebdaaaGreatDoor
set_option linter.unusedVariables false
set_option linter.unusedSimpArgs false
namespace SH
structure Ueq (u v : U) : Prop where
  e : u.e = v.e
  l : u.l = v.l
  cells : u.cells.Perm v.cells
theorem Ueq.refl (u : U) : Ueq u u := ⟨rfl, rfl, List.Perm.refl _⟩
theorem Ueq.symm {u v : U} (h : Ueq u v) : Ueq v u := ⟨h.e.symm, h.l.symm, h.cells.symm⟩
theorem Ueq.trans {u v x : U} (h : Ueq u v) (k : Ueq v x) : Ueq u x := ⟨h.e.trans k.e, h.l.trans k.l, h.cells.trans k.cells⟩
theorem lookC_mem {L : List (Int × C)} (hn : (L.map (·.1)).Nodup) {a : Int} {c : C} (h : (a, c) ∈ L) : lookC L a = c := by
  unfold lookC
  induction L with
  | nil => simp at h
  | cons x L ih =>
    simp only [List.map_cons, List.nodup_cons] at hn
    rcases List.mem_cons.1 h with e | h
    · rw [← e, List.find?_cons_of_pos (by simp)]; rfl
    · have hx : x.1 ≠ a := fun e => hn.1 (by rw [e]; exact List.mem_map_of_mem (f := (·.1)) h)
      rw [List.find?_cons_of_neg (by simpa using hx)]
      exact ih hn.2 h
theorem lookC_none {L : List (Int × C)} {a : Int} (h : ∀ c, (a, c) ∉ L) : lookC L a = ⟨0, []⟩ := by
  unfold lookC
  have : L.find? (·.1 == a) = none := by
    rw [List.find?_eq_none]
    intro x hx hxa
    have : x.1 = a := by simpa using hxa
    exact h x.2 (by rw [← this]; exact hx)
  rw [this]; rfl
theorem lookC_perm {L M : List (Int × C)} (h : L.Perm M) (hn : (L.map (·.1)).Nodup) (a : Int) : lookC L a = lookC M a := by
  have hm : (M.map (·.1)).Nodup := (h.map _).nodup_iff.1 hn
  by_cases hx : ∃ c, (a, c) ∈ L
  · obtain ⟨c, hc⟩ := hx
    rw [lookC_mem hn hc, lookC_mem hm (h.mem_iff.1 hc)]
  · rw [lookC_none (fun c hc => hx ⟨c, hc⟩), lookC_none (fun c hc => hx ⟨c, h.mem_iff.2 hc⟩)]
theorem tail_perm {L M : List (Int × C)} (h : L.Perm M) (m : Int) : L.foldl tailF m = M.foldl tailF m := by
  induction h generalizing m with
  | nil => rfl
  | cons x _ ih => simp only [List.foldl_cons]; exact ih _
  | swap x y l => simp only [List.foldl_cons]; rw [tailF_comm]
  | trans _ _ ih1 ih2 => rw [ih1, ih2]
theorem any_perm {L M : List (Int × C)} (h : L.Perm M) (f : Int × C → Bool) : L.any f = M.any f := by
  rw [Bool.eq_iff_iff, List.any_eq_true, List.any_eq_true]
  exact ⟨fun ⟨x, hx, hf⟩ => ⟨x, h.mem_iff.1 hx, hf⟩, fun ⟨x, hx, hf⟩ => ⟨x, h.mem_iff.2 hx, hf⟩⟩
theorem putC_perm {L M : List (Int × C)} (h : L.Perm M) (a : Int) (c : C) : (putC L a c).Perm (putC M a c) := by
  unfold putC
  rw [any_perm h]
  split
  · exact h.map _
  · exact h.append (List.Perm.refl _)
theorem at_eq {u v : U} (h : Ueq u v) (hn : (u.cells.map (·.1)).Nodup) (a : Int) : u.at a = v.at a := by
  unfold U.at; rw [h.l, lookC_perm h.cells hn]
theorem cur_eq {u v : U} (h : Ueq u v) (e : Int) : u.cur e = v.cur e := by unfold U.cur; rw [h.e]
theorem asks_eq {u v : U} (h : Ueq u v) (e : Int) (f : Bool) : u.asks e f = v.asks e f := by unfold U.asks; rw [cur_eq h]
theorem utail_eq {u v : U} (h : Ueq u v) : u.tail = v.tail := by unfold U.tail; rw [h.l, tail_perm h.cells]
theorem seal_eq {u v : U} (h : Ueq u v) (e : Int) : (u.sealE e).1 = (v.sealE e).1 ∧ (u.sealE e).2.1 = (v.sealE e).2.1 ∧ Ueq (u.sealE e).2.2 (v.sealE e).2.2 := by
  unfold U.sealE
  rw [h.e, utail_eq h]
  split
  · exact ⟨rfl, rfl, h⟩
  · split
    · exact ⟨rfl, rfl, h⟩
    · exact ⟨rfl, rfl, rfl, h.l, h.cells⟩
theorem write_eq {u v : U} (h : Ueq u v) (hn : (u.cells.map (·.1)).Nodup) (e a : Int) (d : List UInt8) : (u.write e a d).1 = (v.write e a d).1 ∧ Ueq (u.write e a d).2 (v.write e a d).2 := by
  unfold U.write
  rw [cur_eq h, at_eq h hn]
  repeat' split
  all_goals first | exact ⟨rfl, h⟩ | exact ⟨rfl, h.e, h.l, putC_perm h.cells _ _⟩
theorem fill_eq {u v : U} (h : Ueq u v) (hn : (u.cells.map (·.1)).Nodup) (e a : Int) : (u.fill e a).1 = (v.fill e a).1 ∧ Ueq (u.fill e a).2 (v.fill e a).2 := by
  unfold U.fill
  rw [asks_eq h, at_eq h hn]
  repeat' split
  all_goals first | exact ⟨rfl, h⟩ | exact ⟨rfl, h.e, h.l, putC_perm h.cells _ _⟩
theorem trim_eq {u v : U} (h : Ueq u v) (e b : Int) : (u.trim e b).1 = (v.trim e b).1 ∧ Ueq (u.trim e b).2 (v.trim e b).2 := by
  unfold U.trim
  rw [asks_eq h, h.l]
  split
  · exact ⟨rfl, h⟩
  · exact ⟨rfl, h.e, rfl, h.cells.filter _⟩
theorem cut_eq {u v : U} (h : Ueq u v) (e f : Int) : (u.cut e f).1 = (v.cut e f).1 ∧ (u.cut e f).2.1 = (v.cut e f).2.1 ∧ Ueq (u.cut e f).2.2 (v.cut e f).2.2 := by
  unfold U.cut
  rw [asks_eq h, h.l]
  split
  · exact ⟨rfl, rfl, h⟩
  · split
    · exact ⟨rfl, rfl, h⟩
    · refine ⟨rfl, ?_, h.e, rfl, h.cells.filter _⟩
      show (u.cells.length : Int) - _ = (v.cells.length : Int) - _
      rw [h.cells.length_eq, (h.cells.filter _).length_eq]
theorem ap_eq {u v : U} (h : Ueq u v) (hn : (u.cells.map (·.1)).Nodup) (x : Ac) : (apU u x).1 = (apU v x).1 ∧ (apU u x).2.1 = (apU v x).2.1 ∧ Ueq (apU u x).2.2 (apU v x).2.2 := by
  have h1 := seal_eq h x.e
  have h2 := write_eq h hn x.e x.a x.d
  have h3 := fill_eq h hn x.e x.a
  have h4 := trim_eq h x.e x.a
  have h5 := cut_eq h x.e x.a
  unfold apU
  repeat' split
  all_goals first | exact ⟨rfl, rfl, h⟩ | exact h1 | exact h5 | exact ⟨h2.1, rfl, h2.2⟩ | exact ⟨h3.1, rfl, h3.2⟩ | exact ⟨h4.1, rfl, h4.2⟩
theorem sort_eq {u : U} (h : u.ok) : Ueq ⟨u.e, u.l, sortC u.cells⟩ u := by
  refine ⟨rfl, rfl, ?_⟩
  have hr := sortC_rise _ h.nodup
  refine (List.perm_ext_iff_of_nodup ?_ ?_).2 (fun p => sortC_mem _ h.nodup p)
  · have : (sortC u.cells).Pairwise (fun a b => a ≠ b) := hr.imp (fun {a b} hab e => by rw [e] at hab; omega)
    exact List.nodup_iff_pairwise_ne.2 this
  · have hn := h.nodup
    rw [List.nodup_iff_pairwise_ne, List.pairwise_map] at hn
    exact List.nodup_iff_pairwise_ne.2 (hn.imp (fun hab e => hab (by rw [e])))
end SH
end Go.Proofs.YtkhnbdbcaebdaaaGreatDoor

namespace Go.Proofs.YtkhnbdbcaebdaaaGreatDoor
set_option linter.unusedVariables false
set_option linter.unusedSimpArgs false
namespace SH
open DK
/-- the greatest base -/
def Base (g : Vw) (b : Nat) (ub : U) : Prop :=
  ((b = 0 ∧ ub = U.new ∧ g (nameN 98 0) = none) ∨ (∃ d, g (nameN 98 b) = some d ∧ takeU d = (0, ub) ∧ ub.ok)) ∧ ∀ k, b < k → k ≤ 99999999 → g (nameN 98 k) = none
def Acts (g : Vw) : Nat → Nat → U → U → Prop
  | 0, b, u, v => u = v
  | k + 1, b, u, v => ∃ d x, g (nameN 114 b) = some d ∧ Ac.take d = (0, x) ∧ (apU u x).1 = 0 ∧ Acts g k (b + 1) (apU u x).2.2 v
/-- a view says that v is the unit, and n the next act's number -/
def Rep (g : Vw) (v : U) (n : Nat) : Prop := ∃ b ub k, n = b + k ∧ Base g b ub ∧ Acts g k b ub v ∧ ∀ m, n ≤ m → m ≤ 99999999 → g (nameN 114 m) = none
theorem Base.ok {g : Vw} {b : Nat} {u : U} (h : Base g b u) : u.ok := by
  rcases h.1 with ⟨_, rfl, _⟩ | ⟨d, _, _, h⟩
  · exact U.ok_new
  · exact h
theorem Acts.ok {g : Vw} : ∀ {k b : Nat} {u v : U}, Acts g k b u v → u.ok → v.ok
  | 0, b, u, v, h, hu => by have h : u = v := h; rw [← h]; exact hu
  | k + 1, b, u, v, h, hu => by
    obtain ⟨d, x, _, _, _, h⟩ := h
    exact h.ok (apU_ok hu x)
theorem Rep.ok {g : Vw} {v : U} {n : Nat} (h : Rep g v n) : v.ok := by
  obtain ⟨b, ub, k, _, hb, ha, _⟩ := h
  exact ha.ok hb.ok
theorem sign_dg (n j : Nat) : sign (Go.Lib.dg n j) = true := by
  have h : n / 10 ^ j % 10 < 10 := Nat.mod_lt _ (by decide)
  unfold Go.Lib.dg
  generalize n / 10 ^ j % 10 = d at *
  have : d = 0 ∨ d = 1 ∨ d = 2 ∨ d = 3 ∨ d = 4 ∨ d = 5 ∨ d = 6 ∨ d = 7 ∨ d = 8 ∨ d = 9 := by omega
  rcases this with rfl | rfl | rfl | rfl | rfl | rfl | rfl | rfl | rfl | rfl <;> decide
theorem dg_126 (n j : Nat) : (Go.Lib.dg n j != 126) = true := by
  have h : n / 10 ^ j % 10 < 10 := Nat.mod_lt _ (by decide)
  unfold Go.Lib.dg
  generalize n / 10 ^ j % 10 = d at *
  have : d = 0 ∨ d = 1 ∨ d = 2 ∨ d = 3 ∨ d = 4 ∨ d = 5 ∨ d = 6 ∨ d = 7 ∨ d = 8 ∨ d = 9 := by omega
  rcases this with rfl | rfl | rfl | rfl | rfl | rfl | rfl | rfl | rfl | rfl <;> decide
theorem obj_name {b : UInt8} (hb : sign b = true) (h2 : (b != 126) = true) (n : Nat) : objNamed (nameN b n) = true := by
  have hs : (nameN b n).size = 9 := by show (b :: pad8 n).toArray.size = 9; simp [pad8_len]
  unfold objNamed named noTilde
  rw [hs]
  unfold nameN
  rw [pad8_list]
  simp only [List.all_cons, List.all_nil, hb, h2, sign_dg, dg_126, Bool.and_self, decide_true, Nat.reduceLeDiff]
theorem tilde_name {b : UInt8} (hb : sign b = true) (n : Nat) : named (tilde ++ nameN b n) = true := by
  have hs : (tilde ++ nameN b n).data.toList = 126 :: b :: pad8 n := by simp [tilde, nameN, ByteArray.data_append]
  have hz : (tilde ++ nameN b n).size = 10 := by
    show (tilde ++ nameN b n).data.size = 10
    rw [← Array.length_toList, hs]; simp [pad8_len]
  unfold named
  rw [hz, hs, pad8_list]
  simp only [List.all_cons, List.all_nil, hb, sign_dg, Bool.and_self, decide_true, Nat.reduceLeDiff]
  decide
theorem obj_r (n : Nat) : objNamed (nameN 114 n) = true := obj_name (by decide) (by decide) n
theorem obj_b (n : Nat) : objNamed (nameN 98 n) = true := obj_name (by decide) (by decide) n
theorem getD_at {D : Dk} (hd : D.down = false) {b : UInt8} (hb : sign b = true) (h2 : b ≠ 126) (n : Nat) : getD D (nameN b n) = match V D.shown (nameN b n) with
    | some d => (0, d)
    | none => (4, []) := by
  unfold getD readD V
  rw [obj_name hb (by simpa using h2) n, begun_name h2]
  rw [if_neg (by decide), if_neg (by rw [hd]; decide), if_neg (by decide)]
  cases getF D.shown (nameN b n) <;> rfl
theorem loop_at {D : Dk} (hd : D.down = false) : ∀ (k K b : Nat) (u v : U), Acts (V D.shown) k b u v → (∀ m, b + k ≤ m → m ≤ 99999999 → V D.shown (nameN 114 m) = none) → b + k ≤ 99999999 → k < K → loopD D K u b = (0, v, b + k)
  | 0, K, b, u, v, h, hn, hb, hk => by
    have h : u = v := h
    subst h
    obtain ⟨K, rfl⟩ : ∃ j, K = j + 1 := ⟨K - 1, by omega⟩
    have hg := getD_at hd (b := 114) (by decide) (by decide) b
    rw [hn b (by omega) (by omega)] at hg
    have ha : againD D u b = (0, false, u, b) := by
      unfold againD
      rw [if_neg (by omega), hg, if_pos rfl]
    unfold loopD
    rw [ha]
    simp
  | k + 1, K, b, u, v, h, hn, hb, hk => by
    obtain ⟨d, x, h1, h2, h3, h4⟩ := h
    obtain ⟨K, rfl⟩ : ∃ j, K = j + 1 := ⟨K - 1, by omega⟩
    have hg := getD_at hd (b := 114) (by decide) (by decide) b
    rw [h1] at hg
    have ha : againD D u b = (0, true, (apU u x).2.2, b + 1) := by
      unfold againD
      rw [if_neg (by omega), hg]
      simp only [h2, h3]
      simp
    have ih := loop_at hd k K (b + 1) _ v h4 (fun m hm => hn m (by omega)) (by omega) (by omega)
    unfold loopD
    rw [ha]
    simp only [ne_eq, not_true_eq_false, if_false, if_true, ih]
    congr 2; omega
theorem begins_b (n : Nat) : begins bName (nameN 98 n) = true := by unfold begins bName nameN; simp
theorem objs_mem {D : Dk} {b x : Nm} : x ∈ objs D b ↔ x ∈ D.shown.map (·.1) ∧ objNamed x = true ∧ begins b x = true := by
  unfold objs listN
  rw [List.mem_filter, (namesOf_perm D.shown).mem_iff, Bool.and_eq_true]
theorem objs_sorted {D : Dk} (h : (D.shown.map (·.1)).Nodup) (b : Nm) : (objs D b).Pairwise (fun a b => less a b = true) := (namesOf_sorted h).filter _
theorem seen {L : Fl} (h : (L.map (·.1)).Nodup) {x : Nm} (hb : DK.begun x = false) : x ∈ L.map (·.1) ↔ (V L x).isSome = true := by
  unfold V
  rw [if_neg (by rw [hb]; decide)]
  constructor
  · intro hx
    obtain ⟨p, hp, rfl⟩ := List.mem_map.1 hx
    rw [(getF_iff h (n := p.1) (d := p.2)).2 hp]; rfl
  · intro hx
    obtain ⟨d, hd⟩ := Option.isSome_iff_exists.1 hx
    exact List.mem_map_of_mem (f := (·.1)) ((getF_iff h).1 hd)
theorem base_at {D : Dk} (hd : D.down = false) (hn : (D.shown.map (·.1)).Nodup) {b : Nat} {ub : U} (hb : b ≤ 99999999) (h : Base (V D.shown) b ub) : baseD (objs D bName) D = (0, ub, b) := by
  have hin : ∀ m, (V D.shown (nameN 98 m)).isSome = true → nameN 98 m ∈ objs D bName := fun m hm => objs_mem.2 ⟨(seen hn (begun_name (by decide) m)).2 hm, obj_b m, begins_b m⟩
  have hout : ∀ x m, x ∈ objs D bName → numberN 98 x = some m → x = nameN 98 m ∧ m ≤ 99999999 ∧ (V D.shown (nameN 98 m)).isSome = true := fun x m hx hm => by
    have e := name_of_number hm
    refine ⟨e, number_le hm, ?_⟩
    rw [← e]
    exact (seen hn (by rw [e]; exact begun_name (by decide) m)).1 (objs_mem.1 hx).1
  have hall : ∀ x m, x ∈ objs D bName → numberN 98 x = some m → m ≤ b := fun x m hx hm => by
    obtain ⟨_, h2, h3⟩ := hout x m hx hm
    rcases Nat.lt_or_ge b m with hlt | hge
    · rw [h.2 m hlt h2] at h3; cases h3
    · exact hge
  unfold baseD
  cases hq : baseOf (objs D bName) with
  | none =>
    unfold baseOf at hq
    rw [List.findSome?_eq_none_iff] at hq
    rcases h.1 with ⟨rfl, rfl, _⟩ | ⟨d, hd1, _, _⟩
    · rfl
    · exfalso
      have := hq (nameN 98 b) (List.mem_reverse.2 (hin b (by rw [hd1]; rfl)))
      rw [number_name 98 hb] at this
      cases this
  | some r =>
    obtain ⟨x, m⟩ := r
    unfold baseOf at hq
    obtain ⟨l1, a, l2, e1, e2, e3⟩ := List.findSome?_eq_some_iff.1 hq
    have hm : numberN 98 a = some m ∧ a = x := by
      cases hnm : numberN 98 a with
      | none => rw [hnm] at e2; cases e2
      | some k => rw [hnm] at e2; simp at e2; exact ⟨by rw [e2.2], e2.1⟩
    obtain ⟨hm, rfl⟩ := hm
    have ha : a ∈ objs D bName := List.mem_reverse.1 (by rw [e1]; simp)
    obtain ⟨ea, hm9, hs⟩ := hout a m ha hm
    have hmb := hall a m ha hm
    rcases h.1 with ⟨rfl, rfl, h0⟩ | ⟨d, hd1, ht, _⟩
    · obtain rfl : m = 0 := by omega
      rw [h0] at hs; cases hs
    · have hmb' : m = b := by
        rcases Nat.lt_or_ge m b with hlt | hge
        · exfalso
          have hi := List.mem_reverse.2 (hin b (by rw [hd1]; rfl))
          rw [e1, List.mem_append, List.mem_cons] at hi
          rcases hi with hi | hi | hi
          · have := e3 _ hi
            rw [number_name 98 hb] at this; cases this
          · rw [ea] at hi
            have := name_inj hb hm9 hi
            omega
          · have hp : (objs D bName).reverse.Pairwise (fun x y => less y x = true) := List.pairwise_reverse.2 (objs_sorted hn bName)
            rw [e1, List.pairwise_append] at hp
            have := (List.pairwise_cons.1 hp.2.1).1 _ hi
            rw [ea, name_less 98 hb hm9] at this
            omega
        · omega
      subst hmb'
      have hg := getD_at hd (b := 98) (by decide) (by decide) m
      rw [hd1] at hg
      simp only at hg
      show (if (getD D a).1 ≠ 0 then _ else _) = _
      rw [ea, hg]
      simp [ht]
end SH
end Go.Proofs.YtkhnbdbcaebdaaaGreatDoor

namespace Go.Proofs.YtkhnbdbcaebdaaaGreatDoor
set_option linter.unusedVariables false
set_option linter.unusedSimpArgs false
namespace SH
open DK
theorem sweep_at (r : Int) (L : Fl) : ∀ (l : List Nm) (S : Fl) (p : List Chg) (s : Bool), (S.map (·.1)).Nodup → (∀ f ∈ S, named f.1 = true) → l.Nodup → (∀ x ∈ l, DK.begun x = true → x ∈ S.map (·.1)) →
    ∃ s' S' p', sweepD l s ⟨r, L, S, p, -1, false⟩ = (0, s', ⟨r, L, S', p', -1, false⟩) ∧ (S'.map (·.1)).Nodup ∧ V S' = V S ∧ (∀ f ∈ S', f ∈ S ∧ (f.1 ∈ l → DK.begun f.1 = false)) ∧ (s' = true ∨ (s = false ∧ s' = false ∧ S' = S ∧ p' = p))
  | [], S, p, s, h1, h2, h3, h4 => ⟨s, S, p, rfl, h1, rfl, fun f hf => ⟨hf, fun h => by simp at h⟩, by cases s <;> simp⟩
  | x :: l, S, p, s, h1, h2, h3, h4 => by
    rw [List.nodup_cons] at h3
    by_cases hx : DK.begun x = false
    · obtain ⟨s', S', p', e, q1, q2, q3, q4⟩ := sweep_at r L l S p s h1 h2 h3.2 (fun y hy => h4 y (List.mem_cons_of_mem _ hy))
      refine ⟨s', S', p', ?_, q1, q2, fun f hf => ⟨(q3 f hf).1, fun hm => ?_⟩, q4⟩
      · unfold sweepD; rw [if_pos hx]; exact e
      · rcases List.mem_cons.1 hm with e | hm
        · rw [e]; exact hx
        · exact (q3 f hf).2 hm
    · have hb : DK.begun x = true := by simpa using hx
      obtain ⟨f, hf, hfx⟩ := List.mem_map.1 (h4 x List.mem_cons_self hb)
      have hg : getF S x = some f.2 := (getF_iff h1).2 (by rw [← hfx]; exact hf)
      have hnx : named x = true := by rw [← hfx]; exact h2 f hf
      have hr := removeD_at r L S p (-1) x hnx hg
      rw [if_neg (by decide)] at hr
      obtain ⟨s', S', p', e, q1, q2, q3, q4⟩ := sweep_at r L l (delF S x) (p ++ [⟨2, x, ⟨#[]⟩, []⟩]) true (delF_keys h1 x) (fun f hf => h2 f (List.mem_filter.1 hf).1) h3.2 (fun y hy hyb => by
        obtain ⟨g, hg, hgy⟩ := List.mem_map.1 (h4 y (List.mem_cons_of_mem _ hy) hyb)
        refine List.mem_map.2 ⟨g, List.mem_filter.2 ⟨hg, ?_⟩, hgy⟩
        have : g.1 ≠ x := fun e => h3.1 (by rw [← e, hgy]; exact hy)
        simpa [bne] using this)
      refine ⟨s', S', p', ?_, q1, by rw [q2, V_del_begun h1 hb], fun f hf => ⟨(List.mem_filter.1 (q3 f hf).1).1, fun hm => ?_⟩, ?_⟩
      · unfold sweepD
        rw [if_neg hx, hr]
        simp only [ne_eq, not_true_eq_false, if_false]
        exact e
      · rcases List.mem_cons.1 hm with e | hm
        · have := (List.mem_filter.1 (q3 f hf).1).2
          rw [e] at this
          simp [bne] at this
        · exact (q3 f hf).2 hm
      · rcases q4 with q4 | q4
        · exact .inl q4
        · cases q4.1
/-- files none of which is begun -/
def NoBeg (L : Fl) : Prop := ∀ f ∈ L, DK.begun f.1 = false
theorem open_at (r : Int) (L : Fl) (hL : DK.Good L) : ∃ L', openD (namesOf L) ⟨r, L, L, [], -1, false⟩ = (0, ⟨r, L', L', [], -1, false⟩) ∧ V L' = V L ∧ (L'.map (·.1)).Nodup ∧ NoBeg L' ∧ (NoBeg L → L' = L) := by
  have hm : ∀ x, x ∈ namesOf L ↔ x ∈ L.map (·.1) := fun x => (namesOf_perm L).mem_iff
  obtain ⟨s', S', p', e, q1, q2, q3, q4⟩ := sweep_at r L (namesOf L) L [] false hL.nodup (fun f hf => (hL.files f hf).1) ((namesOf_perm L).nodup_iff.2 hL.nodup) (fun x hx _ => (hm x).1 hx)
  have hb : NoBeg S' := fun f hf => (q3 f hf).2 ((hm _).2 (List.mem_map_of_mem (f := (·.1)) (q3 f hf).1))
  unfold openD
  rw [if_neg (by simp), e]
  simp only [ne_eq, not_true_eq_false, if_false]
  cases s' with
  | true =>
    rw [if_pos rfl, syncD_at, if_neg (by decide)]
    refine ⟨S', rfl, q2, q1, hb, fun h => ?_⟩
    have hno : ∀ (l : List Nm) (D : Dk), (∀ x ∈ l, DK.begun x = false) → (sweepD l false D).2.1 = false := by
      intro l
      induction l with
      | nil => intro D _; rfl
      | cons x l ih =>
        intro D hx
        unfold sweepD
        rw [if_pos (hx x List.mem_cons_self)]
        exact ih D (fun y hy => hx y (List.mem_cons_of_mem _ hy))
    have := hno (namesOf L) ⟨r, L, L, [], -1, false⟩ (fun x hx => by
      obtain ⟨f, hf, rfl⟩ := List.mem_map.1 ((hm x).1 hx)
      exact h f hf)
    rw [e] at this
    cases this
  | false =>
    rcases q4 with q4 | ⟨_, _, q4, q5⟩
    · cases q4
    · subst q4 q5
      rw [if_neg (by decide)]
      exact ⟨_, rfl, rfl, hL.nodup, hb, fun _ => rfl⟩
theorem openS_at (r : Int) (L : Fl) (hL : DK.Good L) {v : U} {n : Nat} (h : Rep (V L) v n) (hn : n ≤ 99999999) : ∃ L', openS ⟨r, L, L, [], -1, false⟩ = (0, ⟨v, n, false⟩, ⟨r, L', L', [], -1, false⟩) ∧ V L' = V L ∧ (L'.map (·.1)).Nodup ∧ NoBeg L' ∧ (NoBeg L → L' = L) := by
  obtain ⟨L', e, q1, q2, q3, q4⟩ := open_at r L hL
  refine ⟨L', ?_, q1, q2, q3, q4⟩
  obtain ⟨b, ub, k, rfl, hb, ha, hno⟩ := h
  have hbase := base_at (D := ⟨r, L', L', [], -1, false⟩) rfl q2 (b := b) (ub := ub) (by omega) (by rw [show V (Dk.shown ⟨r, L', L', [], -1, false⟩) = V L from q1]; exact hb)
  have hloop := loop_at (D := ⟨r, L', L', [], -1, false⟩) rfl k (100000000 - b) b ub v (by rw [show V (Dk.shown ⟨r, L', L', [], -1, false⟩) = V L from q1]; exact ha) (fun m h1 h2 => by rw [show V (Dk.shown ⟨r, L', L', [], -1, false⟩) = V L from q1]; exact hno m h1 h2) hn (by omega)
  unfold openS
  rw [show namesOf (Dk.shown ⟨r, L, L, [], -1, false⟩) = namesOf L from rfl, e]
  simp only [ne_eq, not_true_eq_false, if_false, Bool.false_eq_true]
  rw [hbase]
  simp only [not_true_eq_false, if_false]
  rw [hloop]
end SH
end Go.Proofs.YtkhnbdbcaebdaaaGreatDoor

namespace Go.Proofs.YtkhnbdbcaebdaaaGreatDoor
open Go.RowKit
set_option linter.unusedSimpArgs false
set_option linter.unusedVariables false

/-- parts that meet I, lying within G -/
def Asn.ex (I : List Asn → Prop) (G : Nat → Prop) : Asn where
  holds := fun w => ∃ K, I K ∧ (Asn.all K).holds w ∧ (∀ b, (Asn.all K).foot b → G b) ∧ ∀ b, G b → b < w.heap.size
  foot := G
  lt := fun _ ⟨_, _, _, _, h⟩ b hb => h b hb
  keep := fun w w' ⟨K, h1, h2, h3, h4⟩ k => ⟨K, h1, (Asn.all K).keep w w' h2 (fun b hb => k b (h3 b hb)), h3, fun b hb => by
    have h5 := h4 b hb
    have h6 := k b hb
    rw [Array.getElem?_eq_getElem h5] at h6
    exact (Array.getElem?_eq_some_iff.1 h6).1⟩

theorem Sep.split {w0 w : World} {F : Nat → Prop} : ∀ {K L : List Asn}, Sep w0 F (Asn.all K :: L) w → Sep w0 F (K ++ L) w
  | [], L, h => h.tail
  | A :: K, L, h => by
    have h1 : Sep w0 F (A :: Asn.all K :: L) w := Sep.part h
    have h2 : Sep w0 F (Asn.all K :: A :: L) w := h1.perm (List.Perm.swap _ _ _)
    have h3 := Sep.split h2
    exact h3.perm List.perm_middle
theorem Sep.merge {w0 w : World} {F : Nat → Prop} : ∀ {K L : List Asn}, Sep w0 F (K ++ L) w → Sep w0 F (Asn.all K :: L) w
  | [], L, h => h.addEmp trivial (fun _ h => h)
  | A :: K, L, h => by
    have h1 : Sep w0 F (K ++ (A :: L)) w := h.perm List.perm_middle.symm
    have h2 := Sep.merge h1
    have h3 : Sep w0 F (A :: Asn.all K :: L) w := h2.perm (List.Perm.swap _ _ _)
    exact h3.join
/-- a known part is opened -/
theorem Sep.unpack {w0 w : World} {F G : Nat → Prop} {I : List Asn → Prop} {L : List Asn} (h : Sep w0 F (Asn.ex I G :: L) w) : ∃ K, I K ∧ Sep w0 F (K ++ L) w := by
  obtain ⟨K, h1, h2, h3, _⟩ := h.each _ List.mem_cons_self
  exact ⟨K, h1, (h.turn h2 h3).split⟩
/-- parts are closed to a known one -/
theorem Sep.pack {w0 w : World} {F : Nat → Prop} {I : List Asn → Prop} (K : List Asn) {L : List Asn} (h : Sep w0 F (K ++ L) w) (hI : I K) : ∃ G, Sep w0 F (Asn.ex I G :: L) w := by
  have h1 := h.merge
  have h2 := h1.each _ List.mem_cons_self
  exact ⟨(Asn.all K).foot, h1.turn (B := Asn.ex I (Asn.all K).foot) ⟨K, hI, h2, fun _ h => h, (Asn.all K).lt w h2⟩ (fun _ h => h)⟩
/-- a call with one part, by itself -/
theorem Sep.open1 {w : World} {G : Nat → Prop} {I : List Asn → Prop} (h : (Asn.ex I G).holds w) : ∃ K, I K ∧ Sep w G K w := by
  obtain ⟨K, h1, h2⟩ := (Sep.start1 _ h).unpack
  rw [List.append_nil] at h2
  exact ⟨K, h1, h2⟩
theorem Sep.close1 {w w' : World} {G : Nat → Prop} {I : List Asn → Prop} {K : List Asn} (h : Sep w G K w') (hI : I K) : ∃ G', Sep w G [Asn.ex I G'] w' := Sep.pack K (by rw [List.append_nil]; exact h) hI
theorem Sep.idle {w : World} {A : Asn} (h : A.holds w) : Sep w A.foot [A] w := Sep.start1 A h
/-- parts of a longer list, in the order of a shorter one, and the rest -/
theorem Sep.swap1 {w0 w : World} {F : Nat → Prop} {A B : Asn} {L : List Asn} (h : Sep w0 F (A :: B :: L) w) : Sep w0 F (B :: A :: L) w := h.perm (List.Perm.swap _ _ _)
theorem Sep.callN {w0 w w' : World} {F : Nat → Prop} {K J L : List Asn} (h : Sep w0 F (J ++ L) w) (k : Sep w (Asn.all J).foot K w') : Sep w0 F (K ++ L) w' := (h.merge).call k
theorem Sep.call1 {w0 w w' : World} {F G : Nat → Prop} {A : Asn} {L K : List Asn} (h : Sep w0 F (A :: L) w) (hG : A.foot = G) (k : Sep w G K w') : Sep w0 F (K ++ L) w' := h.call (by rw [hG]; exact k)
/-- a contract told of less is one told of more -/
theorem Sep.under {w w' : World} {F F' : Nat → Prop} {L : List Asn} (h : Sep w F L w') (hF : ∀ b, F b → F' b) : Sep w F' L w' :=
  ⟨h.fr.mono hF, h.each, h.apart, fun A hA b hb => (h.new A hA b hb).imp id (hF b)⟩

/-- bytes that nobody writes: the blocks of Z, and the slices vs that lie there -/
def Asn.pool (Z : Nat → Prop) (vs : List (Value × List UInt8)) : Asn where
  holds := fun w => (∀ x ∈ vs, Bytes w x.1 x.2 ∧ SlIn Z x.1) ∧ ∀ b, Z b → b < w.heap.size
  foot := Z
  lt := fun _ h b hb => h.2 b hb
  keep := fun w w' h k => by
    refine ⟨fun x hx => ?_, fun b hb => ?_⟩
    · obtain ⟨h1, h2⟩ := h.1 x hx
      obtain ⟨a, c, he, q1, q2, q0, q3⟩ := h1
      refine ⟨⟨a, c, he, q1, q2, q0, fun j u hu => ?_⟩, h2⟩
      obtain ⟨p, hp, hc⟩ := q3 j u hu
      refine ⟨p, hp, ?_⟩
      have hz : Z p.block := h2 p _ _ (by rw [he, hp])
      have hkb := k p.block hz
      rw [← hc]
      have hadd : (p.add j).block = p.block := add_block ..
      unfold World.cell?
      rw [hadd, hkb]
    · have h5 := h.2 b hb
      have h6 := k b hb
      rw [Array.getElem?_eq_getElem h5] at h6
      exact (Array.getElem?_eq_some_iff.1 h6).1
def nilB : Value × List UInt8 := (.slice none 0 0, [])
theorem bytes_nil (w : World) : Bytes w (.slice none 0 0) [] := SlV.empty w none 0 (Nat.zero_le _) (fun _ => rfl)
theorem slin_nil (Z : Nat → Prop) (n c : Nat) : SlIn Z (.slice none n c) := by intro p n c h; cases h
theorem Sep.pool0 {w0 w : World} {F : Nat → Prop} {L : List Asn} (h : Sep w0 F L w) : Sep w0 F (Asn.pool NoF [nilB] :: L) w :=
  h.addEmp ⟨by intro x hx; obtain rfl := List.mem_singleton.1 hx; exact ⟨bytes_nil w, slin_nil _ _ _⟩, fun b hb => hb.elim⟩ (fun b hb => hb)
theorem Sep.bytes {w0 w : World} {F Z : Nat → Prop} {L : List Asn} {vs : List (Value × List UInt8)} (h : Sep w0 F L w) (i : Nat) (hi : L[i]? = some (Asn.pool Z vs)) {v : Value} {d : List UInt8} (hm : (v, d) ∈ vs) : Bytes w v d := ((h.at i hi).1 _ hm).1
/-- a row of the call's own joins the pool -/
theorem Sep.toPool {w0 w : World} {F Z : Nat → Prop} {L : List Asn} {vs : List (Value × List UInt8)} {e : Nat} {v : Value} {d : List UInt8} (h : Sep w0 F (.row e 1 v d.length (byteVs d) :: Asn.pool Z vs :: L) w) :
    ∃ Z', Sep w0 F (Asn.pool Z' ((v, d) :: vs) :: L) w := by
  have h1 := h.join
  have hr := h.row 0 rfl
  have hp := h.at 1 rfl
  refine ⟨fun b => v.ownBlock = some b ∨ Z b, h1.turn ⟨fun x hx => ?_, fun b hb => ?_⟩ (fun b hb => hb)⟩
  · rcases List.mem_cons.1 hx with rfl | hx
    · refine ⟨SlV.of_own hr, fun p n c hv => ?_⟩
      obtain ⟨_, h2⟩ := hr
      rcases h2 with ⟨h2, h3⟩ | ⟨g, cap, cur, hv2, _⟩
      · rw [h2] at hv; cases hv
      · left
        rw [hv2] at hv
        simp only [Value.slice.injEq, Option.some.injEq] at hv
        show v.ownBlock = some p.block
        rw [hv2, ← hv.1]; rfl
    · obtain ⟨q1, q2⟩ := hp.1 x hx
      exact ⟨q1, fun p n c hv => .inr (q2 p n c hv)⟩
  · rcases hb with hb | hb
    · exact (own_blk hr hb).2
    · exact hp.2 b hb
end Go.Proofs.YtkhnbdbcaebdaaaGreatDoor

namespace Go.Proofs.YtkhnbdbcaebdaaaGreatDoor
open Go.RowKit
set_option linter.unusedSimpArgs false
set_option linter.unusedVariables false
namespace MS

def _root_.Go.Proofs.YtkhnbdbcaebdaaaGreatDoor.Asn.map (b : Nat) (L : List (ByteArray × Value)) : Asn where
  holds := fun w => MapAt w b L
  foot := fun k => k = b
  lt := fun _ h k e => by subst e; exact h.lt
  keep := fun _ _ h k => h.block (k b rfl)

theorem run_look_ok {P : Program} {t k e : Nat} {z : Value} (T : MapT P t k e z) {w : World} {b : Nat} {L : List (ByteArray × Value)} (h : MapAt w b L) (a : ByteArray) :
    (Instr.lookup t (.map (some b)) (.string a) true).run P w = .ok (.tuple #[(lookE L a).getD z, .bool (lookE L a).isSome]) w := by
  obtain ⟨es, clock, hb, hs⟩ := h
  have hz := T.zero w
  have hf := fun w => run_findKey T w hs.eq a
  have hck := run_checkKey T
  have hk := T.key
  simp only [Instr.lookup]
  simp [run_underlying T.under, getObj, Sem.run, hb, go_sem, hck, hf, lookE, find_idx]
  cases hj : L.findIdx? (fun x => x.1 == a) with
  | none => simp [hz, go_sem]
  | some j =>
    have hlt : j < L.length := (List.findIdx?_eq_some_iff_getElem.1 hj).1
    simp [List.getElem?_eq_getElem hlt, go_sem]
theorem delE_none {L : List (ByteArray × Value)} {a : ByteArray} (h : L.findIdx? (fun x => x.1 == a) = none) : delE L a = L := by
  rw [List.findIdx?_eq_none_iff] at h
  unfold delE
  exact List.filter_eq_self.2 (fun p hp => by have := h p hp; simpa [bne] using this)
theorem run_delete {P : Program} {t k e : Nat} {z : Value} (T : MapT P t k e z) {w : World} {b : Nat} {L : List (ByteArray × Value)} (h : MapAt w b L) (a : ByteArray) (ty : TypeId) :
    ∃ o, (Builtin.delete_ #[t, k] ty #[.map (some b), .string a]).run P w = .ok (.tuple #[]) (setBlk w b o) ∧ MapAt (setBlk w b o) b (delE L a) := by
  have hlt := h.lt
  obtain ⟨es, clock, hb, hs⟩ := h
  have hf := fun w => run_findKey T w hs.eq a
  have hck := run_checkKey T
  have hset : ∀ o, (setObj b o).run P w = .ok () (setBlk w b o) := fun o => by simp [setObj, Sem.run, hb, setBlk]
  cases hj : L.findIdx? (fun x => x.1 == a) with
  | none =>
    refine ⟨.map es clock, ?_, ?_⟩
    · simp only [Builtin.delete_]
      simp [run_underlying T.under, getObj, Sem.run, hb, go_sem, hck, hf, hj, hset]
    · rw [delE_none hj]
      exact ⟨es, clock, setBlk_at _ hlt, hs⟩
  | some j =>
    have hjl : j < L.length := (List.findIdx?_eq_some_iff_getElem.1 hj).1
    refine ⟨.map (es.eraseIdxIfInBounds j) clock, ?_, es.eraseIdxIfInBounds j, clock, setBlk_at _ hlt, ?_⟩
    · simp only [Builtin.delete_]
      simp [run_underlying T.under, getObj, Sem.run, hb, go_sem, hck, hf, hj, List.getElem?_eq_getElem hjl, hset]
    · rw [Array.toList_eraseIdxIfInBounds]; exact erase_shows hs hj

section
variable {P : Program} {t k e : Nat} {z : Value} {w0 w : World} {F : Nat → Prop} {M : List Asn} {ops : Array Oper} {rest : List Oper} {o : Oper} {a : Act} {Q : Exit → Act → World → Prop}

theorem wp_look_ok (T : MapT P t k e z) (hw : Region.wanted o (yielded ops a.tmps) = true) (m x : Operand) (ho : o.op = .lookup t m x true) {b : Nat} {L : List (ByteArray × Value)} (hm : a.eval m = .map (some b)) (x0 : ByteArray) (hx : a.eval x = .string x0) (h : MapAt w b L)
    (hk : wpList P ops Q rest (a.put o.dst (.tuple #[(lookE L x0).getD z, .bool (lookE L x0).isSome])) w) : wpList P ops Q (o :: rest) a w := by
  refine wpList_step fun K hK => ?_
  rw [if_pos hw]
  have hrun := run_look_ok T h x0
  unfold Oper.wp
  simp [execOp, ho, hm, hx, hrun, Result.andThen]
  exact hK _ _ hk
theorem wp_delete (T : MapT P t k e z) (hgd : o.guard = none) (m x : Operand) (ho : o.op = .call { callee := .builtin .delete, args := #[m, x], argTypes := #[t, k] }) {b : Nat} {L : List (ByteArray × Value)} (hm : a.eval m = .map (some b)) (x0 : ByteArray) (hx : a.eval x = .string x0) (h : MapAt w b L)
    (hk : ∀ w', MapAt w' b (delE L x0) → Fr (· = b) w w' → w'.heap.size = w.heap.size → wpList P ops Q rest (a.put o.dst (.tuple #[])) w') : wpList P ops Q (o :: rest) a w := by
  refine wpList_plain hgd fun K hK => ?_
  obtain ⟨ob, hrun, hat⟩ := run_delete T h x0 o.type
  unfold Oper.wp execOp
  simp only [ho, resolve, invoke, builtin, Sem.run_bind, Sem.run_pure, Result.andThen_ok, List.map_toArray, List.map_cons, List.map_nil, hm, hx, hrun]
  exact hK _ _ (hk _ hat (setBlk_fr _ _ _) (setBlk_size _ _ _))
theorem sep_made (H : Sep w0 F M w) (N : Nat) (hN : w.heap.size = N) : Sep w0 F (.map N [] :: M) (w.alloc (.map #[] 0)) := by
  subst hN
  exact H.below1 ((Below.refl _ _).alloc (Nat.le_refl _) _) (MapAt.made w) (fun b hb => by have : b = w.heap.size := hb; omega)
end
end MS
end Go.Proofs.YtkhnbdbcaebdaaaGreatDoor

namespace Go.Proofs.YtkhnbdbcaebdaaaGreatDoor
open Go.RowKit
set_option linter.unusedSimpArgs false
set_option linter.unusedVariables false
set_option maxRecDepth 20000
namespace DK
theorem mtFiles : MS.MapT Tryz.prog 61 9 32 (.slice none 0 0) := ⟨Tryz.underlying61, Tryz.underlying9, fun w => by kernel_rfl⟩
abbrev Vs := List (Value × List UInt8)
def FRel (vs : Vs) (x : ByteArray × Value) (y : Nm × List UInt8) : Prop := x.1 = y.1 ∧ (x.2, y.2) ∈ vs
/-- the entries of a map of files, their bytes in the pool -/
def FilesIn (vs : Vs) (L : List (ByteArray × Value)) (M : Fl) : Prop := F2 (FRel vs) L M
theorem FilesIn.get {vs : Vs} {L : List (ByteArray × Value)} {M : Fl} (h : FilesIn vs L M) (n : Nm) : (MS.lookE L n = none ∧ getF M n = none) ∨ ∃ v d, MS.lookE L n = some v ∧ getF M n = some d ∧ (v, d) ∈ vs := by
  rcases F2.find h (f := fun p => p.1 == n) (g := fun p => p.1 == n) (fun p q h => by rw [h.1]) with ⟨e1, e2⟩ | ⟨p, q, e1, e2, hr⟩
  · left; exact ⟨by simp [MS.lookE, e1], by simp [getF, e2]⟩
  · right; exact ⟨p.2, q.2, by simp [MS.lookE, e1], by simp [getF, e2], hr.2⟩
theorem FilesIn.put {vs : Vs} {L : List (ByteArray × Value)} {M : Fl} (h : FilesIn vs L M) {v : Value} {d : List UInt8} (hm : (v, d) ∈ vs) (n : Nm) : FilesIn vs (MS.putE L n v) (putF M n d) := by
  unfold MS.putE putF
  rw [F2.any h (f := fun p => p.1 == n) (g := fun p => p.1 == n) (fun p q h => by rw [h.1])]
  split
  · refine F2.map h (fun a b hab => ?_)
    rw [hab.1]
    split
    · exact ⟨rfl, hm⟩
    · exact hab
  · exact F2.append h (F2.one ⟨rfl, hm⟩)
theorem FilesIn.del {vs : Vs} {L : List (ByteArray × Value)} {M : Fl} (h : FilesIn vs L M) (n : Nm) : FilesIn vs (MS.delE L n) (delF M n) := F2.filter h (fun a b hab => by rw [hab.1])
theorem FilesIn.more {vs us : Vs} {L : List (ByteArray × Value)} {M : Fl} (h : FilesIn vs L M) (hs : ∀ x ∈ vs, x ∈ us) : FilesIn us L M := F2.mono h (fun _ _ _ _ h => ⟨h.1, hs _ h.2⟩)
theorem FilesIn.len {vs : Vs} {L : List (ByteArray × Value)} {M : Fl} (h : FilesIn vs L M) : L.length = M.length := F2.length h
theorem FilesIn.keys {vs : Vs} {L : List (ByteArray × Value)} {M : Fl} (h : FilesIn vs L M) : L.map (·.1) = M.map (·.1) := F2.map_eq h (fun _ _ h => h.1)
/-- a change done to the entries -/
def doE (L : List (ByteArray × Value)) (k : Nat) (n to : Nm) (v : Value) : List (ByteArray × Value) :=
  if k = 0 then MS.putE L n v else match MS.lookE L n with
    | none => L
    | some b => if k = 1 then MS.putE (MS.delE L n) to b else MS.delE L n
theorem FilesIn.do {vs : Vs} {L : List (ByteArray × Value)} {M : Fl} (h : FilesIn vs L M) {v : Value} (c : Chg) (hm : (v, c.d) ∈ vs) : FilesIn vs (doE L c.kind c.name c.to v) (doF M c) := by
  unfold doE doF
  split
  · exact h.put hm _
  · rcases h.get c.name with ⟨e1, e2⟩ | ⟨b, d, e1, e2, e3⟩
    · rw [e1, e2]; exact h
    · rw [e1, e2]
      show FilesIn vs (if c.kind = 1 then _ else _) (if c.kind = 1 then _ else _)
      split
      · exact (h.del _).put e3 _
      · exact h.del _
def lenV : Value → Nat
  | .slice _ n _ => n
  | _ => 0
def sumV (L : List (ByteArray × Value)) : Nat := (L.map (fun p => lenV p.2)).sum
def IsSl (v : Value) : Prop := ∃ a n c, v = .slice a n c
theorem lenV_of {w : World} {v : Value} {d : List UInt8} (h : Bytes w v d) : lenV v = d.length := by
  obtain ⟨a, c, rfl, _⟩ := h; rfl
theorem isSl_of {w : World} {v : Value} {d : List UInt8} (h : Bytes w v d) : IsSl v := by
  obtain ⟨a, c, rfl, _⟩ := h; exact ⟨_, _, _, rfl⟩
/-- a pool's slices -/
def PoolIn (w : World) (vs : Vs) : Prop := ∀ x ∈ vs, Bytes w x.1 x.2
theorem FilesIn.sum {vs : Vs} {L : List (ByteArray × Value)} {M : Fl} (h : FilesIn vs L M) {w : World} (hp : PoolIn w vs) : sumV L = usedF M := by
  have := F2.map_eq h (f := fun p => lenV p.2) (g := fun p => p.2.length) (fun a b hab => lenV_of (hp _ hab.2))
  unfold sumV usedF; rw [this]
theorem FilesIn.sl {vs : Vs} {L : List (ByteArray × Value)} {M : Fl} (h : FilesIn vs L M) {w : World} (hp : PoolIn w vs) : ∀ p ∈ L, IsSl p.2 := fun p hpL => by
  obtain ⟨q, _, hq⟩ := F2.mem_left h hpL
  exact isSl_of (hp _ hq.2)
/-- a change that waits, with its bytes' place -/
def chgV (p : Chg × Value) : List Value := [.int .i64 (p.1.kind : Nat), .string p.1.name, .string p.1.to, p.2]
def chgVs (P : List (Chg × Value)) : List Value := P.flatMap chgV
theorem chgV_len (p : Chg × Value) : (chgV p).length = 4 := rfl
def diskI (N : Nat) (D : Dk) (K : List Asn) : Prop := ∃ bs bh v P Z vs Ls Lh, K = [.box N [.int .i64 D.room, .map (some bs), .map (some bh), v, .int .i64 D.fuse, .bool D.down] 64, .map bs Ls, .map bh Lh, .row 86 4 v P.length (chgVs P), .pool Z vs] ∧
  FilesIn vs Ls D.sure ∧ FilesIn vs Lh D.shown ∧ P.map (·.1) = D.pend ∧ (∀ p ∈ P, (p.2, p.1.d) ∈ vs) ∧ nilB ∈ vs
/-- a disk in memory -/
abbrev _root_.Go.Proofs.YtkhnbdbcaebdaaaGreatDoor.Asn.disk (N : Nat) (D : Dk) (G : Nat → Prop) : Asn := Asn.ex (diskI N D) G
end DK
end Go.Proofs.YtkhnbdbcaebdaaaGreatDoor

namespace Go.Proofs.YtkhnbdbcaebdaaaGreatDoor
open Go.RowKit
set_option linter.unusedSimpArgs false
set_option linter.unusedVariables false
set_option maxRecDepth 20000
namespace DK

def DoFR (b : Nat) (L' : List (ByteArray × Value)) (w : World) (en : Ending) (w' : World) : Prop := en = .returned (.tuple #[]) ∧ MS.MapAt w' b L' ∧ Fr (· = b) w w'
theorem fr_alloc_then {b : Nat} {w w' : World} {o : Obj} (h : Fr (· = b) (w.alloc o) w') : Fr (· = b) w w' := (Fr.of_below (F := (· = b)) ((Below.refl w.heap.size w).alloc (Nat.le_refl _) o)).trans h (fun i hi => .inl hi)
set_option maxHeartbeats 2000000 in
theorem do_any (b : Nat) (L : List (ByteArray × Value)) (k : Nat) (n to : Nm) (v : Value) (w : World) (h : MS.MapAt w b L) (hk : k < 3) :
    Calls Tryz.prog 37 #[.map (some b), .agg #[.int .i64 (k : Nat), .string n, .string to, v]] w (DoFR b (doE L k n to v) w) := by
  have hm1 : MS.MapAt (w.alloc (.cells #[.int .i64 (k : Nat), .string n, .string to, v] 86)) b L := h.block (Below.heap_alloc _ _ _ h.lt)
  have HM := Lib.hid' hm1
  clear hm1
  obtain ⟨r, hr⟩ : ∃ r, MS.lookE L n = r := ⟨_, rfl⟩
  have HR := Lib.hid' hr
  have HT := mtFiles
  have hbl := h.lt
  clear h
  match k, hk with
  | 0, _ =>
    have HF := Lib.hid' (show doE L 0 n to v = MS.putE L n v from rfl)
    go_enter Tryz.func37, Tryz.ntmps37
    go_wp2_with (first | (at_lookup; refine MS.wp_look_ok HT rfl (.tmp 7) (.tmp 9) rfl rfl n rfl HM.out ?_; rw [HR.out]) | (at_mapUpdate; refine MS.wp_store HT rfl (.tmp 20) (.tmp 22) (.tmp 24) rfl rfl n rfl v rfl HM.out ?_; intro w3 hm3 hf3 hz3))
    go_end0
    exact ⟨rfl, by rw [HF.out]; exact hm3, fr_alloc_then hf3⟩
  | 1, _ =>
    cases r with
    | none =>
      have HF := Lib.hid' (show doE L 1 n to v = L by unfold doE; rw [hr]; rfl)
      clear hr
      go_enter Tryz.func37, Tryz.ntmps37
      go_wp2_with (first | (at_lookup; refine MS.wp_look_ok HT rfl (.tmp 7) (.tmp 9) rfl rfl n rfl HM.out ?_; rw [HR.out]))
      go_end0
      exact ⟨rfl, by rw [HF.out]; exact HM.out, fr_alloc_then (Fr.refl _ _)⟩
    | some x =>
      have HF := Lib.hid' (show doE L 1 n to v = MS.putE (MS.delE L n) to x by unfold doE; rw [hr]; rfl)
      clear hr
      go_enter Tryz.func37, Tryz.ntmps37
      go_wp2_with (first | (at_lookup; refine MS.wp_look_ok HT rfl (.tmp 7) (.tmp 9) rfl rfl n rfl HM.out ?_; rw [HR.out]) | (refine MS.wp_delete HT rfl (.tmp 32) (.tmp 34) rfl rfl n rfl HM.out ?_; intro w3 hm3 hf3 hz3; have z2 := hf3.cell ((BoxW.start w [.int .i64 (1 : Nat), .string n, .string to, v] 86).box.1 2 _ rfl) (by show ¬ w.heap.size = b; omega)) | (at_mapUpdate; refine MS.wp_store HT rfl (.tmp 35) (.tmp 37) (.tmp 38) rfl rfl to rfl x rfl hm3 ?_; intro w4 hm4 hf4 hz4))
      go_end0
      exact ⟨rfl, by rw [HF.out]; exact hm4, fr_alloc_then (hf3.trans hf4 (fun i hi => .inl hi))⟩
  | 2, _ =>
    cases r with
    | none =>
      have HF := Lib.hid' (show doE L 2 n to v = L by unfold doE; rw [hr]; rfl)
      clear hr
      go_enter Tryz.func37, Tryz.ntmps37
      go_wp2_with (first | (at_lookup; refine MS.wp_look_ok HT rfl (.tmp 7) (.tmp 9) rfl rfl n rfl HM.out ?_; rw [HR.out]))
      go_end0
      exact ⟨rfl, by rw [HF.out]; exact HM.out, fr_alloc_then (Fr.refl _ _)⟩
    | some x =>
      have HF := Lib.hid' (show doE L 2 n to v = MS.delE L n by unfold doE; rw [hr]; rfl)
      clear hr
      go_enter Tryz.func37, Tryz.ntmps37
      go_wp2_with (first | (at_lookup; refine MS.wp_look_ok HT rfl (.tmp 7) (.tmp 9) rfl rfl n rfl HM.out ?_; rw [HR.out]) | (refine MS.wp_delete HT rfl (.tmp 13) (.tmp 15) rfl rfl n rfl HM.out ?_; intro w3 hm3 hf3 hz3))
      go_end0
      exact ⟨rfl, by rw [HF.out]; exact hm3, fr_alloc_then hf3⟩

theorem sumV_pick (pre post : List (ByteArray × Value)) (x : ByteArray) (v : Value) : sumV (pre ++ (x, v) :: post) = lenV v + sumV (pre ++ post) := by
  unfold sumV
  simp only [List.map_append, List.map_cons, List.sum_append, List.sum_cons]; omega
set_option maxHeartbeats 1000000 in
theorem used_any (b : Nat) (L : List (ByteArray × Value)) (w : World) (h : MS.MapAt w b L) (hs : ∀ p ∈ L, IsSl p.2) (hb : sumV L ≤ 4611686018427387904) :
    Calls Tryz.prog 112 #[.map (some b)] w fun e w' => e = .returned (.int .i64 (sumV L : Nat)) ∧ Below w.heap.size w w' := by
  have HM := Lib.hid' h
  have HS := Lib.hid' hs
  have HT := mtFiles
  obtain ⟨t, ht⟩ : ∃ t, sumV L = t := ⟨_, rfl⟩
  rw [ht] at hb ⊢
  have HL := Lib.hid' ht
  clear h hs ht
  go_enter Tryz.func112, Tryz.ntmps112
  go_wp2_with (at_range; refine MS.wp_range HT rfl (.tmp 6) rfl rfl HM.out ?_; intro w1 hi hb1 hz1)
  have Hi := Lib.hid' hi
  have Hb1 := Lib.hid' hb1
  clear hi hb1 hz1
  go_frame
  go_loopw [3, 5] (fun v3 _ wr => ∃ (m : Nat) (left : List (ByteArray × Value)) (last : Option (ByteArray × Value)), v3 = .int .i64 (m : Nat) ∧ MS.IterAt wr w.heap.size b L left last ∧ left.Sublist L ∧ m + sumV left = t ∧ Below w.heap.size w wr) (fun _ _ wr => MS.iterLeft wr w.heap.size)
  case atStart => exact ⟨0, L, none, rfl, Hi.out, List.Sublist.refl _, by rw [Nat.zero_add]; exact HL.out, Hb1.out⟩
  case round =>
    obtain ⟨m, left, last, rfl, hit, hsub, hsum, hbw⟩ := hrel
    have Hsub := Lib.hid' hsub
    have Hsum := Lib.hid' hsum
    have Hbw := Lib.hid' hbw
    have Hcnt := Lib.hid' hit.left_eq
    have hlt := hit.lt
    clear hsub hsum hbw
    go_wp2_with (refine MS.wp_next rfl (.tmp 7) rfl rfl hit ?_ ?_)
    · intro hl w' hb' hh
      have Hl := Lib.hid' hl
      have Hbb := Lib.hid' hb'
      clear hl hb' hh hlt hit
      go_wp2
      go_ret
      refine ⟨ret_eq ?_, (Hbw.out.trans (Hbb.out.mono Hbw.out.size))⟩
      have := Hsum.out
      rw [Hl.out] at this
      simp [sumV] at this
      show Value.int .i64 (m : Nat) = _
      rw [this]
    · intro w2 x v pre post hl hit2 hf2
      have Hl := Lib.hid' hl
      obtain ⟨va, vn, vc, rfl⟩ := HS.out (x, v) (Hsub.out.mem (by rw [hl]; simp))
      have Hf2 := Lib.hid' hf2
      have HQ := Lib.hid' (show m + vn + sumV (pre ++ post) = t by have := Hsum.out; rw [hl, sumV_pick] at this; simp only [lenV] at this; omega)
      have hmv : m + vn ≤ 4611686018427387904 := by have := HQ.out; omega
      clear hl hf2 hit
      go_wp2_with (refine MS.wp_entry rfl (.tmp 7) rfl rfl hit2 ?_)
      go_roundw
      case rel =>
        refine ⟨m + vn, pre ++ post, some (x, .slice va vn vc), ?_, hit2, ?_, HQ.out, ?_⟩
        · go_num
        · exact List.Sublist.trans (by rw [Hl.out]; simp) Hsub.out
        · exact Hbw.out.trans (Hf2.out.below (by omega) (by intro k hk; omega))
      case measure => rw [Hcnt.out, hit2.left_eq, Hl.out]; simp

theorem run_equalIn_map_nil' {P : Program} {w : World} (d : Nat) (t k e : TypeId) (p : Option Nat) (h : P.underlying t = some (.map k e)) :
    (Op.equalIn (d + 1) t (.map p) (.map none)).run P w = .ok p.isNone w := by
  cases p <;> simp [Op.equalIn, run_underlying h]
theorem run_eql_map_nil' {P : Program} {w : World} (t k e : TypeId) (p : Option Nat) (h : P.underlying t = some (.map k e)) :
    (binOp .eql t (.map p) (.map none)).run P w = .ok (.bool p.isNone) w := by
  simp only [binOp]
  simp [show Op.equal t (.map p) (.map none) = Op.equalIn (9999 + 1) t (.map p) (.map none) from rfl, run_equalIn_map_nil' 9999 t k e p h]
theorem run_typeAssert_map' {P : Program} {w : World} (t xT k e : TypeId) (v : Value) (h : P.underlying t = some (.map k e)) : (Instr.typeAssert (.iface t v) xT t false).run P w = .ok v w := by
  simp [Instr.typeAssert, run_underlying h, go_sem, Result.andThen]
theorem run_maps_clone' {P : Program} {w : World} {r : Nat} {es : Array MapEntry} {clock : Nat} (t : TypeId) (hb : w.heap[r]? = some (.map es clock)) :
    (Extern.MapsClone.clone #[.iface t (.map (some r))]).run P w = .ok (.iface t (.map (some w.heap.size))) (w.alloc (.map es clock)) := by
  have e : Extern.MapsClone.clone #[.iface t (.map (some r))] = (getObj r >>= fun o => match o with
      | .map entries clock => (newObj (.map entries clock) >>= fun n => pure (.iface t (.map (some n))))
      | _ => stuck "maps.clone: a map expected") := rfl
  rw [e]
  simp [MapKept.run_getObj_map hb, Result.andThen, go_sem]

def CloneFR (L : List (ByteArray × Value)) (w : World) (en : Ending) (w' : World) : Prop :=
  en = .returned (.map (some w.heap.size)) ∧ Below w.heap.size w w' ∧ w'.heap.size = w.heap.size + 1 ∧ MS.MapAt w' w.heap.size L
set_option maxHeartbeats 1000000 in
theorem fclone_any (bm : Nat) (L : List (ByteArray × Value)) (w : World) (h : MS.MapAt w bm L) : Calls Tryz.prog 38 #[.map (some bm)] w (CloneFR L w) := by
  obtain ⟨es, clock, hb, hs⟩ := h
  have hq := fun w => run_eql_map_nil' (P := Tryz.prog) (w := w) 61 _ _ (some bm) Tryz.underlying61
  go_enter Tryz.func38, Tryz.ntmps38
  go_wp2
  rw [run_callFunc_extern Tryz.func74 (by kernel_rfl) (by kernel_rfl) (by kernel_rfl) (e := Extern.MapsClone.clone) (by kernel_rfl), run_maps_clone' (w := w) 61 hb]
  simp only [Result.andThen]
  rw [Oper.upon_value]
  go_wp2
  rw [run_typeAssert_map' 61 _ _ _ _ Tryz.underlying61]
  simp only [Result.andThen]
  rw [Oper.upon_value]
  go_wp2
  go_ret
  exact ⟨rfl, by go_grown, by simp, ⟨es, clock, by show (w.heap.push _)[w.heap.size]? = _; simp, hs⟩⟩
end DK
end Go.Proofs.YtkhnbdbcaebdaaaGreatDoor

namespace Go.Proofs.YtkhnbdbcaebdaaaGreatDoor
open Go
set_option linter.unusedVariables false

def nthOp : List Oper → Nat → Option Oper
  | [], _ => none
  | o :: _, 0 => some o
  | _ :: l, i + 1 => nthOp l i
theorem nthOp_eq : ∀ (l : List Oper) (i : Nat), l.toArray[i]? = nthOp l i
  | [], _ => rfl
  | _ :: _, 0 => rfl
  | _ :: l, i + 1 => by have := nthOp_eq l i; simpa [nthOp] using this
theorem put_lit (t : List Value) (ds : List Deferred) (d : Nat) (v : Value) : Act.put ⟨t.toArray, ds⟩ (some d) v = ⟨(t.set d v).toArray, ds⟩ := by
  simp [Act.put]
/-- a small memory of slots: what an operation's operands are -/
def assocV : List (Nat × Value) → Nat → Value
  | [], _ => undef
  | (k, v) :: l, t => if k = t then v else assocV l t
@[go_sem] theorem assocV_hit (k : Nat) (v : Value) (l : List (Nat × Value)) : assocV ((k, v) :: l) k = v := by simp [assocV]
@[go_sem] theorem assocV_miss {k t : Nat} (v : Value) (l : List (Nat × Value)) (h : k ≠ t) : assocV ((k, v) :: l) t = assocV l t := by simp [assocV, h]
def lookV (m : List (Nat × Value)) : Operand → Value
  | .tmp t => assocV m t
  | .const v => v
  | .global g => .pointer (some ⟨g, 0, none⟩)
  | .func f => .func (.func f) #[] #[]
theorem map_at {α β : Type} {f g : α → β} : ∀ {l : List α}, l.map f = l.map g → ∀ x ∈ l, f x = g x
  | [], _, _, h => by cases h
  | a :: l, e, x, h => by
    simp only [List.map_cons, List.cons.injEq] at e
    rcases List.mem_cons.1 h with rfl | h
    · exact e.1
    · exact map_at e.2 x h
def noSel : Op → Bool
  | .select .. => false
  | _ => true
section
variable {P : Program} {Q : Exit → Act → World → Prop} {md : Region.Mode} {S : World → Prop}
/-- an operation that yields its value in every world that meets S is taken first -/
theorem takeD {l : List Oper} {i d : Nat} {oi : Oper} {v : Value} {fuel : Nat} {listed : List Bool} {t : List Value} {ds : List Deferred} {w : World}
    (hi : nthOp l i = some oi) (hd : oi.dst = some d) (hs : Region.noSelect l.toArray = true) (hf : Region.free md l.toArray listed.toArray i = true) (hr : (Region.ready md l.toArray listed.toArray).contains i = true)
    (hQ : ∀ c a w, Q (.panic c) (a.put oi.dst v) w → Q (.panic c) a w) (hy : YieldsIf P l.toArray S oi v ⟨t.toArray, ds⟩) (hS : S w)
    (h : wpAnyH P md l.toArray Q S fuel (listed.set i true).toArray ⟨(t.set d v).toArray, ds⟩ w) : wpAnyH P md l.toArray Q S (fuel + 1) listed.toArray ⟨t.toArray, ds⟩ w := by
  refine wpAnyH_take (oi := oi) (by rw [nthOp_eq]; exact hi) hs hf hr hQ hy hS ?_
  rw [hd, put_lit, List.setIfInBounds_toArray]
  exact h
theorem startD {id : Nat} {l : List Oper} {a : Act} {w : World} (hm : P.follows .mixedOrders = true) (hS : S w.drew)
    (h : S w.drew → wpAnyH P .any l.toArray Q S l.length (List.replicate l.length false).toArray a w.drew) : (Code.region id l.toArray true).wp P Q a w := by
  refine wp_region_held_drew hm hS (fun hs => ?_)
  have := h hs
  rwa [List.size_toArray, ← List.toArray_replicate]
/-- what an operation yields, from its operands alone -/
theorem yldV {l : Array Oper} {oi : Oper} {v : Value} {a : Act} (m : List (Nat × Value)) (hw : Region.wanted oi (yielded l a.tmps) = true) (hsel : noSel oi.op = true)
    (hm : oi.op.operands.toList.map a.eval = oi.op.operands.toList.map (lookV m)) (h : ∀ w, S w → (execOp (lookV m) oi).run P w = .ok (.value v) w) : YieldsIf P l S oi v a := by
  refine .inl ⟨hw, fun w hS => ?_⟩
  rw [execOp_congr (ρ' := lookV m) oi (fun cs b e => by rw [e] at hsel; cases hsel) (fun x hx => map_at hm x (by simpa using hx))]
  exact h w hS
end
end Go.Proofs.YtkhnbdbcaebdaaaGreatDoor

namespace Go.Proofs.YtkhnbdbcaebdaaaGreatDoor
open Go.RowKit
set_option linter.unusedSimpArgs false
set_option linter.unusedVariables false

end Go.Proofs.YtkhnbdbcaebdaaaGreatDoor

namespace Go.Proofs.YtkhnbdbcaebdaaaGreatDoor
open Go.RowKit
set_option linter.unusedSimpArgs false
set_option linter.unusedVariables false

@[go_sem] theorem neq_errV (n : Nat) (w : World) : (binOp .neq 26 (errV n) .nilIface).run Tryz.prog w = .ok (.bool (n != 0)) w := by
  by_cases h : n = 0
  · subst h; rw [errV_0, neq_nil]; rfl
  · rw [errV_pos h, neq_held]; simp [h]
@[go_sem] theorem guard_neq (t n : Nat) (x : Operand) (v : Value) (w : World) : (eqGuard .neq t x (.const v) (errV n) .nilIface).run Tryz.prog w = .ok () w := by
  by_cases h : n = 0
  · subst h; rw [errV_0]; simp [eqGuard]
  · rw [errV_pos h]; simp [eqGuard]
end Go.Proofs.YtkhnbdbcaebdaaaGreatDoor

namespace Go.Proofs.YtkhnbdbcaebdaaaGreatDoor
open Go.RowKit
set_option linter.unusedSimpArgs false
set_option linter.unusedVariables false
set_option maxRecDepth 20000
namespace DK

abbrev ptrV (N : Nat) : Value := .pointer (some ⟨N, 0, none⟩)
/-- what a method answers, and the disk then -/
def DiskR (N : Nat) (G : Nat → Prop) (D' : Dk) (v : Value) (w : World) (e : Ending) (w' : World) : Prop := e = .returned v ∧ ∃ G', Sep w G [Asn.disk N D' G'] w'
theorem DiskR.idle {N : Nat} {G : Nat → Prop} {D : Dk} {v : Value} {w w' : World} (h : (Asn.disk N D G).holds w) (hb : Below w.heap.size w w') : DiskR N G D v w (.returned v) w' :=
  ⟨rfl, G, (Sep.idle h).below hb⟩
theorem looks_any (N : Nat) (b : Bool) (w : World) (h : w.cell? ⟨N, 5, none⟩ = some (.bool b)) (hN : N < w.heap.size) : Calls Tryz.prog 34 #[ptrV N] w fun e w' => e = .returned (errV (if b = true then 14 else 0)) ∧ w = w' := by
  cases b with
  | true =>
    go_enter Tryz.func34, Tryz.ntmps34
    go_wp2
    go_ret
    exact ⟨rfl, rfl⟩
  | false =>
    go_enter Tryz.func34, Tryz.ntmps34
    go_wp2
    go_ret
    exact ⟨rfl, rfl⟩
theorem down_any (N : Nat) (b : Bool) (w : World) (h : w.cell? ⟨N, 5, none⟩ = some (.bool b)) (hN : N < w.heap.size) : Calls Tryz.prog 22 #[ptrV N] w fun e w' => e = .returned (.bool b) ∧ w = w' := by
  go_enter Tryz.func22, Tryz.ntmps22
  go_wp2
  go_ret
  exact ⟨rfl, rfl⟩
theorem Down_any {N : Nat} {D : Dk} {G : Nat → Prop} (w : World) (h : (Asn.disk N D G).holds w) : Calls Tryz.prog 22 #[ptrV N] w fun e w' => e = .returned (.bool D.down) ∧ w = w' := by
  obtain ⟨K, ⟨bs, bh, v, P, Z, vs, Ls, Lh, rfl, hI⟩, H0⟩ := Sep.open1 h
  exact down_any N D.down w (H0.cell 0 rfl 5 rfl) (H0.lt 0 rfl)
set_option maxHeartbeats 1000000 in
theorem works_any {m N : Nat} {D : Dk} {G : Nat → Prop} (w : World) (h : (Asn.disk N D G).holds w) (ho : Ok m D) : Calls Tryz.prog 90 #[ptrV N] w (DiskR N G (worksD D).2 (errV (worksD D).1) w) := by
  have HH := Lib.hid' h
  obtain ⟨K, ⟨bs, bh, v, P, Z, vs, Ls, Lh, rfl, hI⟩, H0⟩ := Sep.open1 h
  have HI := Lib.hid' hI
  have H := Lib.hid' H0
  have c4 := H0.cell 0 rfl 4 rfl
  have c5 := H0.cell 0 rfl 5 rfl
  have f4 := H0.free 0 rfl 4
  have f5 := H0.free 0 rfl 5
  have hl := H0.lt 0 rfl
  have hfu := ho.fuse
  clear H0 h hI ho
  cases hd : D.down with
  | true =>
    have HF := Lib.hid' (show worksD D = (14, D) by unfold worksD; rw [if_pos hd])
    rw [hd] at c5
    go_enter Tryz.func90, Tryz.ntmps90
    go_wp2_with (go_at_call 34; refine (looks_any N true _ c5 hl).mono ?_; rintro e w' ⟨rfl, rfl⟩)
    go_ret
    rw [HF.out]
    exact DiskR.idle HH.out (Below.refl _ _)
  | false =>
    have hdn : ¬ D.down = true := by rw [hd]; decide
    rw [hd] at c5
    have HD := Lib.hid' hd
    clear hd
    by_cases h0 : D.fuse = 0
    · have HF := Lib.hid' (show worksD D = (14, { D with down := true }) by unfold worksD; rw [if_neg hdn, if_pos h0])
      rw [h0] at c4
      have H0 := Lib.hid' h0
      clear h0 hdn
      go_enter Tryz.func90, Tryz.ntmps90
      go_wp2_with (go_at_call 34; refine (looks_any N false _ c5 hl).mono ?_; rintro e w' ⟨rfl, rfl⟩)
      go_ret
      rw [HF.out]
      exact ⟨rfl, Sep.close1 (H.out.set 0 rfl 5 (.bool true)) ⟨bs, bh, v, P, Z, vs, Ls, Lh, rfl, HI.out⟩⟩
    · by_cases hp : 0 < D.fuse
      · have HF := Lib.hid' (show worksD D = (0, { D with fuse := D.fuse - 1 }) by unfold worksD lower; rw [if_neg hdn, if_neg h0, if_pos hp])
        obtain ⟨x, hx⟩ : ∃ x, D.fuse = x := ⟨_, rfl⟩
        rw [hx] at c4 h0 hp hfu
        have HX := Lib.hid' hx
        clear hx hdn
        go_enter Tryz.func90, Tryz.ntmps90
        go_wp2_with (go_at_call 34; refine (looks_any N false _ c5 hl).mono ?_; rintro e w' ⟨rfl, rfl⟩)
        go_ret
        rw [HF.out, HX.out]
        refine ⟨rfl, ?_⟩
        have h1 := H.out.set 0 rfl 4 (.int .i64 (x - 1))
        first | exact Sep.close1 h1 ⟨bs, bh, v, P, Z, vs, Ls, Lh, rfl, HI.out⟩ | (go_num; exact Sep.close1 h1 ⟨bs, bh, v, P, Z, vs, Ls, Lh, rfl, HI.out⟩)
      · have HF := Lib.hid' (show worksD D = (0, D) by
          unfold worksD lower; rw [if_neg hdn, if_neg h0, if_neg hp])
        obtain ⟨x, hx⟩ : ∃ x, D.fuse = x := ⟨_, rfl⟩
        rw [hx] at c4 h0 hp hfu
        clear hx hdn
        go_enter Tryz.func90, Tryz.ntmps90
        go_wp2_with (go_at_call 34; refine (looks_any N false _ c5 hl).mono ?_; rintro e w' ⟨rfl, rfl⟩)
        go_ret
        rw [HF.out]
        exact DiskR.idle HH.out (Below.refl _ _)
def NewDR (room : Int) (w : World) (e : Ending) (w' : World) : Prop := ∃ N G, e = .returned (.tuple #[ptrV N, .nilIface]) ∧ Sep w NoF [Asn.disk N (newD room) G] w'
set_option maxHeartbeats 1000000 in
theorem dnew_any (room : Int) (w : World) (h : 0 ≤ room ∧ room ≤ 1073741824) : Calls Tryz.prog 6 #[.int .i64 room] w (NewDR room w) := by
  have h0 : ¬ room < 0 := by omega
  have h1 : ¬ 1073741824 < room := by omega
  have hmm := @run_makeMap Tryz.prog
  clear h
  go_enter Tryz.func6, Tryz.ntmps6
  go_wp2
  go_ret2
  have H1 := MS.sep_made (Sep.start w) w.heap.size rfl
  have H2 := MS.sep_made H1 (w.heap.size + 1) (by simp)
  have H3 := H2.allocAt (w.heap.size + 2) [.int .i64 room, .map (some w.heap.size), .map (some (w.heap.size + 1)), .slice none 0 0, .int .i64 (-1), .bool false] 64 (by simp)
  have H4 := (H3.pool0).nilRow 86 4
  have H5 := ((H4.focus 3 rfl).focus 4 rfl).focus 4 rfl
  obtain ⟨G, h6⟩ := Sep.pack _ (L := []) (by rw [List.append_nil]; exact H5) (show diskI (w.heap.size + 2) (newD room) _ from ⟨w.heap.size, w.heap.size + 1, .slice none 0 0, [], NoF, [nilB], [], [], rfl, F2.nil, F2.nil, rfl, by simp, by simp⟩)
  exact ⟨w.heap.size + 2, G, rfl, h6⟩
end DK
end Go.Proofs.YtkhnbdbcaebdaaaGreatDoor
