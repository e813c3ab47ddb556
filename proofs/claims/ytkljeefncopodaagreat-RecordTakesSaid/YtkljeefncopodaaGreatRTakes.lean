/- The statement RecordTakes: its walk. -/
import Derived.Test.YtkljeefncopodaaGreatRBack
import Derived.Test.YtkljeefncopodaaGreatRecT
import Derived.Test.YtkljeefncopodaaGreatRefJ
import Derived.Test.YtkljeefncopodaaGreatDocU
namespace Go.Proofs.YtkljeefncopodaaGreat
open Go.RowKit
set_option linter.unusedSimpArgs false
set_option linter.unusedVariables false
set_option maxRecDepth 100000

theorem rSame_rfl (u : U) : u.rSame u = true := by simp [U.rSame]
set_option maxHeartbeats 40000000 in
theorem recordTakes_any (b : List UInt8) (ba : Option Addr) (bc : Nat) (w : World) (hb : Bytes w (.slice ba b.length bc) b) :
    Calls Tryz.prog 4 #[.slice ba b.length bc] w fun en w' => en = .returned (.bool true) ∧ Below w.heap.size w w' := by
  have HD := Lib.hid' hb
  have hdl := bytes_len hb
  clear hb
  go_enter Tryz.func4, Tryz.ntmps4
  go_wp2_with fail
  refine (alive9_any _).mono ?_
  rintro en w1 ⟨rfl, hb1⟩
  have H0 : Sep w NoF [] w := Sep.start _
  have H1 : Sep w NoF [] (w1) := (H0.below hb1)
  clear H0 hb1
  by_cases h3000 : 3000 < b.length
  · go_wp2
    go_ret
    exact ⟨rfl, H1.toBelow⟩
  go_upto_region 5 with fail
  have hsrc := H1.oldBytes HD.out
  have HSR := Lib.hid' (SlV.below hsrc (Nat.le_refl _) (show Below w1.heap.size w1 (w1.alloc (.cells #[] 5)) by go_grown))
  clear hsrc
  have HN0 : Sep w NoF [.row 5 1 (.slice (some ⟨w1.heap.size, 0, none⟩) 0 0) (0) ([])] ((w1.alloc (.cells #[] 5))) := (H1.newRowAt (w1.heap.size) 5 1 (by simp))
  go_wp2_with (at_builtin; refine Sep.appendSl etBytes rfl (.tmp 15) (.tmp 16) rfl HN0 0 rfl rfl b.length (byteVs b) _ rfl HSR.out (by rw [byteVs_length]; omega) (byteVs_one b) (by omega) ?_)
  intro oa oc w3 HA
  have H3 : Sep w NoF [.row 5 1 (.slice oa b.length oc) b.length (byteVs b)] w3 := by simpa using HA
  clear HA HN0 HSR H1
  obtain ⟨p, hp⟩ : ∃ p, p = Ac.take b := ⟨_, rfl⟩
  have htk := rtake9_any b oa oc w3 (SlV.of_own (H3.row 0 rfl))
  unfold RTakeR at htk
  rw [← hp] at htk
  have HPP := Lib.hid' hp.symm
  clear hp
  obtain ⟨pn, px⟩ := p
  simp only at htk
  have HTK := Lib.hid' htk
  clear htk
  go_wp2_with fail
  refine HTK.out.mono ?_
  clear HTK
  rintro en w4 ⟨ta, tc, rfl, hbt, hb4⟩
  have HBT := Lib.hid' hbt
  have hpl := bytes_len hbt
  clear hbt
  have H4 : Sep w NoF [.row 5 1 (.slice oa b.length oc) (b.length) (byteVs b)] (w4) := (H3.below hb4)
  clear H3 hb4
  unfold ac9V
  go_wp2_with fail
  have HBT5 := Lib.hid' (SlV.below HBT.out (Nat.le_refl _) (show Below w4.heap.size w4 (w4.alloc (.cells #[.int .i64 px.k, .int .i64 px.e, .int .i64 px.a, .slice ta px.d.length tc] 41)) by go_grown))
  clear HBT
  have H5 : Sep w NoF [.box (w4.heap.size) [.int .i64 px.k, .int .i64 px.e, .int .i64 px.a, .slice ta px.d.length tc] 41, .row 5 1 (.slice oa b.length oc) (b.length) (byteVs b)] ((w4.alloc (.cells #[.int .i64 px.k, .int .i64 px.e, .int .i64 px.a, .slice ta px.d.length tc] 41))) := (H4.allocAt (w4.heap.size) [.int .i64 px.k, .int .i64 px.e, .int .i64 px.a, .slice ta px.d.length tc] 41 (by simp))
  clear H4
  generalize (w4.alloc (.cells #[.int .i64 px.k, .int .i64 px.e, .int .i64 px.a, .slice ta px.d.length tc] 41)) = w5 at *
  have hrt := rtake09_any b ba bc w5 (H5.oldBytes HD.out)
  unfold RTake09R at hrt
  rw [HPP.out] at hrt
  simp only at hrt
  refine hrt.mono ?_
  clear hrt
  rintro en w6 ⟨rfl, hb6⟩
  have HBT6 := Lib.hid' (SlV.below HBT5.out (Nat.le_refl _) hb6)
  clear HBT5
  have H6 : Sep w NoF [.box (w4.heap.size) [.int .i64 px.k, .int .i64 px.e, .int .i64 px.a, .slice ta px.d.length tc] 41, .row 5 1 (.slice oa b.length oc) (b.length) (byteVs b)] (w6) := (H5.below hb6)
  clear H5 hb6
  unfold d9V
  go_wp2_with fail
  have HBT7 := Lib.hid' (SlV.below HBT6.out (Nat.le_refl _) (show Below w6.heap.size w6 (w6.alloc (.cells #[.int .i64 px.k, .int .i64 px.e, .int .i64 px.a, .string (strOf px.d)] 45)) by go_grown))
  clear HBT6
  have H7 : Sep w NoF [.box (w6.heap.size) [.int .i64 px.k, .int .i64 px.e, .int .i64 px.a, .string (strOf px.d)] 45, .box (w4.heap.size) [.int .i64 px.k, .int .i64 px.e, .int .i64 px.a, .slice ta px.d.length tc] 41, .row 5 1 (.slice oa b.length oc) (b.length) (byteVs b)] ((w6.alloc (.cells #[.int .i64 px.k, .int .i64 px.e, .int .i64 px.a, .string (strOf px.d)] 45))) := (H6.allocAt (w6.heap.size) [.int .i64 px.k, .int .i64 px.e, .int .i64 px.a, .string (strOf px.d)] 45 (by simp))
  clear H6
  generalize (w6.alloc (.cells #[.int .i64 px.k, .int .i64 px.e, .int .i64 px.a, .string (strOf px.d)] 45)) = w7 at *
  have HS0 : Sep w NoF [.box (w6.heap.size) [.int .i64 px.k, .int .i64 px.e, .int .i64 px.a, .string (strOf px.d)] 45, .box (w4.heap.size) [.int .i64 px.k, .int .i64 px.e, .int .i64 px.a, .slice ta px.d.length tc] 41, .row 5 1 (.slice oa b.length oc) (b.length) (byteVs b)] w7.drew := H7.drew
  have HQ0 := Lib.hid' (SlV.below HBT7.out (Nat.le_refl _) (show Below w7.heap.size w7 w7.drew from (Below.refl _ _).drew))
  clear HBT7
  go_cut [37] (fun v37 wc => v37 = .bool false ∧ Sep w NoF [.box (w6.heap.size) [.int .i64 px.k, .int .i64 px.e, .int .i64 px.a, .string (strOf px.d)] 45, .box (w4.heap.size) [.int .i64 px.k, .int .i64 px.e, .int .i64 px.a, .slice ta px.d.length tc] 41, .row 5 1 (.slice oa b.length oc) (b.length) (byteVs b)] wc)
  case first =>
    refine wp_region_held_drew (S := (fun w' => Sep w NoF [.box (w6.heap.size) [.int .i64 px.k, .int .i64 px.e, .int .i64 px.a, .string (strOf px.d)] 45, .box (w4.heap.size) [.int .i64 px.k, .int .i64 px.e, .int .i64 px.a, .slice ta px.d.length tc] 41, .row 5 1 (.slice oa b.length oc) (b.length) (byteVs b)] w')) (by kernel_rfl) HS0 (fun hH0 => ?_)
    refine wpAnyH_take (i := 0) (oi := _) (v := .agg #[.int .i64 px.k, .int .i64 px.e, .int .i64 px.a, .slice ta px.d.length tc]) rfl (by kernel_rfl) (by kernel_rfl) (by kernel_rfl) (fun _ _ _ h => h) (Or.inl ⟨by rfl, ?_⟩) hH0 ?_
    · intro w hSw; have q0 := hSw.cell 1 rfl 0 rfl; have q1 := hSw.cell 1 rfl 1 rfl; have q2 := hSw.cell 1 rfl 2 rfl; have q3 := hSw.cell 1 rfl 3 rfl; go_simp
    simp only [Act.put, List.getElem_toArray, List.getElem_cons_zero, List.getElem_cons_succ, List.setIfInBounds_toArray, List.set_cons_zero, List.set_cons_succ]
    refine wpAnyH_take (i := 2) (oi := _) (v := d9V px) rfl (by kernel_rfl) (by kernel_rfl) (by kernel_rfl) (fun _ _ _ h => h) (Or.inl ⟨by rfl, ?_⟩) hH0 ?_
    · intro w hSw; unfold d9V; have q0 := hSw.cell 0 rfl 0 rfl; have q1 := hSw.cell 0 rfl 1 rfl; have q2 := hSw.cell 0 rfl 2 rfl; have q3 := hSw.cell 0 rfl 3 rfl; go_simp
    simp only [Act.put, List.getElem_toArray, List.getElem_cons_zero, List.getElem_cons_succ, List.setIfInBounds_toArray, List.set_cons_zero, List.set_cons_succ]
    refine wpAnyH_ready (rs := [1]) (by kernel_rfl) (by simp) (AllReadyH.cons (o := _) rfl (fun K hK => ?_) AllReadyH.nil)
    go_simp
    refine (doc9_any px ta tc _ HQ0.out).mono ?_
    rintro en wc1 ⟨rfl, hbc⟩
    have HS1 : Sep w NoF [.box (w6.heap.size) [.int .i64 px.k, .int .i64 px.e, .int .i64 px.a, .string (strOf px.d)] 45, .box (w4.heap.size) [.int .i64 px.k, .int .i64 px.e, .int .i64 px.a, .slice ta px.d.length tc] 41, .row 5 1 (.slice oa b.length oc) (b.length) (byteVs b)] wc1 := HS0.below hbc
    clear hbc
    refine hK.out _ _ ?_ (fun hH1 => ?_)
    · exact HS1
    clear hK K
    refine wpAnyH_take (i := 3) (oi := _) (v := .bool false) rfl (by kernel_rfl) (by kernel_rfl) (by kernel_rfl) (fun _ _ _ h => h) (Or.inl ⟨by rfl, ?_⟩) hH1 ?_
    · intro w hSw; go_simp
    simp only [Act.put, List.getElem_toArray, List.getElem_cons_zero, List.getElem_cons_succ, List.setIfInBounds_toArray, List.set_cons_zero, List.set_cons_succ]
    refine wpAnyH_take (i := 4) (oi := _) (v := .bool false) rfl (by kernel_rfl) (by kernel_rfl) (by kernel_rfl) (fun _ _ _ h => h) (Or.inl ⟨by rfl, ?_⟩) hH1 ?_
    · intro w hSw; go_simp
    simp only [Act.put, List.getElem_toArray, List.getElem_cons_zero, List.getElem_cons_succ, List.setIfInBounds_toArray, List.set_cons_zero, List.set_cons_succ]
    refine wpAnyH_take (i := 5) (oi := _) (v := errV pn) rfl (by kernel_rfl) (by kernel_rfl) (by kernel_rfl) (fun _ _ _ h => h) (Or.inl ⟨by rfl, ?_⟩) hH1 ?_
    · intro w hSw; go_simp
    simp only [Act.put, List.getElem_toArray, List.getElem_cons_zero, List.getElem_cons_succ, List.setIfInBounds_toArray, List.set_cons_zero, List.set_cons_succ]
    refine wpAnyH_take (i := 7) (oi := _) (v := .int .i64 (pn : Int)) rfl (by kernel_rfl) (by kernel_rfl) (by kernel_rfl) (fun _ _ _ h => h) (Or.inl ⟨by rfl, ?_⟩) hH1 ?_
    · intro w hSw; go_simp
    simp only [Act.put, List.getElem_toArray, List.getElem_cons_zero, List.getElem_cons_succ, List.setIfInBounds_toArray, List.set_cons_zero, List.set_cons_succ]
    refine wpAnyH_ready (rs := [6]) (by kernel_rfl) (by simp) (AllReadyH.cons (o := _) rfl (fun K hK => ?_) AllReadyH.nil)
    go_simp
    refine (num_any pn _).mono ?_
    rintro en wc2 ⟨rfl, hwc⟩
    have HS2 : Sep w NoF [.box (w6.heap.size) [.int .i64 px.k, .int .i64 px.e, .int .i64 px.a, .string (strOf px.d)] 45, .box (w4.heap.size) [.int .i64 px.k, .int .i64 px.e, .int .i64 px.a, .slice ta px.d.length tc] 41, .row 5 1 (.slice oa b.length oc) (b.length) (byteVs b)] wc2 := hwc ▸ HS1
    clear hwc
    refine hK.out _ _ ?_ (fun hH2 => ?_)
    · exact HS2
    clear hK K
    refine wpAnyH_take (i := 8) (oi := _) (v := .bool false) rfl (by kernel_rfl) (by kernel_rfl) (by kernel_rfl) (fun _ _ _ h => h) (Or.inl ⟨by rfl, ?_⟩) hH2 ?_
    · intro w hSw; go_simp
    simp only [Act.put, List.getElem_toArray, List.getElem_cons_zero, List.getElem_cons_succ, List.setIfInBounds_toArray, List.set_cons_zero, List.set_cons_succ]
    refine wpAnyH_take (i := 9) (oi := _) (v := .bool false) rfl (by kernel_rfl) (by kernel_rfl) (by kernel_rfl) (fun _ _ _ h => h) (Or.inl ⟨by rfl, ?_⟩) hH2 ?_
    · intro w hSw; go_simp
    simp only [Act.put, List.getElem_toArray, List.getElem_cons_zero, List.getElem_cons_succ, List.setIfInBounds_toArray, List.set_cons_zero, List.set_cons_succ]
    refine wpAnyH_done (by kernel_rfl) ?_ _
    go_wp2_with fail
    go_meet
    exact ⟨rfl, HS2⟩
  case rest =>
  obtain ⟨rfl, H9⟩ := hcut
  clear HS0 HQ0 HPP H7
  obtain ⟨w9, hw9⟩ : ∃ w9, w9 = wc := ⟨_, rfl⟩
  rw [← hw9] at H9 ⊢
  clear hw9
  obtain ⟨q, hq⟩ : ∃ q, q = takeU b := ⟨_, rfl⟩
  have htk := takeu_all b oa oc w9 (SlV.of_own (H9.row 2 rfl))
  rw [← hq] at htk
  have HQQ := Lib.hid' hq.symm
  clear hq
  obtain ⟨qn, u⟩ := q
  simp only at htk
  have HTK := Lib.hid' htk
  clear htk
  go_wp2_with fail
  refine HTK.out.mono ?_
  clear HTK
  rintro en w10 ⟨bu, bm, rfl, hu, hb10⟩
  have HU := Lib.hid' hu
  clear hu
  have H8 : Sep w NoF [.box (w6.heap.size) [.int .i64 px.k, .int .i64 px.e, .int .i64 px.a, .string (strOf px.d)] 45, .box (w4.heap.size) [.int .i64 px.k, .int .i64 px.e, .int .i64 px.a, .slice ta px.d.length tc] 41, .row 5 1 (.slice oa b.length oc) (b.length) (byteVs b)] (w10) := (H9.below hb10)
  clear H9 hb10
  have hrt := rtakeu09_any b ba bc w10 (H8.oldBytes HD.out)
  rw [takeU_ref, HQQ.out] at hrt
  have HRT := Lib.hid' hrt
  clear hrt
  go_wp2_with fail
  refine HRT.out.mono ?_
  clear HRT
  rintro en w11 ⟨va, vc, rfl, hov, hb11⟩
  simp only at hov ⊢
  have HU11 := Lib.hid' (show qn = 0 → UnitAt (fun k => k = bu ∨ k = bm) w11 bu bm u from fun h => (HU.out h).below (Nat.le_refl _) hb11)
  clear HU
  have H9 : Sep w NoF [.row 126 3 (.slice va u.cells.length vc) (u.cells.length) (rents u.cells), .box (w6.heap.size) [.int .i64 px.k, .int .i64 px.e, .int .i64 px.a, .string (strOf px.d)] 45, .box (w4.heap.size) [.int .i64 px.k, .int .i64 px.e, .int .i64 px.a, .slice ta px.d.length tc] 41, .row 5 1 (.slice oa b.length oc) (b.length) (byteVs b)] (w11) := (H8.belowRow hb11 hov)
  clear H8 hb11 hov
  unfold ruV
  go_wp2_with fail
  have HU12 := Lib.hid' (show qn = 0 → UnitAt (fun k => k = bu ∨ k = bm) (w11.alloc (.cells #[.int .i64 u.e, .int .i64 u.l, .slice va u.cells.length vc] 54)) bu bm u from fun h => (HU11.out h).below (Nat.le_refl _) (show Below w11.heap.size w11 (w11.alloc (.cells #[.int .i64 u.e, .int .i64 u.l, .slice va u.cells.length vc] 54)) by go_grown))
  clear HU11
  have H10 : Sep w NoF [.box (w11.heap.size) [.int .i64 u.e, .int .i64 u.l, .slice va u.cells.length vc] 54, .row 126 3 (.slice va u.cells.length vc) (u.cells.length) (rents u.cells), .box (w6.heap.size) [.int .i64 px.k, .int .i64 px.e, .int .i64 px.a, .string (strOf px.d)] 45, .box (w4.heap.size) [.int .i64 px.k, .int .i64 px.e, .int .i64 px.a, .slice ta px.d.length tc] 41, .row 5 1 (.slice oa b.length oc) (b.length) (byteVs b)] ((w11.alloc (.cells #[.int .i64 u.e, .int .i64 u.l, .slice va u.cells.length vc] 54))) := (H9.allocAt (w11.heap.size) [.int .i64 u.e, .int .i64 u.l, .slice va u.cells.length vc] 54 (by simp))
  clear H9
  generalize (w11.alloc (.cells #[.int .i64 u.e, .int .i64 u.l, .slice va u.cells.length vc] 54)) = w12 at *
  refine (num_any qn _).mono ?_
  rintro en wz ⟨rfl, rfl⟩
  have HNB := Lib.hid' (numBytes_any _ _ b b w12 (SlV.of_own (H10.row 4 rfl)) (H10.oldBytes HD.out))
  rw [show (b == b) = true by simp] at HNB
  by_cases hq0 : qn = 0
  rotate_left
  · have hqb : ((qn : Int) != 0) = true := by rw [bne_iff_ne]; omega
    rw [show ptrIf qn bu = .pointer none from if_neg hq0]
    clear hq0
    go_wp2_with fail
    refine HNB.out.mono ?_
    rintro en wz ⟨rfl, rfl⟩
    go_upto_region 14 with fail
    have HS0 : Sep w NoF [.box (w11.heap.size) [.int .i64 u.e, .int .i64 u.l, .slice va u.cells.length vc] 54, .row 126 3 (.slice va u.cells.length vc) (u.cells.length) (rents u.cells), .box (w6.heap.size) [.int .i64 px.k, .int .i64 px.e, .int .i64 px.a, .string (strOf px.d)] 45, .box (w4.heap.size) [.int .i64 px.k, .int .i64 px.e, .int .i64 px.a, .slice ta px.d.length tc] 41, .row 5 1 (.slice oa b.length oc) (b.length) (byteVs b)] w12.drew := H10.drew
    refine wp_region_held_drew (S := (fun w' => Sep w NoF [.box (w11.heap.size) [.int .i64 u.e, .int .i64 u.l, .slice va u.cells.length vc] 54, .row 126 3 (.slice va u.cells.length vc) (u.cells.length) (rents u.cells), .box (w6.heap.size) [.int .i64 px.k, .int .i64 px.e, .int .i64 px.a, .string (strOf px.d)] 45, .box (w4.heap.size) [.int .i64 px.k, .int .i64 px.e, .int .i64 px.a, .slice ta px.d.length tc] 41, .row 5 1 (.slice oa b.length oc) (b.length) (byteVs b)] w')) (by kernel_rfl) HS0 (fun hH0 => ?_)
    refine wpAnyH_take (i := 0) (oi := _) (v := .pointer none) rfl (by kernel_rfl) (by kernel_rfl) (by kernel_rfl) (fun _ _ _ h => h) (Or.inl ⟨by rfl, ?_⟩) hH0 ?_
    · intro w hSw; go_simp
    simp only [Act.put, List.getElem_toArray, List.getElem_cons_zero, List.getElem_cons_succ, List.setIfInBounds_toArray, List.set_cons_zero, List.set_cons_succ]
    refine wpAnyH_take (i := 1) (oi := _) (v := .bool true) rfl (by kernel_rfl) (by kernel_rfl) (by kernel_rfl) (fun _ _ _ h => h) (Or.inl ⟨by rfl, ?_⟩) hH0 ?_
    · intro w hSw; go_simp
    simp only [Act.put, List.getElem_toArray, List.getElem_cons_zero, List.getElem_cons_succ, List.setIfInBounds_toArray, List.set_cons_zero, List.set_cons_succ]
    refine wpAnyH_take (i := 2) (oi := _) (v := .bool true) rfl (by kernel_rfl) (by kernel_rfl) (by kernel_rfl) (fun _ _ _ h => h) (Or.inl ⟨by rfl, ?_⟩) hH0 ?_
    · intro w hSw; go_simp
    simp only [Act.put, List.getElem_toArray, List.getElem_cons_zero, List.getElem_cons_succ, List.setIfInBounds_toArray, List.set_cons_zero, List.set_cons_succ]
    refine wpAnyH_take (i := 3) (oi := _) (v := undef) rfl (by kernel_rfl) (by kernel_rfl) (by kernel_rfl) (fun _ _ _ h => h) (Or.inr ⟨by kernel_rfl, rfl⟩) hH0 ?_
    simp only [Act.put, List.getElem_toArray, List.getElem_cons_zero, List.getElem_cons_succ, List.setIfInBounds_toArray, List.set_cons_zero, List.set_cons_succ]
    refine wpAnyH_take (i := 4) (oi := _) (v := undef) rfl (by kernel_rfl) (by kernel_rfl) (by kernel_rfl) (fun _ _ _ h => h) (Or.inr ⟨by kernel_rfl, rfl⟩) hH0 ?_
    simp only [Act.put, List.getElem_toArray, List.getElem_cons_zero, List.getElem_cons_succ, List.setIfInBounds_toArray, List.set_cons_zero, List.set_cons_succ]
    refine wpAnyH_take (i := 5) (oi := _) (v := undef) rfl (by kernel_rfl) (by kernel_rfl) (by kernel_rfl) (fun _ _ _ h => h) (Or.inr ⟨by kernel_rfl, rfl⟩) hH0 ?_
    simp only [Act.put, List.getElem_toArray, List.getElem_cons_zero, List.getElem_cons_succ, List.setIfInBounds_toArray, List.set_cons_zero, List.set_cons_succ]
    refine wpAnyH_take (i := 6) (oi := _) (v := undef) rfl (by kernel_rfl) (by kernel_rfl) (by kernel_rfl) (fun _ _ _ h => h) (Or.inr ⟨by kernel_rfl, rfl⟩) hH0 ?_
    simp only [Act.put, List.getElem_toArray, List.getElem_cons_zero, List.getElem_cons_succ, List.setIfInBounds_toArray, List.set_cons_zero, List.set_cons_succ]
    refine wpAnyH_take (i := 7) (oi := _) (v := .bool true) rfl (by kernel_rfl) (by kernel_rfl) (by kernel_rfl) (fun _ _ _ h => h) (Or.inl ⟨by rfl, ?_⟩) hH0 ?_
    · intro w hSw; go_simp
    simp only [Act.put, List.getElem_toArray, List.getElem_cons_zero, List.getElem_cons_succ, List.setIfInBounds_toArray, List.set_cons_zero, List.set_cons_succ]
    refine wpAnyH_take (i := 8) (oi := _) (v := .bool true) rfl (by kernel_rfl) (by kernel_rfl) (by kernel_rfl) (fun _ _ _ h => h) (Or.inl ⟨by rfl, ?_⟩) hH0 ?_
    · intro w hSw; go_simp
    simp only [Act.put, List.getElem_toArray, List.getElem_cons_zero, List.getElem_cons_succ, List.setIfInBounds_toArray, List.set_cons_zero, List.set_cons_succ]
    refine wpAnyH_done (by kernel_rfl) ?_ _
    go_wp2
    go_ret
    exact ⟨rfl, HS0.toBelow⟩
  subst hq0
  rw [show ptrIf 0 bu = .pointer (some ⟨bu, 0, none⟩) from rfl]
  obtain ⟨g1, g2, g3, g4⟩ := takeU_ok HQQ.out
  have HSC := Lib.hid' (show sortC u.cells = u.cells from by have := of_doc g1; unfold U.doc at this; simpa using this)
  have HUU := Lib.hid' (HU12.out rfl)
  clear HU12 g1 g2 g3
  go_wp2_with fail
  refine HNB.out.mono ?_
  rintro en wz ⟨rfl, rfl⟩
  go_upto_region 14 with fail
  have HS0 : Sep w NoF [.box (w11.heap.size) [.int .i64 u.e, .int .i64 u.l, .slice va u.cells.length vc] 54, .row 126 3 (.slice va u.cells.length vc) (u.cells.length) (rents u.cells), .box (w6.heap.size) [.int .i64 px.k, .int .i64 px.e, .int .i64 px.a, .string (strOf px.d)] 45, .box (w4.heap.size) [.int .i64 px.k, .int .i64 px.e, .int .i64 px.a, .slice ta px.d.length tc] 41, .row 5 1 (.slice oa b.length oc) (b.length) (byteVs b)] w12.drew := H10.drew
  have HU0 := Lib.hid' (HUU.out.below (Nat.le_refl _) (show Below w12.heap.size w12 w12.drew from (Below.refl _ _).drew))
  refine wp_region_held_drew (S := (fun w' => Sep w NoF [.box (w11.heap.size) [.int .i64 u.e, .int .i64 u.l, .slice va u.cells.length vc] 54, .row 126 3 (.slice va u.cells.length vc) (u.cells.length) (rents u.cells), .box (w6.heap.size) [.int .i64 px.k, .int .i64 px.e, .int .i64 px.a, .string (strOf px.d)] 45, .box (w4.heap.size) [.int .i64 px.k, .int .i64 px.e, .int .i64 px.a, .slice ta px.d.length tc] 41, .row 5 1 (.slice oa b.length oc) (b.length) (byteVs b)] w')) (by kernel_rfl) HS0 (fun hH0 => ?_)
  refine wpAnyH_take (i := 0) (oi := _) (v := .pointer (some ⟨bu, 0, none⟩)) rfl (by kernel_rfl) (by kernel_rfl) (by kernel_rfl) (fun _ _ _ h => h) (Or.inl ⟨by rfl, ?_⟩) hH0 ?_
  · intro w hSw; go_simp
  simp only [Act.put, List.getElem_toArray, List.getElem_cons_zero, List.getElem_cons_succ, List.setIfInBounds_toArray, List.set_cons_zero, List.set_cons_succ]
  refine wpAnyH_take (i := 1) (oi := _) (v := .bool false) rfl (by kernel_rfl) (by kernel_rfl) (by kernel_rfl) (fun _ _ _ h => h) (Or.inl ⟨by rfl, ?_⟩) hH0 ?_
  · intro w hSw; go_simp
  simp only [Act.put, List.getElem_toArray, List.getElem_cons_zero, List.getElem_cons_succ, List.setIfInBounds_toArray, List.set_cons_zero, List.set_cons_succ]
  refine wpAnyH_take (i := 2) (oi := _) (v := .bool false) rfl (by kernel_rfl) (by kernel_rfl) (by kernel_rfl) (fun _ _ _ h => h) (Or.inl ⟨by rfl, ?_⟩) hH0 ?_
  · intro w hSw; go_simp
  simp only [Act.put, List.getElem_toArray, List.getElem_cons_zero, List.getElem_cons_succ, List.setIfInBounds_toArray, List.set_cons_zero, List.set_cons_succ]
  refine wpAnyH_take (i := 3) (oi := _) (v := .pointer (some ⟨bu, 0, none⟩)) rfl (by kernel_rfl) (by kernel_rfl) (by kernel_rfl) (fun _ _ _ h => h) (Or.inl ⟨by rfl, ?_⟩) hH0 ?_
  · intro w hSw; go_simp
  simp only [Act.put, List.getElem_toArray, List.getElem_cons_zero, List.getElem_cons_succ, List.setIfInBounds_toArray, List.set_cons_zero, List.set_cons_succ]
  refine wpAnyH_take (i := 5) (oi := _) (v := .agg #[.int .i64 u.e, .int .i64 u.l, .slice va u.cells.length vc]) rfl (by kernel_rfl) (by kernel_rfl) (by kernel_rfl) (fun _ _ _ h => h) (Or.inl ⟨by rfl, ?_⟩) hH0 ?_
  · intro w hSw; have q0 := hSw.cell 0 rfl 0 rfl; have q1 := hSw.cell 0 rfl 1 rfl; have q2 := hSw.cell 0 rfl 2 rfl; go_simp
  simp only [Act.put, List.getElem_toArray, List.getElem_cons_zero, List.getElem_cons_succ, List.setIfInBounds_toArray, List.set_cons_zero, List.set_cons_succ]
  refine wpAnyH_ready (rs := [4]) (by kernel_rfl) (by simp) (AllReadyH.cons (o := _) rfl (fun K hK => ?_) AllReadyH.nil)
  go_simp
  have hdc := doc_any _ HU0.out (by omega)
  unfold DocR at hdc
  rw [HSC.out] at hdc
  refine hdc.mono ?_
  clear hdc
  rintro en wc1 ⟨xa, xc, rfl, hox, hbc⟩
  have HRX := Lib.hid' (show RList wc1 (.slice xa u.cells.length xc) u.cells from SlV.of_own hox)
  have HS1 : Sep w NoF [.box (w11.heap.size) [.int .i64 u.e, .int .i64 u.l, .slice va u.cells.length vc] 54, .row 126 3 (.slice va u.cells.length vc) (u.cells.length) (rents u.cells), .box (w6.heap.size) [.int .i64 px.k, .int .i64 px.e, .int .i64 px.a, .string (strOf px.d)] 45, .box (w4.heap.size) [.int .i64 px.k, .int .i64 px.e, .int .i64 px.a, .slice ta px.d.length tc] 41, .row 5 1 (.slice oa b.length oc) (b.length) (byteVs b)] wc1 := HS0.below hbc
  clear hbc hox
  refine hK.out _ _ ?_ (fun hH1 => ?_)
  · exact HS1
  clear hK K
  refine wpAnyH_ready (rs := [6]) (by kernel_rfl) (by simp) (AllReadyH.cons (o := _) rfl (fun K hK => ?_) AllReadyH.nil)
  go_simp
  have hsm := rSame_any u u xa xc va vc _ HRX.out (show RList _ (.slice va u.cells.length vc) u.cells from SlV.of_own (HS1.row 1 rfl))
  rw [rSame_rfl] at hsm
  refine hsm.mono ?_
  clear hsm
  rintro en wc2 ⟨rfl, hbc⟩
  have HS2 : Sep w NoF [.box (w11.heap.size) [.int .i64 u.e, .int .i64 u.l, .slice va u.cells.length vc] 54, .row 126 3 (.slice va u.cells.length vc) (u.cells.length) (rents u.cells), .box (w6.heap.size) [.int .i64 px.k, .int .i64 px.e, .int .i64 px.a, .string (strOf px.d)] 45, .box (w4.heap.size) [.int .i64 px.k, .int .i64 px.e, .int .i64 px.a, .slice ta px.d.length tc] 41, .row 5 1 (.slice oa b.length oc) (b.length) (byteVs b)] wc2 := HS1.below hbc
  clear hbc
  refine hK.out _ _ ?_ (fun hH2 => ?_)
  · exact HS2
  clear hK K
  refine wpAnyH_take (i := 7) (oi := _) (v := .bool true) rfl (by kernel_rfl) (by kernel_rfl) (by kernel_rfl) (fun _ _ _ h => h) (Or.inl ⟨by rfl, ?_⟩) hH2 ?_
  · intro w hSw; go_simp
  simp only [Act.put, List.getElem_toArray, List.getElem_cons_zero, List.getElem_cons_succ, List.setIfInBounds_toArray, List.set_cons_zero, List.set_cons_succ]
  refine wpAnyH_take (i := 8) (oi := _) (v := .bool true) rfl (by kernel_rfl) (by kernel_rfl) (by kernel_rfl) (fun _ _ _ h => h) (Or.inl ⟨by rfl, ?_⟩) hH2 ?_
  · intro w hSw; go_simp
  simp only [Act.put, List.getElem_toArray, List.getElem_cons_zero, List.getElem_cons_succ, List.setIfInBounds_toArray, List.set_cons_zero, List.set_cons_succ]
  refine wpAnyH_done (by kernel_rfl) ?_ _
  go_wp2
  go_ret
  exact ⟨rfl, HS2.toBelow⟩
end Go.Proofs.YtkljeefncopodaaGreat
