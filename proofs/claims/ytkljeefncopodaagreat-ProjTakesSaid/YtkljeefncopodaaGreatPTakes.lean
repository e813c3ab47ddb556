/- The statement ProjTakes: its walk. -/
import Derived.Test.YtkljeefncopodaaGreatPrjL
import Derived.Test.YtkljeefncopodaaGreatPrjI
import Derived.Test.YtkljeefncopodaaGreatPrjV
namespace Go.Proofs.YtkljeefncopodaaGreat
open Go.RowKit
set_option linter.unusedSimpArgs false
set_option linter.unusedVariables false
set_option maxRecDepth 100000

theorem sameJ_eq (p : Pj) : sameJ p p = true := by simp [sameJ]
set_option maxHeartbeats 8000000 in
theorem projTakes_any (b : List UInt8) (ba : Option Addr) (bc : Nat) (e : Int) (a : Option Addr) (c : Nat) (X : List Ch) (f : Int) (a' : Option Addr) (c' : Nat) (Y : List Ch) (w : World) (hb : Bytes w (.slice ba b.length bc) b) (h : Chs w a c X) (h' : Chs w a' c' Y) :
    Calls Tryz.prog 3 #[.slice ba b.length bc, pjV e a c X, pjV f a' c' Y] w fun en w' => en = .returned (.bool true) ∧ Below w.heap.size w w' := by
  have HD := Lib.hid' hb
  have hbl := bytes_len hb
  have HX := Lib.hid' h
  have HY := Lib.hid' h'
  have hxl := h.len
  have hyl := h'.len
  clear h h' hb
  have HV := Lib.hid' (show pjV e a c X = .agg #[.int .i64 e, .slice a X.length c] from rfl)
  have HV2 := Lib.hid' (show pjV f a' c' Y = .agg #[.int .i64 f, .slice a' Y.length c'] from rfl)
  rw [HV.out, HV2.out]
  go_enter Tryz.func3, Tryz.ntmps3
  go_wp2_with fail
  have H0 : Sep w NoF [] w := Sep.start _
  have H1 : Sep w NoF [.box (w.heap.size + 1) [.int .i64 f, .slice a' Y.length c'] 25, .box (w.heap.size) [.int .i64 e, .slice a X.length c] 25] (((w.alloc (.cells #[.int .i64 e, .slice a X.length c] 25)).alloc (.cells #[.int .i64 f, .slice a' Y.length c'] 25))) := ((H0.allocAt (w.heap.size) [.int .i64 e, .slice a X.length c] 25 (by simp)).allocAt (w.heap.size + 1) [.int .i64 f, .slice a' Y.length c'] 25 (by simp))
  clear H0
  generalize ((w.alloc (.cells #[.int .i64 e, .slice a X.length c] 25)).alloc (.cells #[.int .i64 f, .slice a' Y.length c'] 25)) = w1 at *
  refine (alive11_any _).mono ?_
  rintro en w2 ⟨rfl, hb2⟩
  have H2 : Sep w NoF [.box (w.heap.size + 1) [.int .i64 f, .slice a' Y.length c'] 25, .box (w.heap.size) [.int .i64 e, .slice a X.length c] 25] (w2) := (H1.below hb2)
  clear H1 hb2
  have P1c0 := H2.cell 1 rfl 0 rfl
  have P1c1 := H2.cell 1 rfl 1 rfl
  have P1l := H2.lt 1 rfl
  have P2c0 := H2.cell 0 rfl 0 rfl
  have P2c1 := H2.cell 0 rfl 1 rfl
  have P2l := H2.lt 0 rfl
  by_cases h500 : 500 < b.length
  · go_wp2
    go_ret
    exact ⟨rfl, H2.toBelow⟩
  go_wp2_with fail
  refine (long11_any e a c X w2 (HX.out.below (Nat.le_refl _) H2.toBelow)).mono ?_
  rintro en w3 ⟨rfl, hb3⟩
  have H3 : Sep w NoF [.box (w.heap.size + 1) [.int .i64 f, .slice a' Y.length c'] 25, .box (w.heap.size) [.int .i64 e, .slice a X.length c] 25] (w3) := (H2.below hb3)
  clear P1c0 P1c1 P1l P2c0 P2c1 P2l
  clear H2 hb3
  have P1c0 := H3.cell 1 rfl 0 rfl
  have P1c1 := H3.cell 1 rfl 1 rfl
  have P1l := H3.lt 1 rfl
  have P2c0 := H3.cell 0 rfl 0 rfl
  have P2c1 := H3.cell 0 rfl 1 rfl
  have P2l := H3.lt 0 rfl
  cases hlo : long11 X with
  | true =>
    clear hlo
    go_wp2
    go_ret
    exact ⟨rfl, H3.toBelow⟩
  | false =>
  clear hlo
  go_wp2_with fail
  refine (long11_any f a' c' Y w3 (HY.out.below (Nat.le_refl _) H3.toBelow)).mono ?_
  rintro en w4 ⟨rfl, hb4⟩
  have H4 : Sep w NoF [.box (w.heap.size + 1) [.int .i64 f, .slice a' Y.length c'] 25, .box (w.heap.size) [.int .i64 e, .slice a X.length c] 25] (w4) := (H3.below hb4)
  clear P1c0 P1c1 P1l P2c0 P2c1 P2l
  clear H3 hb4
  have P1c0 := H4.cell 1 rfl 0 rfl
  have P1c1 := H4.cell 1 rfl 1 rfl
  have P1l := H4.lt 1 rfl
  have P2c0 := H4.cell 0 rfl 0 rfl
  have P2c1 := H4.cell 0 rfl 1 rfl
  have P2l := H4.lt 0 rfl
  cases hlo : long11 Y with
  | true =>
    clear hlo
    go_wp2
    go_ret
    exact ⟨rfl, H4.toBelow⟩
  | false =>
  clear hlo
  obtain ⟨⟨er, pj⟩, hr⟩ : ∃ r, r = Pj.take b := ⟨_, rfl⟩
  have HR := Lib.hid' hr
  clear hr
  go_wp2_with fail
  have htk := ptake_any b ba bc w4 (SlV.below HD.out (Nat.le_refl _) H4.toBelow)
  rw [← HR.out] at htk
  refine htk.mono ?_
  clear htk
  rintro en w5 ⟨e6, a6, c6, K6, rfl, hd6, ho6, hb6⟩
  have HD6 := Lib.hid' (show docJ e6 K6 = pj from hd6)
  clear hd6
  have H5 : Sep w NoF [Asn.all (K6.map chA), .row 81 1 (.slice a6 K6.length c6) (K6.length) (K6.map chV), .box (w.heap.size + 1) [.int .i64 f, .slice a' Y.length c'] 25, .box (w.heap.size) [.int .i64 e, .slice a X.length c] 25] (w5) := (H4.pastJ hb6 ho6)
  clear P1c0 P1c1 P1l P2c0 P2c1 P2l
  clear H4 hb6 ho6
  unfold pjV
  go_wp2_with fail
  have H6 : Sep w NoF [.box (w5.heap.size) [.int .i64 e6, .slice a6 K6.length c6] 25, Asn.all (K6.map chA), .row 81 1 (.slice a6 K6.length c6) (K6.length) (K6.map chV), .box (w.heap.size + 1) [.int .i64 f, .slice a' Y.length c'] 25, .box (w.heap.size) [.int .i64 e, .slice a X.length c] 25] ((w5.alloc (.cells #[.int .i64 e6, .slice a6 K6.length c6] 25))) := (H5.allocAt (w5.heap.size) [.int .i64 e6, .slice a6 K6.length c6] 25 (by simp))
  clear H5
  generalize (w5.alloc (.cells #[.int .i64 e6, .slice a6 K6.length c6] 25)) = w6 at *
  have hrn := rtake11_any b ba bc w6 (SlV.below HD.out (Nat.le_refl _) H6.toBelow)
  rw [Pj.take_ref, ← HR.out] at hrn
  refine hrn.mono ?_
  clear hrn
  rintro en w7 ⟨e9, a9, c9, K9, rfl, hd9, ho9, hb9⟩
  have HSM := Lib.hid' (show sameJ (docJ e6 K6) (docJ e9 K9) = true by rw [HD6.out, show docJ e9 K9 = pj from hd9]; exact sameJ_eq _)
  clear hd9
  have H7 : Sep w NoF [Asn.all (K9.map chA), .row 81 1 (.slice a9 K9.length c9) (K9.length) (K9.map chV), .box (w5.heap.size) [.int .i64 e6, .slice a6 K6.length c6] 25, Asn.all (K6.map chA), .row 81 1 (.slice a6 K6.length c6) (K6.length) (K6.map chV), .box (w.heap.size + 1) [.int .i64 f, .slice a' Y.length c'] 25, .box (w.heap.size) [.int .i64 e, .slice a X.length c] 25] (w7) := (H6.pastJ hb9 ho9)
  clear H6 hb9 ho9
  unfold pjV
  go_wp2_with fail
  have H8 : Sep w NoF [.box (w7.heap.size) [.int .i64 e9, .slice a9 K9.length c9] 32, Asn.all (K9.map chA), .row 81 1 (.slice a9 K9.length c9) (K9.length) (K9.map chV), .box (w5.heap.size) [.int .i64 e6, .slice a6 K6.length c6] 25, Asn.all (K6.map chA), .row 81 1 (.slice a6 K6.length c6) (K6.length) (K6.map chV), .box (w.heap.size + 1) [.int .i64 f, .slice a' Y.length c'] 25, .box (w.heap.size) [.int .i64 e, .slice a X.length c] 25] ((w7.alloc (.cells #[.int .i64 e9, .slice a9 K9.length c9] 32))) := (H7.allocAt (w7.heap.size) [.int .i64 e9, .slice a9 K9.length c9] 32 (by simp))
  clear H7
  generalize (w7.alloc (.cells #[.int .i64 e9, .slice a9 K9.length c9] 32)) = w8 at *
  obtain ⟨sv, hsv⟩ : ∃ sv, sv = sameJ (docJ e X) (docJ f Y) := ⟨_, rfl⟩
  have HSV := Lib.hid' hsv
  clear hsv
  have HS0 : Sep w NoF [.box (w7.heap.size) [.int .i64 e9, .slice a9 K9.length c9] 32, Asn.all (K9.map chA), .row 81 1 (.slice a9 K9.length c9) (K9.length) (K9.map chV), .box (w5.heap.size) [.int .i64 e6, .slice a6 K6.length c6] 25, Asn.all (K6.map chA), .row 81 1 (.slice a6 K6.length c6) (K6.length) (K6.map chV), .box (w.heap.size + 1) [.int .i64 f, .slice a' Y.length c'] 25, .box (w.heap.size) [.int .i64 e, .slice a X.length c] 25] w8.drew := H8.drew
  refine wp_region_held_drew (S := (fun w' => Sep w NoF [.box (w7.heap.size) [.int .i64 e9, .slice a9 K9.length c9] 32, Asn.all (K9.map chA), .row 81 1 (.slice a9 K9.length c9) (K9.length) (K9.map chV), .box (w5.heap.size) [.int .i64 e6, .slice a6 K6.length c6] 25, Asn.all (K6.map chA), .row 81 1 (.slice a6 K6.length c6) (K6.length) (K6.map chV), .box (w.heap.size + 1) [.int .i64 f, .slice a' Y.length c'] 25, .box (w.heap.size) [.int .i64 e, .slice a X.length c] 25] w')) (by kernel_rfl) HS0 (fun hH0 => ?_)
  refine wpAnyH_take (i := 0) (oi := _) (v := .agg #[.int .i64 e6, .slice a6 K6.length c6]) rfl (by kernel_rfl) (by kernel_rfl) (by kernel_rfl) (fun _ _ _ h => h) (Or.inl ⟨by rfl, ?_⟩) hH0 ?_
  · intro w hSw; have q0 := hSw.cell 3 rfl 0 rfl; have q1 := hSw.cell 3 rfl 1 rfl; go_simp
  simp only [Act.put, List.getElem_toArray, List.getElem_cons_zero, List.getElem_cons_succ, List.setIfInBounds_toArray, List.set_cons_zero, List.set_cons_succ]
  refine wpAnyH_take (i := 2) (oi := _) (v := .agg #[.int .i64 e9, .slice a9 K9.length c9]) rfl (by kernel_rfl) (by kernel_rfl) (by kernel_rfl) (fun _ _ _ h => h) (Or.inl ⟨by rfl, ?_⟩) hH0 ?_
  · intro w hSw; have q0 := hSw.cell 0 rfl 0 rfl; have q1 := hSw.cell 0 rfl 1 rfl; go_simp
  simp only [Act.put, List.getElem_toArray, List.getElem_cons_zero, List.getElem_cons_succ, List.setIfInBounds_toArray, List.set_cons_zero, List.set_cons_succ]
  refine wpAnyH_ready (rs := [1]) (by kernel_rfl) (by simp) (AllReadyH.cons (o := _) rfl (fun K hK => ?_) AllReadyH.nil)
  go_simp
  refine (doc11_any e6 a6 c6 K6 _).mono ?_
  rintro en wc1 ⟨rfl, hbc⟩
  have HS1 : Sep w NoF [.box (w7.heap.size) [.int .i64 e9, .slice a9 K9.length c9] 32, Asn.all (K9.map chA), .row 81 1 (.slice a9 K9.length c9) (K9.length) (K9.map chV), .box (w5.heap.size) [.int .i64 e6, .slice a6 K6.length c6] 25, Asn.all (K6.map chA), .row 81 1 (.slice a6 K6.length c6) (K6.length) (K6.map chV), .box (w.heap.size + 1) [.int .i64 f, .slice a' Y.length c'] 25, .box (w.heap.size) [.int .i64 e, .slice a X.length c] 25] wc1 := HS0.below hbc
  clear hbc
  refine hK.out _ _ ?_ (fun hH1 => ?_)
  · exact HS1
  clear hK K
  refine wpAnyH_ready (rs := [3]) (by kernel_rfl) (by simp) (AllReadyH.cons (o := _) rfl (fun K hK => ?_) AllReadyH.nil)
  go_simp
  have hsm := rsame11_any e6 e9 a6 a9 c6 c9 K6 K9 _ (HS1.chs 4 5 rfl rfl) (HS1.chs 1 2 rfl rfl)
  rw [HSM.out] at hsm
  refine (hsm).mono ?_
  rintro en wc2 ⟨rfl, hbc⟩
  have HS2 : Sep w NoF [.box (w7.heap.size) [.int .i64 e9, .slice a9 K9.length c9] 32, Asn.all (K9.map chA), .row 81 1 (.slice a9 K9.length c9) (K9.length) (K9.map chV), .box (w5.heap.size) [.int .i64 e6, .slice a6 K6.length c6] 25, Asn.all (K6.map chA), .row 81 1 (.slice a6 K6.length c6) (K6.length) (K6.map chV), .box (w.heap.size + 1) [.int .i64 f, .slice a' Y.length c'] 25, .box (w.heap.size) [.int .i64 e, .slice a X.length c] 25] wc2 := HS1.below hbc
  clear hbc
  refine hK.out _ _ ?_ (fun hH2 => ?_)
  · exact HS2
  clear hK K
  refine wpAnyH_take (i := 4) (oi := _) (v := .bool true) rfl (by kernel_rfl) (by kernel_rfl) (by kernel_rfl) (fun _ _ _ h => h) (Or.inl ⟨by rfl, ?_⟩) hH2 ?_
  · intro w hSw; go_simp
  simp only [Act.put, List.getElem_toArray, List.getElem_cons_zero, List.getElem_cons_succ, List.setIfInBounds_toArray, List.set_cons_zero, List.set_cons_succ]
  refine wpAnyH_take (i := 5) (oi := _) (v := errV er) rfl (by kernel_rfl) (by kernel_rfl) (by kernel_rfl) (fun _ _ _ h => h) (Or.inl ⟨by rfl, ?_⟩) hH2 ?_
  · intro w hSw; go_simp
  simp only [Act.put, List.getElem_toArray, List.getElem_cons_zero, List.getElem_cons_succ, List.setIfInBounds_toArray, List.set_cons_zero, List.set_cons_succ]
  refine wpAnyH_take (i := 7) (oi := _) (v := .int .i64 (er : Int)) rfl (by kernel_rfl) (by kernel_rfl) (by kernel_rfl) (fun _ _ _ h => h) (Or.inl ⟨by rfl, ?_⟩) hH2 ?_
  · intro w hSw; go_simp
  simp only [Act.put, List.getElem_toArray, List.getElem_cons_zero, List.getElem_cons_succ, List.setIfInBounds_toArray, List.set_cons_zero, List.set_cons_succ]
  refine wpAnyH_ready (rs := [6]) (by kernel_rfl) (by simp) (AllReadyH.cons (o := _) rfl (fun K hK => ?_) AllReadyH.nil)
  go_simp
  refine (num_any er _).mono ?_
  rintro en wc3 ⟨rfl, hwc⟩
  have HS3 : Sep w NoF [.box (w7.heap.size) [.int .i64 e9, .slice a9 K9.length c9] 32, Asn.all (K9.map chA), .row 81 1 (.slice a9 K9.length c9) (K9.length) (K9.map chV), .box (w5.heap.size) [.int .i64 e6, .slice a6 K6.length c6] 25, Asn.all (K6.map chA), .row 81 1 (.slice a6 K6.length c6) (K6.length) (K6.map chV), .box (w.heap.size + 1) [.int .i64 f, .slice a' Y.length c'] 25, .box (w.heap.size) [.int .i64 e, .slice a X.length c] 25] wc3 := hwc ▸ HS2
  clear hwc
  refine hK.out _ _ ?_ (fun hH3 => ?_)
  · exact HS3
  clear hK K
  refine wpAnyH_take (i := 8) (oi := _) (v := .bool true) rfl (by kernel_rfl) (by kernel_rfl) (by kernel_rfl) (fun _ _ _ h => h) (Or.inl ⟨by rfl, ?_⟩) hH3 ?_
  · intro w hSw; go_simp
  simp only [Act.put, List.getElem_toArray, List.getElem_cons_zero, List.getElem_cons_succ, List.setIfInBounds_toArray, List.set_cons_zero, List.set_cons_succ]
  refine wpAnyH_take (i := 9) (oi := _) (v := .bool true) rfl (by kernel_rfl) (by kernel_rfl) (by kernel_rfl) (fun _ _ _ h => h) (Or.inl ⟨by rfl, ?_⟩) hH3 ?_
  · intro w hSw; go_simp
  simp only [Act.put, List.getElem_toArray, List.getElem_cons_zero, List.getElem_cons_succ, List.setIfInBounds_toArray, List.set_cons_zero, List.set_cons_succ]
  refine wpAnyH_take (i := 10) (oi := _) (v := .bool true) rfl (by kernel_rfl) (by kernel_rfl) (by kernel_rfl) (fun _ _ _ h => h) (Or.inl ⟨by rfl, ?_⟩) hH3 ?_
  · intro w hSw; go_simp
  simp only [Act.put, List.getElem_toArray, List.getElem_cons_zero, List.getElem_cons_succ, List.setIfInBounds_toArray, List.set_cons_zero, List.set_cons_succ]
  refine wpAnyH_take (i := 11) (oi := _) (v := .agg #[.int .i64 e, .slice a X.length c]) rfl (by kernel_rfl) (by kernel_rfl) (by kernel_rfl) (fun _ _ _ h => h) (Or.inl ⟨by rfl, ?_⟩) hH3 ?_
  · intro w hSw; have q0 := hSw.cell 7 rfl 0 rfl; have q1 := hSw.cell 7 rfl 1 rfl; go_simp
  simp only [Act.put, List.getElem_toArray, List.getElem_cons_zero, List.getElem_cons_succ, List.setIfInBounds_toArray, List.set_cons_zero, List.set_cons_succ]
  refine wpAnyH_take (i := 12) (oi := _) (v := .agg #[.int .i64 f, .slice a' Y.length c']) rfl (by kernel_rfl) (by kernel_rfl) (by kernel_rfl) (fun _ _ _ h => h) (Or.inl ⟨by rfl, ?_⟩) hH3 ?_
  · intro w hSw; have q0 := hSw.cell 6 rfl 0 rfl; have q1 := hSw.cell 6 rfl 1 rfl; go_simp
  simp only [Act.put, List.getElem_toArray, List.getElem_cons_zero, List.getElem_cons_succ, List.setIfInBounds_toArray, List.set_cons_zero, List.set_cons_succ]
  refine wpAnyH_take (i := 14) (oi := _) (v := .agg #[.int .i64 e, .slice a X.length c]) rfl (by kernel_rfl) (by kernel_rfl) (by kernel_rfl) (fun _ _ _ h => h) (Or.inl ⟨by rfl, ?_⟩) hH3 ?_
  · intro w hSw; have q0 := hSw.cell 7 rfl 0 rfl; have q1 := hSw.cell 7 rfl 1 rfl; go_simp
  simp only [Act.put, List.getElem_toArray, List.getElem_cons_zero, List.getElem_cons_succ, List.setIfInBounds_toArray, List.set_cons_zero, List.set_cons_succ]
  refine wpAnyH_take (i := 16) (oi := _) (v := .agg #[.int .i64 f, .slice a' Y.length c']) rfl (by kernel_rfl) (by kernel_rfl) (by kernel_rfl) (fun _ _ _ h => h) (Or.inl ⟨by rfl, ?_⟩) hH3 ?_
  · intro w hSw; have q0 := hSw.cell 6 rfl 0 rfl; have q1 := hSw.cell 6 rfl 1 rfl; go_simp
  simp only [Act.put, List.getElem_toArray, List.getElem_cons_zero, List.getElem_cons_succ, List.setIfInBounds_toArray, List.set_cons_zero, List.set_cons_succ]
  refine wpAnyH_ready (rs := [13]) (by kernel_rfl) (by simp) (AllReadyH.cons (o := _) rfl (fun K hK => ?_) AllReadyH.nil)
  go_simp
  have hsm2 := psame_any e f a a' c c' X Y _ (HX.out.below (Nat.le_refl _) HS3.toBelow) (HY.out.below (Nat.le_refl _) HS3.toBelow)
  rw [← HSV.out] at hsm2
  refine (hsm2).mono ?_
  rintro en wc4 ⟨rfl, hbc⟩
  have HS4 : Sep w NoF [.box (w7.heap.size) [.int .i64 e9, .slice a9 K9.length c9] 32, Asn.all (K9.map chA), .row 81 1 (.slice a9 K9.length c9) (K9.length) (K9.map chV), .box (w5.heap.size) [.int .i64 e6, .slice a6 K6.length c6] 25, Asn.all (K6.map chA), .row 81 1 (.slice a6 K6.length c6) (K6.length) (K6.map chV), .box (w.heap.size + 1) [.int .i64 f, .slice a' Y.length c'] 25, .box (w.heap.size) [.int .i64 e, .slice a X.length c] 25] wc4 := HS3.below hbc
  clear hbc
  refine hK.out _ _ ?_ (fun hH4 => ?_)
  · exact HS4
  clear hK K
  refine wpAnyH_ready (rs := [15]) (by kernel_rfl) (by simp) (AllReadyH.cons (o := _) rfl (fun K hK => ?_) AllReadyH.nil)
  go_simp
  refine (doc11_any e a c X _).mono ?_
  rintro en wc5 ⟨rfl, hbc⟩
  have HS5 : Sep w NoF [.box (w7.heap.size) [.int .i64 e9, .slice a9 K9.length c9] 32, Asn.all (K9.map chA), .row 81 1 (.slice a9 K9.length c9) (K9.length) (K9.map chV), .box (w5.heap.size) [.int .i64 e6, .slice a6 K6.length c6] 25, Asn.all (K6.map chA), .row 81 1 (.slice a6 K6.length c6) (K6.length) (K6.map chV), .box (w.heap.size + 1) [.int .i64 f, .slice a' Y.length c'] 25, .box (w.heap.size) [.int .i64 e, .slice a X.length c] 25] wc5 := HS4.below hbc
  clear hbc
  refine hK.out _ _ ?_ (fun hH5 => ?_)
  · exact HS5
  clear hK K
  refine wpAnyH_ready (rs := [17]) (by kernel_rfl) (by simp) (AllReadyH.cons (o := _) rfl (fun K hK => ?_) AllReadyH.nil)
  go_simp
  refine (doc11_any f a' c' Y _).mono ?_
  rintro en wc6 ⟨rfl, hbc⟩
  have HS6 : Sep w NoF [.box (w7.heap.size) [.int .i64 e9, .slice a9 K9.length c9] 32, Asn.all (K9.map chA), .row 81 1 (.slice a9 K9.length c9) (K9.length) (K9.map chV), .box (w5.heap.size) [.int .i64 e6, .slice a6 K6.length c6] 25, Asn.all (K6.map chA), .row 81 1 (.slice a6 K6.length c6) (K6.length) (K6.map chV), .box (w.heap.size + 1) [.int .i64 f, .slice a' Y.length c'] 25, .box (w.heap.size) [.int .i64 e, .slice a X.length c] 25] wc6 := HS5.below hbc
  clear hbc
  refine hK.out _ _ ?_ (fun hH6 => ?_)
  · exact HS6
  clear hK K
  refine wpAnyH_ready (rs := [18]) (by kernel_rfl) (by simp) (AllReadyH.cons (o := _) rfl (fun K hK => ?_) AllReadyH.nil)
  go_simp
  have hsm3 := rsame11_any e f a a' c c' X Y _ (HX.out.below (Nat.le_refl _) HS6.toBelow) (HY.out.below (Nat.le_refl _) HS6.toBelow)
  rw [← HSV.out] at hsm3
  refine (hsm3).mono ?_
  rintro en wc7 ⟨rfl, hbc⟩
  have HS7 : Sep w NoF [.box (w7.heap.size) [.int .i64 e9, .slice a9 K9.length c9] 32, Asn.all (K9.map chA), .row 81 1 (.slice a9 K9.length c9) (K9.length) (K9.map chV), .box (w5.heap.size) [.int .i64 e6, .slice a6 K6.length c6] 25, Asn.all (K6.map chA), .row 81 1 (.slice a6 K6.length c6) (K6.length) (K6.map chV), .box (w.heap.size + 1) [.int .i64 f, .slice a' Y.length c'] 25, .box (w.heap.size) [.int .i64 e, .slice a X.length c] 25] wc7 := HS6.below hbc
  clear hbc
  refine hK.out _ _ ?_ (fun hH7 => ?_)
  · exact HS7
  clear hK K
  refine wpAnyH_take (i := 19) (oi := _) (v := .bool true) rfl (by kernel_rfl) (by kernel_rfl) (by kernel_rfl) (fun _ _ _ h => h) (Or.inl ⟨by rfl, ?_⟩) hH7 ?_
  · intro w hSw; go_simp
  simp only [Act.put, List.getElem_toArray, List.getElem_cons_zero, List.getElem_cons_succ, List.setIfInBounds_toArray, List.set_cons_zero, List.set_cons_succ]
  refine wpAnyH_take (i := 20) (oi := _) (v := .bool true) rfl (by kernel_rfl) (by kernel_rfl) (by kernel_rfl) (fun _ _ _ h => h) (Or.inl ⟨by rfl, ?_⟩) hH7 ?_
  · intro w hSw; go_simp
  simp only [Act.put, List.getElem_toArray, List.getElem_cons_zero, List.getElem_cons_succ, List.setIfInBounds_toArray, List.set_cons_zero, List.set_cons_succ]
  refine wpAnyH_take (i := 21) (oi := _) (v := .bool true) rfl (by kernel_rfl) (by kernel_rfl) (by kernel_rfl) (fun _ _ _ h => h) (Or.inl ⟨by rfl, ?_⟩) hH7 ?_
  · intro w hSw; go_simp
  simp only [Act.put, List.getElem_toArray, List.getElem_cons_zero, List.getElem_cons_succ, List.setIfInBounds_toArray, List.set_cons_zero, List.set_cons_succ]
  refine wpAnyH_done (by kernel_rfl) ?_ _
  go_wp2
  go_ret
  exact ⟨rfl, HS7.toBelow⟩
end Go.Proofs.YtkljeefncopodaaGreat
