/- The statement ProjNexts: its walk. -/
import Derived.Test.YtjkbcjliaacebaaPrjL
import Derived.Test.YtjkbcjliaacebaaPrjX
namespace Go.Proofs.Ytjkbcjliaacebaa
open Go.RowKit
set_option linter.unusedSimpArgs false
set_option linter.unusedVariables false
set_option maxRecDepth 100000

theorem sameJ_self (p : Pj) : sameJ p p = true := by simp [sameJ]
set_option maxHeartbeats 8000000 in
theorem projNexts_any (e : Int) (a : Option Addr) (c : Nat) (X : List Ch) (D S : List Int) (da sa : Option Addr) (dc sc : Nat) (w : World) (h : Chs w a c X)
    (hD : Zs w (.slice da D.length dc) D) (hS : Zs w (.slice sa S.length sc) S) :
    Calls Try.prog 3 #[pjV e a c X, .slice da D.length dc, .slice sa S.length sc] w fun en w' => en = .returned (.bool true) ∧ Below w.heap.size w w' := by
  have HS := Lib.hid' h
  have hlen := h.len
  have HD := Lib.hid' hD
  have HSP := Lib.hid' hS
  have hDl := hD.len
  have hSl := hS.len
  clear h hD hS
  have HV := Lib.hid' (show pjV e a c X = .agg #[.int .i64 e, .slice a X.length c] from rfl)
  rw [HV.out]
  go_enter Try.func3, Try.ntmps3
  go_wp2_with fail
  refine (alive11_any _).mono ?_
  rintro en w2 ⟨rfl, hb2⟩
  have HB2 := Lib.hid' (show Below w.heap.size w w2 from below_call (by go_grown) (by simp) hb2)
  have hz2 : w.heap.size < w2.heap.size := by have := hb2.size; simp at this; omega
  have c20 := ((bcell hb2).1 w.heap.size 0 (by simp)).trans (show _ = some (.int .i64 e) by simp [go_sem])
  have c21 := ((bcell hb2).1 w.heap.size 1 (by simp)).trans (show _ = some (.slice a X.length c) by simp [go_sem])
  clear hb2
  go_wp2_with fail
  refine (long11_any e a c X w2 (HS.out.below (Nat.le_refl _) HB2.out)).mono ?_
  rintro en w3 ⟨rfl, hb3⟩
  have HB3 := Lib.hid' (HB2.out.trans (hb3.mono (by omega)))
  have hz3 : w.heap.size < w3.heap.size := Nat.lt_of_lt_of_le hz2 hb3.size
  have c30 := (hb3.cell (p := ⟨w.heap.size, 0, none⟩) hz2).trans c20
  have c31 := (hb3.cell (p := ⟨w.heap.size, 1, none⟩) hz2).trans c21
  clear hb3 c20 c21
  cases hlo : long11 X with
  | true =>
    clear hlo
    go_wp2
    go_ret
    exact ⟨rfl, HB3.out⟩
  | false =>
  have HFL := Lib.hid' (long11_flat hlo)
  clear hlo
  by_cases hd20 : 20 < D.length
  · go_wp2
    go_ret
    exact ⟨rfl, HB3.out⟩
  by_cases hs20 : 20 < S.length
  · go_wp2
    go_ret
    exact ⟨rfl, HB3.out⟩
  go_wp2_with fail
  refine (pcopy_any e a c X w3 (HS.out.below (Nat.le_refl _) HB3.out) (by have := HFL.out.2.1; omega) (fun x hx => by have := HFL.out.2.2 x hx; omega)).mono ?_
  rintro en w4 ⟨a2, c2, K0, rfl, ho4, hk4, hb4⟩
  have HJ4 := Lib.hid' ho4
  have HDOC := Lib.hid' (show docJ e K0 = docJ e X by unfold docJ; rw [hk4])
  have HFK := Lib.hid' (show (flatC K0).length ≤ 1099511627776 by unfold flatC; rw [hk4]; have := HFL.out.1; unfold flatC at this; omega)
  have HB4 := Lib.hid' (HB3.out.trans (hb4.mono (by omega)))
  have hz4 : w.heap.size < w4.heap.size := Nat.lt_of_lt_of_le hz3 hb4.size
  have c40 := (hb4.cell (p := ⟨w.heap.size, 0, none⟩) hz3).trans c30
  have c41 := (hb4.cell (p := ⟨w.heap.size, 1, none⟩) hz3).trans c31
  clear hb4 ho4 hk4 c30 c31 hz2 HB2 HB3
  unfold pjV
  go_wp2_with fail
  have HX5 := Lib.hid' (show BoxW w4.heap.size [.int .i64 e, .slice a2 K0.length c2] 24 (w4.alloc (.cells #[.int .i64 e, .slice a2 K0.length c2] 24)) from BoxW.start _ _ _)
  have hg5 : Below w4.heap.size w4 (w4.alloc (.cells #[.int .i64 e, .slice a2 K0.length c2] 24)) := by go_grown
  have HJ5 := Lib.hid' ((HJ4.out.below (Nat.le_refl _) hg5).base (B' := w.heap.size) (by omega))
  have HB5 := Lib.hid' (HB4.out.trans (hg5.mono (by omega)))
  have c50 := (hg5.cell (p := ⟨w.heap.size, 0, none⟩) hz4).trans c40
  have c51 := (hg5.cell (p := ⟨w.heap.size, 1, none⟩) hz4).trans c41
  have hz5 : w.heap.size < (w4.alloc (.cells #[.int .i64 e, .slice a2 K0.length c2] 24)).heap.size := Nat.lt_of_lt_of_le hz4 hg5.size
  clear hg5 c40 c41 HJ4 HB4 hz4
  generalize w4.alloc (.cells #[.int .i64 e, .slice a2 K0.length c2] 24) = w5 at *
  generalize w4.heap.size = No at *
  obtain ⟨⟨er, pj⟩, hr⟩ : ∃ r, r = (docJ e X).next D S := ⟨_, rfl⟩
  have HR := Lib.hid' hr
  clear hr
  have hnx := pnext_any e a2 c2 K0 D S da sa dc sc w5 HJ5.out.chs HFK.out (SlV.below HD.out (Nat.le_refl _) HB5.out) (SlV.below HSP.out (Nat.le_refl _) HB5.out)
  rw [HDOC.out, ← HR.out] at hnx
  refine hnx.mono ?_
  clear hnx
  rintro en w6 ⟨e6, a6, c6, K6, rfl, hd6, ho6, hb6⟩
  have HD6 := Lib.hid' (show docJ e6 K6 = pj from hd6)
  have HJ6 := Lib.hid' ho6
  have HX6 := Lib.hid' (HX5.out.below (Nat.le_refl _) hb6)
  have HJO6 := Lib.hid' (HJ5.out.below (Nat.le_refl _) hb6)
  have HB6 := Lib.hid' (HB5.out.trans (hb6.mono (by omega)))
  have c60 := (hb6.cell (p := ⟨w.heap.size, 0, none⟩) hz5).trans c50
  have c61 := (hb6.cell (p := ⟨w.heap.size, 1, none⟩) hz5).trans c51
  have hz6 : w.heap.size < w6.heap.size := Nat.lt_of_lt_of_le hz5 hb6.size
  have hz56 := hb6.size
  clear hb6 ho6 hd6 c50 c51 HJ5 HX5 HB5
  unfold pjV
  go_wp2_with fail
  have HN7 := Lib.hid' (show BoxW w6.heap.size [.int .i64 e6, .slice a6 K6.length c6] 24 (w6.alloc (.cells #[.int .i64 e6, .slice a6 K6.length c6] 24)) from BoxW.start _ _ _)
  have hg7 : Below w6.heap.size w6 (w6.alloc (.cells #[.int .i64 e6, .slice a6 K6.length c6] 24)) := by go_grown
  have HX7 := Lib.hid' (HX6.out.below (Nat.le_refl _) hg7)
  have HJO7 := Lib.hid' (HJO6.out.below (Nat.le_refl _) hg7)
  have HJ7 := Lib.hid' ((HJ6.out.below (Nat.le_refl _) hg7).base (B' := w.heap.size) (by omega))
  have HB7 := Lib.hid' (HB6.out.trans (hg7.mono (by omega)))
  have c70 := (hg7.cell (p := ⟨w.heap.size, 0, none⟩) hz6).trans c60
  have c71 := (hg7.cell (p := ⟨w.heap.size, 1, none⟩) hz6).trans c61
  have hz7 : w.heap.size < (w6.alloc (.cells #[.int .i64 e6, .slice a6 K6.length c6] 24)).heap.size := Nat.lt_of_lt_of_le hz6 hg7.size
  clear hg7 c60 c61 HX6 HJO6 HJ6 HB6 hz6 hz56
  generalize w6.alloc (.cells #[.int .i64 e6, .slice a6 K6.length c6] 24) = w7 at *
  generalize w6.heap.size = Nn at *
  refine (doc11_any e a c X w7).mono ?_
  rintro en w8 ⟨rfl, hb8⟩
  have HN8 := Lib.hid' (HN7.out.below (Nat.le_refl _) hb8)
  have HX8 := Lib.hid' (HX7.out.below (Nat.le_refl _) hb8)
  have HJO8 := Lib.hid' (HJO7.out.below (Nat.le_refl _) hb8)
  have HJ8 := Lib.hid' (HJ7.out.below (Nat.le_refl _) hb8)
  have HB8 := Lib.hid' (HB7.out.trans (hb8.mono (by omega)))
  have c80 := (hb8.cell (p := ⟨w.heap.size, 0, none⟩) hz7).trans c70
  have c81 := (hb8.cell (p := ⟨w.heap.size, 1, none⟩) hz7).trans c71
  have hz8 : w.heap.size < w8.heap.size := Nat.lt_of_lt_of_le hz7 hb8.size
  clear hb8 c70 c71 HN7 HX7 HJO7 HJ7 HB7 hz7 hz5
  unfold pjV
  go_wp2_with fail
  have hrn := rnext_any e a c X D S da sa dc sc w8 (HS.out.below (Nat.le_refl _) HB8.out) (by have := HFL.out.1; omega) (SlV.below HD.out (Nat.le_refl _) HB8.out) (SlV.below HSP.out (Nat.le_refl _) HB8.out) (by omega) (by omega)
  rw [Pj.next_ref, ← HR.out] at hrn
  refine hrn.mono ?_
  clear hrn
  rintro en w9 ⟨e9, a9, c9, K9, rfl, hd9, ho9, hb9⟩
  have HSM := Lib.hid' (show sameJ (docJ e6 K6) (docJ e9 K9) = true by rw [HD6.out, show docJ e9 K9 = pj from hd9]; exact sameJ_self _)
  have HN9 := Lib.hid' (HN8.out.below (Nat.le_refl _) hb9)
  have HX9 := Lib.hid' (HX8.out.below (Nat.le_refl _) hb9)
  have HJO9 := Lib.hid' (HJO8.out.below (Nat.le_refl _) hb9)
  have HJ9 := Lib.hid' (HJ8.out.below (Nat.le_refl _) hb9)
  have HW9 := Lib.hid' (ho9.base (B' := w.heap.size) (by omega))
  have HB9 := Lib.hid' (HB8.out.trans (hb9.mono (by omega)))
  have c90 := (hb9.cell (p := ⟨w.heap.size, 0, none⟩) hz8).trans c80
  have c91 := (hb9.cell (p := ⟨w.heap.size, 1, none⟩) hz8).trans c81
  have hz9 : w.heap.size < w9.heap.size := Nat.lt_of_lt_of_le hz8 hb9.size
  clear hb9 ho9 hd9 c80 c81 HN8 HX8 HJO8 HJ8 HB8 hz8
  unfold pjV
  go_wp2_with fail
  have HWB := Lib.hid' (show BoxW w9.heap.size [.int .i64 e9, .slice a9 K9.length c9] 33 (w9.alloc (.cells #[.int .i64 e9, .slice a9 K9.length c9] 33)) from BoxW.start _ _ _)
  have hg10 : Below w9.heap.size w9 (w9.alloc (.cells #[.int .i64 e9, .slice a9 K9.length c9] 33)) := by go_grown
  have HNA := Lib.hid' (HN9.out.below (Nat.le_refl _) hg10)
  have HXA := Lib.hid' (HX9.out.below (Nat.le_refl _) hg10)
  have HJOA := Lib.hid' (HJO9.out.below (Nat.le_refl _) hg10)
  have HJA := Lib.hid' (HJ9.out.below (Nat.le_refl _) hg10)
  have HWA := Lib.hid' (HW9.out.below (Nat.le_refl _) hg10)
  have HBA := Lib.hid' (HB9.out.trans (hg10.mono (by omega)))
  have HSA := Lib.hid' (HS.out.below (Nat.le_refl _) HBA.out)
  have p0 := (hg10.cell (p := ⟨w.heap.size, 0, none⟩) hz9).trans c90
  have p1 := (hg10.cell (p := ⟨w.heap.size, 1, none⟩) hz9).trans c91
  have hzp : w.heap.size < (w9.alloc (.cells #[.int .i64 e9, .slice a9 K9.length c9] 33)).heap.size := Nat.lt_of_lt_of_le hz9 hg10.size
  clear hg10 c90 c91 HN9 HX9 HJO9 HJ9 HW9 HB9 hz9
  generalize w9.alloc (.cells #[.int .i64 e9, .slice a9 K9.length c9] 33) = wA at *
  generalize w9.heap.size = Nw at *
  have n0 := HNA.out.box.1 0 _ rfl; have n1 := HNA.out.box.1 1 _ rfl; have hnl := HNA.out.lt
  have o0 := HXA.out.box.1 0 _ rfl; have o1 := HXA.out.box.1 1 _ rfl; have hol := HXA.out.lt
  have q0 := HWB.out.box.1 0 _ rfl; have q1 := HWB.out.box.1 1 _ rfl; have hql := HWB.out.lt
  have HSO := Lib.hid' (show sameJ (docJ e K0) (docJ e X) = true by rw [HDOC.out]; exact sameJ_self _)
  refine wp_region_held_drew (S := (fun w' => w'.cell? ⟨Nn, 0, none⟩ = some (.int .i64 e6) ∧ w'.cell? ⟨Nn, 1, none⟩ = some (.slice a6 K6.length c6) ∧ w'.cell? ⟨No, 0, none⟩ = some (.int .i64 e) ∧ w'.cell? ⟨No, 1, none⟩ = some (.slice a2 K0.length c2) ∧ w'.cell? ⟨Nw, 0, none⟩ = some (.int .i64 e9) ∧ w'.cell? ⟨Nw, 1, none⟩ = some (.slice a9 K9.length c9) ∧ w'.cell? ⟨w.heap.size, 0, none⟩ = some (.int .i64 e) ∧ w'.cell? ⟨w.heap.size, 1, none⟩ = some (.slice a X.length c))) (by kernel_rfl) ⟨by simpa using n0, by simpa using n1, by simpa using o0, by simpa using o1, by simpa using q0, by simpa using q1, by simpa using p0, by simpa using p1⟩ (fun hH0 => ?_)
  refine wpAnyH_take (i := 0) (oi := _) (v := .agg #[.int .i64 e6, .slice a6 K6.length c6]) rfl (by kernel_rfl) (by kernel_rfl) (by kernel_rfl) (fun _ _ _ h => h) (Or.inl ⟨by rfl, ?_⟩) hH0 ?_
  · intro w hSw; go_simp
  simp only [Act.put, List.getElem_toArray, List.getElem_cons_zero, List.getElem_cons_succ, List.setIfInBounds_toArray, List.set_cons_zero, List.set_cons_succ]
  refine wpAnyH_take (i := 2) (oi := _) (v := .agg #[.int .i64 e9, .slice a9 K9.length c9]) rfl (by kernel_rfl) (by kernel_rfl) (by kernel_rfl) (fun _ _ _ h => h) (Or.inl ⟨by rfl, ?_⟩) hH0 ?_
  · intro w hSw; go_simp
  simp only [Act.put, List.getElem_toArray, List.getElem_cons_zero, List.getElem_cons_succ, List.setIfInBounds_toArray, List.set_cons_zero, List.set_cons_succ]
  refine wpAnyH_ready (rs := [1]) (by kernel_rfl) (by simp) (AllReadyH.cons (o := _) rfl (fun K hK => ?_) AllReadyH.nil)
  go_simp
  refine (doc11_any e6 a6 c6 K6 _).mono ?_
  rintro en wc1 ⟨rfl, hbc⟩
  have HC1 := Lib.hid' (show Below wA.heap.size wA wc1 from (Below.drew (Below.refl _ _)).trans (hbc.mono (Nat.le_refl _)))
  clear hbc
  refine hK.out _ _ ?_ (fun hH1 => ?_)
  · exact ⟨(HC1.out.cell (p := ⟨Nn, 0, none⟩) hnl).trans n0, (HC1.out.cell (p := ⟨Nn, 1, none⟩) hnl).trans n1, (HC1.out.cell (p := ⟨No, 0, none⟩) hol).trans o0, (HC1.out.cell (p := ⟨No, 1, none⟩) hol).trans o1, (HC1.out.cell (p := ⟨Nw, 0, none⟩) hql).trans q0, (HC1.out.cell (p := ⟨Nw, 1, none⟩) hql).trans q1, (HC1.out.cell (p := ⟨w.heap.size, 0, none⟩) hzp).trans p0, (HC1.out.cell (p := ⟨w.heap.size, 1, none⟩) hzp).trans p1⟩
  clear hK K
  refine wpAnyH_ready (rs := [3]) (by kernel_rfl) (by simp) (AllReadyH.cons (o := _) rfl (fun K hK => ?_) AllReadyH.nil)
  go_simp
  have hsm := rsame11_any e6 e9 a6 a9 c6 c9 K6 K9 _ (HJA.out.below (Nat.le_refl _) HC1.out).chs (HWA.out.below (Nat.le_refl _) HC1.out).chs
  rw [HSM.out] at hsm
  refine hsm.mono ?_
  clear hsm
  rintro en wc2 ⟨rfl, hbc⟩
  have HC2 := Lib.hid' (show Below wA.heap.size wA wc2 from HC1.out.trans (hbc.mono HC1.out.size))
  clear hbc
  refine hK.out _ _ ?_ (fun hH2 => ?_)
  · exact ⟨(HC2.out.cell (p := ⟨Nn, 0, none⟩) hnl).trans n0, (HC2.out.cell (p := ⟨Nn, 1, none⟩) hnl).trans n1, (HC2.out.cell (p := ⟨No, 0, none⟩) hol).trans o0, (HC2.out.cell (p := ⟨No, 1, none⟩) hol).trans o1, (HC2.out.cell (p := ⟨Nw, 0, none⟩) hql).trans q0, (HC2.out.cell (p := ⟨Nw, 1, none⟩) hql).trans q1, (HC2.out.cell (p := ⟨w.heap.size, 0, none⟩) hzp).trans p0, (HC2.out.cell (p := ⟨w.heap.size, 1, none⟩) hzp).trans p1⟩
  clear hK K
  refine wpAnyH_take (i := 4) (oi := _) (v := .bool true) rfl (by kernel_rfl) (by kernel_rfl) (by kernel_rfl) (fun _ _ _ h => h) (Or.inl ⟨by rfl, ?_⟩) hH2 ?_
  · intro w hSw; go_simp
  simp only [Act.put, List.getElem_toArray, List.getElem_cons_zero, List.getElem_cons_succ, List.setIfInBounds_toArray, List.set_cons_zero, List.set_cons_succ]
  refine wpAnyH_take (i := 5) (oi := _) (v := errV er) rfl (by kernel_rfl) (by kernel_rfl) (by kernel_rfl) (fun _ _ _ h => h) (Or.inl ⟨by rfl, ?_⟩) hH2 ?_
  · intro w hSw; go_simp
  simp only [Act.put, List.getElem_toArray, List.getElem_cons_zero, List.getElem_cons_succ, List.setIfInBounds_toArray, List.set_cons_zero, List.set_cons_succ]
  refine wpAnyH_take (i := 7) (oi := _) (v := .int .i64 (er : Int)) rfl (by kernel_rfl) (by kernel_rfl) (by kernel_rfl) (fun _ _ _ h => h) (Or.inl ⟨by rfl, ?_⟩) hH2 ?_
  · intro w hSw; go_simp
  simp only [Act.put, List.getElem_toArray, List.getElem_cons_zero, List.getElem_cons_succ, List.setIfInBounds_toArray, List.set_cons_zero, List.set_cons_succ]
  refine wpAnyH_ready (rs := [6]) (by kernel_rfl) (by simp) (AllReadyH.cons (o := _) rfl (fun K hK => ?_) AllReadyH.nil)
  go_simp
  refine (num_any er _).mono ?_
  rintro en wc3 ⟨rfl, hwc⟩
  have HC3 := Lib.hid' (show Below wA.heap.size wA wc3 from hwc ▸ HC2.out)
  clear hwc
  refine hK.out _ _ ?_ (fun hH3 => ?_)
  · exact ⟨(HC3.out.cell (p := ⟨Nn, 0, none⟩) hnl).trans n0, (HC3.out.cell (p := ⟨Nn, 1, none⟩) hnl).trans n1, (HC3.out.cell (p := ⟨No, 0, none⟩) hol).trans o0, (HC3.out.cell (p := ⟨No, 1, none⟩) hol).trans o1, (HC3.out.cell (p := ⟨Nw, 0, none⟩) hql).trans q0, (HC3.out.cell (p := ⟨Nw, 1, none⟩) hql).trans q1, (HC3.out.cell (p := ⟨w.heap.size, 0, none⟩) hzp).trans p0, (HC3.out.cell (p := ⟨w.heap.size, 1, none⟩) hzp).trans p1⟩
  clear hK K
  refine wpAnyH_take (i := 8) (oi := _) (v := .bool true) rfl (by kernel_rfl) (by kernel_rfl) (by kernel_rfl) (fun _ _ _ h => h) (Or.inl ⟨by rfl, ?_⟩) hH3 ?_
  · intro w hSw; go_simp
  simp only [Act.put, List.getElem_toArray, List.getElem_cons_zero, List.getElem_cons_succ, List.setIfInBounds_toArray, List.set_cons_zero, List.set_cons_succ]
  refine wpAnyH_take (i := 9) (oi := _) (v := .bool true) rfl (by kernel_rfl) (by kernel_rfl) (by kernel_rfl) (fun _ _ _ h => h) (Or.inl ⟨by rfl, ?_⟩) hH3 ?_
  · intro w hSw; go_simp
  simp only [Act.put, List.getElem_toArray, List.getElem_cons_zero, List.getElem_cons_succ, List.setIfInBounds_toArray, List.set_cons_zero, List.set_cons_succ]
  refine wpAnyH_take (i := 10) (oi := _) (v := .bool true) rfl (by kernel_rfl) (by kernel_rfl) (by kernel_rfl) (fun _ _ _ h => h) (Or.inl ⟨by rfl, ?_⟩) hH3 ?_
  · intro w hSw; go_simp
  simp only [Act.put, List.getElem_toArray, List.getElem_cons_zero, List.getElem_cons_succ, List.setIfInBounds_toArray, List.set_cons_zero, List.set_cons_succ]
  refine wpAnyH_take (i := 11) (oi := _) (v := .agg #[.int .i64 e, .slice a2 K0.length c2]) rfl (by kernel_rfl) (by kernel_rfl) (by kernel_rfl) (fun _ _ _ h => h) (Or.inl ⟨by rfl, ?_⟩) hH3 ?_
  · intro w hSw; go_simp
  simp only [Act.put, List.getElem_toArray, List.getElem_cons_zero, List.getElem_cons_succ, List.setIfInBounds_toArray, List.set_cons_zero, List.set_cons_succ]
  refine wpAnyH_take (i := 12) (oi := _) (v := .agg #[.int .i64 e, .slice a X.length c]) rfl (by kernel_rfl) (by kernel_rfl) (by kernel_rfl) (fun _ _ _ h => h) (Or.inl ⟨by rfl, ?_⟩) hH3 ?_
  · intro w hSw; go_simp
  simp only [Act.put, List.getElem_toArray, List.getElem_cons_zero, List.getElem_cons_succ, List.setIfInBounds_toArray, List.set_cons_zero, List.set_cons_succ]
  refine wpAnyH_ready (rs := [13]) (by kernel_rfl) (by simp) (AllReadyH.cons (o := _) rfl (fun K hK => ?_) AllReadyH.nil)
  go_simp
  have hsm := psame_any e e a2 a c2 c K0 X _ (HJOA.out.below (Nat.le_refl _) HC3.out).chs (HSA.out.below (Nat.le_refl _) HC3.out)
  rw [HSO.out] at hsm
  refine hsm.mono ?_
  clear hsm
  rintro en wc4 ⟨rfl, hbc⟩
  have HC4 := Lib.hid' (show Below wA.heap.size wA wc4 from HC3.out.trans (hbc.mono HC3.out.size))
  clear hbc
  refine hK.out _ _ ?_ (fun hH4 => ?_)
  · exact ⟨(HC4.out.cell (p := ⟨Nn, 0, none⟩) hnl).trans n0, (HC4.out.cell (p := ⟨Nn, 1, none⟩) hnl).trans n1, (HC4.out.cell (p := ⟨No, 0, none⟩) hol).trans o0, (HC4.out.cell (p := ⟨No, 1, none⟩) hol).trans o1, (HC4.out.cell (p := ⟨Nw, 0, none⟩) hql).trans q0, (HC4.out.cell (p := ⟨Nw, 1, none⟩) hql).trans q1, (HC4.out.cell (p := ⟨w.heap.size, 0, none⟩) hzp).trans p0, (HC4.out.cell (p := ⟨w.heap.size, 1, none⟩) hzp).trans p1⟩
  clear hK K
  refine wpAnyH_take (i := 14) (oi := _) (v := .bool true) rfl (by kernel_rfl) (by kernel_rfl) (by kernel_rfl) (fun _ _ _ h => h) (Or.inl ⟨by rfl, ?_⟩) hH4 ?_
  · intro w hSw; go_simp
  simp only [Act.put, List.getElem_toArray, List.getElem_cons_zero, List.getElem_cons_succ, List.setIfInBounds_toArray, List.set_cons_zero, List.set_cons_succ]
  refine wpAnyH_take (i := 15) (oi := _) (v := .bool true) rfl (by kernel_rfl) (by kernel_rfl) (by kernel_rfl) (fun _ _ _ h => h) (Or.inl ⟨by rfl, ?_⟩) hH4 ?_
  · intro w hSw; go_simp
  simp only [Act.put, List.getElem_toArray, List.getElem_cons_zero, List.getElem_cons_succ, List.setIfInBounds_toArray, List.set_cons_zero, List.set_cons_succ]
  refine wpAnyH_done (by kernel_rfl) ?_ _
  go_wp2
  go_ret
  exact ⟨rfl, HBA.out.trans (HC4.out.mono (by omega))⟩
end Go.Proofs.Ytjkbcjliaacebaa
