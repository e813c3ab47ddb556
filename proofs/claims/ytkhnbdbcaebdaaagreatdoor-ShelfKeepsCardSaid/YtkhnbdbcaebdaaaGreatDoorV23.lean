/- Proved here: a part of the proof (23 of 28). -/
import Derived.Test.YtkhnbdbcaebdaaaGreatDoorV11
import Derived.Test.YtkhnbdbcaebdaaaGreatDoorV10
namespace Go.Proofs.YtkhnbdbcaebdaaaGreatDoor
open Go.RowKit
set_option linter.unusedSimpArgs false
set_option linter.unusedVariables false
set_option maxRecDepth 20000

theorem firstBad_take {L : List (Int × C)} {k : Nat} (hk : k < L.length) (h : firstBad (L.take k) = 0) : firstBad (L.take (k + 1)) = L[k].2.check ∧ (L[k].2.check ≠ 0 → firstBad L = L[k].2.check) := by
  induction L generalizing k with
  | nil => simp at hk
  | cons q L ih =>
    cases k with
    | zero =>
      refine ⟨?_, fun h0 => ?_⟩
      · simp only [List.take_succ_cons, List.take_zero, firstBad, List.getElem_cons_zero]
        split <;> simp_all
      · simp only [List.getElem_cons_zero] at h0 ⊢
        unfold firstBad; rw [if_pos h0]
    | succ k =>
      simp only [List.take_succ_cons, firstBad] at h
      split at h
      · rename_i h1; exact absurd h h1
      · rename_i h1
        obtain ⟨i1, i2⟩ := ih (by simpa using hk) h
        refine ⟨?_, fun h0 => ?_⟩
        · simp only [List.take_succ_cons, firstBad, if_neg h1, List.getElem_cons_succ]; exact i1
        · simp only [List.getElem_cons_succ] at h0 ⊢
          unfold firstBad; rw [if_neg h1]; exact i2 h0
theorem docE_get (E : List Ent) (k : Nat) (hk : k < E.length) : (docE E)[k]'(by simpa [docE] using hk) = (E[k].1, E[k].2.1) := by simp [docE, noAd]
theorem docE_len (E : List Ent) : (docE E).length = E.length := by simp [docE]
set_option maxHeartbeats 2000000 in
theorem right_any (E : List Ent) (a : Option Addr) (c : Nat) (W : World) (h : EL W a c E) :
    Calls Tryz.prog 143 #[.slice a E.length c] W fun e w' => e = .returned (errV (rightErr (docE E))) ∧ Below W.heap.size W w' := by
  have HS := Lib.hid' h
  have hlen := h.len
  clear h
  go_enter Tryz.func143, Tryz.ntmps143
  go_wp2_with fail
  go_loopw [11] (fun v11 wr => ∃ k : Nat, v11 = .int .i64 k ∧ k ≤ E.length ∧ firstBad ((docE E).take k) = 0 ∧ Below W.heap.size W wr) (fun v11 _ => E.length - (intOf v11).toNat)
  case atStart => exact ⟨0, rfl, Nat.zero_le _, by simp [firstBad], Below.refl _ _⟩
  case round =>
    obtain ⟨k, rfl, hk, hno, hbw⟩ := hrel
    have HNO := Lib.hid' hno
    have HBW := Lib.hid' hbw
    clear hno hbw
    by_cases hlt : k < E.length
    · obtain ⟨hsl, hby⟩ := HS.out.below (Nat.le_refl _) HBW.out
      obtain ⟨b, off, rfl, hb, hc⟩ := SlV.row (s := 3) (fun _ => rfl) (by decide) hsl hlt
      have c0 := hc 0 _ rfl; have c1 := hc 1 _ rfl; have c2 := hc 2 _ rfl
      simp only [Nat.add_zero] at c0
      have hFB := firstBad_take (L := docE E) (k := k) (by rw [docE_len]; exact hlt) HNO.out
      rw [docE_get E k hlt] at hFB
      have HFB := Lib.hid' hFB
      have HY := Lib.hid' (hby _ (List.getElem_mem hlt))
      clear hc hsl hby hFB
      generalize E[k] = x at *
      obtain ⟨xa, xc, xd, xn⟩ := x
      simp only at HFB HY
      go_wp2_with fail
      have hg : Below wr.heap.size wr (wr.alloc (.cells #[.int .i64 xa, .int .i64 xc.k, .slice xd xc.d.length xn] 121)) := by go_grown
      refine (check_any _ xc _ ⟨xd, xn, rfl, SlV.below HY.out (Nat.le_refl _) hg⟩).mono ?_
      rintro en w5 ⟨rfl, hb5⟩
      have HB5 := Lib.hid' (HBW.out.trans ((hg.trans (hb5.mono hg.size)).mono HBW.out.size))
      clear hb5 hg
      by_cases hq : xc.check = 0
      · have HT := Lib.hid' (show firstBad ((docE E).take (k + 1)) = 0 from HFB.out.1.trans hq)
        rw [hq, errV_0]
        clear hq
        go_wp2_with fail
        go_roundw
        case rel => exact ⟨k + 1, by go_num, by omega, HT.out, HB5.out⟩
        case measure => simp [intOf]; omega
      · have HF := Lib.hid' (show rightErr (docE E) = xc.check by
          have h1 := HFB.out.2 hq
          unfold rightErr; rw [h1, if_pos hq])
        have HQ := Lib.hid' hq
        rw [errV_pos hq]
        clear hq
        go_wp2_with fail
        go_ret
        exact ⟨ret_eq (by rw [HF.out, errV_pos HQ.out]; rfl), HB5.out⟩
    · have HFB := Lib.hid' (show firstBad (docE E) = 0 by have := HNO.out; rwa [List.take_of_length_le (by rw [docE_len]; omega)] at this)
      go_wp2_with fail
      have HB0 := HBW
      obtain ⟨wo, rfl⟩ : ∃ wo : World, wo = wr := ⟨_, rfl⟩
      go_loopw [24] (fun v24 wr => ∃ k : Nat, v24 = .int .i64 k ∧ k ≤ E.length ∧ (E.take k).any (fun x => noneE (noAd x)) = false ∧ Below W.heap.size W wr) (fun v24 _ => E.length - (intOf v24).toNat)
      case atStart => exact ⟨0, rfl, Nat.zero_le _, by simp, HB0.out⟩
      case round =>
        obtain ⟨j, rfl, hj, hno2, hbw2⟩ := hrel
        have HN2 := Lib.hid' hno2
        have HBW2 := Lib.hid' hbw2
        clear hno2 hbw2
        have hAny : E.any (fun x => noneE (noAd x)) = (docE E).any noneE := by simp [docE, List.any_map, Function.comp_def]
        have HANY := Lib.hid' hAny
        clear hAny
        by_cases hltj : j < E.length
        · obtain ⟨hsl, hby⟩ := HS.out.below (Nat.le_refl _) HBW2.out
          obtain ⟨b, off, rfl, hb, hc⟩ := SlV.row (s := 3) (fun _ => rfl) (by decide) hsl hltj
          have c0 := hc 0 _ rfl; have c1 := hc 1 _ rfl; have c2 := hc 2 _ rfl
          simp only [Nat.add_zero] at c0
          have HTK := Lib.hid' (take_any (fun x => noneE (noAd x)) E j hltj)
          have HMEM := Lib.hid' (List.getElem_mem hltj)
          clear hc hsl hby
          generalize E[j] = x at *
          obtain ⟨xa, xc, xd, xn⟩ := x
          by_cases hq : xc.k = 0 ∨ xc.k = 3
          · have HF := Lib.hid' (show rightErr (docE E) = 2 by
              unfold rightErr
              rw [HFB.out, if_neg (by decide), if_pos]
              rw [← HANY.out, List.any_eq_true]
              exact ⟨_, HMEM.out, by simp only [noneE, noAd, Bool.or_eq_true, beq_iff_eq]; exact hq⟩)
            have hq2 : (xc.k == 0) = true ∨ ((xc.k == 0) = false ∧ (xc.k == 3) = true) := by
              by_cases h0 : xc.k = 0
              · left; simp [h0]
              · right; exact ⟨by simpa using h0, by rcases hq with h | h; exact absurd h h0; simp [h]⟩
            clear hq
            rcases hq2 with hq | ⟨hq1, hq⟩
            all_goals
              go_wp2_with fail
              go_ret
              exact ⟨ret_eq (by rw [HF.out]; rfl), HBW2.out.trans ((show Below wr.heap.size wr _ by go_grown).mono HBW2.out.size)⟩
          · have HT := Lib.hid' (show (E.take (j + 1)).any (fun x => noneE (noAd x)) = false by
              rw [HTK.out, HN2.out]; show (false || (xc.k == 0 || xc.k == 3)) = false
              rw [Bool.false_or, Bool.or_eq_false_iff, beq_eq_false_iff_ne, beq_eq_false_iff_ne]; omega)
            have q1 : (xc.k == 0) = false := by rw [beq_eq_false_iff_ne]; omega
            have q2 : (xc.k == 3) = false := by rw [beq_eq_false_iff_ne]; omega
            clear hq HTK
            go_wp2_with fail
            go_roundw
            case rel => exact ⟨j + 1, by go_num, by omega, HT.out, HBW2.out.trans ((show Below wr.heap.size wr _ by go_grown).mono HBW2.out.size)⟩
            case measure => simp [intOf]; omega
        · have HNN := Lib.hid' (show (docE E).any noneE = false by
            have := HN2.out; rw [List.take_of_length_le (by omega)] at this; rw [← HANY.out]; exact this)
          go_wp2_with fail
          refine (rises_any E a c _ (HS.out.below (Nat.le_refl _) HBW2.out)).mono ?_
          rintro en w5 ⟨rfl, hb5⟩
          have HB5 := Lib.hid' (HBW2.out.trans (hb5.mono HBW2.out.size))
          clear hb5
          cases hr : risesB (docE E)
          · have HF := Lib.hid' (show rightErr (docE E) = 13 by unfold rightErr; rw [HFB.out, if_neg (by decide), HNN.out, if_neg (by decide), hr, if_neg (by decide)])
            clear hr
            go_wp2_with fail
            go_ret
            exact ⟨ret_eq (by rw [HF.out]; rfl), HB5.out⟩
          · have HF := Lib.hid' (show rightErr (docE E) = 0 by unfold rightErr; rw [HFB.out, if_neg (by decide), HNN.out, if_neg (by decide), hr, if_pos rfl])
            clear hr
            go_wp2_with fail
            go_ret
            exact ⟨ret_eq (by rw [HF.out]; rfl), HB5.out⟩
theorem withinN_doc (l : Int) (E : List Ent) : withinN l E = if (docE E).any (outE l) = true then 1 else 0 := by
  unfold withinN docE
  rw [List.any_map]; rfl
def OfR (e l : Int) (E : List Ent) (W : World) (en : Ending) (w' : World) : Prop :=
  ∃ bu bm, en = .returned (.tuple #[.pointer (some ⟨bu, 0, none⟩), .nilIface]) ∧ W.heap.size ≤ bu ∧ W.heap.size ≤ bm ∧ UnitAt (fun k => k = bu ∨ k = bm ∨ k < W.heap.size) w' bu bm ⟨e, l, docE E⟩ ∧ Below W.heap.size W w'
theorem ok_take {e l : Int} {L : List (Int × C)} (h : U.ok ⟨e, l, L⟩) (k : Nat) : U.ok ⟨e, l, L.take k⟩ :=
  ⟨h.e0, h.e1, h.l0, h.l1, fun p hp => h.addr p (List.mem_of_mem_take hp), fun p hp => h.kind p (List.mem_of_mem_take hp), h.nodup.sublist ((List.take_sublist _ _).map _)⟩
set_option maxHeartbeats 4000000 in
theorem of_good (e l : Int) (E : List Ent) (a : Option Addr) (c : Nat) (W : World) (h : EL W a c E) (hgood : ofErr e l (docE E) = 0) :
    Calls Tryz.prog 105 #[.int .i64 e, .int .i64 l, .slice a E.length c] W (OfR e l E W) := by
  have HS := Lib.hid' h
  have HOK := Lib.hid' (of_ok hgood)
  have hlen := h.len
  have hg0 := hgood
  unfold ofErr at hg0
  split at hg0; · cases hg0
  rename_i g1
  split at hg0; · cases hg0
  rename_i g2
  have h1 : inR e 1099511627776 = true := by simp [inR]; omega
  have h2 : inR l 1048576 = true := by simp [inR]; omega
  have HR0 := Lib.hid' hg0
  clear h hgood g1 hg0
  go_enter Tryz.func105, Tryz.ntmps105
  go_wp2_with (go_at_call 78; refine (in_any _ _ _).mono ?_; rintro en w' ⟨rfl, rfl⟩; first | rw [h1] | rw [h2])
  refine (within_any l E a c _ HS.out).mono ?_
  rintro en w1 ⟨rfl, hb1⟩
  have HB1 := Lib.hid' hb1
  rw [show errV (withinN l E) = .nilIface from by rw [withinN_doc, if_neg g2]; rfl]
  clear hb1 g2 h1 h2
  go_wp2_with fail
  refine (right_any E a c _ (HS.out.below (Nat.le_refl _) HB1.out)).mono ?_
  rintro en w2 ⟨rfl, hb2⟩
  have HB2 := Lib.hid' (HB1.out.trans (hb2.mono HB1.out.size))
  rw [HR0.out, errV_0]
  clear hb2 HB1
  go_wp2_with fail
  refine (new_any _).mono ?_
  rintro en w3 ⟨rfl, hb3, hz3, hu3⟩
  have HU3 := Lib.hid' (hu3 (fun k => k = w2.heap.size + 1 ∨ k = w2.heap.size ∨ k < W.heap.size) (.inr (.inl rfl)) (.inl rfl))
  have HB3 := Lib.hid' (HB2.out.trans (hb3.mono HB2.out.size))
  have HN := Lib.hid' HB2.out.size
  obtain ⟨q0, q1, q2⟩ := HU3.out.cell
  have qf0 := HU3.out.free 0; have qf1 := HU3.out.free 1
  have ql := HU3.out.lt.1
  clear hb3 hz3 hu3 HB2
  go_wp2_with fail
  have HU4 := Lib.hid' (show UnitAt (fun k => k = w2.heap.size + 1 ∨ k = w2.heap.size ∨ k < W.heap.size) ((w3.setCell ⟨w2.heap.size + 1, 0, none⟩ (.int .i64 e)).setCell ⟨w2.heap.size + 1, 1, none⟩ (.int .i64 l)) (w2.heap.size + 1) w2.heap.size ⟨e, l, (docE E).take 0⟩ from by
    have hk := ok_take HOK.out.1 0
    have h1 := HU3.out.set0 (e := e) ⟨hk.e0, hk.e1, by show (0 : Int) ≤ 0; decide, by show (0 : Int) ≤ 1048576; decide, by simp [U.new], by simp [U.new], by simp [U.new]⟩
    exact h1.set1 (l := l) hk)
  have HB4 := Lib.hid' (show Below W.heap.size W ((w3.setCell ⟨w2.heap.size + 1, 0, none⟩ (.int .i64 e)).setCell ⟨w2.heap.size + 1, 1, none⟩ (.int .i64 l)) from (HB3.out.setCell (p := ⟨w2.heap.size + 1, 0, none⟩) (by have := HN.out; show W.heap.size ≤ w2.heap.size + 1; omega) _).setCell (p := ⟨w2.heap.size + 1, 1, none⟩) (by have := HN.out; show W.heap.size ≤ w2.heap.size + 1; omega) _)
  generalize ((w3.setCell ⟨w2.heap.size + 1, 0, none⟩ (.int .i64 e)).setCell ⟨w2.heap.size + 1, 1, none⟩ (.int .i64 l)) = w4 at *
  clear q0 q1 q2 qf0 qf1 ql HU3 HB3
  generalize w2.heap.size = bm at *
  go_loopw [44] (fun v44 wr => ∃ k : Nat, v44 = .int .i64 k ∧ k ≤ E.length ∧ UnitAt (fun q => q = bm + 1 ∨ q = bm ∨ q < W.heap.size) wr (bm + 1) bm ⟨e, l, (docE E).take k⟩ ∧ Below W.heap.size W wr) (fun v44 _ => E.length - (intOf v44).toNat)
  case atStart => exact ⟨0, rfl, Nat.zero_le _, HU4.out, HB4.out⟩
  case round =>
    obtain ⟨k, rfl, hk, hu, hbw⟩ := hrel
    have HU := Lib.hid' hu
    have HBW := Lib.hid' hbw
    clear hu hbw HU4 HB4
    by_cases hlt : k < E.length
    rotate_left
    · have HUE := Lib.hid' (show UnitAt (fun q => q = bm + 1 ∨ q = bm ∨ q < W.heap.size) wr (bm + 1) bm ⟨e, l, docE E⟩ by have := HU.out; rwa [List.take_of_length_le (by rw [docE_len]; omega)] at this)
      go_wp2_with fail
      go_ret2
      have := HN.out
      exact ⟨bm + 1, bm, rfl, by omega, HN.out, HUE.out, HBW.out⟩
    obtain ⟨hsl, hby⟩ := HS.out.below (Nat.le_refl _) HBW.out
    obtain ⟨b, off, rfl, hb, hc⟩ := SlV.row (s := 3) (fun _ => rfl) (by decide) hsl hlt
    have c0 := hc 0 _ rfl; have c1 := hc 1 _ rfl; have c2 := hc 2 _ rfl
    simp only [Nat.add_zero] at c0
    have HST := Lib.hid' (of_step HOK.out.2 (k := k) (by rw [docE_len]; exact hlt))
    rw [docE_get E k hlt] at HST
    have HKD := Lib.hid' (HOK.out.1.kind _ (List.getElem_mem (l := docE E) (n := k) (by rw [docE_len]; exact hlt)))
    rw [docE_get E k hlt] at HKD
    have HY := Lib.hid' (hby _ (List.getElem_mem hlt))
    clear hc hsl hby
    generalize E[k] = x at *
    obtain ⟨xa, xc, xd, xn⟩ := x
    simp only at HST HKD HY
    go_upto_region 14 with fail
    have HG := Lib.hid' (show Below wr.heap.size wr (wr.alloc (.cells #[.int .i64 xa, .int .i64 xc.k, .slice xd xc.d.length xn] 121)) by go_grown)
    have HX := Lib.hid' (show BoxW wr.heap.size [.int .i64 xa, .int .i64 xc.k, .slice xd xc.d.length xn] 121 (wr.alloc (.cells #[.int .i64 xa, .int .i64 xc.k, .slice xd xc.d.length xn] 121)) from BoxW.start wr [.int .i64 xa, .int .i64 xc.k, .slice xd xc.d.length xn] 121)
    generalize wr.alloc (.cells #[.int .i64 xa, .int .i64 xc.k, .slice xd xc.d.length xn] 121) = wy at *
    clear c0 c1 c2 hb
    have HUy := Lib.hid' (HU.out.below (Nat.le_refl _) HG.out)
    have x0 := HX.out.box.1 0 _ rfl; have x1 := HX.out.box.1 1 _ rfl; have x2 := HX.out.box.1 2 _ rfl
    have m2 := HUy.out.cell.2.2
    have hxl := HX.out.lt
    have hul := HUy.out.lt.1
    have HLT := Lib.hid' HU.out.lt
    refine wp_region_held_drew (S := (fun w' => w'.cell? ⟨bm + 1, 2, none⟩ = some (.map (some bm)) ∧ w'.cell? ⟨wr.heap.size, 0, none⟩ = some (.int .i64 xa) ∧ w'.cell? ⟨wr.heap.size, 1, none⟩ = some (.int .i64 xc.k) ∧ w'.cell? ⟨wr.heap.size, 2, none⟩ = some (.slice xd xc.d.length xn))) (by kernel_rfl) ⟨by simpa using m2, by simpa using x0, by simpa using x1, by simpa using x2⟩ (fun hH0 => ?_)
    refine wpAnyH_take (i := 0) (oi := _) (v := .pointer (some ⟨bm + 1, 0, none⟩)) rfl (by kernel_rfl) (by kernel_rfl) (by kernel_rfl) (fun _ _ _ h => h) (Or.inl ⟨by rfl, ?_⟩) hH0 ?_
    · intro w hSw; go_simp
    simp only [Act.put, List.getElem_toArray, List.getElem_cons_zero, List.getElem_cons_succ, List.setIfInBounds_toArray, List.set_cons_zero, List.set_cons_succ]
    refine wpAnyH_take (i := 1) (oi := _) (v := .pointer (some ⟨bm + 1, 0, none⟩)) rfl (by kernel_rfl) (by kernel_rfl) (by kernel_rfl) (fun _ _ _ h => h) (Or.inl ⟨by rfl, ?_⟩) hH0 ?_
    · intro w hSw; go_simp
    simp only [Act.put, List.getElem_toArray, List.getElem_cons_zero, List.getElem_cons_succ, List.setIfInBounds_toArray, List.set_cons_zero, List.set_cons_succ]
    refine wpAnyH_take (i := 2) (oi := _) (v := .pointer (some ⟨bm + 1, 2, none⟩)) rfl (by kernel_rfl) (by kernel_rfl) (by kernel_rfl) (fun _ _ _ h => h) (Or.inl ⟨by rfl, ?_⟩) hH0 ?_
    · intro w hSw; go_simp
    simp only [Act.put, List.getElem_toArray, List.getElem_cons_zero, List.getElem_cons_succ, List.setIfInBounds_toArray, List.set_cons_zero, List.set_cons_succ]
    refine wpAnyH_take (i := 3) (oi := _) (v := .map (some bm)) rfl (by kernel_rfl) (by kernel_rfl) (by kernel_rfl) (fun _ _ _ h => h) (Or.inl ⟨by rfl, ?_⟩) hH0 ?_
    · intro w hSw; go_simp
    simp only [Act.put, List.getElem_toArray, List.getElem_cons_zero, List.getElem_cons_succ, List.setIfInBounds_toArray, List.set_cons_zero, List.set_cons_succ]
    refine wpAnyH_take (i := 4) (oi := _) (v := .pointer (some ⟨wr.heap.size, 0, none⟩)) rfl (by kernel_rfl) (by kernel_rfl) (by kernel_rfl) (fun _ _ _ h => h) (Or.inl ⟨by rfl, ?_⟩) hH0 ?_
    · intro w hSw; go_simp
    simp only [Act.put, List.getElem_toArray, List.getElem_cons_zero, List.getElem_cons_succ, List.setIfInBounds_toArray, List.set_cons_zero, List.set_cons_succ]
    refine wpAnyH_take (i := 5) (oi := _) (v := .int .i64 xa) rfl (by kernel_rfl) (by kernel_rfl) (by kernel_rfl) (fun _ _ _ h => h) (Or.inl ⟨by rfl, ?_⟩) hH0 ?_
    · intro w hSw; go_simp
    simp only [Act.put, List.getElem_toArray, List.getElem_cons_zero, List.getElem_cons_succ, List.setIfInBounds_toArray, List.set_cons_zero, List.set_cons_succ]
    refine wpAnyH_take (i := 6) (oi := _) (v := .pointer (some ⟨wr.heap.size, 1, none⟩)) rfl (by kernel_rfl) (by kernel_rfl) (by kernel_rfl) (fun _ _ _ h => h) (Or.inl ⟨by rfl, ?_⟩) hH0 ?_
    · intro w hSw; go_simp
    simp only [Act.put, List.getElem_toArray, List.getElem_cons_zero, List.getElem_cons_succ, List.setIfInBounds_toArray, List.set_cons_zero, List.set_cons_succ]
    refine wpAnyH_take (i := 7) (oi := _) (v := .agg #[.int .i64 xc.k, .slice xd xc.d.length xn]) rfl (by kernel_rfl) (by kernel_rfl) (by kernel_rfl) (fun _ _ _ h => h) (Or.inl ⟨by rfl, ?_⟩) hH0 ?_
    · intro w hSw; go_simp
    simp only [Act.put, List.getElem_toArray, List.getElem_cons_zero, List.getElem_cons_succ, List.setIfInBounds_toArray, List.set_cons_zero, List.set_cons_succ]
    refine wpAnyH_ready (rs := [8]) (by kernel_rfl) (by simp) (AllReadyH.cons (o := _) rfl (fun K hK => ?_) AllReadyH.nil)
    go_simp
    refine (copy_any _ xc _ ⟨xd, xn, rfl, SlV.below (SlV.below HY.out (Nat.le_refl _) HG.out) (Nat.le_refl _) (by go_grown)⟩ (by have := HKD.out.2; omega)).mono ?_
    rintro en w6 ⟨a6, cp6, rfl, ho6, hb6'⟩
    have HO6 := Lib.hid' (show w6.ownsRow wy.heap.size 5 1 (.slice a6 xc.d.length cp6) xc.d.length (byteVs xc.d) from ho6)
    have hb6 : Below wy.heap.size wy w6 := (Below.drew (Below.refl _ _)).trans hb6'
    have HB6 := Lib.hid' hb6
    have HU6 := Lib.hid' (HUy.out.below (Nat.le_refl _) hb6)
    have z2 := (hb6.cell (p := ⟨bm + 1, 2, none⟩) hul).trans m2; have z3 := (hb6.cell (p := ⟨wr.heap.size, 0, none⟩) hxl).trans x0; have z4 := (hb6.cell (p := ⟨wr.heap.size, 1, none⟩) hxl).trans x1; have z5 := (hb6.cell (p := ⟨wr.heap.size, 2, none⟩) hxl).trans x2
    obtain ⟨L, hm, hL⟩ := HU6.out.map
    obtain ⟨ob, hrun, hm7⟩ := run_store mtCells hm xa (.agg #[.int .i64 xc.k, .slice a6 xc.d.length cp6])
    have HL := Lib.hid' hL
    have HM7 := Lib.hid' hm7
    have hne1 : ¬ bm + 1 = bm := by omega
    have hne2 : ¬ wr.heap.size = bm := by have := HLT.out.2; omega
    clear ho6 hb6' hb6 hL hm7
    refine hK.out _ _ ?_ (fun hH1 => ?_)
    · exact ⟨z2, z3, z4, z5⟩
    clear hK K
    refine wpAnyH_ready (rs := [9]) (by kernel_rfl) (by simp) (AllReadyH.cons (o := _) rfl (fun K hK => ?_) AllReadyH.nil)
    go_simp
    refine hK.out _ _ ?_ (fun hH2 => ?_)
    · exact ⟨(setBlk_fr _ _ _).cell z2 hne1, (setBlk_fr _ _ _).cell z3 hne2, (setBlk_fr _ _ _).cell z4 hne2, (setBlk_fr _ _ _).cell z5 hne2⟩
    clear hK K
    refine wpAnyH_done (by kernel_rfl) ?_ _
    have HF7 := Lib.hid' (show Fr (· = bm) w6 (setBlk w6 bm ob) from setBlk_fr _ _ _)
    have HBLK := Lib.hid' ((HF7.out.block (bm + 1) HU6.out.lt.1 hne1).trans HU6.out.blk)
    clear hrun hm
    generalize setBlk w6 bm ob = w7 at *
    go_wp2_with fail
    go_roundw
    case rel =>
      have hroom := HUy.out.lt
      have hcells := CellsAt.put (A := fun q => q = bm + 1 ∨ q = bm ∨ q < W.heap.size) (F := fun q => q = bm) (w := wy) (fun q hq => by rcases hq with rfl | rfl | hq; exact hroom.1; exact hroom.2; exact Nat.lt_of_lt_of_le hq (Nat.le_trans HBW.out.size HG.out.size)) HL.out HM7.out HF7.out (fun q hq => .inr (.inl hq)) (SlV.of_own HO6.out) (fun y hy => by have := own_in HO6.out y _ _ (by rw [hy]); simpa using this)
      rw [HST.out] at hcells
      refine ⟨k + 1, by go_num, by omega, ⟨HBLK.out, hcells, ok_take HOK.out.1 _, .inl rfl, .inr (.inl rfl)⟩, ?_⟩
      exact ((HBW.out.trans (HG.out.mono HBW.out.size)).trans (HB6.out.mono (Nat.le_trans HBW.out.size HG.out.size))).trans (HF7.out.below (Nat.le_trans (Nat.le_trans HBW.out.size HG.out.size) HB6.out.size) (fun q hq => by subst hq; exact HN.out))
    case measure => simp [intOf]; omega

end Go.Proofs.YtkhnbdbcaebdaaaGreatDoor
