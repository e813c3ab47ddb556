/- Proved here: a part of the proof (30 of 35). -/
import Derived.Test.YtddlkkmdcfamiaaGreatDoorB12
import Derived.Test.YtddlkkmdcfamiaaGreatDoorB11
set_option linter.unusedSimpArgs false
set_option linter.unusedVariables false
set_option maxRecDepth 20000
namespace Go.Proofs.YtddlkkmdcfamiaaGreatDoor
open Go.RowKit

theorem rcheck8_any (c : C) (w : World) (hl : c.d.length ≤ 1099511627776) : Calls Tryz.prog 30 #[rcellV c] w fun e w' => e = .returned (.int .i64 (c.check : Nat)) ∧ Below w.heap.size w w' := by
 unfold rcellV
 have hs := strOf_size c.d
 go_enter Tryz.func30, Tryz.ntmps30
 go_wp2
 all_goals go_ret
 all_goals (refine ⟨ret_eq ?_, by go_grown⟩)
 all_goals (unfold C.check; (repeat' split) <;> first | rfl | (exfalso; omega) | (exfalso; simp_all; done) | (exfalso; simp_all; omega))
theorem rises_no {L : List (Int × C)} {n : Nat} (hn : n + 1 < L.length) (h : ¬ L[n].1 < L[n + 1].1) : risesB L = false := by
 rw [Bool.eq_false_iff]; intro hr
 exact h ((risesB_iff _).1 hr (n + 1) (by omega) hn)
set_option maxHeartbeats 4000000 in
theorem rcheckU_any (e l : Int) (L : List (Int × C)) (ad : Option Addr) (cap : Nat) (w : World) (h : RList w (.slice ad L.length cap) L) (hd : ∀ p ∈ L, p.2.d.length ≤ 1099511627776) :
  Calls Tryz.prog 33 #[.agg #[.int .i64 e, .int .i64 l, .slice ad L.length cap]] w fun en w' => en = .returned (.int .i64 (ofErr e l L : Nat)) ∧ Below w.heap.size w w' := by
 have H := Lib.hid' h
 have HD := Lib.hid' hd
 have hlen : L.length ≤ 9223372036854775807 := by obtain ⟨_, _, he, h1, h2, _⟩ := h; cases he; unfold maxLen at h2; omega
 clear h hd
 by_cases hg : e < 0 ∨ 1099511627776 < e ∨ l < 0 ∨ 1048576 < l
 ·have HF := Zh (show ofErr e l L = 1 by unfold ofErr; rw [if_pos hg])
  have hg2 : e < 0 ∨ (¬ e < 0 ∧ e > 1099511627776) ∨ (¬ e < 0 ∧ ¬ e > 1099511627776 ∧ l < 0) ∨ (¬ e < 0 ∧ ¬ e > 1099511627776 ∧ ¬ l < 0 ∧ l > 1048576) := by omega
  clear hg
  rcases hg2 with h1 | ⟨h1, h2⟩ | ⟨h1, h2, h3⟩ | ⟨h1, h2, h3, h4⟩
  all_goals
   go_enter Tryz.func33, Tryz.ntmps33
   go_wp2_with fail
   go_ret
   exact ⟨ret_eq (by rw [HF.out]; rfl), by go_grown⟩
 have HG := Lib.hid' hg
 have h1 : ¬ e < 0 := by omega
 have h2 : ¬ e > 1099511627776 := by omega
 have h3 : ¬ l < 0 := by omega
 have h4 : ¬ l > 1048576 := by omega
 clear hg
 go_enter Tryz.func33, Tryz.ntmps33
 go_wp2_with fail
 have HX := Zh (show BoxW w.heap.size [.int .i64 e, .int .i64 l, .slice ad L.length cap] 67 (w.alloc (.cells #[.int .i64 e, .int .i64 l, .slice ad L.length cap] 67)) from BoxW.start w [.int .i64 e, .int .i64 l, .slice ad L.length cap] 67)
 have HB := Zh (show Below w.heap.size w (w.alloc (.cells #[.int .i64 e, .int .i64 l, .slice ad L.length cap] 67)) by go_grown)
 generalize w.alloc (.cells #[.int .i64 e, .int .i64 l, .slice ad L.length cap] 67) = w1 at *
 clear h1 h2 h3 h4
 have HL1 := Zh (H.out.below (Nat.le_refl _) HB.out)
 go_loopw [3] (fun v3 wr => ∃ k : Nat, v3 = .int .i64 k ∧ k ≤ L.length ∧ (L.take k).any (outE l) = false ∧ Below w1.heap.size w1 wr) (fun v3 _ => L.length - (intOf v3).toNat)
 case atStart => exact ⟨0, rfl, Nat.zero_le _, by simp, Below.refl _ _⟩
 case round =>
  obtain ⟨k, rfl, hk, hno, hbw⟩ := hrel
  have HNO := Lib.hid' hno
  have HBW := Lib.hid' hbw
  have r1 := (HX.out.below (Nat.le_refl _) hbw).box.1 1 _ rfl
  have r2 := (HX.out.below (Nat.le_refl _) hbw).box.1 2 _ rfl
  have HLr := Zh (RList.below HL1.out (Nat.le_refl _) hbw)
  clear hno hbw
  by_cases hlt : k < L.length
  ·obtain ⟨b, off, rfl, hb, c0, c1, c2⟩ := RList.get HLr.out hlt
   have HTK := Zh (take_any (outE l) L k hlt)
   have HMEM := Zh (List.getElem_mem hlt)
   generalize L[k] = x at *
   go_upto_region 6 with fail
   rcases (show x.1 < l ∨ (¬ x.1 < l ∧ x.1 > 1048575) ∨ (¬ x.1 < l ∧ ¬ x.1 > 1048575) from by omega) with q1 | ⟨q1, q2⟩ | ⟨q1, q2⟩
   ·refine wp_region_held_drew (S := (fun w' => w'.cell? ⟨w.heap.size, 1, none⟩ = some (.int .i64 l) ∧ w'.cell? ⟨w.heap.size, 2, none⟩ = some (.slice (some ⟨b, off, none⟩) L.length cap) ∧ w'.cell? ⟨b, off + k * 3, none⟩ = some (.int .i64 x.1))) (by kernel_rfl) ⟨by simpa using r1, by simpa using r2, by simpa using c0⟩ (fun hH0 => ?_)
    refine tA 0 (.pointer (some ⟨w.heap.size, 2, none⟩)) rfl hH0 ?_ ?_
    ·intro w hSw; go_simp
    simp only [Act.put, gA, gZ, gS, sA, sZ, sS]
    refine tA 1 (.slice (some ⟨b, off, none⟩) L.length cap) rfl hH0 ?_ ?_
    ·intro w hSw; go_simp
    simp only [Act.put, gA, gZ, gS, sA, sZ, sS]
    refine tA 2 (.int .i64 (k : Int)) rfl hH0 ?_ ?_
    ·intro w hSw; go_simp
    simp only [Act.put, gA, gZ, gS, sA, sZ, sS]
    refine tA 3 (.pointer (some ⟨b, off + k * 3, none⟩)) rfl hH0 ?_ ?_
    ·intro w hSw; go_simp
    simp only [Act.put, gA, gZ, gS, sA, sZ, sS]
    refine tA 4 (.pointer (some ⟨b, off + k * 3, none⟩)) rfl hH0 ?_ ?_
    ·intro w hSw; go_simp
    simp only [Act.put, gA, gZ, gS, sA, sZ, sS]
    refine tA 5 (.int .i64 x.1) rfl hH0 ?_ ?_
    ·intro w hSw; go_simp
    simp only [Act.put, gA, gZ, gS, sA, sZ, sS]
    refine tA 6 (.pointer (some ⟨w.heap.size, 1, none⟩)) rfl hH0 ?_ ?_
    ·intro w hSw; go_simp
    simp only [Act.put, gA, gZ, gS, sA, sZ, sS]
    refine tA 7 (.int .i64 l) rfl hH0 ?_ ?_
    ·intro w hSw; go_simp
    simp only [Act.put, gA, gZ, gS, sA, sZ, sS]
    refine tA 8 (.bool true) rfl hH0 ?_ ?_
    ·intro w hSw; go_simp
    simp only [Act.put, gA, gZ, gS, sA, sZ, sS]
    refine tA 9 (.bool true) rfl hH0 ?_ ?_
    ·intro w hSw; go_simp
    simp only [Act.put, gA, gZ, gS, sA, sZ, sS]
    refine tU 10 rfl hH0 ?_
    simp only [Act.put, gA, gZ, gS, sA, sZ, sS]
    refine tU 11 rfl hH0 ?_
    simp only [Act.put, gA, gZ, gS, sA, sZ, sS]
    refine tU 12 rfl hH0 ?_
    simp only [Act.put, gA, gZ, gS, sA, sZ, sS]
    refine tU 13 rfl hH0 ?_
    simp only [Act.put, gA, gZ, gS, sA, sZ, sS]
    refine tU 14 rfl hH0 ?_
    simp only [Act.put, gA, gZ, gS, sA, sZ, sS]
    refine tU 15 rfl hH0 ?_
    simp only [Act.put, gA, gZ, gS, sA, sZ, sS]
    refine tU 16 rfl hH0 ?_
    simp only [Act.put, gA, gZ, gS, sA, sZ, sS]
    refine tA 17 (.bool true) rfl hH0 ?_ ?_
    ·intro w hSw; go_simp
    simp only [Act.put, gA, gZ, gS, sA, sZ, sS]
    refine wpAnyH_done (by kernel_rfl) ?_ _
    have HF := Zh (show ofErr e l L = 1 by unfold ofErr; rw [if_neg HG.out, if_pos (List.any_eq_true.2 ⟨_, HMEM.out, by unfold outE; rw [Bool.or_eq_true, decide_eq_true_eq, decide_eq_true_eq]; omega⟩)])
    go_wp2_with fail
    go_ret
    exact ⟨ret_eq (by rw [HF.out]; rfl), HB.out.trans ((HBW.out.drew).mono HB.out.size)⟩
   ·refine wp_region_held_drew (S := (fun w' => w'.cell? ⟨w.heap.size, 1, none⟩ = some (.int .i64 l) ∧ w'.cell? ⟨w.heap.size, 2, none⟩ = some (.slice (some ⟨b, off, none⟩) L.length cap) ∧ w'.cell? ⟨b, off + k * 3, none⟩ = some (.int .i64 x.1))) (by kernel_rfl) ⟨by simpa using r1, by simpa using r2, by simpa using c0⟩ (fun hH0 => ?_)
    refine tA 0 (.pointer (some ⟨w.heap.size, 2, none⟩)) rfl hH0 ?_ ?_
    ·intro w hSw; go_simp
    simp only [Act.put, gA, gZ, gS, sA, sZ, sS]
    refine tA 1 (.slice (some ⟨b, off, none⟩) L.length cap) rfl hH0 ?_ ?_
    ·intro w hSw; go_simp
    simp only [Act.put, gA, gZ, gS, sA, sZ, sS]
    refine tA 2 (.int .i64 (k : Int)) rfl hH0 ?_ ?_
    ·intro w hSw; go_simp
    simp only [Act.put, gA, gZ, gS, sA, sZ, sS]
    refine tA 3 (.pointer (some ⟨b, off + k * 3, none⟩)) rfl hH0 ?_ ?_
    ·intro w hSw; go_simp
    simp only [Act.put, gA, gZ, gS, sA, sZ, sS]
    refine tA 4 (.pointer (some ⟨b, off + k * 3, none⟩)) rfl hH0 ?_ ?_
    ·intro w hSw; go_simp
    simp only [Act.put, gA, gZ, gS, sA, sZ, sS]
    refine tA 5 (.int .i64 x.1) rfl hH0 ?_ ?_
    ·intro w hSw; go_simp
    simp only [Act.put, gA, gZ, gS, sA, sZ, sS]
    refine tA 6 (.pointer (some ⟨w.heap.size, 1, none⟩)) rfl hH0 ?_ ?_
    ·intro w hSw; go_simp
    simp only [Act.put, gA, gZ, gS, sA, sZ, sS]
    refine tA 7 (.int .i64 l) rfl hH0 ?_ ?_
    ·intro w hSw; go_simp
    simp only [Act.put, gA, gZ, gS, sA, sZ, sS]
    refine tA 8 (.bool false) rfl hH0 ?_ ?_
    ·intro w hSw; go_simp
    simp only [Act.put, gA, gZ, gS, sA, sZ, sS]
    refine tA 9 (.bool false) rfl hH0 ?_ ?_
    ·intro w hSw; go_simp
    simp only [Act.put, gA, gZ, gS, sA, sZ, sS]
    refine tA 10 (.pointer (some ⟨w.heap.size, 2, none⟩)) rfl hH0 ?_ ?_
    ·intro w hSw; go_simp
    simp only [Act.put, gA, gZ, gS, sA, sZ, sS]
    refine tA 11 (.slice (some ⟨b, off, none⟩) L.length cap) rfl hH0 ?_ ?_
    ·intro w hSw; go_simp
    simp only [Act.put, gA, gZ, gS, sA, sZ, sS]
    refine tA 12 (.int .i64 (k : Int)) rfl hH0 ?_ ?_
    ·intro w hSw; go_simp
    simp only [Act.put, gA, gZ, gS, sA, sZ, sS]
    refine tA 13 (.pointer (some ⟨b, off + k * 3, none⟩)) rfl hH0 ?_ ?_
    ·intro w hSw; go_simp
    simp only [Act.put, gA, gZ, gS, sA, sZ, sS]
    refine tA 14 (.pointer (some ⟨b, off + k * 3, none⟩)) rfl hH0 ?_ ?_
    ·intro w hSw; go_simp
    simp only [Act.put, gA, gZ, gS, sA, sZ, sS]
    refine tA 15 (.int .i64 x.1) rfl hH0 ?_ ?_
    ·intro w hSw; go_simp
    simp only [Act.put, gA, gZ, gS, sA, sZ, sS]
    refine tA 16 (.bool true) rfl hH0 ?_ ?_
    ·intro w hSw; go_simp
    simp only [Act.put, gA, gZ, gS, sA, sZ, sS]
    refine tA 17 (.bool true) rfl hH0 ?_ ?_
    ·intro w hSw; go_simp
    simp only [Act.put, gA, gZ, gS, sA, sZ, sS]
    refine wpAnyH_done (by kernel_rfl) ?_ _
    have HF := Zh (show ofErr e l L = 1 by unfold ofErr; rw [if_neg HG.out, if_pos (List.any_eq_true.2 ⟨_, HMEM.out, by unfold outE; rw [Bool.or_eq_true, decide_eq_true_eq, decide_eq_true_eq]; omega⟩)])
    go_wp2_with fail
    go_ret
    exact ⟨ret_eq (by rw [HF.out]; rfl), HB.out.trans ((HBW.out.drew).mono HB.out.size)⟩
   ·refine wp_region_held_drew (S := (fun w' => w'.cell? ⟨w.heap.size, 1, none⟩ = some (.int .i64 l) ∧ w'.cell? ⟨w.heap.size, 2, none⟩ = some (.slice (some ⟨b, off, none⟩) L.length cap) ∧ w'.cell? ⟨b, off + k * 3, none⟩ = some (.int .i64 x.1))) (by kernel_rfl) ⟨by simpa using r1, by simpa using r2, by simpa using c0⟩ (fun hH0 => ?_)
    refine tA 0 (.pointer (some ⟨w.heap.size, 2, none⟩)) rfl hH0 ?_ ?_
    ·intro w hSw; go_simp
    simp only [Act.put, gA, gZ, gS, sA, sZ, sS]
    refine tA 1 (.slice (some ⟨b, off, none⟩) L.length cap) rfl hH0 ?_ ?_
    ·intro w hSw; go_simp
    simp only [Act.put, gA, gZ, gS, sA, sZ, sS]
    refine tA 2 (.int .i64 (k : Int)) rfl hH0 ?_ ?_
    ·intro w hSw; go_simp
    simp only [Act.put, gA, gZ, gS, sA, sZ, sS]
    refine tA 3 (.pointer (some ⟨b, off + k * 3, none⟩)) rfl hH0 ?_ ?_
    ·intro w hSw; go_simp
    simp only [Act.put, gA, gZ, gS, sA, sZ, sS]
    refine tA 4 (.pointer (some ⟨b, off + k * 3, none⟩)) rfl hH0 ?_ ?_
    ·intro w hSw; go_simp
    simp only [Act.put, gA, gZ, gS, sA, sZ, sS]
    refine tA 5 (.int .i64 x.1) rfl hH0 ?_ ?_
    ·intro w hSw; go_simp
    simp only [Act.put, gA, gZ, gS, sA, sZ, sS]
    refine tA 6 (.pointer (some ⟨w.heap.size, 1, none⟩)) rfl hH0 ?_ ?_
    ·intro w hSw; go_simp
    simp only [Act.put, gA, gZ, gS, sA, sZ, sS]
    refine tA 7 (.int .i64 l) rfl hH0 ?_ ?_
    ·intro w hSw; go_simp
    simp only [Act.put, gA, gZ, gS, sA, sZ, sS]
    refine tA 8 (.bool false) rfl hH0 ?_ ?_
    ·intro w hSw; go_simp
    simp only [Act.put, gA, gZ, gS, sA, sZ, sS]
    refine tA 9 (.bool false) rfl hH0 ?_ ?_
    ·intro w hSw; go_simp
    simp only [Act.put, gA, gZ, gS, sA, sZ, sS]
    refine tA 10 (.pointer (some ⟨w.heap.size, 2, none⟩)) rfl hH0 ?_ ?_
    ·intro w hSw; go_simp
    simp only [Act.put, gA, gZ, gS, sA, sZ, sS]
    refine tA 11 (.slice (some ⟨b, off, none⟩) L.length cap) rfl hH0 ?_ ?_
    ·intro w hSw; go_simp
    simp only [Act.put, gA, gZ, gS, sA, sZ, sS]
    refine tA 12 (.int .i64 (k : Int)) rfl hH0 ?_ ?_
    ·intro w hSw; go_simp
    simp only [Act.put, gA, gZ, gS, sA, sZ, sS]
    refine tA 13 (.pointer (some ⟨b, off + k * 3, none⟩)) rfl hH0 ?_ ?_
    ·intro w hSw; go_simp
    simp only [Act.put, gA, gZ, gS, sA, sZ, sS]
    refine tA 14 (.pointer (some ⟨b, off + k * 3, none⟩)) rfl hH0 ?_ ?_
    ·intro w hSw; go_simp
    simp only [Act.put, gA, gZ, gS, sA, sZ, sS]
    refine tA 15 (.int .i64 x.1) rfl hH0 ?_ ?_
    ·intro w hSw; go_simp
    simp only [Act.put, gA, gZ, gS, sA, sZ, sS]
    refine tA 16 (.bool false) rfl hH0 ?_ ?_
    ·intro w hSw; go_simp
    simp only [Act.put, gA, gZ, gS, sA, sZ, sS]
    refine tA 17 (.bool false) rfl hH0 ?_ ?_
    ·intro w hSw; go_simp
    simp only [Act.put, gA, gZ, gS, sA, sZ, sS]
    refine wpAnyH_done (by kernel_rfl) ?_ _
    have HT := Zh (show (L.take (k + 1)).any (outE l) = false by
     rw [HTK.out, HNO.out]; unfold outE; rw [Bool.false_or, Bool.or_eq_false_iff, decide_eq_false_iff_not, decide_eq_false_iff_not]; omega)
    go_wp2_with fail
    go_roundw
    case rel => exact ⟨k + 1, by go_num, by omega, HT.out, HBW.out.drew⟩
    case measure => simp [intOf]; omega
  ·have HNN := Zh (show L.any (outE l) = false by have := HNO.out; rwa [List.take_of_length_le (by omega)] at this)
   clear HNO
   go_wp2_with fail
   clear r1 r2
   have HB0 := HBW
   obtain ⟨wo, rfl⟩ : ∃ wo : World, wo = wr := ⟨_, rfl⟩
   go_loopw [4] (fun v4 wr => ∃ k : Nat, v4 = .int .i64 k ∧ k ≤ L.length ∧ firstBad (L.take k) = 0 ∧ Below w1.heap.size w1 wr) (fun v4 _ => L.length - (intOf v4).toNat)
   case atStart => exact ⟨0, rfl, Nat.zero_le _, by simp [firstBad], HB0.out⟩
   case round =>
    obtain ⟨j, rfl, hj, hno, hbw⟩ := hrel
    have HNO := Lib.hid' hno
    have HBW := Lib.hid' hbw
    have r2 := (HX.out.below (Nat.le_refl _) hbw).box.1 2 _ rfl
    have HLr := Zh (RList.below HL1.out (Nat.le_refl _) hbw)
    clear hno hbw
    by_cases hlt : j < L.length
    ·obtain ⟨b, off, rfl, hb, c0, c1, c2⟩ := RList.get HLr.out hlt
     have HFB := Zh (firstBad_take hlt HNO.out)
     have HMEM := Zh (List.getElem_mem hlt)
     generalize L[j] = x at *
     go_wp2_with fail
     refine (rcheck8_any x.2 _ (HD.out _ HMEM.out)).mono ?_
     rintro en w5 ⟨rfl, hb5⟩
     have HB5 := Zh (HBW.out.trans (hb5.mono HBW.out.size))
     clear hb5
     by_cases hq : x.2.check = 0
     ·have HT := Zh (show firstBad (L.take (j + 1)) = 0 from HFB.out.1.trans hq)
      rw [hq]
      clear hq
      go_wp2_with fail
      go_roundw
      case rel => exact ⟨j + 1, by go_num, by omega, HT.out, HB5.out⟩
      case measure => simp [intOf]; omega
     ·have HF := Zh (show ofErr e l L = x.2.check by
       have h1 := HFB.out.2 hq
       unfold ofErr rightErr; rw [if_neg HG.out, if_neg (by rw [HNN.out]; decide), h1, if_pos hq])
      have hq1 : ((x.2.check : Nat) : Int) ≠ 0 := by omega
      clear hq
      go_wp2_with fail
      go_ret
      exact ⟨ret_eq (by rw [HF.out]; rfl), HB.out.trans (HB5.out.mono HB.out.size)⟩
    ·have HFB := Zh (show firstBad L = 0 by have := HNO.out; rwa [List.take_of_length_le (by omega)] at this)
     clear HNO
     go_wp2_with fail
     clear r2
     have HB1 := HBW
     clear HBW HB0 HLr
     obtain ⟨wp, rfl⟩ : ∃ wp : World, wp = wr := ⟨_, rfl⟩
     go_loopw [6] (fun v6 wr => ∃ k : Nat, v6 = .int .i64 k ∧ k ≤ L.length ∧ (L.take k).any noneE = false ∧ Below w1.heap.size w1 wr) (fun v6 _ => L.length - (intOf v6).toNat)
     case atStart => exact ⟨0, rfl, Nat.zero_le _, by simp, HB1.out⟩
     case round =>
      obtain ⟨i, rfl, hi, hno, hbw⟩ := hrel
      have HNO := Lib.hid' hno
      have HBW := Lib.hid' hbw
      have r2 := (HX.out.below (Nat.le_refl _) hbw).box.1 2 _ rfl
      have HLr := Zh (RList.below HL1.out (Nat.le_refl _) hbw)
      clear hno hbw
      by_cases hlt : i < L.length
      ·obtain ⟨b, off, rfl, hb, c0, c1, c2⟩ := RList.get HLr.out hlt
       have HTK := Zh (take_any noneE L i hlt)
       have HMEM := Zh (List.getElem_mem hlt)
       generalize L[i] = x at *
       by_cases hq : x.2.k = 0 ∨ x.2.k = 3
       ·have HF := Zh (show ofErr e l L = 2 by
         unfold ofErr rightErr
         rw [if_neg HG.out, if_neg (by rw [HNN.out]; decide), HFB.out, if_neg (by decide), if_pos]
         rw [List.any_eq_true]
         exact ⟨_, HMEM.out, by simp only [noneE, Bool.or_eq_true, beq_iff_eq]; exact hq⟩)
        have hq2 : (x.2.k == 0) = true ∨ ((x.2.k == 0) = false ∧ (x.2.k == 3) = true) := by
         by_cases h0 : x.2.k = 0
         ·left; simp [h0]
         ·right; exact ⟨by simpa using h0, by rcases hq with h | h; exact absurd h h0; simp [h]⟩
        clear hq
        rcases hq2 with hq | ⟨hq1, hq⟩
        all_goals
         go_wp2_with fail
         go_ret
         exact ⟨ret_eq (by rw [HF.out]; rfl), HB.out.trans (HBW.out.mono HB.out.size)⟩
       ·have HT := Zh (show (L.take (i + 1)).any noneE = false by
         rw [HTK.out, HNO.out]; show (false || (x.2.k == 0 || x.2.k == 3)) = false
         rw [Bool.false_or, Bool.or_eq_false_iff, beq_eq_false_iff_ne, beq_eq_false_iff_ne]; omega)
        have q1 : (x.2.k == 0) = false := by rw [beq_eq_false_iff_ne]; omega
        have q2 : (x.2.k == 3) = false := by rw [beq_eq_false_iff_ne]; omega
        clear hq HTK
        go_wp2_with fail
        go_roundw
        case rel => exact ⟨i + 1, by go_num, by omega, HT.out, HBW.out⟩
        case measure => simp [intOf]; omega
      ·have HNZ := Zh (show L.any noneE = false by have := HNO.out; rwa [List.take_of_length_le (by omega)] at this)
       clear HNO
       go_wp2_with fail
       clear r2
       have HB2 := HBW
       clear HBW HB1 HLr
       obtain ⟨wq, rfl⟩ : ∃ wq : World, wq = wr := ⟨_, rfl⟩
       go_loopw [8] (fun v8 wr => ∃ k : Nat, v8 = .int .i64 ((k : Int) + 1) ∧ (∀ q, q < k → (hq : q + 1 < L.length) → L[q].1 < L[q + 1].1) ∧ Below w1.heap.size w1 wr ∧ k ≤ L.length) (fun v8 _ => L.length + 1 - (intOf v8).toNat)
       case atStart => exact ⟨0, rfl, fun q h => by omega, HB2.out, by omega⟩
       case round =>
        obtain ⟨n, rfl, hno, hbw, hnl⟩ := hrel
        have HNO := Lib.hid' hno
        have HBW := Lib.hid' hbw
        have r2 := (HX.out.below (Nat.le_refl _) hbw).box.1 2 _ rfl
        have HLr := Zh (RList.below HL1.out (Nat.le_refl _) hbw)
        clear hno hbw
        by_cases hlt : n + 1 < L.length
        ·obtain ⟨b, off, hae, hb, c0, c1, c2⟩ := RList.get HLr.out hlt
         obtain ⟨b', off', hae', _, d0, d1, d2⟩ := RList.get HLr.out (show n < L.length by omega)
         subst hae
         simp only [Option.some.injEq, Addr.mk.injEq, and_true] at hae'
         obtain ⟨rfl, rfl⟩ := hae'
         have HRN := Zh (rises_no hlt)
         have HNX := Zh (show L[n].1 < L[n + 1].1 → ∀ q, q < n + 1 → (hq : q + 1 < L.length) → L[q].1 < L[q + 1].1 from by
          intro h q hq1 hq2
          by_cases hqn : q = n
          ·subst hqn; exact h
          ·exact HNO.out q (by omega) hq2)
         generalize L[n + 1].1 = xa at *
         generalize L[n].1 = ya at *
         have hlt2 : (n : Int) + 1 < L.length := by omega
         go_upto_region 23 with fail
         rcases (show xa ≤ ya ∨ ¬ xa ≤ ya from by omega) with q1 | q1
         ·refine wp_region_held_drew (S := (fun w' => w'.cell? ⟨w.heap.size, 2, none⟩ = some (.slice (some ⟨b, off, none⟩) L.length cap) ∧ w'.cell? ⟨b, off + (n + 1) * 3, none⟩ = some (.int .i64 xa) ∧ w'.cell? ⟨b, off + n * 3, none⟩ = some (.int .i64 ya))) (by kernel_rfl) ⟨by simpa using r2, by simpa using c0, by simpa using d0⟩ (fun hH0 => ?_)
          refine tA 0 (.pointer (some ⟨w.heap.size, 2, none⟩)) rfl hH0 ?_ ?_
          ·intro w hSw; go_simp
          simp only [Act.put, gA, gZ, gS, sA, sZ, sS]
          refine tA 1 (.slice (some ⟨b, off, none⟩) L.length cap) rfl hH0 ?_ ?_
          ·intro w hSw; go_simp
          simp only [Act.put, gA, gZ, gS, sA, sZ, sS]
          refine tA 2 (.int .i64 ((n : Int) + 1)) rfl hH0 ?_ ?_
          ·intro w hSw; go_simp
          simp only [Act.put, gA, gZ, gS, sA, sZ, sS]
          refine tA 3 (.pointer (some ⟨b, off + (n + 1) * 3, none⟩)) rfl hH0 ?_ ?_
          ·intro w hSw; go_simp; (try (intro h; exfalso; omega))
          simp only [Act.put, gA, gZ, gS, sA, sZ, sS]
          refine tA 4 (.pointer (some ⟨b, off + (n + 1) * 3, none⟩)) rfl hH0 ?_ ?_
          ·intro w hSw; go_simp
          simp only [Act.put, gA, gZ, gS, sA, sZ, sS]
          refine tA 5 (.int .i64 xa) rfl hH0 ?_ ?_
          ·intro w hSw; go_simp
          simp only [Act.put, gA, gZ, gS, sA, sZ, sS]
          refine tA 6 (.pointer (some ⟨w.heap.size, 2, none⟩)) rfl hH0 ?_ ?_
          ·intro w hSw; go_simp
          simp only [Act.put, gA, gZ, gS, sA, sZ, sS]
          refine tA 7 (.slice (some ⟨b, off, none⟩) L.length cap) rfl hH0 ?_ ?_
          ·intro w hSw; go_simp
          simp only [Act.put, gA, gZ, gS, sA, sZ, sS]
          refine tA 8 (.int .i64 ((n : Int) + 1)) rfl hH0 ?_ ?_
          ·intro w hSw; go_simp
          simp only [Act.put, gA, gZ, gS, sA, sZ, sS]
          refine tA 9 (.int .i64 (n : Int)) rfl hH0 ?_ ?_
          ·intro w hSw; go_simp; first | exact IntWalk.i64_in _ (by omega) | exact IntWalk.i64_in _ (by omega) (by omega)
          simp only [Act.put, gA, gZ, gS, sA, sZ, sS]
          refine tA 10 (.pointer (some ⟨b, off + n * 3, none⟩)) rfl hH0 ?_ ?_
          ·intro w hSw; go_simp; (try (intro h; exfalso; omega)); (try omega)
          simp only [Act.put, gA, gZ, gS, sA, sZ, sS]
          refine tA 11 (.pointer (some ⟨b, off + n * 3, none⟩)) rfl hH0 ?_ ?_
          ·intro w hSw; go_simp
          simp only [Act.put, gA, gZ, gS, sA, sZ, sS]
          refine tA 12 (.int .i64 ya) rfl hH0 ?_ ?_
          ·intro w hSw; go_simp
          simp only [Act.put, gA, gZ, gS, sA, sZ, sS]
          refine tA 13 (.bool true) rfl hH0 ?_ ?_
          ·intro w hSw; go_simp
          simp only [Act.put, gA, gZ, gS, sA, sZ, sS]
          refine wpAnyH_done (by kernel_rfl) ?_ _
          have HF := Zh (show ofErr e l L = 13 by
           unfold ofErr rightErr
           rw [if_neg HG.out, if_neg (by rw [HNN.out]; decide), HFB.out, if_neg (by decide), if_neg (by rw [HNZ.out]; decide), HRN.out (by omega), if_neg (by decide)])
          go_wp2_with fail
          go_ret
          exact ⟨ret_eq (by rw [HF.out]; rfl), HB.out.trans ((HBW.out.drew).mono HB.out.size)⟩
         ·refine wp_region_held_drew (S := (fun w' => w'.cell? ⟨w.heap.size, 2, none⟩ = some (.slice (some ⟨b, off, none⟩) L.length cap) ∧ w'.cell? ⟨b, off + (n + 1) * 3, none⟩ = some (.int .i64 xa) ∧ w'.cell? ⟨b, off + n * 3, none⟩ = some (.int .i64 ya))) (by kernel_rfl) ⟨by simpa using r2, by simpa using c0, by simpa using d0⟩ (fun hH0 => ?_)
          refine tA 0 (.pointer (some ⟨w.heap.size, 2, none⟩)) rfl hH0 ?_ ?_
          ·intro w hSw; go_simp
          simp only [Act.put, gA, gZ, gS, sA, sZ, sS]
          refine tA 1 (.slice (some ⟨b, off, none⟩) L.length cap) rfl hH0 ?_ ?_
          ·intro w hSw; go_simp
          simp only [Act.put, gA, gZ, gS, sA, sZ, sS]
          refine tA 2 (.int .i64 ((n : Int) + 1)) rfl hH0 ?_ ?_
          ·intro w hSw; go_simp
          simp only [Act.put, gA, gZ, gS, sA, sZ, sS]
          refine tA 3 (.pointer (some ⟨b, off + (n + 1) * 3, none⟩)) rfl hH0 ?_ ?_
          ·intro w hSw; go_simp; (try (intro h; exfalso; omega))
          simp only [Act.put, gA, gZ, gS, sA, sZ, sS]
          refine tA 4 (.pointer (some ⟨b, off + (n + 1) * 3, none⟩)) rfl hH0 ?_ ?_
          ·intro w hSw; go_simp
          simp only [Act.put, gA, gZ, gS, sA, sZ, sS]
          refine tA 5 (.int .i64 xa) rfl hH0 ?_ ?_
          ·intro w hSw; go_simp
          simp only [Act.put, gA, gZ, gS, sA, sZ, sS]
          refine tA 6 (.pointer (some ⟨w.heap.size, 2, none⟩)) rfl hH0 ?_ ?_
          ·intro w hSw; go_simp
          simp only [Act.put, gA, gZ, gS, sA, sZ, sS]
          refine tA 7 (.slice (some ⟨b, off, none⟩) L.length cap) rfl hH0 ?_ ?_
          ·intro w hSw; go_simp
          simp only [Act.put, gA, gZ, gS, sA, sZ, sS]
          refine tA 8 (.int .i64 ((n : Int) + 1)) rfl hH0 ?_ ?_
          ·intro w hSw; go_simp
          simp only [Act.put, gA, gZ, gS, sA, sZ, sS]
          refine tA 9 (.int .i64 (n : Int)) rfl hH0 ?_ ?_
          ·intro w hSw; go_simp; first | exact IntWalk.i64_in _ (by omega) | exact IntWalk.i64_in _ (by omega) (by omega)
          simp only [Act.put, gA, gZ, gS, sA, sZ, sS]
          refine tA 10 (.pointer (some ⟨b, off + n * 3, none⟩)) rfl hH0 ?_ ?_
          ·intro w hSw; go_simp; (try (intro h; exfalso; omega)); (try omega)
          simp only [Act.put, gA, gZ, gS, sA, sZ, sS]
          refine tA 11 (.pointer (some ⟨b, off + n * 3, none⟩)) rfl hH0 ?_ ?_
          ·intro w hSw; go_simp
          simp only [Act.put, gA, gZ, gS, sA, sZ, sS]
          refine tA 12 (.int .i64 ya) rfl hH0 ?_ ?_
          ·intro w hSw; go_simp
          simp only [Act.put, gA, gZ, gS, sA, sZ, sS]
          refine tA 13 (.bool false) rfl hH0 ?_ ?_
          ·intro w hSw; go_simp
          simp only [Act.put, gA, gZ, gS, sA, sZ, sS]
          refine wpAnyH_done (by kernel_rfl) ?_ _
          go_wp2_with fail
          go_roundw
          case rel => exact ⟨n + 1, by go_num, HNX.out (by omega), HBW.out.drew, by omega⟩
          case measure => simp [intOf]; omega
        ·have HF := Zh (show ofErr e l L = 0 by
          unfold ofErr rightErr
          rw [if_neg HG.out, if_neg (by rw [HNN.out]; decide), HFB.out, if_neg (by decide), if_neg (by rw [HNZ.out]; decide), if_pos]
          rw [risesB_iff]
          intro j hj0 hj
          obtain ⟨q, rfl⟩ : ∃ q, j = q + 1 := ⟨j - 1, by omega⟩
          exact HNO.out q (by omega) hj)
         have hlt2 : ¬ (n : Int) + 1 < L.length := by omega
         go_wp2_with fail
         go_ret
         exact ⟨ret_eq (by rw [HF.out]; rfl), HB.out.trans (HBW.out.mono HB.out.size)⟩
end Go.Proofs.YtddlkkmdcfamiaaGreatDoor
