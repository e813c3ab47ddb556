/- Proved here: a part of the proof (4 of 12). -/
import Derived.Test.YtkhnbdbcaebdaaaGreatDoorQ3
import Derived.Laws.Strings
import Derived.Lib.ItoaNum
import Derived.Lib.Atoi
import Derived.Lib.SlTrimSet
import Derived.Lib.Repeat
import Derived.StillTailTactics
namespace Go.Proofs.YtkhnbdbcaebdaaaGreatDoor
open Go.RowKit
set_option linter.unusedSimpArgs false
set_option linter.unusedVariables false
set_option maxRecDepth 100000

def ac9V (x : Ac) (a : Option Addr) (c : Nat) : Value := .agg #[.int .i64 x.k, .int .i64 x.e, .int .i64 x.a, .slice a x.d.length c]
theorem rin_t (x m : Int) (h0 : 0 ≤ x) (h1 : x ≤ m) (w : World) : Calls Tryz.prog 76 #[.int .i64 x, .int .i64 m] w fun e w' => e = .returned (.bool true) ∧ w' = w := by
  go_enter Tryz.func76, Tryz.ntmps76
  go_wp2
  go_ret
  exact ⟨ret_eq (by simp [h0, h1]), rfl⟩
theorem rin_f (x m : Int) (h : ¬ (0 ≤ x ∧ x ≤ m)) (w : World) : Calls Tryz.prog 76 #[.int .i64 x, .int .i64 m] w fun e w' => e = .returned (.bool false) ∧ w' = w := by
  by_cases h0 : 0 ≤ x
  · have h1 : ¬ x ≤ m := fun hh => h ⟨h0, hh⟩
    have H := Lib.hid' h1
    clear h
    go_enter Tryz.func76, Tryz.ntmps76
    go_wp2
    go_ret
    exact ⟨ret_eq (by simp; (try omega)), rfl⟩
  · clear h
    go_enter Tryz.func76, Tryz.ntmps76
    go_wp2
    go_ret
    exact ⟨ret_eq (by simp; (try omega)), rfl⟩
def hiN (k : Int) : Int := if k = 2 ∨ k = 3 then 1048575 else 1048576
theorem rhi_any (k : Int) (w : World) : Calls Tryz.prog 77 #[.int .i64 k] w fun e w' => e = .returned (.int .i64 (hiN k)) ∧ w' = w := by
  by_cases h2 : k = 2
  · subst h2
    go_enter Tryz.func77, Tryz.ntmps77
    go_wp2
    go_ret
    exact ⟨rfl, rfl⟩
  · have h2b : (k == 2) = false := by rw [beq_eq_false_iff_ne]; exact h2
    by_cases h3 : k = 3
    · subst h3
      go_enter Tryz.func77, Tryz.ntmps77
      go_wp2
      go_ret
      exact ⟨rfl, rfl⟩
    · have h3b : (k == 3) = false := by rw [beq_eq_false_iff_ne]; exact h3
      have H := Lib.hid' (show hiN k = 1048576 by unfold hiN; rw [if_neg (by omega)])
      clear h2 h3
      go_enter Tryz.func77, Tryz.ntmps77
      go_wp2
      go_ret
      exact ⟨ret_eq (by rw [H.out]; rfl), rfl⟩
theorem ck_1 {x : Ac} (h : x.k < 1 ∨ 5 < x.k ∨ ¬ (0 ≤ x.e ∧ x.e ≤ 1099511627776) ∨ ¬ (0 ≤ x.a ∧ x.a ≤ hiN x.k)) : x.check = 1 := by
  unfold Ac.check
  by_cases h1 : x.k < 1 ∨ 5 < x.k ∨ x.e < 0 ∨ 1099511627776 < x.e ∨ x.a < 0 ∨ 1048576 < x.a
  · rw [if_pos h1]
  · rw [if_neg h1]
    by_cases h2 : (x.k = 2 ∨ x.k = 3) ∧ x.a = 1048576
    · rw [if_pos h2]
    · exfalso
      unfold hiN at h
      split at h <;> omega
theorem ck_go {x : Ac} (h1 : ¬ x.k < 1) (h2 : ¬ 5 < x.k) (h3 : 0 ≤ x.e ∧ x.e ≤ 1099511627776) (h4 : 0 ≤ x.a ∧ x.a ≤ hiN x.k) : x.check = if 64 < x.d.length then 3 else if x.k = 1 ∧ x.a ≠ 0 ∨ x.k ≠ 2 ∧ 0 < x.d.length then 2 else 0 := by
  unfold Ac.check
  unfold hiN at h4
  split at h4
  · rw [if_neg (by omega), if_neg (by omega)]
  · rw [if_neg (by omega), if_neg (by omega)]
set_option maxHeartbeats 4000000 in
theorem rcheck9_any (x : Ac) (a : Option Addr) (c : Nat) (hl : x.d.length ≤ 9223372036854775807) (w : World) : Calls Tryz.prog 42 #[ac9V x a c] w fun e w' => e = .returned (errV x.check) ∧ Below w.heap.size w w' := by
  obtain ⟨k, e, ad, d⟩ := x
  unfold ac9V
  simp only at hl ⊢
  by_cases h1 : k < 1
  · have HC := Lib.hid' (ck_1 (x := ⟨k, e, ad, d⟩) (.inl h1))
    go_enter Tryz.func42, Tryz.ntmps42
    go_wp2_with fail
    go_quiet (fail)
    go_wp2
    go_ret
    exact ⟨ret_eq (by rw [HC.out]; rfl), below_drewN' (by go_grown) _⟩
  by_cases h2 : 5 < k
  · have HC := Lib.hid' (ck_1 (x := ⟨k, e, ad, d⟩) (.inr (.inl h2)))
    go_enter Tryz.func42, Tryz.ntmps42
    go_wp2_with fail
    go_quiet (fail)
    go_wp2
    go_ret
    exact ⟨ret_eq (by rw [HC.out]; rfl), below_drewN' (by go_grown) _⟩
  by_cases h3 : 0 ≤ e ∧ e ≤ 1099511627776
  rotate_left
  · have HC := Lib.hid' (ck_1 (x := ⟨k, e, ad, d⟩) (.inr (.inr (.inl h3))))
    have HF := Lib.hid' (fun w => rin_f e 1099511627776 h3 w)
    clear h3
    go_enter Tryz.func42, Tryz.ntmps42
    go_wp2_with fail
    have c0 : (w.alloc (.cells #[.int .i64 k, .int .i64 e, .int .i64 ad, .slice a d.length c] 34)).cell? ⟨w.heap.size, 0, none⟩ = some (.int .i64 k) := by simp [go_sem]
    have c1 : (w.alloc (.cells #[.int .i64 k, .int .i64 e, .int .i64 ad, .slice a d.length c] 34)).cell? ⟨w.heap.size, 1, none⟩ = some (.int .i64 e) := by simp [go_sem]
    have c2 : (w.alloc (.cells #[.int .i64 k, .int .i64 e, .int .i64 ad, .slice a d.length c] 34)).cell? ⟨w.heap.size, 2, none⟩ = some (.int .i64 ad) := by simp [go_sem]
    have c3 : (w.alloc (.cells #[.int .i64 k, .int .i64 e, .int .i64 ad, .slice a d.length c] 34)).cell? ⟨w.heap.size, 3, none⟩ = some (.slice a d.length c) := by simp [go_sem]
    have HG := Lib.hid' (show Below w.heap.size w (w.alloc (.cells #[.int .i64 k, .int .i64 e, .int .i64 ad, .slice a d.length c] 34)) by go_grown)
    generalize w.alloc (.cells #[.int .i64 k, .int .i64 e, .int .i64 ad, .slice a d.length c] 34) = w1 at *
    refine wp_region_held_drew (S := (fun w' => w'.cell? ⟨w.heap.size, 0, none⟩ = some (.int .i64 k) ∧ w'.cell? ⟨w.heap.size, 1, none⟩ = some (.int .i64 e) ∧ w'.cell? ⟨w.heap.size, 2, none⟩ = some (.int .i64 ad) ∧ w'.cell? ⟨w.heap.size, 3, none⟩ = some (.slice a d.length c))) (by kernel_rfl) ⟨by simpa using c0, by simpa using c1, by simpa using c2, by simpa using c3⟩ (fun hH0 => ?_)
    refine wpAnyH_take (i := 0) (oi := _) (v := .pointer (some ⟨w.heap.size, 0, none⟩)) rfl (by kernel_rfl) (by kernel_rfl) (by kernel_rfl) (fun _ _ _ h => h) (Or.inl ⟨by rfl, ?_⟩) hH0 ?_
    · intro w hSw; go_simp
    simp only [Act.put, List.getElem_toArray, List.getElem_cons_zero, List.getElem_cons_succ, List.setIfInBounds_toArray, List.set_cons_zero, List.set_cons_succ]
    refine wpAnyH_take (i := 1) (oi := _) (v := .int .i64 k) rfl (by kernel_rfl) (by kernel_rfl) (by kernel_rfl) (fun _ _ _ h => h) (Or.inl ⟨by rfl, ?_⟩) hH0 ?_
    · intro w hSw; go_simp
    simp only [Act.put, List.getElem_toArray, List.getElem_cons_zero, List.getElem_cons_succ, List.setIfInBounds_toArray, List.set_cons_zero, List.set_cons_succ]
    refine wpAnyH_take (i := 2) (oi := _) (v := .bool false) rfl (by kernel_rfl) (by kernel_rfl) (by kernel_rfl) (fun _ _ _ h => h) (Or.inl ⟨by rfl, ?_⟩) hH0 ?_
    · intro w hSw; go_simp
    simp only [Act.put, List.getElem_toArray, List.getElem_cons_zero, List.getElem_cons_succ, List.setIfInBounds_toArray, List.set_cons_zero, List.set_cons_succ]
    refine wpAnyH_take (i := 3) (oi := _) (v := .bool false) rfl (by kernel_rfl) (by kernel_rfl) (by kernel_rfl) (fun _ _ _ h => h) (Or.inl ⟨by rfl, ?_⟩) hH0 ?_
    · intro w hSw; go_simp
    simp only [Act.put, List.getElem_toArray, List.getElem_cons_zero, List.getElem_cons_succ, List.setIfInBounds_toArray, List.set_cons_zero, List.set_cons_succ]
    refine wpAnyH_take (i := 4) (oi := _) (v := .pointer (some ⟨w.heap.size, 0, none⟩)) rfl (by kernel_rfl) (by kernel_rfl) (by kernel_rfl) (fun _ _ _ h => h) (Or.inl ⟨by rfl, ?_⟩) hH0 ?_
    · intro w hSw; go_simp
    simp only [Act.put, List.getElem_toArray, List.getElem_cons_zero, List.getElem_cons_succ, List.setIfInBounds_toArray, List.set_cons_zero, List.set_cons_succ]
    refine wpAnyH_take (i := 5) (oi := _) (v := .int .i64 k) rfl (by kernel_rfl) (by kernel_rfl) (by kernel_rfl) (fun _ _ _ h => h) (Or.inl ⟨by rfl, ?_⟩) hH0 ?_
    · intro w hSw; go_simp
    simp only [Act.put, List.getElem_toArray, List.getElem_cons_zero, List.getElem_cons_succ, List.setIfInBounds_toArray, List.set_cons_zero, List.set_cons_succ]
    refine wpAnyH_take (i := 6) (oi := _) (v := .bool false) rfl (by kernel_rfl) (by kernel_rfl) (by kernel_rfl) (fun _ _ _ h => h) (Or.inl ⟨by rfl, ?_⟩) hH0 ?_
    · intro w hSw; go_simp
    simp only [Act.put, List.getElem_toArray, List.getElem_cons_zero, List.getElem_cons_succ, List.setIfInBounds_toArray, List.set_cons_zero, List.set_cons_succ]
    refine wpAnyH_take (i := 7) (oi := _) (v := .bool false) rfl (by kernel_rfl) (by kernel_rfl) (by kernel_rfl) (fun _ _ _ h => h) (Or.inl ⟨by rfl, ?_⟩) hH0 ?_
    · intro w hSw; go_simp
    simp only [Act.put, List.getElem_toArray, List.getElem_cons_zero, List.getElem_cons_succ, List.setIfInBounds_toArray, List.set_cons_zero, List.set_cons_succ]
    refine wpAnyH_take (i := 8) (oi := _) (v := .bool false) rfl (by kernel_rfl) (by kernel_rfl) (by kernel_rfl) (fun _ _ _ h => h) (Or.inl ⟨by rfl, ?_⟩) hH0 ?_
    · intro w hSw; go_simp
    simp only [Act.put, List.getElem_toArray, List.getElem_cons_zero, List.getElem_cons_succ, List.setIfInBounds_toArray, List.set_cons_zero, List.set_cons_succ]
    refine wpAnyH_take (i := 9) (oi := _) (v := .pointer (some ⟨w.heap.size, 1, none⟩)) rfl (by kernel_rfl) (by kernel_rfl) (by kernel_rfl) (fun _ _ _ h => h) (Or.inl ⟨by rfl, ?_⟩) hH0 ?_
    · intro w hSw; go_simp
    simp only [Act.put, List.getElem_toArray, List.getElem_cons_zero, List.getElem_cons_succ, List.setIfInBounds_toArray, List.set_cons_zero, List.set_cons_succ]
    refine wpAnyH_take (i := 10) (oi := _) (v := .int .i64 e) rfl (by kernel_rfl) (by kernel_rfl) (by kernel_rfl) (fun _ _ _ h => h) (Or.inl ⟨by rfl, ?_⟩) hH0 ?_
    · intro w hSw; go_simp
    simp only [Act.put, List.getElem_toArray, List.getElem_cons_zero, List.getElem_cons_succ, List.setIfInBounds_toArray, List.set_cons_zero, List.set_cons_succ]
    refine wpAnyH_ready (rs := [11]) (by kernel_rfl) (by simp) (AllReadyH.cons (o := _) rfl (fun K hK => ?_) AllReadyH.nil)
    go_simp
    refine (HF.out _).mono ?_
    rintro en w5 ⟨rfl, rfl⟩
    refine hK.out _ _ ?_ (fun hH1 => ?_)
    · exact hH0
    clear hK K
    refine wpAnyH_take (i := 12) (oi := _) (v := .bool true) rfl (by kernel_rfl) (by kernel_rfl) (by kernel_rfl) (fun _ _ _ h => h) (Or.inl ⟨by rfl, ?_⟩) hH1 ?_
    · intro w hSw; go_simp
    simp only [Act.put, List.getElem_toArray, List.getElem_cons_zero, List.getElem_cons_succ, List.setIfInBounds_toArray, List.set_cons_zero, List.set_cons_succ]
    refine wpAnyH_take (i := 13) (oi := _) (v := .bool true) rfl (by kernel_rfl) (by kernel_rfl) (by kernel_rfl) (fun _ _ _ h => h) (Or.inl ⟨by rfl, ?_⟩) hH1 ?_
    · intro w hSw; go_simp
    simp only [Act.put, List.getElem_toArray, List.getElem_cons_zero, List.getElem_cons_succ, List.setIfInBounds_toArray, List.set_cons_zero, List.set_cons_succ]
    refine wpAnyH_take (i := 14) (oi := _) (v := .bool true) rfl (by kernel_rfl) (by kernel_rfl) (by kernel_rfl) (fun _ _ _ h => h) (Or.inl ⟨by rfl, ?_⟩) hH1 ?_
    · intro w hSw; go_simp
    simp only [Act.put, List.getElem_toArray, List.getElem_cons_zero, List.getElem_cons_succ, List.setIfInBounds_toArray, List.set_cons_zero, List.set_cons_succ]
    refine wpAnyH_take (i := 15) (oi := _) (v := undef) rfl (by kernel_rfl) (by kernel_rfl) (by kernel_rfl) (fun _ _ _ h => h) (Or.inr ⟨by kernel_rfl, rfl⟩) hH1 ?_
    simp only [Act.put, List.getElem_toArray, List.getElem_cons_zero, List.getElem_cons_succ, List.setIfInBounds_toArray, List.set_cons_zero, List.set_cons_succ]
    refine wpAnyH_take (i := 16) (oi := _) (v := undef) rfl (by kernel_rfl) (by kernel_rfl) (by kernel_rfl) (fun _ _ _ h => h) (Or.inr ⟨by kernel_rfl, rfl⟩) hH1 ?_
    simp only [Act.put, List.getElem_toArray, List.getElem_cons_zero, List.getElem_cons_succ, List.setIfInBounds_toArray, List.set_cons_zero, List.set_cons_succ]
    refine wpAnyH_take (i := 17) (oi := _) (v := undef) rfl (by kernel_rfl) (by kernel_rfl) (by kernel_rfl) (fun _ _ _ h => h) (Or.inr ⟨by kernel_rfl, rfl⟩) hH1 ?_
    simp only [Act.put, List.getElem_toArray, List.getElem_cons_zero, List.getElem_cons_succ, List.setIfInBounds_toArray, List.set_cons_zero, List.set_cons_succ]
    refine wpAnyH_take (i := 18) (oi := _) (v := undef) rfl (by kernel_rfl) (by kernel_rfl) (by kernel_rfl) (fun _ _ _ h => h) (Or.inr ⟨by kernel_rfl, rfl⟩) hH1 ?_
    simp only [Act.put, List.getElem_toArray, List.getElem_cons_zero, List.getElem_cons_succ, List.setIfInBounds_toArray, List.set_cons_zero, List.set_cons_succ]
    refine wpAnyH_take (i := 19) (oi := _) (v := undef) rfl (by kernel_rfl) (by kernel_rfl) (by kernel_rfl) (fun _ _ _ h => h) (Or.inr ⟨by kernel_rfl, rfl⟩) hH1 ?_
    simp only [Act.put, List.getElem_toArray, List.getElem_cons_zero, List.getElem_cons_succ, List.setIfInBounds_toArray, List.set_cons_zero, List.set_cons_succ]
    refine wpAnyH_take (i := 20) (oi := _) (v := undef) rfl (by kernel_rfl) (by kernel_rfl) (by kernel_rfl) (fun _ _ _ h => h) (Or.inr ⟨by kernel_rfl, rfl⟩) hH1 ?_
    simp only [Act.put, List.getElem_toArray, List.getElem_cons_zero, List.getElem_cons_succ, List.setIfInBounds_toArray, List.set_cons_zero, List.set_cons_succ]
    refine wpAnyH_take (i := 21) (oi := _) (v := undef) rfl (by kernel_rfl) (by kernel_rfl) (by kernel_rfl) (fun _ _ _ h => h) (Or.inr ⟨by kernel_rfl, rfl⟩) hH1 ?_
    simp only [Act.put, List.getElem_toArray, List.getElem_cons_zero, List.getElem_cons_succ, List.setIfInBounds_toArray, List.set_cons_zero, List.set_cons_succ]
    refine wpAnyH_take (i := 22) (oi := _) (v := .bool true) rfl (by kernel_rfl) (by kernel_rfl) (by kernel_rfl) (fun _ _ _ h => h) (Or.inl ⟨by rfl, ?_⟩) hH1 ?_
    · intro w hSw; go_simp
    simp only [Act.put, List.getElem_toArray, List.getElem_cons_zero, List.getElem_cons_succ, List.setIfInBounds_toArray, List.set_cons_zero, List.set_cons_succ]
    refine wpAnyH_take (i := 23) (oi := _) (v := .bool true) rfl (by kernel_rfl) (by kernel_rfl) (by kernel_rfl) (fun _ _ _ h => h) (Or.inl ⟨by rfl, ?_⟩) hH1 ?_
    · intro w hSw; go_simp
    simp only [Act.put, List.getElem_toArray, List.getElem_cons_zero, List.getElem_cons_succ, List.setIfInBounds_toArray, List.set_cons_zero, List.set_cons_succ]
    refine wpAnyH_done (by kernel_rfl) ?_ _
    go_wp2
    go_ret
    exact ⟨ret_eq (by rw [HC.out]; rfl), HG.out.trans (Below.drew (Below.refl _ _) |>.mono HG.out.size)⟩
  have HT := Lib.hid' (fun w => rin_t e 1099511627776 h3.1 h3.2 w)
  have HH := Lib.hid' (fun w => rhi_any k w)
  by_cases h4 : 0 ≤ ad ∧ ad ≤ hiN k
  rotate_left
  · have HC := Lib.hid' (ck_1 (x := ⟨k, e, ad, d⟩) (.inr (.inr (.inr h4))))
    have HA := Lib.hid' (fun w => rin_f ad (hiN k) h4 w)
    clear h3 h4
    obtain ⟨hi, hhi⟩ : ∃ hi, hi = hiN k := ⟨_, rfl⟩
    rw [← hhi] at HA HH
    clear hhi
    go_enter Tryz.func42, Tryz.ntmps42
    go_wp2_with fail
    have c0 : (w.alloc (.cells #[.int .i64 k, .int .i64 e, .int .i64 ad, .slice a d.length c] 34)).cell? ⟨w.heap.size, 0, none⟩ = some (.int .i64 k) := by simp [go_sem]
    have c1 : (w.alloc (.cells #[.int .i64 k, .int .i64 e, .int .i64 ad, .slice a d.length c] 34)).cell? ⟨w.heap.size, 1, none⟩ = some (.int .i64 e) := by simp [go_sem]
    have c2 : (w.alloc (.cells #[.int .i64 k, .int .i64 e, .int .i64 ad, .slice a d.length c] 34)).cell? ⟨w.heap.size, 2, none⟩ = some (.int .i64 ad) := by simp [go_sem]
    have c3 : (w.alloc (.cells #[.int .i64 k, .int .i64 e, .int .i64 ad, .slice a d.length c] 34)).cell? ⟨w.heap.size, 3, none⟩ = some (.slice a d.length c) := by simp [go_sem]
    have HG := Lib.hid' (show Below w.heap.size w (w.alloc (.cells #[.int .i64 k, .int .i64 e, .int .i64 ad, .slice a d.length c] 34)) by go_grown)
    generalize w.alloc (.cells #[.int .i64 k, .int .i64 e, .int .i64 ad, .slice a d.length c] 34) = w1 at *
    refine wp_region_held_drew (S := (fun w' => w'.cell? ⟨w.heap.size, 0, none⟩ = some (.int .i64 k) ∧ w'.cell? ⟨w.heap.size, 1, none⟩ = some (.int .i64 e) ∧ w'.cell? ⟨w.heap.size, 2, none⟩ = some (.int .i64 ad) ∧ w'.cell? ⟨w.heap.size, 3, none⟩ = some (.slice a d.length c))) (by kernel_rfl) ⟨by simpa using c0, by simpa using c1, by simpa using c2, by simpa using c3⟩ (fun hH0 => ?_)
    refine wpAnyH_take (i := 0) (oi := _) (v := .pointer (some ⟨w.heap.size, 0, none⟩)) rfl (by kernel_rfl) (by kernel_rfl) (by kernel_rfl) (fun _ _ _ h => h) (Or.inl ⟨by rfl, ?_⟩) hH0 ?_
    · intro w hSw; go_simp
    simp only [Act.put, List.getElem_toArray, List.getElem_cons_zero, List.getElem_cons_succ, List.setIfInBounds_toArray, List.set_cons_zero, List.set_cons_succ]
    refine wpAnyH_take (i := 1) (oi := _) (v := .int .i64 k) rfl (by kernel_rfl) (by kernel_rfl) (by kernel_rfl) (fun _ _ _ h => h) (Or.inl ⟨by rfl, ?_⟩) hH0 ?_
    · intro w hSw; go_simp
    simp only [Act.put, List.getElem_toArray, List.getElem_cons_zero, List.getElem_cons_succ, List.setIfInBounds_toArray, List.set_cons_zero, List.set_cons_succ]
    refine wpAnyH_take (i := 2) (oi := _) (v := .bool false) rfl (by kernel_rfl) (by kernel_rfl) (by kernel_rfl) (fun _ _ _ h => h) (Or.inl ⟨by rfl, ?_⟩) hH0 ?_
    · intro w hSw; go_simp
    simp only [Act.put, List.getElem_toArray, List.getElem_cons_zero, List.getElem_cons_succ, List.setIfInBounds_toArray, List.set_cons_zero, List.set_cons_succ]
    refine wpAnyH_take (i := 3) (oi := _) (v := .bool false) rfl (by kernel_rfl) (by kernel_rfl) (by kernel_rfl) (fun _ _ _ h => h) (Or.inl ⟨by rfl, ?_⟩) hH0 ?_
    · intro w hSw; go_simp
    simp only [Act.put, List.getElem_toArray, List.getElem_cons_zero, List.getElem_cons_succ, List.setIfInBounds_toArray, List.set_cons_zero, List.set_cons_succ]
    refine wpAnyH_take (i := 4) (oi := _) (v := .pointer (some ⟨w.heap.size, 0, none⟩)) rfl (by kernel_rfl) (by kernel_rfl) (by kernel_rfl) (fun _ _ _ h => h) (Or.inl ⟨by rfl, ?_⟩) hH0 ?_
    · intro w hSw; go_simp
    simp only [Act.put, List.getElem_toArray, List.getElem_cons_zero, List.getElem_cons_succ, List.setIfInBounds_toArray, List.set_cons_zero, List.set_cons_succ]
    refine wpAnyH_take (i := 5) (oi := _) (v := .int .i64 k) rfl (by kernel_rfl) (by kernel_rfl) (by kernel_rfl) (fun _ _ _ h => h) (Or.inl ⟨by rfl, ?_⟩) hH0 ?_
    · intro w hSw; go_simp
    simp only [Act.put, List.getElem_toArray, List.getElem_cons_zero, List.getElem_cons_succ, List.setIfInBounds_toArray, List.set_cons_zero, List.set_cons_succ]
    refine wpAnyH_take (i := 6) (oi := _) (v := .bool false) rfl (by kernel_rfl) (by kernel_rfl) (by kernel_rfl) (fun _ _ _ h => h) (Or.inl ⟨by rfl, ?_⟩) hH0 ?_
    · intro w hSw; go_simp
    simp only [Act.put, List.getElem_toArray, List.getElem_cons_zero, List.getElem_cons_succ, List.setIfInBounds_toArray, List.set_cons_zero, List.set_cons_succ]
    refine wpAnyH_take (i := 7) (oi := _) (v := .bool false) rfl (by kernel_rfl) (by kernel_rfl) (by kernel_rfl) (fun _ _ _ h => h) (Or.inl ⟨by rfl, ?_⟩) hH0 ?_
    · intro w hSw; go_simp
    simp only [Act.put, List.getElem_toArray, List.getElem_cons_zero, List.getElem_cons_succ, List.setIfInBounds_toArray, List.set_cons_zero, List.set_cons_succ]
    refine wpAnyH_take (i := 8) (oi := _) (v := .bool false) rfl (by kernel_rfl) (by kernel_rfl) (by kernel_rfl) (fun _ _ _ h => h) (Or.inl ⟨by rfl, ?_⟩) hH0 ?_
    · intro w hSw; go_simp
    simp only [Act.put, List.getElem_toArray, List.getElem_cons_zero, List.getElem_cons_succ, List.setIfInBounds_toArray, List.set_cons_zero, List.set_cons_succ]
    refine wpAnyH_take (i := 9) (oi := _) (v := .pointer (some ⟨w.heap.size, 1, none⟩)) rfl (by kernel_rfl) (by kernel_rfl) (by kernel_rfl) (fun _ _ _ h => h) (Or.inl ⟨by rfl, ?_⟩) hH0 ?_
    · intro w hSw; go_simp
    simp only [Act.put, List.getElem_toArray, List.getElem_cons_zero, List.getElem_cons_succ, List.setIfInBounds_toArray, List.set_cons_zero, List.set_cons_succ]
    refine wpAnyH_take (i := 10) (oi := _) (v := .int .i64 e) rfl (by kernel_rfl) (by kernel_rfl) (by kernel_rfl) (fun _ _ _ h => h) (Or.inl ⟨by rfl, ?_⟩) hH0 ?_
    · intro w hSw; go_simp
    simp only [Act.put, List.getElem_toArray, List.getElem_cons_zero, List.getElem_cons_succ, List.setIfInBounds_toArray, List.set_cons_zero, List.set_cons_succ]
    refine wpAnyH_ready (rs := [11]) (by kernel_rfl) (by simp) (AllReadyH.cons (o := _) rfl (fun K hK => ?_) AllReadyH.nil)
    go_simp
    refine (HT.out _).mono ?_
    rintro en w5 ⟨rfl, rfl⟩
    refine hK.out _ _ ?_ (fun hH1 => ?_)
    · exact hH0
    clear hK K
    refine wpAnyH_take (i := 12) (oi := _) (v := .bool false) rfl (by kernel_rfl) (by kernel_rfl) (by kernel_rfl) (fun _ _ _ h => h) (Or.inl ⟨by rfl, ?_⟩) hH1 ?_
    · intro w hSw; go_simp
    simp only [Act.put, List.getElem_toArray, List.getElem_cons_zero, List.getElem_cons_succ, List.setIfInBounds_toArray, List.set_cons_zero, List.set_cons_succ]
    refine wpAnyH_take (i := 13) (oi := _) (v := .bool false) rfl (by kernel_rfl) (by kernel_rfl) (by kernel_rfl) (fun _ _ _ h => h) (Or.inl ⟨by rfl, ?_⟩) hH1 ?_
    · intro w hSw; go_simp
    simp only [Act.put, List.getElem_toArray, List.getElem_cons_zero, List.getElem_cons_succ, List.setIfInBounds_toArray, List.set_cons_zero, List.set_cons_succ]
    refine wpAnyH_take (i := 14) (oi := _) (v := .bool false) rfl (by kernel_rfl) (by kernel_rfl) (by kernel_rfl) (fun _ _ _ h => h) (Or.inl ⟨by rfl, ?_⟩) hH1 ?_
    · intro w hSw; go_simp
    simp only [Act.put, List.getElem_toArray, List.getElem_cons_zero, List.getElem_cons_succ, List.setIfInBounds_toArray, List.set_cons_zero, List.set_cons_succ]
    refine wpAnyH_take (i := 15) (oi := _) (v := .pointer (some ⟨w.heap.size, 2, none⟩)) rfl (by kernel_rfl) (by kernel_rfl) (by kernel_rfl) (fun _ _ _ h => h) (Or.inl ⟨by rfl, ?_⟩) hH1 ?_
    · intro w hSw; go_simp
    simp only [Act.put, List.getElem_toArray, List.getElem_cons_zero, List.getElem_cons_succ, List.setIfInBounds_toArray, List.set_cons_zero, List.set_cons_succ]
    refine wpAnyH_take (i := 16) (oi := _) (v := .int .i64 ad) rfl (by kernel_rfl) (by kernel_rfl) (by kernel_rfl) (fun _ _ _ h => h) (Or.inl ⟨by rfl, ?_⟩) hH1 ?_
    · intro w hSw; go_simp
    simp only [Act.put, List.getElem_toArray, List.getElem_cons_zero, List.getElem_cons_succ, List.setIfInBounds_toArray, List.set_cons_zero, List.set_cons_succ]
    refine wpAnyH_take (i := 17) (oi := _) (v := .pointer (some ⟨w.heap.size, 0, none⟩)) rfl (by kernel_rfl) (by kernel_rfl) (by kernel_rfl) (fun _ _ _ h => h) (Or.inl ⟨by rfl, ?_⟩) hH1 ?_
    · intro w hSw; go_simp
    simp only [Act.put, List.getElem_toArray, List.getElem_cons_zero, List.getElem_cons_succ, List.setIfInBounds_toArray, List.set_cons_zero, List.set_cons_succ]
    refine wpAnyH_take (i := 18) (oi := _) (v := .int .i64 k) rfl (by kernel_rfl) (by kernel_rfl) (by kernel_rfl) (fun _ _ _ h => h) (Or.inl ⟨by rfl, ?_⟩) hH1 ?_
    · intro w hSw; go_simp
    simp only [Act.put, List.getElem_toArray, List.getElem_cons_zero, List.getElem_cons_succ, List.setIfInBounds_toArray, List.set_cons_zero, List.set_cons_succ]
    refine wpAnyH_ready (rs := [19]) (by kernel_rfl) (by simp) (AllReadyH.cons (o := _) rfl (fun K hK => ?_) AllReadyH.nil)
    go_simp
    refine (HH.out _).mono ?_
    rintro en w5 ⟨rfl, rfl⟩
    refine hK.out _ _ ?_ (fun hH2 => ?_)
    · exact hH1
    clear hK K
    refine wpAnyH_ready (rs := [20]) (by kernel_rfl) (by simp) (AllReadyH.cons (o := _) rfl (fun K hK => ?_) AllReadyH.nil)
    go_simp
    refine (HA.out _).mono ?_
    rintro en w5 ⟨rfl, rfl⟩
    refine hK.out _ _ ?_ (fun hH3 => ?_)
    · exact hH2
    clear hK K
    refine wpAnyH_take (i := 21) (oi := _) (v := .bool true) rfl (by kernel_rfl) (by kernel_rfl) (by kernel_rfl) (fun _ _ _ h => h) (Or.inl ⟨by rfl, ?_⟩) hH3 ?_
    · intro w hSw; go_simp
    simp only [Act.put, List.getElem_toArray, List.getElem_cons_zero, List.getElem_cons_succ, List.setIfInBounds_toArray, List.set_cons_zero, List.set_cons_succ]
    refine wpAnyH_take (i := 22) (oi := _) (v := .bool true) rfl (by kernel_rfl) (by kernel_rfl) (by kernel_rfl) (fun _ _ _ h => h) (Or.inl ⟨by rfl, ?_⟩) hH3 ?_
    · intro w hSw; go_simp
    simp only [Act.put, List.getElem_toArray, List.getElem_cons_zero, List.getElem_cons_succ, List.setIfInBounds_toArray, List.set_cons_zero, List.set_cons_succ]
    refine wpAnyH_take (i := 23) (oi := _) (v := .bool true) rfl (by kernel_rfl) (by kernel_rfl) (by kernel_rfl) (fun _ _ _ h => h) (Or.inl ⟨by rfl, ?_⟩) hH3 ?_
    · intro w hSw; go_simp
    simp only [Act.put, List.getElem_toArray, List.getElem_cons_zero, List.getElem_cons_succ, List.setIfInBounds_toArray, List.set_cons_zero, List.set_cons_succ]
    refine wpAnyH_done (by kernel_rfl) ?_ _
    go_wp2
    go_ret
    exact ⟨ret_eq (by rw [HC.out]; rfl), HG.out.trans (Below.drew (Below.refl _ _) |>.mono HG.out.size)⟩
  have HA := Lib.hid' (fun w => rin_t ad (hiN k) h4.1 h4.2 w)
  have HC := Lib.hid' (ck_go (x := ⟨k, e, ad, d⟩) h1 h2 h3 h4)
  have ha0 : 0 ≤ ad := h4.1
  clear h3 h4
  obtain ⟨hi, hhi⟩ : ∃ hi, hi = hiN k := ⟨_, rfl⟩
  rw [← hhi] at HA HH
  clear hhi
  go_enter Tryz.func42, Tryz.ntmps42
  go_wp2_with fail
  have c0 : (w.alloc (.cells #[.int .i64 k, .int .i64 e, .int .i64 ad, .slice a d.length c] 34)).cell? ⟨w.heap.size, 0, none⟩ = some (.int .i64 k) := by simp [go_sem]
  have c1 : (w.alloc (.cells #[.int .i64 k, .int .i64 e, .int .i64 ad, .slice a d.length c] 34)).cell? ⟨w.heap.size, 1, none⟩ = some (.int .i64 e) := by simp [go_sem]
  have c2 : (w.alloc (.cells #[.int .i64 k, .int .i64 e, .int .i64 ad, .slice a d.length c] 34)).cell? ⟨w.heap.size, 2, none⟩ = some (.int .i64 ad) := by simp [go_sem]
  have c3 : (w.alloc (.cells #[.int .i64 k, .int .i64 e, .int .i64 ad, .slice a d.length c] 34)).cell? ⟨w.heap.size, 3, none⟩ = some (.slice a d.length c) := by simp [go_sem]
  have HG := Lib.hid' (show Below w.heap.size w (w.alloc (.cells #[.int .i64 k, .int .i64 e, .int .i64 ad, .slice a d.length c] 34)) by go_grown)
  generalize w.alloc (.cells #[.int .i64 k, .int .i64 e, .int .i64 ad, .slice a d.length c] 34) = w1 at *
  refine wp_region_held_drew (S := (fun w' => w'.cell? ⟨w.heap.size, 0, none⟩ = some (.int .i64 k) ∧ w'.cell? ⟨w.heap.size, 1, none⟩ = some (.int .i64 e) ∧ w'.cell? ⟨w.heap.size, 2, none⟩ = some (.int .i64 ad) ∧ w'.cell? ⟨w.heap.size, 3, none⟩ = some (.slice a d.length c))) (by kernel_rfl) ⟨by simpa using c0, by simpa using c1, by simpa using c2, by simpa using c3⟩ (fun hH0 => ?_)
  refine wpAnyH_take (i := 0) (oi := _) (v := .pointer (some ⟨w.heap.size, 0, none⟩)) rfl (by kernel_rfl) (by kernel_rfl) (by kernel_rfl) (fun _ _ _ h => h) (Or.inl ⟨by rfl, ?_⟩) hH0 ?_
  · intro w hSw; go_simp
  simp only [Act.put, List.getElem_toArray, List.getElem_cons_zero, List.getElem_cons_succ, List.setIfInBounds_toArray, List.set_cons_zero, List.set_cons_succ]
  refine wpAnyH_take (i := 1) (oi := _) (v := .int .i64 k) rfl (by kernel_rfl) (by kernel_rfl) (by kernel_rfl) (fun _ _ _ h => h) (Or.inl ⟨by rfl, ?_⟩) hH0 ?_
  · intro w hSw; go_simp
  simp only [Act.put, List.getElem_toArray, List.getElem_cons_zero, List.getElem_cons_succ, List.setIfInBounds_toArray, List.set_cons_zero, List.set_cons_succ]
  refine wpAnyH_take (i := 2) (oi := _) (v := .bool false) rfl (by kernel_rfl) (by kernel_rfl) (by kernel_rfl) (fun _ _ _ h => h) (Or.inl ⟨by rfl, ?_⟩) hH0 ?_
  · intro w hSw; go_simp
  simp only [Act.put, List.getElem_toArray, List.getElem_cons_zero, List.getElem_cons_succ, List.setIfInBounds_toArray, List.set_cons_zero, List.set_cons_succ]
  refine wpAnyH_take (i := 3) (oi := _) (v := .bool false) rfl (by kernel_rfl) (by kernel_rfl) (by kernel_rfl) (fun _ _ _ h => h) (Or.inl ⟨by rfl, ?_⟩) hH0 ?_
  · intro w hSw; go_simp
  simp only [Act.put, List.getElem_toArray, List.getElem_cons_zero, List.getElem_cons_succ, List.setIfInBounds_toArray, List.set_cons_zero, List.set_cons_succ]
  refine wpAnyH_take (i := 4) (oi := _) (v := .pointer (some ⟨w.heap.size, 0, none⟩)) rfl (by kernel_rfl) (by kernel_rfl) (by kernel_rfl) (fun _ _ _ h => h) (Or.inl ⟨by rfl, ?_⟩) hH0 ?_
  · intro w hSw; go_simp
  simp only [Act.put, List.getElem_toArray, List.getElem_cons_zero, List.getElem_cons_succ, List.setIfInBounds_toArray, List.set_cons_zero, List.set_cons_succ]
  refine wpAnyH_take (i := 5) (oi := _) (v := .int .i64 k) rfl (by kernel_rfl) (by kernel_rfl) (by kernel_rfl) (fun _ _ _ h => h) (Or.inl ⟨by rfl, ?_⟩) hH0 ?_
  · intro w hSw; go_simp
  simp only [Act.put, List.getElem_toArray, List.getElem_cons_zero, List.getElem_cons_succ, List.setIfInBounds_toArray, List.set_cons_zero, List.set_cons_succ]
  refine wpAnyH_take (i := 6) (oi := _) (v := .bool false) rfl (by kernel_rfl) (by kernel_rfl) (by kernel_rfl) (fun _ _ _ h => h) (Or.inl ⟨by rfl, ?_⟩) hH0 ?_
  · intro w hSw; go_simp
  simp only [Act.put, List.getElem_toArray, List.getElem_cons_zero, List.getElem_cons_succ, List.setIfInBounds_toArray, List.set_cons_zero, List.set_cons_succ]
  refine wpAnyH_take (i := 7) (oi := _) (v := .bool false) rfl (by kernel_rfl) (by kernel_rfl) (by kernel_rfl) (fun _ _ _ h => h) (Or.inl ⟨by rfl, ?_⟩) hH0 ?_
  · intro w hSw; go_simp
  simp only [Act.put, List.getElem_toArray, List.getElem_cons_zero, List.getElem_cons_succ, List.setIfInBounds_toArray, List.set_cons_zero, List.set_cons_succ]
  refine wpAnyH_take (i := 8) (oi := _) (v := .bool false) rfl (by kernel_rfl) (by kernel_rfl) (by kernel_rfl) (fun _ _ _ h => h) (Or.inl ⟨by rfl, ?_⟩) hH0 ?_
  · intro w hSw; go_simp
  simp only [Act.put, List.getElem_toArray, List.getElem_cons_zero, List.getElem_cons_succ, List.setIfInBounds_toArray, List.set_cons_zero, List.set_cons_succ]
  refine wpAnyH_take (i := 9) (oi := _) (v := .pointer (some ⟨w.heap.size, 1, none⟩)) rfl (by kernel_rfl) (by kernel_rfl) (by kernel_rfl) (fun _ _ _ h => h) (Or.inl ⟨by rfl, ?_⟩) hH0 ?_
  · intro w hSw; go_simp
  simp only [Act.put, List.getElem_toArray, List.getElem_cons_zero, List.getElem_cons_succ, List.setIfInBounds_toArray, List.set_cons_zero, List.set_cons_succ]
  refine wpAnyH_take (i := 10) (oi := _) (v := .int .i64 e) rfl (by kernel_rfl) (by kernel_rfl) (by kernel_rfl) (fun _ _ _ h => h) (Or.inl ⟨by rfl, ?_⟩) hH0 ?_
  · intro w hSw; go_simp
  simp only [Act.put, List.getElem_toArray, List.getElem_cons_zero, List.getElem_cons_succ, List.setIfInBounds_toArray, List.set_cons_zero, List.set_cons_succ]
  refine wpAnyH_ready (rs := [11]) (by kernel_rfl) (by simp) (AllReadyH.cons (o := _) rfl (fun K hK => ?_) AllReadyH.nil)
  go_simp
  refine (HT.out _).mono ?_
  rintro en w5 ⟨rfl, rfl⟩
  refine hK.out _ _ ?_ (fun hH1 => ?_)
  · exact hH0
  clear hK K
  refine wpAnyH_take (i := 12) (oi := _) (v := .bool false) rfl (by kernel_rfl) (by kernel_rfl) (by kernel_rfl) (fun _ _ _ h => h) (Or.inl ⟨by rfl, ?_⟩) hH1 ?_
  · intro w hSw; go_simp
  simp only [Act.put, List.getElem_toArray, List.getElem_cons_zero, List.getElem_cons_succ, List.setIfInBounds_toArray, List.set_cons_zero, List.set_cons_succ]
  refine wpAnyH_take (i := 13) (oi := _) (v := .bool false) rfl (by kernel_rfl) (by kernel_rfl) (by kernel_rfl) (fun _ _ _ h => h) (Or.inl ⟨by rfl, ?_⟩) hH1 ?_
  · intro w hSw; go_simp
  simp only [Act.put, List.getElem_toArray, List.getElem_cons_zero, List.getElem_cons_succ, List.setIfInBounds_toArray, List.set_cons_zero, List.set_cons_succ]
  refine wpAnyH_take (i := 14) (oi := _) (v := .bool false) rfl (by kernel_rfl) (by kernel_rfl) (by kernel_rfl) (fun _ _ _ h => h) (Or.inl ⟨by rfl, ?_⟩) hH1 ?_
  · intro w hSw; go_simp
  simp only [Act.put, List.getElem_toArray, List.getElem_cons_zero, List.getElem_cons_succ, List.setIfInBounds_toArray, List.set_cons_zero, List.set_cons_succ]
  refine wpAnyH_take (i := 15) (oi := _) (v := .pointer (some ⟨w.heap.size, 2, none⟩)) rfl (by kernel_rfl) (by kernel_rfl) (by kernel_rfl) (fun _ _ _ h => h) (Or.inl ⟨by rfl, ?_⟩) hH1 ?_
  · intro w hSw; go_simp
  simp only [Act.put, List.getElem_toArray, List.getElem_cons_zero, List.getElem_cons_succ, List.setIfInBounds_toArray, List.set_cons_zero, List.set_cons_succ]
  refine wpAnyH_take (i := 16) (oi := _) (v := .int .i64 ad) rfl (by kernel_rfl) (by kernel_rfl) (by kernel_rfl) (fun _ _ _ h => h) (Or.inl ⟨by rfl, ?_⟩) hH1 ?_
  · intro w hSw; go_simp
  simp only [Act.put, List.getElem_toArray, List.getElem_cons_zero, List.getElem_cons_succ, List.setIfInBounds_toArray, List.set_cons_zero, List.set_cons_succ]
  refine wpAnyH_take (i := 17) (oi := _) (v := .pointer (some ⟨w.heap.size, 0, none⟩)) rfl (by kernel_rfl) (by kernel_rfl) (by kernel_rfl) (fun _ _ _ h => h) (Or.inl ⟨by rfl, ?_⟩) hH1 ?_
  · intro w hSw; go_simp
  simp only [Act.put, List.getElem_toArray, List.getElem_cons_zero, List.getElem_cons_succ, List.setIfInBounds_toArray, List.set_cons_zero, List.set_cons_succ]
  refine wpAnyH_take (i := 18) (oi := _) (v := .int .i64 k) rfl (by kernel_rfl) (by kernel_rfl) (by kernel_rfl) (fun _ _ _ h => h) (Or.inl ⟨by rfl, ?_⟩) hH1 ?_
  · intro w hSw; go_simp
  simp only [Act.put, List.getElem_toArray, List.getElem_cons_zero, List.getElem_cons_succ, List.setIfInBounds_toArray, List.set_cons_zero, List.set_cons_succ]
  refine wpAnyH_ready (rs := [19]) (by kernel_rfl) (by simp) (AllReadyH.cons (o := _) rfl (fun K hK => ?_) AllReadyH.nil)
  go_simp
  refine (HH.out _).mono ?_
  rintro en w5 ⟨rfl, rfl⟩
  refine hK.out _ _ ?_ (fun hH2 => ?_)
  · exact hH1
  clear hK K
  refine wpAnyH_ready (rs := [20]) (by kernel_rfl) (by simp) (AllReadyH.cons (o := _) rfl (fun K hK => ?_) AllReadyH.nil)
  go_simp
  refine (HA.out _).mono ?_
  rintro en w5 ⟨rfl, rfl⟩
  refine hK.out _ _ ?_ (fun hH3 => ?_)
  · exact hH2
  clear hK K
  refine wpAnyH_take (i := 21) (oi := _) (v := .bool false) rfl (by kernel_rfl) (by kernel_rfl) (by kernel_rfl) (fun _ _ _ h => h) (Or.inl ⟨by rfl, ?_⟩) hH3 ?_
  · intro w hSw; go_simp
  simp only [Act.put, List.getElem_toArray, List.getElem_cons_zero, List.getElem_cons_succ, List.setIfInBounds_toArray, List.set_cons_zero, List.set_cons_succ]
  refine wpAnyH_take (i := 22) (oi := _) (v := .bool false) rfl (by kernel_rfl) (by kernel_rfl) (by kernel_rfl) (fun _ _ _ h => h) (Or.inl ⟨by rfl, ?_⟩) hH3 ?_
  · intro w hSw; go_simp
  simp only [Act.put, List.getElem_toArray, List.getElem_cons_zero, List.getElem_cons_succ, List.setIfInBounds_toArray, List.set_cons_zero, List.set_cons_succ]
  refine wpAnyH_take (i := 23) (oi := _) (v := .bool false) rfl (by kernel_rfl) (by kernel_rfl) (by kernel_rfl) (fun _ _ _ h => h) (Or.inl ⟨by rfl, ?_⟩) hH3 ?_
  · intro w hSw; go_simp
  simp only [Act.put, List.getElem_toArray, List.getElem_cons_zero, List.getElem_cons_succ, List.setIfInBounds_toArray, List.set_cons_zero, List.set_cons_succ]
  refine wpAnyH_done (by kernel_rfl) ?_ _
  have HGD := Lib.hid' (show Below w.heap.size w w1.drew from HG.out.trans (Below.drew (Below.refl _ _) |>.mono HG.out.size))
  have d0 : w1.drew.cell? ⟨w.heap.size, 0, none⟩ = some (.int .i64 k) := c0
  have d2 : w1.drew.cell? ⟨w.heap.size, 2, none⟩ = some (.int .i64 ad) := c2
  have d3 : w1.drew.cell? ⟨w.heap.size, 3, none⟩ = some (.slice a d.length c) := c3
  clear c0 c1 c2 c3 HG HT HA HH
  generalize w1.drew = w2 at *
  by_cases h64 : 64 < d.length
  · have HF := Lib.hid' (HC.out.trans (if_pos h64))
    go_wp2
    go_ret
    exact ⟨ret_eq (by rw [HF.out]; rfl), HGD.out⟩
  have HF := Lib.hid' (HC.out.trans (if_neg h64))
  clear HC
  by_cases hk1 : k = 1
  · have hk1b : (k == 1) = true := by rw [beq_iff_eq]; exact hk1
    have hk2b : (k != 2) = true := by rw [bne_iff_ne]; omega
    by_cases hz : ad = 0
    · have hz0 : (ad != 0) = false := by rw [bne_eq_false_iff_eq]; exact hz
      by_cases hd : 0 < d.length
      · have HV := Lib.hid' (HF.out.trans (if_pos (.inr ⟨(by show k ≠ 2; omega), hd⟩)))
        clear hk1 hz
        go_wp2
        go_ret
        exact ⟨ret_eq (by rw [HV.out]; rfl), HGD.out⟩
      · have HV := Lib.hid' (HF.out.trans (if_neg (by rintro (h | h); exact h.2 hz; exact hd h.2)))
        clear hk1 hz
        go_wp2
        go_ret
        exact ⟨ret_eq (by rw [HV.out]; rfl), HGD.out⟩
    · have hz0 : (ad != 0) = true := by rw [bne_iff_ne]; exact hz
      have HV := Lib.hid' (HF.out.trans (if_pos (.inl ⟨hk1, hz⟩)))
      clear hk1 hz
      go_wp2
      go_ret
      exact ⟨ret_eq (by rw [HV.out]; rfl), HGD.out⟩
  have hk1b : (k == 1) = false := by rw [beq_eq_false_iff_ne]; exact hk1
  by_cases hk2 : k = 2
  · have hk2b : (k != 2) = false := by rw [bne_eq_false_iff_eq]; exact hk2
    have HV := Lib.hid' (HF.out.trans (if_neg (by rintro (h | h); exact hk1 h.1; exact h.1 hk2)))
    clear hk1 hk2
    go_wp2
    go_ret
    exact ⟨ret_eq (by rw [HV.out]; rfl), HGD.out⟩
  have hk2b : (k != 2) = true := by rw [bne_iff_ne]; exact hk2
  by_cases hd : 0 < d.length
  · have HV := Lib.hid' (HF.out.trans (if_pos (.inr ⟨hk2, hd⟩)))
    clear hk1 hk2
    go_wp2
    go_ret
    exact ⟨ret_eq (by rw [HV.out]; rfl), HGD.out⟩
  · have HV := Lib.hid' (HF.out.trans (if_neg (by rintro (h | h); exact hk1 h.1; exact hd h.2)))
    clear hk1 hk2
    go_wp2
    go_ret
    exact ⟨ret_eq (by rw [HV.out]; rfl), HGD.out⟩
end Go.Proofs.YtkhnbdbcaebdaaaGreatDoor

namespace Go.Proofs.YtkhnbdbcaebdaaaGreatDoor
open Go.RowKit
set_option linter.unusedSimpArgs false
set_option linter.unusedVariables false
namespace MS
instance : LawfulBEq ByteArray where
  eq_of_beq {a b} h := by
    cases a; cases b
    have h2 := eq_of_beq (show (ByteArray.data _ == ByteArray.data _) = true from h)
    cases h2; rfl
  rfl {a} := by
    cases a
    exact beq_self_eq_true (α := Array UInt8) _
structure MapT (P : Program) (t k e : Nat) (z : Value) : Prop where
  under : P.underlying t = some (.map k e)
  key : P.underlying k = some .string
  zero : ∀ w, (zeroValue e).run P w = .ok z w

def kv (e : MapEntry) : Value × Value := (e.key, e.val)
def vk (p : ByteArray × Value) : Value × Value := (.string p.1, p.2)

/-- the entries es show the association list L -/
structure Shows (es : List MapEntry) (clock : Nat) (L : List (ByteArray × Value)) : Prop where
  eq : es.map kv = L.map vk
  nodup : (L.map (·.1)).Nodup
  rise : es.Pairwise (fun x y => x.born < y.born)
  old : ∀ e ∈ es, e.born < clock

def MapAt (w : World) (b : Nat) (L : List (ByteArray × Value)) : Prop := ∃ es clock, w.heap[b]? = some (.map es clock) ∧ Shows es.toList clock L

theorem MapAt.block {w w' : World} {b : Nat} {L : List (ByteArray × Value)} (h : MapAt w b L) (hb : w'.heap[b]? = w.heap[b]?) : MapAt w' b L := by
  obtain ⟨es, clock, h1, h2⟩ := h
  exact ⟨es, clock, hb.trans h1, h2⟩
theorem MapAt.lt {w : World} {b : Nat} {L : List (ByteArray × Value)} (h : MapAt w b L) : b < w.heap.size := by
  obtain ⟨es, clock, h1, _⟩ := h
  exact (Array.getElem?_eq_some_iff.1 h1).1
theorem MapAt.nodup {w : World} {b : Nat} {L : List (ByteArray × Value)} (h : MapAt w b L) : (L.map (·.1)).Nodup := by
  obtain ⟨_, _, _, h2⟩ := h; exact h2.nodup

theorem MapAt.made (w : World) : MapAt (w.alloc (.map #[] 0)) w.heap.size [] :=
  ⟨#[], 0, by show (w.heap.push _)[w.heap.size]? = _; simp, ⟨rfl, by simp, by simp, by simp⟩⟩

theorem findNow_int {a : ByteArray} : ∀ (es : List MapEntry) (L : List (ByteArray × Value)) (i : Nat), es.map kv = L.map vk →
    Instr.findNow .string (.string a) es i = some ((L.findIdx? (·.1 == a)).bind fun j => (L[j]?).map fun p => (i + j, p.2))
  | [], L, i, h => by
    have : L = [] := by simpa using h.symm
    subst this; simp [Instr.findNow]
  | e :: es, [], i, h => by simp at h
  | e :: es, p :: L, i, h => by
    simp only [List.map_cons, List.cons.injEq] at h
    obtain ⟨h1, h2⟩ := h
    have hk : e.key = .string p.1 := congrArg Prod.fst h1
    have hv : e.val = p.2 := congrArg Prod.snd h1
    unfold Instr.findNow
    rw [hk]
    simp only [Instr.sameNow, if_true]
    by_cases hpa : p.1 = a
    · subst hpa; simp [List.findIdx?_cons, hv]
    · have e1 : (a == p.1) = false := by simp; exact fun h => hpa h.symm
      have e2 : (p.1 == a) = false := by simp [hpa]
      rw [e1]
      simp only [List.findIdx?_cons, e2]
      rw [findNow_int es L (i + 1) h2]
      cases hf : L.findIdx? (fun x => x.1 == a) with
      | none => simp
      | some j => simp [Nat.add_assoc, Nat.add_comm 1 j]

theorem run_checkKey' {P : Program} {t k e : Nat} {z : Value} (T : MapT P t k e z) (w : World) (b : Bool) (n : Nat) (a : ByteArray) : (Instr.checkKey b (n + 1) k (.string a)).run P w = .ok () w := by
  simp [Instr.checkKey, run_underlying T.key, go_sem]
theorem run_checkKey {P : Program} {t k e : Nat} {z : Value} (T : MapT P t k e z) (w : World) (b : Bool) (a : ByteArray) : (Instr.checkKey b 10000 k (.string a)).run P w = .ok () w := run_checkKey' T w b 9999 a
theorem run_findKey {P : Program} {t k e : Nat} {z : Value} (T : MapT P t k e z) (w : World) {es : List MapEntry} {L : List (ByteArray × Value)} (h : es.map kv = L.map vk) (a : ByteArray) :
    (Instr.findKey k (.string a) es).run P w = .ok ((L.findIdx? (·.1 == a)).bind fun j => (L[j]?).map fun p => (j, p.2)) w := by
  have hf := findNow_int (a := a) es L 0 h
  simp [Instr.findKey, run_underlying T.key, go_sem, hf]

def lookE (L : List (ByteArray × Value)) (a : ByteArray) : Option Value := (L.find? (·.1 == a)).map (·.2)
theorem find_idx {α : Type} (p : α → Bool) : ∀ L : List α, L.find? p = (L.findIdx? p).bind fun j => L[j]?
  | [] => rfl
  | x :: L => by
    by_cases h : p x = true
    · simp [List.find?_cons, List.findIdx?_cons, h]
    · have h' : p x = false := by simpa using h
      simp only [List.find?_cons, List.findIdx?_cons, h', find_idx p L]
      cases L.findIdx? p <;> simp

def setBlk (w : World) (b : Nat) (o : Obj) : World := { w with heap := w.heap.setIfInBounds b o }
theorem setBlk_size (w : World) (b : Nat) (o : Obj) : (setBlk w b o).heap.size = w.heap.size := by simp [setBlk]
theorem setBlk_at {w : World} {b : Nat} (o : Obj) (h : b < w.heap.size) : (setBlk w b o).heap[b]? = some o := by simp [setBlk, h]
theorem setBlk_ne {w : World} {b k : Nat} (o : Obj) (h : k ≠ b) : (setBlk w b o).heap[k]? = w.heap[k]? := by
  simp only [setBlk]; rw [Array.getElem?_setIfInBounds_ne (by omega)]
theorem setBlk_fr (w : World) (b : Nat) (o : Obj) : Fr (· = b) w (setBlk w b o) := ⟨rfl, rfl, rfl, by simp [setBlk_size], fun _ _ hn => setBlk_ne o hn⟩

def putE (L : List (ByteArray × Value)) (a : ByteArray) (v : Value) : List (ByteArray × Value) := if L.any (·.1 == a) then L.map (fun p => if p.1 = a then (a, v) else p) else L ++ [(a, v)]

theorem modify_map {es : List MapEntry} {L : List (ByteArray × Value)} {a : ByteArray} {v : Value} {j : Nat} (h : es.map kv = L.map vk) (hn : (L.map (·.1)).Nodup) (hj : L.findIdx? (fun x => x.1 == a) = some j) :
    (es.modify j (fun e => { e with key := .string a, val := v })).map kv = (L.map (fun p => if p.1 = a then (a, v) else p)).map vk := by
  induction es generalizing L j with
  | nil =>
    have : L = [] := by simpa using h.symm
    subst this; simp at hj
  | cons e es ih =>
    cases L with
    | nil => simp at h
    | cons p L =>
      simp only [List.map_cons, List.cons.injEq] at h
      simp only [List.map_cons, List.nodup_cons] at hn
      by_cases hpa : p.1 = a
      · simp [List.findIdx?_cons, hpa] at hj
        subst hj
        have hrest : L.map (fun p => if p.1 = a then (a, v) else p) = L := by
          conv => rhs; rw [← List.map_id L]
          refine List.map_congr_left fun q hq => ?_
          have : q.1 ≠ a := fun hqa => hn.1 (by rw [hpa, ← hqa]; exact List.mem_map_of_mem (f := (·.1)) hq)
          simp [this]
        simp [hpa, hrest, h.2, kv, vk]
      · have e2 : (p.1 == a) = false := by simp [hpa]
        simp only [List.findIdx?_cons, e2] at hj
        obtain ⟨j', hj', rfl⟩ : ∃ j', L.findIdx? (fun x => x.1 == a) = some j' ∧ j' + 1 = j := by
          cases hq : L.findIdx? (fun x => x.1 == a) with
          | none => simp [hq] at hj
          | some j' => simp [hq] at hj; exact ⟨j', rfl, hj⟩
        simp only [List.modify_succ_cons, List.map_cons, hpa, if_false, h.1, List.cons.injEq, true_and]
        exact ih h.2 hn.2 hj'

theorem modify_born {es : List MapEntry} {f : MapEntry → MapEntry} (hf : ∀ e, (f e).born = e.born) (j : Nat) : (es.modify j f).map (·.born) = es.map (·.born) := by
  induction es generalizing j with
  | nil => simp
  | cons e es ih => cases j with
    | zero => simp [hf]
    | succ j => simp [ih]

theorem rise_iff (es : List MapEntry) : es.Pairwise (fun x y => x.born < y.born) ↔ (es.map (·.born)).Pairwise (· < ·) := by rw [List.pairwise_map]
theorem old_iff (es : List MapEntry) (c : Nat) : (∀ e ∈ es, e.born < c) ↔ ∀ n ∈ es.map (·.born), n < c := by simp

theorem putE_keys (L : List (ByteArray × Value)) (a : ByteArray) (v : Value) (h : (L.map (·.1)).Nodup) : ((putE L a v).map (·.1)).Nodup := by
  unfold putE
  split
  · have : (L.map (fun p => if p.1 = a then (a, v) else p)).map (·.1) = L.map (·.1) := by
      rw [List.map_map]; refine List.map_congr_left fun p _ => ?_
      by_cases hp : p.1 = a <;> simp [hp]
    rw [this]; exact h
  · rename_i hn
    rw [List.map_append, List.nodup_append]
    refine ⟨h, by simp, ?_⟩
    intro x hx y hy
    simp at hy; subst hy
    intro hxa; subst hxa
    apply hn
    simp only [List.any_eq_true, beq_iff_eq]
    obtain ⟨p, hp, hpx⟩ := List.mem_map.1 hx
    exact ⟨p, hp, hpx⟩

theorem run_store {P : Program} {t k e : Nat} {z : Value} (T : MapT P t k e z) {w : World} {b : Nat} {L : List (ByteArray × Value)} (h : MapAt w b L) (a : ByteArray) (v : Value) :
    ∃ o, (Instr.mapUpdate t (.map (some b)) (.string a) v).run P w = .ok () (setBlk w b o) ∧ MapAt (setBlk w b o) b (putE L a v) := by
  have hlt := h.lt
  obtain ⟨es, clock, hb, hs⟩ := h
  have hf := fun w => run_findKey T w hs.eq a
  have hck := run_checkKey T
  have hset : ∀ o, (setObj b o).run P w = .ok () (setBlk w b o) := fun o => by simp [setObj, Sem.run, hb, setBlk]
  cases hj : L.findIdx? (fun x => x.1 == a) with
  | none =>
    refine ⟨.map (es.push { key := .string a, val := v, born := clock }) (clock + 1), ?_, ?_⟩
    · simp only [Instr.mapUpdate]
      simp [run_underlying T.under, getObj, Sem.run, hb, go_sem, hck, hf, hj, hset]
    · refine ⟨_, _, setBlk_at _ hlt, ⟨?_, putE_keys L a v hs.nodup, ?_, ?_⟩⟩
      · have hany : (L.any (·.1 == a)) = false := by
          rw [List.findIdx?_eq_none_iff] at hj
          rw [List.any_eq_false]; intro x hx; simpa using hj x hx
        simp only [putE, hany, Array.toList_push, List.map_append, hs.eq, Bool.false_eq_true, if_false]
        simp [kv, vk]
      · simp only [Array.toList_push, List.pairwise_append]
        exact ⟨hs.rise, by simp, fun x hx y hy => by simp at hy; subst hy; exact hs.old x hx⟩
      · intro x hx
        simp only [Array.toList_push, List.mem_append, List.mem_singleton] at hx
        rcases hx with hx | rfl
        · exact Nat.lt_succ_of_lt (hs.old x hx)
        · exact Nat.lt_succ_self _
  | some j =>
    obtain ⟨hjl, hjp, _⟩ := List.findIdx?_eq_some_iff_getElem.1 hj
    have hla : (L[j]).1 = a := by simpa using hjp
    have hel : j < es.size := by
      have : es.toList.length = L.length := by have := congrArg List.length hs.eq; simpa using this
      simp at this; omega
    have hkey : (es[j]).key = .string a := by
      have h1 : (es.toList.map kv)[j]? = (L.map vk)[j]? := by rw [hs.eq]
      simp [hjl, hel, kv, vk] at h1
      rw [h1.1, hla]
    refine ⟨.map (es.modify j fun e => { e with key := .string a, val := v }) clock, ?_, ?_⟩
    · simp only [Instr.mapUpdate]
      simp [run_underlying T.under, getObj, Sem.run, hb, go_sem, hck, hf, hj, List.getElem?_eq_getElem hjl, hset, Instr.keyThatStays, hel, hkey, Instr.sameBits]
    · have hany : (L.any (·.1 == a)) = true := by
        rw [List.any_eq_true]; exact ⟨L[j], List.getElem_mem _, by simpa using hjp⟩
      have hb' : ((es.modify j fun e => { e with key := .string a, val := v }).toList).map (·.born) = es.toList.map (·.born) := by
        rw [Array.toList_modify]; exact modify_born (f := fun e => { e with key := .string a, val := v }) (fun _ => rfl) j
      refine ⟨_, _, setBlk_at _ hlt, ⟨?_, putE_keys L a v hs.nodup, ?_, ?_⟩⟩
      · simp only [putE, hany, if_true, Array.toList_modify]
        exact modify_map hs.eq hs.nodup hj
      · rw [rise_iff, hb', ← rise_iff]; exact hs.rise
      · rw [old_iff, hb', ← old_iff]; exact hs.old

/-- Block r ranges over the map at block b, which shows L; 'left' are still to come; 'last' was met last and is still there. -/
def IterAt (w : World) (r b : Nat) (L left : List (ByteArray × Value)) (last : Option (ByteArray × Value)) : Prop :=
  ∃ es clock seen, w.heap[b]? = some (.map es clock) ∧ Shows es.toList clock L ∧ w.heap[r]? = some (.mapIter (some b) clock seen clock) ∧
    (es.toList.filter (fun e => !seen.contains e.born)).map kv = left.map vk ∧
    (∀ p, last = some p → ∃ e, e ∈ es.toList ∧ kv e = vk p ∧ seen.back? = some e.born)

def iterLeft (w : World) (r : Nat) : Nat :=
  match w.heap[r]? with
  | some (.mapIter (some m) _ seen _) => match w.heap[m]? with
    | some (.map es _) => (es.toList.filter (fun e => !seen.contains e.born)).length
    | _ => 0
  | _ => 0

theorem IterAt.left_eq {w : World} {r b : Nat} {L left : List (ByteArray × Value)} {last : Option (ByteArray × Value)} (h : IterAt w r b L left last) : iterLeft w r = left.length := by
  obtain ⟨es, clock, seen, h1, h2, h3, h4, _⟩ := h
  have := congrArg List.length h4
  simp only [List.length_map] at this
  simp only [iterLeft, h3, h1]; exact this
theorem IterAt.ne {w : World} {r b : Nat} {L left : List (ByteArray × Value)} {last : Option (ByteArray × Value)} (h : IterAt w r b L left last) : r ≠ b := by
  obtain ⟨es, clock, seen, h1, h2, h3, _⟩ := h
  intro e; subst e; rw [h1] at h3; simp at h3
theorem IterAt.lt {w : World} {r b : Nat} {L left : List (ByteArray × Value)} {last : Option (ByteArray × Value)} (h : IterAt w r b L left last) : r < w.heap.size := by
  obtain ⟨_, _, _, _, _, h1, _⟩ := h
  exact (Array.getElem?_eq_some_iff.1 h1).1
theorem run_range_map {P : Program} {t k e : Nat} {z : Value} (T : MapT P t k e z) {w : World} {b : Nat} {L : List (ByteArray × Value)} (h : MapAt w b L) :
    ∃ o, (Instr.range t (.map (some b))).run P w = .ok (.pointer (some ⟨w.heap.size, 0, none⟩)) (w.alloc o) ∧ IterAt (w.alloc o) w.heap.size b L L none := by
  have hlt := h.lt
  obtain ⟨es, clock, hb, hs⟩ := h
  refine ⟨.mapIter (some b) clock #[] clock, ?_, es, clock, #[], ?_, hs, ?_, ?_, by simp⟩
  · simp only [Instr.range]
    simp [run_underlying T.under, getObj, newObj, Sem.run, hb, go_sem]
  · show (w.heap.push _)[b]? = _; rw [Array.getElem?_push, if_neg (by omega)]; exact hb
  · show (w.heap.push _)[w.heap.size]? = _; simp
  · rw [List.filter_eq_self.2 (by simp)]; exact hs.eq

/-- what a step of the range leaves -/
inductive Stepped (w : World) (r b : Nat) (L left : List (ByteArray × Value)) : Value → World → Prop
  | over (w' : World) (hl : left = []) (hw : Below w.heap.size w w') (hh : w'.heap = w.heap) : Stepped w r b L left (.tuple #[.bool false]) w'
  | one (w' : World) (a : ByteArray) (v : Value) (pre post : List (ByteArray × Value)) (hl : left = pre ++ (a, v) :: post) (hi : IterAt w' r b L (pre ++ post) (some (a, v))) (hf : Fr (· = r) w w') : Stepped w r b L left (.tuple #[.bool true, .string a, v]) w'

theorem filter_push {es : List MapEntry} {seen : Array Nat} {pre post : List MapEntry} {e : MapEntry} (hr : es.Pairwise (fun x y => x.born < y.born)) (h : es.filter (fun x => !seen.contains x.born) = pre ++ e :: post) :
    es.filter (fun x => !(seen.push e.born).contains x.born) = pre ++ post := by
  have h1 : es.filter (fun x => !(seen.push e.born).contains x.born) = (es.filter (fun x => !seen.contains x.born)).filter (fun x => x.born != e.born) := by
    rw [List.filter_filter]
    refine List.filter_congr fun x _ => ?_
    simp only [Array.contains_push, Bool.not_or]
    cases h : (seen.contains x.born) <;> simp [bne, BEq.comm]
  have h2 : (pre ++ e :: post).Pairwise (fun x y => x.born < y.born) := by rw [← h]; exact hr.filter _
  rw [h1, h, List.filter_append, List.filter_cons]
  rw [List.pairwise_append] at h2
  obtain ⟨_, h3, h4⟩ := h2
  rw [List.pairwise_cons] at h3
  have e1 : pre.filter (fun x => x.born != e.born) = pre := List.filter_eq_self.2 fun x hx => by have := h4 x hx e List.mem_cons_self; simp; omega
  have e2 : post.filter (fun x => x.born != e.born) = post := List.filter_eq_self.2 fun x hx => by have := h3.1 x hx; simp; omega
  rw [e1, e2]; simp

theorem split_map {es : List MapEntry} {left : List (ByteArray × Value)} {i : Nat} {e : MapEntry} (h : es.map kv = left.map vk) (hi : es[i]? = some e) :
    ∃ a pre post epre epost, left = pre ++ (a, e.val) :: post ∧ e.key = .string a ∧ es = epre ++ e :: epost ∧ epre.map kv = pre.map vk ∧ epost.map kv = post.map vk := by
  have hlen : es.length = left.length := by have := congrArg List.length h; simpa using this
  obtain ⟨hlt, he⟩ := List.getElem?_eq_some_iff.1 hi
  have hlt' : i < left.length := by omega
  have hkv : kv e = vk left[i] := by
    have h1 : (es.map kv)[i]? = (left.map vk)[i]? := by rw [h]
    simpa [hlt, hlt', he] using h1
  refine ⟨left[i].1, left.take i, left.drop (i + 1), es.take i, es.drop (i + 1), ?_, congrArg Prod.fst hkv, ?_, ?_, ?_⟩
  · have h2 : e.val = left[i].2 := congrArg Prod.snd hkv
    have : (left[i].1, e.val) = left[i] := by rw [h2]
    rw [this]; simp
  · rw [← he]; simp
  · rw [List.map_take, h, List.map_take]
  · rw [List.map_drop, h, List.map_drop]

theorem setBlock_eq (w : World) (r : Nat) (o : Obj) : ChangeMaps.setBlock w r o = setBlk w r o := rfl

theorem run_next {P : Program} {w : World} {r b : Nat} {L left : List (ByteArray × Value)} {last : Option (ByteArray × Value)} (h : IterAt w r b L left last) (ty : TypeId) :
    ∃ v w', (Instr.next (.pointer (some ⟨r, 0, none⟩)) false ty).run P w = .ok v w' ∧ Stepped w r b L left v w' := by
  have hne := h.ne
  have hrl := h.lt
  obtain ⟨es, clock, seen, hb, hs, hr, hleft, hlast⟩ := h
  have hfl : (leftOf es seen).toList = es.toList.filter fun e => !seen.contains e.born := by simp [leftOf]
  rcases run_next_at (P := P) w ty r b clock clock seen es clock hr hb hs.old (Nat.le_refl _) with ⟨h0, hrun⟩ | ⟨e, he, w1, hw1, hrun⟩
  · refine ⟨_, w, hrun, .over w ?_ (Below.refl _ _) rfl⟩
    have hn : (leftOf es seen).toList = [] := by
      have : (leftOf es seen) = #[] := Array.eq_empty_of_size_eq_zero h0
      rw [this]
    rw [hfl] at hn
    rw [hn] at hleft
    simpa using hleft.symm
  · rw [hfl] at he
    obtain ⟨i, hi⟩ := List.getElem?_of_mem he
    obtain ⟨a, pre, post, epre, epost, hl, hk, hes, hp1, hp2⟩ := split_map hleft hi
    have q1 : w1.heap = w.heap := by rcases hw1 with rfl | rfl <;> rfl
    have hrl1 : r < w1.heap.size := by rw [q1]; exact hrl
    rw [hk, setBlock_eq] at hrun
    refine ⟨_, _, hrun, .one _ a e.val pre post hl ?_ ?_⟩
    · refine ⟨es, clock, seen.push e.born, ?_, hs, setBlk_at _ hrl1, ?_, ?_⟩
      · rw [setBlk_ne _ (fun h => hne h.symm), q1]; exact hb
      · rw [filter_push hs.rise hes, List.map_append, hp1, hp2, List.map_append]
      · intro p hp
        cases hp
        exact ⟨e, (List.mem_filter.1 he).1, by simp [kv, vk, hk], by simp⟩
    · refine ⟨?_, ?_, ?_, by simp [setBlk_size, q1], fun k _ hn => by rw [setBlk_ne _ hn, q1]⟩ <;> rcases hw1 with rfl | rfl <;> rfl

theorem born_inj {es : List MapEntry} (h : es.Pairwise (fun x y => x.born < y.born)) {x y : MapEntry} (hx : x ∈ es) (hy : y ∈ es) (hb : x.born = y.born) : x = y := by
  induction es with
  | nil => cases hx
  | cons e es ih =>
    rw [List.pairwise_cons] at h
    rcases List.mem_cons.1 hx with h1 | h1 <;> rcases List.mem_cons.1 hy with h2 | h2
    · rw [h1, h2]
    · have := h.1 y h2; rw [h1] at hb; omega
    · have := h.1 x h1; rw [h2] at hb; omega
    · exact ih h.2 h1 h2

theorem run_entry {P : Program} {w : World} {r b : Nat} {L left : List (ByteArray × Value)} {a : ByteArray} {v : Value} (h : IterAt w r b L left (some (a, v))) :
    (Instr.entry (.pointer (some ⟨r, 0, none⟩))).run P w = .ok (.tuple #[.string a, v]) w := by
  obtain ⟨es, clock, seen, hb, hs, hr, hleft, hlast⟩ := h
  obtain ⟨e, he, hkv, hback⟩ := hlast _ rfl
  have hfind : es.find? (fun x => x.born == e.born) = some e := by
    rw [← Array.find?_toList]
    cases hq : es.toList.find? (fun x => x.born == e.born) with
    | none => rw [List.find?_eq_none] at hq; have := hq e he; simp at this
    | some x =>
      have h1 := List.mem_of_find?_eq_some hq
      have h2 := List.find?_some hq
      simp at h2
      rw [born_inj hs.rise h1 he h2]
  have h1 : e.key = .string a := congrArg Prod.fst hkv
  have h2 : e.val = v := congrArg Prod.snd hkv
  simp only [Instr.entry]
  simp [getObj, Sem.run, hr, hb, go_sem, hback, hfind, h1, h2]

def delE (L : List (ByteArray × Value)) (a : ByteArray) : List (ByteArray × Value) := L.filter (fun p => p.1 != a)

theorem erase_map {α β : Type} (f : α → β) : ∀ (l : List α) (j : Nat), (l.eraseIdx j).map f = (l.map f).eraseIdx j
  | [], _ => rfl
  | _ :: l, 0 => rfl
  | x :: l, j + 1 => by simp [erase_map f l j]

theorem erase_shows {es : List MapEntry} {clock : Nat} {L : List (ByteArray × Value)} {a : ByteArray} {j : Nat} (h : Shows es clock L) (hj : L.findIdx? (fun x => x.1 == a) = some j) : Shows (es.eraseIdx j) clock (delE L a) := by
  obtain ⟨h1, h2, h3, h4⟩ := h
  have hd : delE L a = L.eraseIdx j := by
    clear h1 h3 h4
    induction L generalizing j with
    | nil => simp at hj
    | cons p L ih =>
      simp only [List.map_cons, List.nodup_cons] at h2
      by_cases hpa : p.1 = a
      · simp [List.findIdx?_cons, hpa] at hj
        subst hj
        have : ∀ q ∈ L, q.1 ≠ a := fun q hq hqa => h2.1 (by rw [hpa, ← hqa]; exact List.mem_map_of_mem (f := (·.1)) hq)
        simp only [delE, List.filter_cons, hpa, bne_self_eq_false, Bool.false_eq_true, if_false, List.eraseIdx_zero, List.tail_cons]
        exact List.filter_eq_self.2 fun q hq => by simpa using this q hq
      · have e2 : (p.1 == a) = false := by simp [hpa]
        simp only [List.findIdx?_cons, e2] at hj
        cases hq : L.findIdx? (fun x => x.1 == a) with
        | none => simp [hq] at hj
        | some j' =>
          simp [hq] at hj; subst hj
          simp only [delE, List.filter_cons, List.eraseIdx_cons_succ]
          rw [if_pos (by simpa using hpa)]
          have := ih hq h2.2
          simp only [delE] at this
          rw [this]
  rw [hd]
  refine ⟨?_, ?_, h3.sublist (List.eraseIdx_sublist ..), fun e he => h4 e ((List.eraseIdx_sublist ..).mem he)⟩
  · rw [erase_map, h1, erase_map]
  · rw [erase_map]; exact h2.sublist (List.eraseIdx_sublist ..)

theorem run_len_map {P : Program} {t k e : Nat} {z : Value} (T : MapT P t k e z) {w : World} {b : Nat} {L : List (ByteArray × Value)} (h : MapAt w b L) (ty : TypeId) :
    (Builtin.len_ #[t] ty #[.map (some b)]).run P w = .ok (.int .i64 L.length) w := by
  obtain ⟨es, clock, hb, hs⟩ := h
  have : es.size = L.length := by have := congrArg List.length hs.eq; simpa using this
  simp only [Builtin.len_]
  simp [run_underlying T.under, getObj, Sem.run, hb, go_sem, goInt, this]

section
variable {P : Program} {t k e : Nat} {z : Value} {w : World} {ops : Array Oper} {rest : List Oper} {o : Oper} {a : Act} {Q : Exit → Act → World → Prop}

theorem wp_store (T : MapT P t k e z) (hgd : o.guard = none) (m x y : Operand) (ho : o.op = .mapUpdate t m x y) {b : Nat} {L : List (ByteArray × Value)} (hm : a.eval m = .map (some b)) (x0 : ByteArray) (hx : a.eval x = .string x0) (v : Value) (hy : a.eval y = v) (h : MapAt w b L)
    (hk : ∀ w', MapAt w' b (putE L x0 v) → Fr (· = b) w w' → w'.heap.size = w.heap.size → wpList P ops Q rest (a.put o.dst undef) w') : wpList P ops Q (o :: rest) a w := by
  refine wpList_plain hgd fun K hK => ?_
  obtain ⟨ob, hrun, hm'⟩ := run_store T h x0 v
  unfold Oper.wp
  simp [execOp, ho, hm, hx, hy, hrun, Result.andThen]
  exact hK _ _ (hk _ hm' (setBlk_fr _ _ _) (setBlk_size _ _ _))

theorem wp_range (T : MapT P t k e z) (hgd : o.guard = none) (m : Operand) (ho : o.op = .range t m) {b : Nat} {L : List (ByteArray × Value)} (hm : a.eval m = .map (some b)) (h : MapAt w b L)
    (hk : ∀ w', IterAt w' w.heap.size b L L none → Below w.heap.size w w' → w'.heap.size = w.heap.size + 1 → wpList P ops Q rest (a.put o.dst (.pointer (some ⟨w.heap.size, 0, none⟩))) w') : wpList P ops Q (o :: rest) a w := by
  refine wpList_plain hgd fun K hK => ?_
  obtain ⟨ob, hrun, hi⟩ := run_range_map T h
  unfold Oper.wp
  simp [execOp, ho, hm, hrun, Result.andThen]
  exact hK _ _ (hk _ hi ((Below.refl _ _).alloc (Nat.le_refl _) _) (by simp))

theorem wp_next (hgd : o.guard = none) (it : Operand) (ho : o.op = .next it false) {r b : Nat} {L left : List (ByteArray × Value)} {last : Option (ByteArray × Value)} (hm : a.eval it = .pointer (some ⟨r, 0, none⟩)) (h : IterAt w r b L left last)
    (hover : left = [] → ∀ w', Below w.heap.size w w' → w'.heap = w.heap → wpList P ops Q rest (a.put o.dst (.tuple #[.bool false])) w')
    (hone : ∀ w' x v pre post, left = pre ++ (x, v) :: post → IterAt w' r b L (pre ++ post) (some (x, v)) → Fr (· = r) w w' → wpList P ops Q rest (a.put o.dst (.tuple #[.bool true, .string x, v])) w') : wpList P ops Q (o :: rest) a w := by
  refine wpList_plain hgd fun K hK => ?_
  obtain ⟨v, w', hrun, hs⟩ := run_next (P := P) h o.type
  unfold Oper.wp
  simp [execOp, ho, hm, hrun, Result.andThen]
  cases hs with
  | over _ hl hw hh => exact hK _ _ (hover hl _ hw hh)
  | one _ x v pre post hl hi hf => exact hK _ _ (hone _ _ _ _ _ hl hi hf)

theorem wp_entry (hgd : o.guard = none) (it : Operand) (ho : o.op = .entry it) {r b : Nat} {L left : List (ByteArray × Value)} {x : ByteArray} {v : Value} (hm : a.eval it = .pointer (some ⟨r, 0, none⟩)) (h : IterAt w r b L left (some (x, v)))
    (hk : wpList P ops Q rest (a.put o.dst (.tuple #[.string x, v])) w) : wpList P ops Q (o :: rest) a w := by
  refine wpList_plain hgd fun K hK => ?_
  have hrun := run_entry (P := P) h
  unfold Oper.wp
  simp [execOp, ho, hm, hrun, Result.andThen]
  exact hK _ _ hk

end

end MS
end Go.Proofs.YtkhnbdbcaebdaaaGreatDoor

namespace Go.Proofs.YtkhnbdbcaebdaaaGreatDoor
namespace DK
set_option linter.unusedVariables false
set_option linter.unusedSimpArgs false
abbrev Nm := ByteArray
abbrev Fl := List (Nm × List UInt8)
def less (a b : Nm) : Bool := Go.Op.bytesLess a.toList b.toList
structure Strict (lt : Nm → Nm → Bool) : Prop where
  irr : ∀ a, lt a a = false
  tr : ∀ a b c, lt a b = true → lt b c = true → lt a c = true
  tot : ∀ a b, a ≠ b → lt a b = true ∨ lt b a = true
theorem bl_irr : ∀ l : List UInt8, Go.Op.bytesLess l l = false
  | [] => rfl
  | a :: l => by simp [Go.Op.bytesLess, bl_irr l]
theorem bl_tr : ∀ x y z : List UInt8, Go.Op.bytesLess x y = true → Go.Op.bytesLess y z = true → Go.Op.bytesLess x z = true
  | _, [], _, h, _ => by simp [Go.Op.bytesLess] at h
  | _, _ :: _, [], _, h => by simp [Go.Op.bytesLess] at h
  | [], b :: y, c :: z, _, _ => rfl
  | a :: x, b :: y, c :: z, h1, h2 => by
    simp only [Go.Op.bytesLess, Bool.or_eq_true, Bool.and_eq_true, decide_eq_true_eq, beq_iff_eq] at h1 h2 ⊢
    rcases h1 with h1 | ⟨rfl, h1⟩
    · rcases h2 with h2 | ⟨rfl, h2⟩
      · left
        rw [UInt8.lt_iff_toNat_lt] at *; omega
      · left; exact h1
    · rcases h2 with h2 | ⟨rfl, h2⟩
      · left; exact h2
      · right; exact ⟨rfl, bl_tr x y z h1 h2⟩
theorem bl_tot : ∀ x y : List UInt8, x ≠ y → Go.Op.bytesLess x y = true ∨ Go.Op.bytesLess y x = true
  | [], [], h => absurd rfl h
  | [], _ :: _, _ => .inl rfl
  | _ :: _, [], _ => .inr rfl
  | a :: x, b :: y, h => by
    simp only [Go.Op.bytesLess, Bool.or_eq_true, Bool.and_eq_true, decide_eq_true_eq, beq_iff_eq]
    by_cases hab : a = b
    · subst hab
      have hxy : x ≠ y := fun e => h (by rw [e])
      rcases bl_tot x y hxy with h1 | h1
      · exact .inl (.inr ⟨rfl, h1⟩)
      · exact .inr (.inr ⟨rfl, h1⟩)
    · have hn : a.toNat ≠ b.toNat := fun e => hab (UInt8.toNat_inj.1 e)
      rcases Nat.lt_or_gt_of_ne hn with h1 | h1
      · exact .inl (.inl (UInt8.lt_iff_toNat_lt.2 h1))
      · exact .inr (.inl (UInt8.lt_iff_toNat_lt.2 h1))
theorem ba_toList (a : Nm) : a.toList = a.data.toList := ByteArray.toList_eq a
theorem less_strict : Strict less where
  irr a := bl_irr _
  tr a b c := bl_tr _ _ _
  tot a b h := bl_tot _ _ (fun e => h (by rw [ba_toList, ba_toList] at e; cases a; cases b; exact congrArg ByteArray.mk (Array.toList_inj.1 e)))

def getF (L : Fl) (n : Nm) : Option (List UInt8) := (L.find? (·.1 == n)).map (·.2)
def putF (L : Fl) (n : Nm) (d : List UInt8) : Fl := if L.any (·.1 == n) then L.map (fun p => if p.1 = n then (n, d) else p) else L ++ [(n, d)]
def delF (L : Fl) (n : Nm) : Fl := L.filter (fun p => p.1 != n)
def usedF (L : Fl) : Nat := (L.map (·.2.length)).sum
def insR (lt : Nm → Nm → Bool) (f : Nm × List UInt8) : Fl → Fl
  | [] => [f]
  | x :: L => if lt f.1 x.1 = true then f :: x :: L else x :: insR lt f L

theorem insR_mem {lt : Nm → Nm → Bool} {f q : Nm × List UInt8} : ∀ {L : Fl}, q ∈ insR lt f L ↔ q = f ∨ q ∈ L
  | [] => by simp [insR]
  | x :: L => by
    unfold insR
    split
    · simp
    · simp only [List.mem_cons, insR_mem (L := L)]
      constructor
      · rintro (h | h | h) <;> simp [h]
      · rintro (h | h | h) <;> simp [h]
theorem insR_sorted {lt : Nm → Nm → Bool} (S : Strict lt) {f : Nm × List UInt8} : ∀ {L : Fl}, L.Pairwise (fun x y => lt x.1 y.1 = true) → (∀ x ∈ L, x.1 ≠ f.1) → (insR lt f L).Pairwise (fun x y => lt x.1 y.1 = true)
  | [], _, _ => by simp [insR]
  | x :: L, h, hn => by
    rw [List.pairwise_cons] at h
    unfold insR
    split
    · rename_i hlt
      rw [List.pairwise_cons]
      refine ⟨fun y hy => ?_, List.pairwise_cons.2 h⟩
      rcases List.mem_cons.1 hy with rfl | hy
      · exact hlt
      · exact S.tr _ _ _ hlt (h.1 y hy)
    · rename_i hlt
      rw [List.pairwise_cons]
      refine ⟨fun y hy => ?_, insR_sorted S h.2 (fun z hz => hn z (List.mem_cons_of_mem _ hz))⟩
      rcases insR_mem.1 hy with rfl | hy
      · rcases S.tot _ _ (hn x List.mem_cons_self) with h1 | h1
        · exact h1
        · exact absurd h1 hlt
      · exact h.1 y hy
/-- the program's files and the document's are the same files -/
structure Same (L R : Fl) : Prop where
  nodup : (L.map (·.1)).Nodup
  sorted : R.Pairwise (fun x y => less x.1 y.1 = true)
  mem : ∀ p, p ∈ L ↔ p ∈ R
theorem Same.nodupR {L R : Fl} (h : Same L R) : (R.map (·.1)).Nodup := by
  rw [List.nodup_iff_pairwise_ne, List.pairwise_map]
  refine h.sorted.imp ?_
  intro a b hab e
  rw [e, less_strict.irr] at hab
  cases hab
theorem getF_iff {L : Fl} (h : (L.map (·.1)).Nodup) {n : Nm} {d : List UInt8} : getF L n = some d ↔ (n, d) ∈ L := by
  unfold getF
  induction L with
  | nil => simp
  | cons x L ih =>
    simp only [List.map_cons, List.nodup_cons] at h
    by_cases hx : x.1 = n
    · rw [List.find?_cons_of_pos (by simpa using hx)]
      simp only [Option.map_some, Option.some.injEq, List.mem_cons]
      constructor
      · intro e; left; rw [← hx, ← e]
      · rintro (e | e)
        · rw [← e]
        · exact absurd (by rw [hx]; exact List.mem_map_of_mem (f := (·.1)) e) h.1
    · rw [List.find?_cons_of_neg (by simpa using hx), ih h.2]
      simp only [List.mem_cons]
      constructor
      · exact .inr
      · rintro (e | e)
        · exact absurd (by rw [← e]) hx
        · exact e
theorem Same.get {L R : Fl} (h : Same L R) (n : Nm) : getF L n = getF R n := by
  cases hl : getF L n with
  | some d => exact ((getF_iff h.nodupR).2 ((h.mem _).1 ((getF_iff h.nodup).1 hl))).symm
  | none =>
    cases hr : getF R n with
    | none => rfl
    | some d => rw [(getF_iff h.nodup).2 ((h.mem _).2 ((getF_iff h.nodupR).1 hr))] at hl; cases hl
theorem delF_keys {L : Fl} (h : (L.map (·.1)).Nodup) (n : Nm) : ((delF L n).map (·.1)).Nodup := (List.filter_sublist.map _).nodup h
theorem Same.del {L R : Fl} (h : Same L R) (n : Nm) : Same (delF L n) (delF R n) :=
  ⟨delF_keys h.nodup n, h.sorted.filter _, fun p => by unfold delF; rw [List.mem_filter, List.mem_filter, h.mem]⟩
theorem putF_mem {L : Fl} {n : Nm} {d : List UInt8} {p : Nm × List UInt8} : p ∈ putF L n d ↔ p = (n, d) ∨ (p ∈ L ∧ p.1 ≠ n) := by
  unfold putF
  split
  · rename_i hany
    rw [List.mem_map]
    constructor
    · rintro ⟨q, hq, rfl⟩
      by_cases hqn : q.1 = n
      · left; rw [if_pos hqn]
      · right; rw [if_neg hqn]; exact ⟨hq, hqn⟩
    · rintro (rfl | ⟨hp, hn⟩)
      · obtain ⟨q, hq, hqn⟩ := List.any_eq_true.1 hany
        exact ⟨q, hq, if_pos (by simpa using hqn)⟩
      · exact ⟨p, hp, if_neg hn⟩
  · rename_i hany
    rw [List.mem_append, List.mem_singleton]
    constructor
    · rintro (h | h)
      · right
        refine ⟨h, fun e => hany ?_⟩
        rw [List.any_eq_true]; exact ⟨p, h, by simpa using e⟩
      · exact .inl h
    · rintro (h | h)
      · exact .inr h
      · exact .inl h.1
theorem putF_keys {L : Fl} (h : (L.map (·.1)).Nodup) (n : Nm) (d : List UInt8) : ((putF L n d).map (·.1)).Nodup := by
  unfold putF
  split
  · have : (L.map (fun p => if p.1 = n then (n, d) else p)).map (·.1) = L.map (·.1) := by
      rw [List.map_map]; refine List.map_congr_left fun p _ => ?_
      by_cases hp : p.1 = n <;> simp [hp]
    rw [this]; exact h
  · rename_i hn
    rw [List.map_append, List.nodup_append]
    refine ⟨h, by simp, ?_⟩
    intro x hx y hy
    simp at hy; subst hy
    intro hxa; subst hxa
    apply hn
    obtain ⟨p, hp, hpx⟩ := List.mem_map.1 hx
    rw [List.any_eq_true]; exact ⟨p, hp, by simpa using hpx⟩
theorem Same.put {L R : Fl} (h : Same L R) (n : Nm) (d : List UInt8) : Same (putF L n d) (insR less (n, d) (delF R n)) := by
  have hd := h.del n
  refine ⟨putF_keys h.nodup n d, insR_sorted less_strict hd.sorted (fun x hx => by unfold delF at hx; have := (List.mem_filter.1 hx).2; simpa [bne] using this), fun p => ?_⟩
  rw [putF_mem, insR_mem]
  unfold delF
  rw [List.mem_filter, h.mem]
  simp [bne]
structure Chg where
  kind : Nat
  name : Nm
  to : Nm
  d : List UInt8
def doF (L : Fl) (c : Chg) : Fl :=
  if c.kind = 0 then putF L c.name c.d else match getF L c.name with
    | none => L
    | some b => if c.kind = 1 then putF (delF L c.name) c.to b else delF L c.name
def doR (R : Fl) (c : Chg) : Fl :=
  if c.kind = 0 then insR less (c.name, c.d) (delF R c.name) else match getF R c.name with
    | none => R
    | some b => if c.kind = 1 then insR less (c.to, b) (delF (delF R c.name) c.to) else delF R c.name
theorem Same.do {L R : Fl} (h : Same L R) (c : Chg) : Same (doF L c) (doR R c) := by
  unfold doF doR
  rw [h.get]
  split
  · exact h.put _ _
  · split
    · exact h
    · split
      · exact (h.del _).put _ _
      · exact h.del _
def allF (L : Fl) (cs : List Chg) : Fl := cs.foldl doF L
def allR (R : Fl) (cs : List Chg) : Fl := cs.foldl doR R
theorem Same.all {L R : Fl} (h : Same L R) : ∀ cs, Same (allF L cs) (allR R cs)
  | [] => h
  | c :: cs => by
    show Same ((cs).foldl doF (doF L c)) ((cs).foldl doR (doR R c))
    exact Same.all (h.do c) cs
theorem putF_len (L : Fl) (n : Nm) (d : List UInt8) : (putF L n d).length = L.length + if (getF L n).isSome then 0 else 1 := by
  unfold putF getF
  by_cases h : L.any (·.1 == n) = true
  · rw [if_pos h]
    have : (L.find? (·.1 == n)).isSome = true := by rw [List.find?_isSome]; obtain ⟨q, hq, hqn⟩ := List.any_eq_true.1 h; exact ⟨q, hq, hqn⟩
    simp [this]
  · rw [if_neg h]
    have : (L.find? (·.1 == n)).isSome = false := by
      rw [Bool.eq_false_iff]; intro h2
      rw [List.find?_isSome] at h2
      obtain ⟨q, hq, hqn⟩ := h2
      exact h (List.any_eq_true.2 ⟨q, hq, hqn⟩)
    simp [this]
end DK
end Go.Proofs.YtkhnbdbcaebdaaaGreatDoor

namespace Go.Proofs.YtkhnbdbcaebdaaaGreatDoor
namespace DK
set_option linter.unusedVariables false
set_option linter.unusedSimpArgs false
def sign (c : UInt8) : Bool := (97 ≤ c && c ≤ 122) || (48 ≤ c && c ≤ 57) || c == 45 || c == 46 || c == 126
def named (n : Nm) : Bool := decide (1 ≤ n.size) && decide (n.size ≤ 24) && n.data.toList.all sign
structure Dk where
  room : Int
  sure : Fl
  shown : Fl
  pend : List Chg
  fuse : Int
  down : Bool
structure Rk where
  room : Int
  sure : Fl
  ch : List Chg
  fuse : Int
  down : Bool
def lower (f : Int) : Int := if 0 < f then f - 1 else f
def worksD (D : Dk) : Nat × Dk := if D.down = true then (14, D) else if D.fuse = 0 then (14, { D with down := true }) else (0, { D with fuse := lower D.fuse })
def addD (D : Dk) (c : Chg) : Dk := { D with pend := D.pend ++ [c], shown := doF D.shown c }
def shownR (R : Rk) : Fl := allR R.sure R.ch
def oldLen (L : Fl) (n : Nm) : Nat := match getF L n with
  | some d => d.length
  | none => 0
def writeD (D0 : Dk) (n : Nm) (d : List UInt8) : Nat × Dk :=
  let r := worksD D0
  if r.1 ≠ 0 then r else if named n = false then (2, r.2) else if 65536 < d.length then (3, r.2)
  else if ((getF r.2.shown n).isNone = true ∧ 512 ≤ r.2.shown.length) ∨ r.2.room < (usedF r.2.shown : Int) - oldLen r.2.shown n + d.length then (5, r.2)
  else (0, addD r.2 ⟨0, n, ⟨#[]⟩, d⟩)
def renameD (D0 : Dk) (f t : Nm) : Nat × Dk :=
  let r := worksD D0
  if r.1 ≠ 0 then r else if named f = false ∨ named t = false then (2, r.2) else if (getF r.2.shown f).isNone = true then (4, r.2) else (0, addD r.2 ⟨1, f, t, []⟩)
def removeD (D0 : Dk) (n : Nm) : Nat × Dk :=
  let r := worksD D0
  if r.1 ≠ 0 then r else if named n = false then (2, r.2) else if (getF r.2.shown n).isNone = true then (4, r.2) else (0, addD r.2 ⟨2, n, ⟨#[]⟩, []⟩)
def syncD (D0 : Dk) : Nat × Dk :=
  let r := worksD D0
  if r.1 ≠ 0 then r else (0, { r.2 with sure := r.2.shown, pend := [] })
def readD (D : Dk) (n : Nm) : Nat × List UInt8 := if D.down = true then (14, []) else match getF D.shown n with
  | some d => (0, d)
  | none => (4, [])
/-- the changes that a cut keeps -/
def kept : List Chg → List Bool → List Chg
  | c :: cs, true :: ks => c :: kept cs ks
  | _ :: cs, false :: ks => kept cs ks
  | _, _ => []
def cutD (D : Dk) (ks : List Bool) : Dk := { D with sure := allF D.sure (kept D.pend ks), shown := allF D.sure (kept D.pend ks), pend := [], down := true }
def upD (D : Dk) : Dk := if D.down = true then { cutD D [] with down := false, fuse := -1 } else { D with fuse := -1 }
/-- how many of the changes write a file -/
def wr (cs : List Chg) : Nat := (cs.filter (fun c => c.kind == 0)).length
/-- the program's disk and the document's are the same disk -/
structure DR (m : Nat) (D : Dk) (R : Rk) : Prop where
  room : D.room = R.room
  fuse : D.fuse = R.fuse
  down : D.down = R.down
  pend : D.pend = R.ch
  sure : Same D.sure R.sure
  shown : Same D.shown (shownR R)
  few : D.sure.length + wr D.pend ≤ m
  fewS : D.shown.length ≤ m
theorem delF_lt {L : Fl} {n : Nm} {b : List UInt8} (h : getF L n = some b) : (delF L n).length < L.length := by
  unfold getF at h
  cases hf : L.find? (·.1 == n) with
  | none => rw [hf] at h; cases h
  | some p =>
    have hp := List.find?_some hf
    have hm := List.mem_of_find?_eq_some hf
    unfold delF
    exact List.length_filter_lt_length_iff_exists.2 ⟨p, hm, by simpa [bne] using hp⟩
theorem doF_len (L : Fl) (c : Chg) : (doF L c).length ≤ L.length + wr [c] := by
  unfold doF wr
  by_cases hk : c.kind = 0
  · rw [if_pos hk, putF_len]
    simp only [hk, beq_self_eq_true, List.filter_cons_of_pos, List.filter_nil, List.length_cons, List.length_nil]
    split <;> omega
  · rw [if_neg hk]
    split
    · omega
    · rename_i b hb
      have hlt := delF_lt hb
      split
      · rw [putF_len]; split <;> omega
      · omega
theorem wr_cons (c : Chg) (cs : List Chg) : wr (c :: cs) = wr [c] + wr cs := by
  unfold wr
  rw [← List.length_append, ← List.filter_append]; rfl
theorem wr_append (cs ds : List Chg) : wr (cs ++ ds) = wr cs + wr ds := by unfold wr; rw [List.filter_append, List.length_append]
theorem allF_len : ∀ (cs : List Chg) (L : Fl), (allF L cs).length ≤ L.length + wr cs
  | [], L => Nat.le_refl _
  | c :: cs, L => by
    have h1 := allF_len cs (doF L c)
    have h2 := doF_len L c
    have h3 := wr_cons c cs
    show (allF (doF L c) cs).length ≤ _
    omega
theorem kept_len : ∀ (cs : List Chg) (ks : List Bool), wr (kept cs ks) ≤ wr cs
  | [], ks => by cases ks <;> simp [kept]
  | c :: cs, [] => by simp [kept, wr]
  | c :: cs, true :: ks => by
    have := kept_len cs ks
    have h1 := wr_cons c cs
    have h2 := wr_cons c (kept cs ks)
    simp only [kept]; omega
  | c :: cs, false :: ks => by
    have := kept_len cs ks
    have h1 := wr_cons c cs
    simp only [kept]; omega
theorem DR.mono {m m' : Nat} {D : Dk} {R : Rk} (h : DR m D R) (hm : m ≤ m') : DR m' D R := ⟨h.room, h.fuse, h.down, h.pend, h.sure, h.shown, Nat.le_trans h.few hm, Nat.le_trans h.fewS hm⟩
end DK
end Go.Proofs.YtkhnbdbcaebdaaaGreatDoor

namespace Go.Proofs.YtkhnbdbcaebdaaaGreatDoor
namespace DK
set_option linter.unusedVariables false
set_option linter.unusedSimpArgs false
def tilde : Nm := ⟨#[126]⟩
def noTilde (n : Nm) : Bool := n.data.toList.all (· != 126)
def objNamed (n : Nm) : Bool := decide (n.size ≤ 20) && named n && noTilde n
def begun (n : Nm) : Bool := n.data.toList.head? == some 126
def sweepD : List Nm → Bool → Dk → Nat × Bool × Dk
  | [], s, D => (0, s, D)
  | n :: l, s, D => if begun n = false then sweepD l s D else if (removeD D n).1 ≠ 0 then ((removeD D n).1, s, (removeD D n).2) else sweepD l true (removeD D n).2
def openD (l : List Nm) (D : Dk) : Nat × Dk :=
  if D.down = true then (14, D) else if (sweepD l false D).1 ≠ 0 then ((sweepD l false D).1, (sweepD l false D).2.2) else if (sweepD l false D).2.1 = true then syncD (sweepD l false D).2.2 else (0, (sweepD l false D).2.2)
def putD (D : Dk) (n : Nm) (d : List UInt8) : Nat × Dk :=
  if objNamed n = false then (2, D) else
  if (writeD D (tilde ++ n) d).1 ≠ 0 then writeD D (tilde ++ n) d else
  if (syncD (writeD D (tilde ++ n) d).2).1 ≠ 0 then syncD (writeD D (tilde ++ n) d).2 else
  if (renameD (syncD (writeD D (tilde ++ n) d).2).2 (tilde ++ n) n).1 ≠ 0 then renameD (syncD (writeD D (tilde ++ n) d).2).2 (tilde ++ n) n else
  syncD (renameD (syncD (writeD D (tilde ++ n) d).2).2 (tilde ++ n) n).2
def getD (D : Dk) (n : Nm) : Nat × List UInt8 := if objNamed n = false then (2, []) else readD D n
def dropD (D : Dk) (n : Nm) : Nat × Dk := if objNamed n = false then (2, D) else if (removeD D n).1 ≠ 0 then removeD D n else syncD (removeD D n).2
def begins (b n : Nm) : Bool := b.data.toList.isPrefixOf n.data.toList
def listN (l : List Nm) (b : Nm) : List Nm := l.filter (fun n => objNamed n && begins b n)

end DK
end Go.Proofs.YtkhnbdbcaebdaaaGreatDoor

namespace Go.Proofs.YtkhnbdbcaebdaaaGreatDoor
set_option linter.unusedVariables false
set_option linter.unusedSimpArgs false
namespace DK
structure Good (L : Fl) : Prop where
  nodup : (L.map (·.1)).Nodup
  files : ∀ f ∈ L, named f.1 = true ∧ f.2.length ≤ 65536
structure GoodC (c : Chg) : Prop where
  kind : c.kind < 3
  len : c.d.length ≤ 65536
  k0 : c.kind = 0 → named c.name = true
  k1 : c.kind = 1 → named c.to = true
theorem Good.nil : Good [] := ⟨by simp, by simp⟩
theorem Good.put {L : Fl} (h : Good L) {n : Nm} {d : List UInt8} (hn : named n = true) (hd : d.length ≤ 65536) : Good (putF L n d) :=
  ⟨putF_keys h.nodup n d, fun f hf => by
    rcases putF_mem.1 hf with rfl | ⟨hf, _⟩
    · exact ⟨hn, hd⟩
    · exact h.files f hf⟩
theorem Good.del {L : Fl} (h : Good L) (n : Nm) : Good (delF L n) := ⟨delF_keys h.nodup n, fun f hf => h.files f (List.mem_filter.1 hf).1⟩
theorem Good.get {L : Fl} (h : Good L) {n : Nm} {d : List UInt8} (hg : getF L n = some d) : named n = true ∧ d.length ≤ 65536 := h.files (n, d) ((getF_iff h.nodup).1 hg)
theorem Good.do {L : Fl} (h : Good L) {c : Chg} (hc : GoodC c) : Good (doF L c) := by
  unfold doF
  by_cases h0 : c.kind = 0
  · rw [if_pos h0]; exact h.put (hc.k0 h0) hc.len
  · rw [if_neg h0]
    cases hg : getF L c.name with
    | none => exact h
    | some b =>
      show Good (if c.kind = 1 then _ else _)
      by_cases h1 : c.kind = 1
      · rw [if_pos h1]; exact (h.del _).put (hc.k1 h1) (h.get hg).2
      · rw [if_neg h1]; exact h.del _
theorem Good.all : ∀ {cs : List Chg} {L : Fl}, Good L → (∀ c ∈ cs, GoodC c) → Good (allF L cs)
  | [], L, h, _ => h
  | c :: cs, L, h, hc => by
    show Good (allF (doF L c) cs)
    exact Good.all (h.do (hc c List.mem_cons_self)) (fun x hx => hc x (List.mem_cons_of_mem _ hx))
theorem kept_mem : ∀ {cs : List Chg} {ks : List Bool} {c : Chg}, c ∈ kept cs ks → c ∈ cs
  | [], [], c, h => by simp [kept] at h
  | [], _ :: _, c, h => by simp [kept] at h
  | x :: cs, [], c, h => by simp [kept] at h
  | x :: cs, true :: ks, c, h => by
    simp only [kept] at h
    rcases List.mem_cons.1 h with rfl | h
    · exact List.mem_cons_self
    · exact List.mem_cons_of_mem _ (kept_mem h)
  | x :: cs, false :: ks, c, h => by
    simp only [kept] at h
    exact List.mem_cons_of_mem _ (kept_mem h)
/-- a disk's bounds: at most m files ever written -/
structure Ok (m : Nat) (D : Dk) : Prop where
  few : D.sure.length + wr D.pend ≤ m
  fewS : D.shown.length ≤ m
  sure : Good D.sure
  shown : Good D.shown
  pend : ∀ c ∈ D.pend, GoodC c
  room : 0 ≤ D.room ∧ D.room ≤ 1073741824
  fuse : -1 ≤ D.fuse ∧ D.fuse < 9223372036854775808
theorem Ok.mono {m k : Nat} {D : Dk} (h : Ok m D) (hk : m ≤ k) : Ok k D := { h with few := Nat.le_trans h.few hk, fewS := Nat.le_trans h.fewS hk }
theorem Ok.works {m : Nat} {D : Dk} (h : Ok m D) : Ok m (worksD D).2 := by
  unfold worksD
  split
  · exact h
  · split
    · exact ⟨h.few, h.fewS, h.sure, h.shown, h.pend, h.room, h.fuse⟩
    · refine ⟨h.few, h.fewS, h.sure, h.shown, h.pend, h.room, ?_⟩
      have := h.fuse
      show -1 ≤ lower D.fuse ∧ lower D.fuse < _
      unfold lower
      split <;> omega
theorem works_ok {D : Dk} (h : (worksD D).1 = 0) : D.down = false ∧ D.fuse ≠ 0 ∧ (worksD D).2 = { D with fuse := lower D.fuse } := by
  unfold worksD at h ⊢
  split at h
  · cases h
  · rename_i hd
    split at h
    · cases h
    · rename_i hf
      rw [if_neg hd, if_neg hf]
      exact ⟨by simpa using hd, hf, rfl⟩
theorem works_err (D : Dk) : (worksD D).1 = 0 ∨ (worksD D).1 = 14 := by
  unfold worksD
  split
  · exact .inr rfl
  · split
    · exact .inr rfl
    · exact .inl rfl
theorem Ok.add {m : Nat} {D : Dk} (h : Ok m D) {c : Chg} (hc : GoodC c) : Ok (m + wr [c]) (addD D c) :=
  ⟨by
    show D.sure.length + wr (D.pend ++ [c]) ≤ _
    have := h.few
    rw [wr_append]; omega, by
    have h1 := doF_len D.shown c
    have h2 := h.fewS
    show (doF D.shown c).length ≤ _
    omega, h.sure, h.shown.do hc, fun x hx => by
      have hx : x ∈ D.pend ++ [c] := hx
      rcases List.mem_append.1 hx with hx | hx
      · exact h.pend x hx
      · obtain rfl := List.mem_singleton.1 hx; exact hc, h.room, h.fuse⟩
theorem Ok.write {m : Nat} {D : Dk} (h : Ok m D) (n : Nm) (d : List UInt8) : Ok (m + 1) (writeD D n d).2 := by
  have hw := h.works.mono (Nat.le_succ m)
  unfold writeD
  simp only
  split
  · exact hw
  · split
    · exact hw
    · rename_i hn
      split
      · exact hw
      · rename_i hl
        split
        · exact hw
        · exact (h.works.add (c := ⟨0, n, ⟨#[]⟩, d⟩) ⟨by show (0 : Nat) < 3; decide, by show d.length ≤ _; omega, fun _ => by simpa using hn, (fun h => by cases h)⟩).mono (Nat.le_refl _)
theorem wr_one {k : Nat} {a b : Nm} {d : List UInt8} (hk : k ≠ 0) : wr [⟨k, a, b, d⟩] = 0 := by
  unfold wr; simp [hk]
theorem Ok.rename {m : Nat} {D : Dk} (h : Ok m D) (f t : Nm) : Ok m (renameD D f t).2 := by
  unfold renameD
  simp only
  split
  · exact h.works
  · split
    · exact h.works
    · rename_i hn
      split
      · exact h.works
      · have := h.works.add (c := ⟨1, f, t, []⟩) ⟨by show (1 : Nat) < 3; decide, by show (0 : Nat) ≤ _; omega, (fun h => by cases h), fun _ => (by
          cases ht : named t with
          | true => rfl
          | false => exact absurd (.inr ht) hn)⟩
        rw [wr_one (by decide)] at this; exact this
theorem Ok.remove {m : Nat} {D : Dk} (h : Ok m D) (n : Nm) : Ok m (removeD D n).2 := by
  unfold removeD
  simp only
  split
  · exact h.works
  · split
    · exact h.works
    · split
      · exact h.works
      · have := h.works.add (c := ⟨2, n, ⟨#[]⟩, []⟩) ⟨by show (2 : Nat) < 3; decide, by show (0 : Nat) ≤ _; omega, (fun h => by cases h), (fun h => by cases h)⟩
        rw [wr_one (by decide)] at this; exact this
theorem Ok.sync {m : Nat} {D : Dk} (h : Ok m D) : Ok m (syncD D).2 := by
  have hw := h.works
  unfold syncD
  simp only
  split
  · exact hw
  · exact ⟨by show (worksD D).2.shown.length + wr [] ≤ m; simpa [wr] using hw.fewS, hw.fewS, hw.shown, hw.shown, (by intro c hc; simp at hc), hw.room, hw.fuse⟩
theorem Ok.cut {m : Nat} {D : Dk} (h : Ok m D) (ks : List Bool) : Ok m (cutD D ks) := by
  have hl : (allF D.sure (kept D.pend ks)).length ≤ m := by
    have h1 := allF_len (kept D.pend ks) D.sure
    have h2 := kept_len D.pend ks
    have h3 := h.few
    omega
  have hg : Good (allF D.sure (kept D.pend ks)) := h.sure.all (fun c hc => h.pend c (kept_mem hc))
  exact ⟨by show (allF D.sure (kept D.pend ks)).length + wr [] ≤ m; simpa [wr] using hl, hl, hg, hg, (by intro c hc; exact absurd (show c ∈ [] from hc) (by simp)), h.room, h.fuse⟩
theorem Ok.start {m : Nat} {D : Dk} (h : Ok m D) : Ok m (upD D) := by
  unfold upD
  split
  · have hc := h.cut []
    exact ⟨hc.few, hc.fewS, hc.sure, hc.shown, hc.pend, hc.room, by show (-1 : Int) ≤ -1 ∧ (-1 : Int) < _; decide⟩
  · exact ⟨h.few, h.fewS, h.sure, h.shown, h.pend, h.room, by show (-1 : Int) ≤ -1 ∧ (-1 : Int) < _; decide⟩
theorem Ok.sweep : ∀ (l : List Nm) {m : Nat} {D : Dk} (s : Bool), Ok m D → Ok m (sweepD l s D).2.2
  | [], m, D, s, h => h
  | n :: l, m, D, s, h => by
    unfold sweepD
    split
    · exact Ok.sweep l s h
    · split
      · exact h.remove n
      · exact Ok.sweep l true (h.remove n)
theorem Ok.open {m : Nat} {D : Dk} (h : Ok m D) (l : List Nm) : Ok m (openD l D).2 := by
  unfold openD
  split
  · exact h
  · split
    · exact h.sweep l false
    · split
      · exact (h.sweep l false).sync
      · exact h.sweep l false
theorem Ok.put {m : Nat} {D : Dk} (h : Ok m D) (n : Nm) (d : List UInt8) : Ok (m + 1) (putD D n d).2 := by
  have hw := h.write (tilde ++ n) d
  unfold putD
  split
  · exact h.mono (Nat.le_succ m)
  · split
    · exact hw
    · split
      · exact hw.sync
      · split
        · exact hw.sync.rename _ _
        · exact (hw.sync.rename _ _).sync
theorem Ok.drop {m : Nat} {D : Dk} (h : Ok m D) (n : Nm) : Ok m (dropD D n).2 := by
  unfold dropD
  split
  · exact h
  · split
    · exact h.remove n
    · exact (h.remove n).sync
/-- a new disk -/
def newD (room : Int) : Dk := ⟨room, [], [], [], -1, false⟩
theorem Ok.new {room : Int} (h : 0 ≤ room ∧ room ≤ 1073741824) : Ok 0 (newD room) :=
  ⟨by show ([] : Fl).length + wr [] ≤ 0; simp [wr], Nat.le_refl _, Good.nil, Good.nil, (by intro c hc; exact absurd (show c ∈ [] from hc) (by simp)), h, by show (-1 : Int) ≤ -1 ∧ (-1 : Int) < _; decide⟩
theorem used_le {L : Fl} (h : Good L) {m : Nat} (hm : L.length ≤ m) : usedF L ≤ 65536 * m := by
  have : ∀ (L : Fl), (∀ f ∈ L, f.2.length ≤ 65536) → usedF L ≤ 65536 * L.length := by
    intro L
    induction L with
    | nil => intro _; simp [usedF]
    | cons x L ih =>
      intro h
      have h1 := h x List.mem_cons_self
      have h2 := ih (fun f hf => h f (List.mem_cons_of_mem _ hf))
      unfold usedF at h2 ⊢
      rw [List.map_cons, List.sum_cons, List.length_cons]; omega
  have h1 := this L (fun f hf => (h.files f hf).2)
  have h2 : 65536 * L.length ≤ 65536 * m := Nat.mul_le_mul_left _ hm
  omega
end DK
end Go.Proofs.YtkhnbdbcaebdaaaGreatDoor

namespace Go.Proofs.YtkhnbdbcaebdaaaGreatDoor
set_option linter.unusedVariables false
set_option linter.unusedSimpArgs false
namespace DK
theorem dropW_nil (p : UInt8 → Bool) : ∀ (l : List UInt8), l.dropWhile p = [] ↔ ∀ x ∈ l, p x = true
  | [] => by simp
  | a :: l => by
    by_cases h : p a = true
    · rw [List.dropWhile_cons_of_pos h, dropW_nil p l]; simp [h]
    · rw [List.dropWhile_cons_of_neg h]; simp [h]
theorem trimS_nil (l cs : List UInt8) : Go.Lib.trimS l cs = [] ↔ l.all (fun x => cs.contains x) = true := by
  unfold Go.Lib.trimS Go.Lib.trimLeftS Go.Lib.trimRightS
  rw [dropW_nil, List.all_eq_true]
  constructor
  · intro h
    have hd : l.reverse.dropWhile (cs.contains ·) = [] := by
      cases hq : l.reverse.dropWhile (cs.contains ·) with
      | nil => rfl
      | cons a t =>
        exfalso
        have h1 := h a (by rw [hq]; simp)
        have h2 : ∀ (m : List UInt8) (a : UInt8) (t : List UInt8), m.dropWhile (cs.contains ·) = a :: t → cs.contains a = false := by
          intro m
          induction m with
          | nil => intro a t h; cases h
          | cons x m ih =>
            intro a t h
            by_cases hx : cs.contains x = true
            · rw [List.dropWhile_cons_of_pos hx] at h; exact ih a t h
            · rw [List.dropWhile_cons_of_neg hx] at h
              cases h; simpa using hx
        rw [h2 _ a t hq] at h1
        cases h1
    intro x hx
    exact (dropW_nil _ _).1 hd x (List.mem_reverse.2 hx)
  · intro h x hx
    exact h x (List.mem_reverse.1 ((List.dropWhile_sublist _).subset (List.mem_reverse.1 hx)))
theorem repeatL_one (c : UInt8) : ∀ n, Go.Lib.repeatL [c] n = List.replicate n c
  | 0 => rfl
  | n + 1 => by
    have ih := repeatL_one c n
    rw [List.replicate_succ, ← ih]; rfl
/-- eight figures -/
def pad8 (n : Nat) : List UInt8 := (List.range 8).map fun t => Go.Lib.dg n (7 - t)
theorem pad8_len (n : Nat) : (pad8 n).length = 8 := by simp [pad8]
theorem dg_zero {n j : Nat} (h : n < 10 ^ j) : Go.Lib.dg n j = 48 := by
  unfold Go.Lib.dg
  rw [Nat.div_eq_of_lt h]; rfl
theorem pad8_eq {n : Nat} (h : n ≤ 99999999) : Go.Lib.repeatL [48] (8 - (Go.Lib.decDigits n).length) ++ Go.Lib.decDigits n = pad8 n := by
  rw [repeatL_one, Go.Lib.decDigits_length]
  have hk : Go.Lib.nDigits n ≤ 8 := by
    rcases Nat.lt_or_ge 8 (Go.Lib.nDigits n) with h1 | h1
    · exfalso
      have h2 : ∀ (k u : Nat), k + 1 ≤ Go.Lib.nDigits u → 10 ^ k ≤ u ∨ k = 0 := by
        intro k
        induction k with
        | zero => intro u _; exact .inr rfl
        | succ k ih =>
          intro u hu
          by_cases hb : u < 10
          · rw [Go.Lib.nDigits_small hb] at hu; omega
          · rw [Go.Lib.nDigits_big hb] at hu
            left
            rcases ih (u / 10) (by omega) with h3 | h3
            · rw [Nat.pow_succ]; omega
            · subst h3; simp; omega
      rcases h2 8 n (by omega) with h3 | h3
      · have : (10 : Nat) ^ 8 = 100000000 := by decide
        omega
      · cases h3
    · exact h1
  have hlt := Go.Lib.lt_pow_nDigits n
  have hpos := Go.Lib.nDigits_pos n
  rw [Go.Lib.decDigits_eq]
  generalize Go.Lib.nDigits n = k at *
  refine List.ext_getElem (by simp [pad8]; omega) (fun t h1 h2 => ?_)
  rw [pad8_len] at h2
  by_cases ht : t < 8 - k
  · rw [List.getElem_append_left (by simpa using ht)]
    simp only [List.getElem_replicate, pad8, List.getElem_map, List.getElem_range]
    exact (dg_zero (Nat.lt_of_lt_of_le hlt (Nat.pow_le_pow_right (by decide) (by omega)))).symm
  · rw [List.getElem_append_right (by simpa using ht)]
    simp only [List.length_replicate, pad8, List.getElem_map, List.getElem_range]
    congr 1; omega
/-- the name of an object with a number -/
def nameN (b : UInt8) (n : Nat) : Nm := ⟨(b :: pad8 n).toArray⟩
/-- the number of an object's name -/
def numberN (b : UInt8) (x : Nm) : Option Nat := match x.data.toList with
  | [] => none
  | c :: l => if c = b ∧ l.length = 8 then Go.Lib.decFrom 0 l else none
theorem digit_dg (n j : Nat) : Go.Lib.digitVal (Go.Lib.dg n j) = some (n / 10 ^ j % 10) := by
  have h : n / 10 ^ j % 10 < 10 := Nat.mod_lt _ (by decide)
  unfold Go.Lib.dg Go.Lib.digitVal
  generalize n / 10 ^ j % 10 = d at *
  have : (UInt8.ofNat (48 + d)).toNat = 48 + d := by rw [UInt8.toNat_ofNat']; omega
  rw [this, if_pos (by omega)]
  congr 1; omega
theorem pad8_list (n : Nat) : pad8 n = [Go.Lib.dg n 7, Go.Lib.dg n 6, Go.Lib.dg n 5, Go.Lib.dg n 4, Go.Lib.dg n 3, Go.Lib.dg n 2, Go.Lib.dg n 1, Go.Lib.dg n 0] := rfl
theorem decFrom_pad8 {n : Nat} (h : n ≤ 99999999) : Go.Lib.decFrom 0 (pad8 n) = some n := by
  rw [pad8_list]
  simp only [Go.Lib.decFrom, digit_dg]
  congr 1
  simp only [Nat.reducePow, Nat.zero_mul, Nat.zero_add, Nat.div_one]
  omega
theorem number_name (b : UInt8) {n : Nat} (h : n ≤ 99999999) : numberN b (nameN b n) = some n := by
  unfold numberN nameN
  simp only [pad8_len, and_self, if_true, decFrom_pad8 h]
theorem decFrom_bound : ∀ (l : List UInt8) (acc n : Nat), Go.Lib.decFrom acc l = some n → n < (acc + 1) * 10 ^ l.length
  | [], acc, n, h => by simp [Go.Lib.decFrom] at h; simp; omega
  | b :: r, acc, n, h => by
    simp only [Go.Lib.decFrom] at h
    cases hd : Go.Lib.digitVal b with
    | none => simp [hd] at h
    | some d =>
      simp only [hd] at h
      have h1 := decFrom_bound r _ n h
      have h2 : d ≤ 9 := by unfold Go.Lib.digitVal at hd; split at hd <;> simp at hd; omega
      rw [List.length_cons, Nat.pow_succ]
      have h3 : (acc * 10 + d + 1) * 10 ^ r.length ≤ ((acc + 1) * 10) * 10 ^ r.length := Nat.mul_le_mul_right _ (by omega)
      have h4 : (acc + 1) * (10 ^ r.length * 10) = ((acc + 1) * 10) * 10 ^ r.length := by rw [Nat.mul_assoc, Nat.mul_comm 10]
      omega
theorem number_le {b : UInt8} {x : Nm} {n : Nat} (h : numberN b x = some n) : n ≤ 99999999 := by
  unfold numberN at h
  split at h
  · cases h
  · split at h
    · rename_i hc
      have := decFrom_bound _ _ _ h
      rw [hc.2] at this
      have e : (0 + 1) * 10 ^ 8 = 100000000 := by decide
      omega
    · cases h
theorem decFrom_inj : ∀ (l m : List UInt8) (acc n : Nat), l.length = m.length → Go.Lib.decFrom acc l = some n → Go.Lib.decFrom acc m = some n → l = m
  | [], [], _, _, _, _, _ => rfl
  | [], _ :: _, _, _, h, _, _ => by cases h
  | _ :: _, [], _, _, h, _, _ => by cases h
  | a :: l, b :: m, acc, n, hl, h1, h2 => by
    simp only [Go.Lib.decFrom] at h1 h2
    cases ha : Go.Lib.digitVal a with
    | none => simp [ha] at h1
    | some x =>
      cases hb : Go.Lib.digitVal b with
      | none => simp [hb] at h2
      | some y =>
        simp only [ha] at h1
        simp only [hb] at h2
        have key : ∀ (l m : List UInt8) (p q n : Nat), l.length = m.length → Go.Lib.decFrom p l = some n → Go.Lib.decFrom q m = some n → p = q := by
          have low : ∀ (l : List UInt8) (p n : Nat), Go.Lib.decFrom p l = some n → n / 10 ^ l.length = p := by
            intro l
            induction l with
            | nil => intro p n h; simp [Go.Lib.decFrom] at h; simp [h]
            | cons c l ih =>
              intro p n h
              simp only [Go.Lib.decFrom] at h
              cases hc : Go.Lib.digitVal c with
              | none => simp [hc] at h
              | some z =>
                simp only [hc] at h
                have h3 := ih _ _ h
                have hz : z ≤ 9 := by unfold Go.Lib.digitVal at hc; split at hc <;> simp at hc; omega
                rw [List.length_cons, Nat.pow_succ, ← Nat.div_div_eq_div_mul, h3]; omega
          intro l m p q n hlm h3 h4
          rw [← low l p n h3, ← low m q n h4, hlm]
        have hxy := key l m _ _ n (by simpa using hl) h1 h2
        have hxe : x = y := by omega
        subst hxe
        have hab : a = b := by
          unfold Go.Lib.digitVal at ha hb
          split at ha <;> simp at ha
          split at hb <;> simp at hb
          exact UInt8.toNat_inj.1 (by omega)
        rw [hab, decFrom_inj l m _ n (by simpa using hl) h1 h2]
theorem name_of_number {b : UInt8} {x : Nm} {n : Nat} (h : numberN b x = some n) : x = nameN b n := by
  have hle := number_le h
  unfold numberN at h
  cases x with
  | mk d =>
    simp only at h
    cases hd : d.toList with
    | nil => rw [hd] at h; cases h
    | cons c l =>
      rw [hd] at h
      simp only at h
      split at h
      · rename_i hc
        have hl := decFrom_inj l (pad8 n) 0 n (by rw [hc.2, pad8_len]) h (decFrom_pad8 hle)
        unfold nameN
        congr 1
        apply Array.toList_inj.1
        rw [hd, hc.1, hl]
      · cases h
theorem name_inj {b : UInt8} {n m : Nat} (hn : n ≤ 99999999) (hm : m ≤ 99999999) (h : nameN b n = nameN b m) : n = m := by
  have h1 := number_name b hn
  rw [h, number_name b hm] at h1
  simpa using h1.symm
theorem name_ne {b c : UInt8} (hbc : b ≠ c) (n m : Nat) : nameN b n ≠ nameN c m := by
  intro h
  have := congrArg (fun x : Nm => x.data.toList.head?) h
  simp [nameN] at this
  exact hbc this
/-- an eight-figured text's number, as Atoi reads it -/
theorem atoi_figs {l : List UInt8} (hl : l.length = 8) (hd : ∀ b ∈ l, (48 : UInt8) ≤ b ∧ b ≤ 57) : ∃ n, Go.Lib.decFrom 0 l = some n ∧ Go.Lib.atoi l = some (n : Int) := by
  have h1 : ∀ (l : List UInt8) (acc : Nat), (∀ b ∈ l, (48 : UInt8) ≤ b ∧ b ≤ 57) → ∃ n, Go.Lib.decFrom acc l = some n := by
    intro l
    induction l with
    | nil => intro acc _; exact ⟨acc, rfl⟩
    | cons b l ih =>
      intro acc h
      have hb := h b List.mem_cons_self
      have h48 : 48 ≤ b.toNat := by have := UInt8.le_iff_toNat_le.1 hb.1; simpa using this
      have h57 : b.toNat ≤ 57 := by have := UInt8.le_iff_toNat_le.1 hb.2; simpa using this
      simp only [Go.Lib.decFrom]
      rw [show Go.Lib.digitVal b = some (b.toNat - 48) by unfold Go.Lib.digitVal; rw [if_pos ⟨h48, h57⟩]]
      exact ih _ (fun x hx => h x (List.mem_cons_of_mem _ hx))
  obtain ⟨n, hn⟩ := h1 l 0 hd
  refine ⟨n, hn, ?_⟩
  cases l with
  | nil => simp at hl
  | cons b r =>
    have hb := hd b List.mem_cons_self
    have h48 : 48 ≤ b.toNat := by have := UInt8.le_iff_toNat_le.1 hb.1; simpa using this
    have n1 : (b == 45) = false := by
      rw [beq_eq_false_iff_ne]; intro e; subst e; simp at h48
    have n2 : (b == 43) = false := by
      rw [beq_eq_false_iff_ne]; intro e; subst e; simp at h48
    show (if (b == 45) = true then _ else if (b == 43) = true then _ else _) = _
    rw [n1, n2]
    simp only [Bool.false_eq_true, if_false]
    unfold Go.Lib.decNat
    simp [hn]
/-- the figures' order is the numbers' -/
theorem decFrom_less : ∀ (l m : List UInt8) (p q x y : Nat), l.length = m.length → Go.Lib.decFrom p l = some x → Go.Lib.decFrom p m = some y → (Go.Op.bytesLess l m = true ↔ x < y)
  | [], [], p, _, x, y, _, h1, h2 => by
    simp only [Go.Lib.decFrom, Option.some.injEq] at h1 h2
    simp [Go.Op.bytesLess]; omega
  | [], _ :: _, _, _, _, _, h, _, _ => by cases h
  | _ :: _, [], _, _, _, _, h, _, _ => by cases h
  | a :: l, b :: m, p, q, x, y, hl, h1, h2 => by
    simp only [Go.Lib.decFrom] at h1 h2
    cases ha : Go.Lib.digitVal a with
    | none => simp [ha] at h1
    | some u =>
      cases hb : Go.Lib.digitVal b with
      | none => simp [hb] at h2
      | some v =>
        simp only [ha] at h1
        simp only [hb] at h2
        have hll : l.length = m.length := by simpa using hl
        have low : ∀ (l : List UInt8) (p n : Nat), Go.Lib.decFrom p l = some n → p * 10 ^ l.length ≤ n := by
          intro l
          induction l with
          | nil => intro p n h; simp [Go.Lib.decFrom] at h; simp [h]
          | cons c l ih =>
            intro p n h
            simp only [Go.Lib.decFrom] at h
            cases hc : Go.Lib.digitVal c with
            | none => simp [hc] at h
            | some z =>
              simp only [hc] at h
              have h3 := ih _ _ h
              rw [List.length_cons, Nat.pow_succ]
              have h4 : (p * 10) * 10 ^ l.length ≤ (p * 10 + z) * 10 ^ l.length := Nat.mul_le_mul_right _ (by omega)
              have h5 : p * (10 ^ l.length * 10) = (p * 10) * 10 ^ l.length := by rw [Nat.mul_assoc, Nat.mul_comm 10]
              omega
        have au : a.toNat = 48 + u := by unfold Go.Lib.digitVal at ha; split at ha <;> simp at ha; omega
        have bv : b.toNat = 48 + v := by unfold Go.Lib.digitVal at hb; split at hb <;> simp at hb; omega
        simp only [Go.Op.bytesLess, Bool.or_eq_true, Bool.and_eq_true, decide_eq_true_eq, beq_iff_eq]
        rcases Nat.lt_trichotomy u v with huv | huv | huv
        · have h3 := decFrom_bound l _ _ h1
          have h4 := low m _ _ h2
          rw [hll] at h3
          have h5 : (p * 10 + u + 1) * 10 ^ m.length ≤ (p * 10 + v) * 10 ^ m.length := Nat.mul_le_mul_right _ (by omega)
          constructor
          · intro _; omega
          · intro _; left; rw [UInt8.lt_iff_toNat_lt]; omega
        · subst huv
          have hab : a = b := UInt8.toNat_inj.1 (by omega)
          subst hab
          have ih := decFrom_less l m _ q x y hll h1 h2
          constructor
          · rintro (h | ⟨_, h⟩)
            · rw [UInt8.lt_iff_toNat_lt] at h; omega
            · exact ih.1 h
          · intro h; right; exact ⟨rfl, ih.2 h⟩
        · have h3 := decFrom_bound m _ _ h2
          have h4 := low l _ _ h1
          rw [← hll] at h3
          have h5 : (p * 10 + v + 1) * 10 ^ l.length ≤ (p * 10 + u) * 10 ^ l.length := Nat.mul_le_mul_right _ (by omega)
          constructor
          · rintro (h | ⟨h, _⟩)
            · rw [UInt8.lt_iff_toNat_lt] at h; omega
            · rw [h] at au; omega
          · intro h; omega
theorem name_less (b : UInt8) {n m : Nat} (hn : n ≤ 99999999) (hm : m ≤ 99999999) : less (nameN b n) (nameN b m) = true ↔ n < m := by
  unfold less
  rw [ba_toList, ba_toList]
  unfold nameN
  simp only [List.toList_toArray]
  have := decFrom_less (pad8 n) (pad8 m) 0 0 n m (by rw [pad8_len, pad8_len]) (decFrom_pad8 hn) (decFrom_pad8 hm)
  simp only [Go.Op.bytesLess, Bool.or_eq_true, Bool.and_eq_true, decide_eq_true_eq, beq_self_eq_true, true_and]
  rw [this]
  constructor
  · rintro (h | h)
    · exact absurd h (by rw [UInt8.lt_iff_toNat_lt]; omega)
    · exact h
  · exact .inr
end DK
end Go.Proofs.YtkhnbdbcaebdaaaGreatDoor

namespace Go.Proofs.YtkhnbdbcaebdaaaGreatDoor
set_option linter.unusedVariables false
set_option linter.unusedSimpArgs false
namespace DK
/-- files' names, rising -/
def namesOf (L : Fl) : List Nm := (L.map (·.1)).mergeSort (fun a b => !less b a)
theorem sorted_unique : ∀ {l m : List Nm}, l.Perm m → l.Pairwise (fun a b => less a b = true) → m.Pairwise (fun a b => less a b = true) → l = m
  | [], m, h, _, _ => by rw [List.nil_perm.1 h]
  | a :: l, [], h, _, _ => by have := h.length_eq; simp at this
  | a :: l, b :: m, h, h1, h2 => by
    rw [List.pairwise_cons] at h1 h2
    have hab : a = b := by
      have ha : a ∈ b :: m := h.subset List.mem_cons_self
      have hb : b ∈ a :: l := h.symm.subset List.mem_cons_self
      rcases List.mem_cons.1 ha with e | ha
      · exact e
      · rcases List.mem_cons.1 hb with e | hb
        · exact e.symm
        · have q1 := h2.1 a ha
          have q2 := h1.1 b hb
          have q3 := less_strict.tr _ _ _ q1 q2
          rw [less_strict.irr] at q3; cases q3
    subst hab
    rw [sorted_unique (List.Perm.cons_inv h) h1.2 h2.2]
theorem not_less {a b : Nm} (h : less b a = false) (hne : a ≠ b) : less a b = true := by
  rcases less_strict.tot a b hne with h1 | h1
  · exact h1
  · rw [h] at h1; cases h1
theorem namesOf_sorted {L : Fl} (h : (L.map (·.1)).Nodup) : (namesOf L).Pairwise (fun a b => less a b = true) := by
  have h1 : (namesOf L).Pairwise (fun a b => (!less b a) = true) := List.pairwise_mergeSort (le := fun a b => !less b a) (fun a b c h1 h2 => by
    have h1 : less b a = false := by simpa using h1
    have h2 : less c b = false := by simpa using h2
    show (!less c a) = true
    cases hc : less c a with
    | false => rfl
    | true =>
      exfalso
      by_cases hab : a = b
      · subst hab; rw [hc] at h2; cases h2
      · have := less_strict.tr _ _ _ hc (not_less h1 hab)
        rw [this] at h2; cases h2) (fun a b => by
    show ((!less b a) || (!less a b)) = true
    cases h1 : less b a with
    | false => rfl
    | true =>
      cases h2 : less a b with
      | false => rfl
      | true => have := less_strict.tr _ _ _ h1 h2; rw [less_strict.irr] at this; cases this) _
  have h2 : (namesOf L).Nodup := (List.mergeSort_perm _ _).nodup_iff.2 h
  rw [List.nodup_iff_pairwise_ne] at h2
  exact (h1.and h2).imp (fun ⟨q1, q2⟩ => not_less (by simpa using q1) q2)
theorem namesOf_perm (L : Fl) : (namesOf L).Perm (L.map (·.1)) := List.mergeSort_perm _ _
theorem namesOf_is {L : Fl} (h : (L.map (·.1)).Nodup) {l : List Nm} (hp : l.Perm (L.map (·.1))) (hs : l.Pairwise (fun a b => less a b = true)) : l = namesOf L :=
  sorted_unique (hp.trans (namesOf_perm L).symm) hs (namesOf_sorted h)
end DK
end Go.Proofs.YtkhnbdbcaebdaaaGreatDoor

namespace Go.Proofs.YtkhnbdbcaebdaaaGreatDoor
open Go.RowKit
set_option linter.unusedSimpArgs false
set_option linter.unusedVariables false
set_option maxRecDepth 20000

def rent (p : Int × C) : List Value := [.int .i64 p.1, .int .i64 p.2.k, .string (strOf p.2.d)]
def rents (L : List (Int × C)) : List Value := L.flatMap rent
theorem add_lit (b o j : Nat) : (⟨b, o, none⟩ : Addr).add j = ⟨b, o + j, none⟩ := by unfold Addr.add; split <;> simp_all

/-- the address of a slice that holds something -/
theorem SlV.addr {w : World} {a : Option Addr} {n cap : Nat} {cs : List Value} (h : SlV w (.slice a n cap) n cs) (hne : cs ≠ []) : ∃ b off, a = some ⟨b, off, none⟩ ∧ b < w.heap.size ∧ ∀ j u, cs[j]? = some u → w.cell? ⟨b, off + j, none⟩ = some u := by
  obtain ⟨a', c', he, h1, h2, h0, h3⟩ := h
  cases he
  cases cs with
  | nil => exact absurd rfl hne
  | cons c0 cs =>
    obtain ⟨p, hp, hc⟩ := h3 0 c0 rfl
    have hb := cell_lt hc
    rw [add_block] at hb
    obtain ⟨b, off, sp⟩ := p
    have hsp : sp = none := by
      cases sp with
      | none => rfl
      | some x => simp [World.cell?, Addr.add] at hc; split at hc <;> simp at hc
    subst hsp
    refine ⟨b, off, hp, hb, fun j u hu => ?_⟩
    obtain ⟨q, hq, hcq⟩ := h3 j u hu
    rw [hp] at hq; cases hq
    rw [add_lit] at hcq; exact hcq

def RList (w : World) (s : Value) (L : List (Int × C)) : Prop := SlV w s L.length (rents L)
theorem take_succ {α : Type} (L : List α) (k : Nat) (hk : k < L.length) : L.take (k + 1) = L.take k ++ [L[k]] := by
  rw [List.take_succ_eq_append_getElem hk]
end Go.Proofs.YtkhnbdbcaebdaaaGreatDoor
