/- Layer 9 (record): Word, Check, Put. -/
import Derived.Test.YtkljeefncopodaaGreatRefV
import Derived.Test.YtkljeefncopodaaGreatFmtM
namespace Go.Proofs.YtkljeefncopodaaGreat
open Go.RowKit
set_option linter.unusedSimpArgs false
set_option linter.unusedVariables false
set_option maxRecDepth 100000

def ac9V (x : Ac) (a : Option Addr) (c : Nat) : Value := .agg #[.int .i64 x.k, .int .i64 x.e, .int .i64 x.a, .slice a x.d.length c]
theorem rin_t (x m : Int) (h0 : 0 ≤ x) (h1 : x ≤ m) (w : World) : Calls Tryz.prog 114 #[.int .i64 x, .int .i64 m] w fun e w' => e = .returned (.bool true) ∧ w' = w := by
  go_enter Tryz.func114, Tryz.ntmps114
  go_wp2
  go_ret
  exact ⟨ret_eq (by simp [h0, h1]), rfl⟩
theorem rin_f (x m : Int) (h : ¬ (0 ≤ x ∧ x ≤ m)) (w : World) : Calls Tryz.prog 114 #[.int .i64 x, .int .i64 m] w fun e w' => e = .returned (.bool false) ∧ w' = w := by
  by_cases h0 : 0 ≤ x
  · have h1 : ¬ x ≤ m := fun hh => h ⟨h0, hh⟩
    have H := Lib.hid' h1
    clear h
    go_enter Tryz.func114, Tryz.ntmps114
    go_wp2
    go_ret
    exact ⟨ret_eq (by simp; (try omega)), rfl⟩
  · clear h
    go_enter Tryz.func114, Tryz.ntmps114
    go_wp2
    go_ret
    exact ⟨ret_eq (by simp; (try omega)), rfl⟩
def hiN (k : Int) : Int := if k = 2 ∨ k = 3 then 1048575 else 1048576
theorem rhi_any (k : Int) (w : World) : Calls Tryz.prog 115 #[.int .i64 k] w fun e w' => e = .returned (.int .i64 (hiN k)) ∧ w' = w := by
  by_cases h2 : k = 2
  · subst h2
    go_enter Tryz.func115, Tryz.ntmps115
    go_wp2
    go_ret
    exact ⟨rfl, rfl⟩
  · have h2b : (k == 2) = false := by rw [beq_eq_false_iff_ne]; exact h2
    by_cases h3 : k = 3
    · subst h3
      go_enter Tryz.func115, Tryz.ntmps115
      go_wp2
      go_ret
      exact ⟨rfl, rfl⟩
    · have h3b : (k == 3) = false := by rw [beq_eq_false_iff_ne]; exact h3
      have H := Lib.hid' (show hiN k = 1048576 by unfold hiN; rw [if_neg (by omega)])
      clear h2 h3
      go_enter Tryz.func115, Tryz.ntmps115
      go_wp2
      go_ret
      exact ⟨ret_eq (by rw [H.out]; rfl), rfl⟩
theorem ck_1 {x : Ac} (h : x.k < 1 ∨ 5 < x.k ∨ ¬ (0 ≤ x.e ∧ x.e ≤ 1099511627776) ∨ ¬ (0 ≤ x.a ∧ x.a ≤ hiN x.k)) : x.check = 1 := by
  unfold Ac.check
  by_cases h1 : x.k < 1 ∨ 5 < x.k ∨ x.e < 0 ∨ 1099511627776 < x.e ∨ x.a < 0 ∨ 1048576 < x.a
  · rw [if_pos h1]
  · rw [if_neg h1]
    by_cases h2 : (x.k = 2 ∨ x.k = 3) ∧ x.a = 1048576
    · rw [if_pos h2]
    · exfalso
      unfold hiN at h
      split at h <;> omega
theorem ck_go {x : Ac} (h1 : ¬ x.k < 1) (h2 : ¬ 5 < x.k) (h3 : 0 ≤ x.e ∧ x.e ≤ 1099511627776) (h4 : 0 ≤ x.a ∧ x.a ≤ hiN x.k) : x.check = if 64 < x.d.length then 3 else if x.k = 1 ∧ x.a ≠ 0 ∨ x.k ≠ 2 ∧ 0 < x.d.length then 2 else 0 := by
  unfold Ac.check
  unfold hiN at h4
  split at h4
  · rw [if_neg (by omega), if_neg (by omega)]
  · rw [if_neg (by omega), if_neg (by omega)]
set_option maxHeartbeats 4000000 in
theorem rcheck9_any (x : Ac) (a : Option Addr) (c : Nat) (hl : x.d.length ≤ 9223372036854775807) (w : World) : Calls Tryz.prog 52 #[ac9V x a c] w fun e w' => e = .returned (errV x.check) ∧ Below w.heap.size w w' := by
  obtain ⟨k, e, ad, d⟩ := x
  unfold ac9V
  simp only at hl ⊢
  by_cases h1 : k < 1
  · have HC := Lib.hid' (ck_1 (x := ⟨k, e, ad, d⟩) (.inl h1))
    go_enter Tryz.func52, Tryz.ntmps52
    go_wp2_with fail
    go_quiet (fail)
    go_wp2
    go_ret
    exact ⟨ret_eq (by rw [HC.out]; rfl), below_drewN' (by go_grown) _⟩
  by_cases h2 : 5 < k
  · have HC := Lib.hid' (ck_1 (x := ⟨k, e, ad, d⟩) (.inr (.inl h2)))
    go_enter Tryz.func52, Tryz.ntmps52
    go_wp2_with fail
    go_quiet (fail)
    go_wp2
    go_ret
    exact ⟨ret_eq (by rw [HC.out]; rfl), below_drewN' (by go_grown) _⟩
  by_cases h3 : 0 ≤ e ∧ e ≤ 1099511627776
  rotate_left
  · have HC := Lib.hid' (ck_1 (x := ⟨k, e, ad, d⟩) (.inr (.inr (.inl h3))))
    have HF := Lib.hid' (fun w => rin_f e 1099511627776 h3 w)
    clear h3
    go_enter Tryz.func52, Tryz.ntmps52
    go_wp2_with fail
    have c0 : (w.alloc (.cells #[.int .i64 k, .int .i64 e, .int .i64 ad, .slice a d.length c] 41)).cell? ⟨w.heap.size, 0, none⟩ = some (.int .i64 k) := by simp [go_sem]
    have c1 : (w.alloc (.cells #[.int .i64 k, .int .i64 e, .int .i64 ad, .slice a d.length c] 41)).cell? ⟨w.heap.size, 1, none⟩ = some (.int .i64 e) := by simp [go_sem]
    have c2 : (w.alloc (.cells #[.int .i64 k, .int .i64 e, .int .i64 ad, .slice a d.length c] 41)).cell? ⟨w.heap.size, 2, none⟩ = some (.int .i64 ad) := by simp [go_sem]
    have c3 : (w.alloc (.cells #[.int .i64 k, .int .i64 e, .int .i64 ad, .slice a d.length c] 41)).cell? ⟨w.heap.size, 3, none⟩ = some (.slice a d.length c) := by simp [go_sem]
    have HG := Lib.hid' (show Below w.heap.size w (w.alloc (.cells #[.int .i64 k, .int .i64 e, .int .i64 ad, .slice a d.length c] 41)) by go_grown)
    generalize w.alloc (.cells #[.int .i64 k, .int .i64 e, .int .i64 ad, .slice a d.length c] 41) = w1 at *
    refine wp_region_held_drew (S := (fun w' => w'.cell? ⟨w.heap.size, 0, none⟩ = some (.int .i64 k) ∧ w'.cell? ⟨w.heap.size, 1, none⟩ = some (.int .i64 e) ∧ w'.cell? ⟨w.heap.size, 2, none⟩ = some (.int .i64 ad) ∧ w'.cell? ⟨w.heap.size, 3, none⟩ = some (.slice a d.length c))) (by kernel_rfl) ⟨by simpa using c0, by simpa using c1, by simpa using c2, by simpa using c3⟩ (fun hH0 => ?_)
    refine wpAnyH_take (i := 0) (oi := _) (v := .pointer (some ⟨w.heap.size, 0, none⟩)) rfl (by kernel_rfl) (by kernel_rfl) (by kernel_rfl) (fun _ _ _ h => h) (Or.inl ⟨by rfl, ?_⟩) hH0 ?_
    · intro w hSw; go_simp
    simp only [Act.put, List.getElem_toArray, List.getElem_cons_zero, List.getElem_cons_succ, List.setIfInBounds_toArray, List.set_cons_zero, List.set_cons_succ]
    refine wpAnyH_take (i := 1) (oi := _) (v := .int .i64 k) rfl (by kernel_rfl) (by kernel_rfl) (by kernel_rfl) (fun _ _ _ h => h) (Or.inl ⟨by rfl, ?_⟩) hH0 ?_
    · intro w hSw; go_simp
    simp only [Act.put, List.getElem_toArray, List.getElem_cons_zero, List.getElem_cons_succ, List.setIfInBounds_toArray, List.set_cons_zero, List.set_cons_succ]
    refine wpAnyH_take (i := 2) (oi := _) (v := .bool false) rfl (by kernel_rfl) (by kernel_rfl) (by kernel_rfl) (fun _ _ _ h => h) (Or.inl ⟨by rfl, ?_⟩) hH0 ?_
    · intro w hSw; go_simp
    simp only [Act.put, List.getElem_toArray, List.getElem_cons_zero, List.getElem_cons_succ, List.setIfInBounds_toArray, List.set_cons_zero, List.set_cons_succ]
    refine wpAnyH_take (i := 3) (oi := _) (v := .bool false) rfl (by kernel_rfl) (by kernel_rfl) (by kernel_rfl) (fun _ _ _ h => h) (Or.inl ⟨by rfl, ?_⟩) hH0 ?_
    · intro w hSw; go_simp
    simp only [Act.put, List.getElem_toArray, List.getElem_cons_zero, List.getElem_cons_succ, List.setIfInBounds_toArray, List.set_cons_zero, List.set_cons_succ]
    refine wpAnyH_take (i := 4) (oi := _) (v := .pointer (some ⟨w.heap.size, 0, none⟩)) rfl (by kernel_rfl) (by kernel_rfl) (by kernel_rfl) (fun _ _ _ h => h) (Or.inl ⟨by rfl, ?_⟩) hH0 ?_
    · intro w hSw; go_simp
    simp only [Act.put, List.getElem_toArray, List.getElem_cons_zero, List.getElem_cons_succ, List.setIfInBounds_toArray, List.set_cons_zero, List.set_cons_succ]
    refine wpAnyH_take (i := 5) (oi := _) (v := .int .i64 k) rfl (by kernel_rfl) (by kernel_rfl) (by kernel_rfl) (fun _ _ _ h => h) (Or.inl ⟨by rfl, ?_⟩) hH0 ?_
    · intro w hSw; go_simp
    simp only [Act.put, List.getElem_toArray, List.getElem_cons_zero, List.getElem_cons_succ, List.setIfInBounds_toArray, List.set_cons_zero, List.set_cons_succ]
    refine wpAnyH_take (i := 6) (oi := _) (v := .bool false) rfl (by kernel_rfl) (by kernel_rfl) (by kernel_rfl) (fun _ _ _ h => h) (Or.inl ⟨by rfl, ?_⟩) hH0 ?_
    · intro w hSw; go_simp
    simp only [Act.put, List.getElem_toArray, List.getElem_cons_zero, List.getElem_cons_succ, List.setIfInBounds_toArray, List.set_cons_zero, List.set_cons_succ]
    refine wpAnyH_take (i := 7) (oi := _) (v := .bool false) rfl (by kernel_rfl) (by kernel_rfl) (by kernel_rfl) (fun _ _ _ h => h) (Or.inl ⟨by rfl, ?_⟩) hH0 ?_
    · intro w hSw; go_simp
    simp only [Act.put, List.getElem_toArray, List.getElem_cons_zero, List.getElem_cons_succ, List.setIfInBounds_toArray, List.set_cons_zero, List.set_cons_succ]
    refine wpAnyH_take (i := 8) (oi := _) (v := .bool false) rfl (by kernel_rfl) (by kernel_rfl) (by kernel_rfl) (fun _ _ _ h => h) (Or.inl ⟨by rfl, ?_⟩) hH0 ?_
    · intro w hSw; go_simp
    simp only [Act.put, List.getElem_toArray, List.getElem_cons_zero, List.getElem_cons_succ, List.setIfInBounds_toArray, List.set_cons_zero, List.set_cons_succ]
    refine wpAnyH_take (i := 9) (oi := _) (v := .pointer (some ⟨w.heap.size, 1, none⟩)) rfl (by kernel_rfl) (by kernel_rfl) (by kernel_rfl) (fun _ _ _ h => h) (Or.inl ⟨by rfl, ?_⟩) hH0 ?_
    · intro w hSw; go_simp
    simp only [Act.put, List.getElem_toArray, List.getElem_cons_zero, List.getElem_cons_succ, List.setIfInBounds_toArray, List.set_cons_zero, List.set_cons_succ]
    refine wpAnyH_take (i := 10) (oi := _) (v := .int .i64 e) rfl (by kernel_rfl) (by kernel_rfl) (by kernel_rfl) (fun _ _ _ h => h) (Or.inl ⟨by rfl, ?_⟩) hH0 ?_
    · intro w hSw; go_simp
    simp only [Act.put, List.getElem_toArray, List.getElem_cons_zero, List.getElem_cons_succ, List.setIfInBounds_toArray, List.set_cons_zero, List.set_cons_succ]
    refine wpAnyH_ready (rs := [11]) (by kernel_rfl) (by simp) (AllReadyH.cons (o := _) rfl (fun K hK => ?_) AllReadyH.nil)
    go_simp
    refine (HF.out _).mono ?_
    rintro en w5 ⟨rfl, rfl⟩
    refine hK.out _ _ ?_ (fun hH1 => ?_)
    · exact hH0
    clear hK K
    refine wpAnyH_take (i := 12) (oi := _) (v := .bool true) rfl (by kernel_rfl) (by kernel_rfl) (by kernel_rfl) (fun _ _ _ h => h) (Or.inl ⟨by rfl, ?_⟩) hH1 ?_
    · intro w hSw; go_simp
    simp only [Act.put, List.getElem_toArray, List.getElem_cons_zero, List.getElem_cons_succ, List.setIfInBounds_toArray, List.set_cons_zero, List.set_cons_succ]
    refine wpAnyH_take (i := 13) (oi := _) (v := .bool true) rfl (by kernel_rfl) (by kernel_rfl) (by kernel_rfl) (fun _ _ _ h => h) (Or.inl ⟨by rfl, ?_⟩) hH1 ?_
    · intro w hSw; go_simp
    simp only [Act.put, List.getElem_toArray, List.getElem_cons_zero, List.getElem_cons_succ, List.setIfInBounds_toArray, List.set_cons_zero, List.set_cons_succ]
    refine wpAnyH_take (i := 14) (oi := _) (v := .bool true) rfl (by kernel_rfl) (by kernel_rfl) (by kernel_rfl) (fun _ _ _ h => h) (Or.inl ⟨by rfl, ?_⟩) hH1 ?_
    · intro w hSw; go_simp
    simp only [Act.put, List.getElem_toArray, List.getElem_cons_zero, List.getElem_cons_succ, List.setIfInBounds_toArray, List.set_cons_zero, List.set_cons_succ]
    refine wpAnyH_take (i := 15) (oi := _) (v := undef) rfl (by kernel_rfl) (by kernel_rfl) (by kernel_rfl) (fun _ _ _ h => h) (Or.inr ⟨by kernel_rfl, rfl⟩) hH1 ?_
    simp only [Act.put, List.getElem_toArray, List.getElem_cons_zero, List.getElem_cons_succ, List.setIfInBounds_toArray, List.set_cons_zero, List.set_cons_succ]
    refine wpAnyH_take (i := 16) (oi := _) (v := undef) rfl (by kernel_rfl) (by kernel_rfl) (by kernel_rfl) (fun _ _ _ h => h) (Or.inr ⟨by kernel_rfl, rfl⟩) hH1 ?_
    simp only [Act.put, List.getElem_toArray, List.getElem_cons_zero, List.getElem_cons_succ, List.setIfInBounds_toArray, List.set_cons_zero, List.set_cons_succ]
    refine wpAnyH_take (i := 17) (oi := _) (v := undef) rfl (by kernel_rfl) (by kernel_rfl) (by kernel_rfl) (fun _ _ _ h => h) (Or.inr ⟨by kernel_rfl, rfl⟩) hH1 ?_
    simp only [Act.put, List.getElem_toArray, List.getElem_cons_zero, List.getElem_cons_succ, List.setIfInBounds_toArray, List.set_cons_zero, List.set_cons_succ]
    refine wpAnyH_take (i := 18) (oi := _) (v := undef) rfl (by kernel_rfl) (by kernel_rfl) (by kernel_rfl) (fun _ _ _ h => h) (Or.inr ⟨by kernel_rfl, rfl⟩) hH1 ?_
    simp only [Act.put, List.getElem_toArray, List.getElem_cons_zero, List.getElem_cons_succ, List.setIfInBounds_toArray, List.set_cons_zero, List.set_cons_succ]
    refine wpAnyH_take (i := 19) (oi := _) (v := undef) rfl (by kernel_rfl) (by kernel_rfl) (by kernel_rfl) (fun _ _ _ h => h) (Or.inr ⟨by kernel_rfl, rfl⟩) hH1 ?_
    simp only [Act.put, List.getElem_toArray, List.getElem_cons_zero, List.getElem_cons_succ, List.setIfInBounds_toArray, List.set_cons_zero, List.set_cons_succ]
    refine wpAnyH_take (i := 20) (oi := _) (v := undef) rfl (by kernel_rfl) (by kernel_rfl) (by kernel_rfl) (fun _ _ _ h => h) (Or.inr ⟨by kernel_rfl, rfl⟩) hH1 ?_
    simp only [Act.put, List.getElem_toArray, List.getElem_cons_zero, List.getElem_cons_succ, List.setIfInBounds_toArray, List.set_cons_zero, List.set_cons_succ]
    refine wpAnyH_take (i := 21) (oi := _) (v := undef) rfl (by kernel_rfl) (by kernel_rfl) (by kernel_rfl) (fun _ _ _ h => h) (Or.inr ⟨by kernel_rfl, rfl⟩) hH1 ?_
    simp only [Act.put, List.getElem_toArray, List.getElem_cons_zero, List.getElem_cons_succ, List.setIfInBounds_toArray, List.set_cons_zero, List.set_cons_succ]
    refine wpAnyH_take (i := 22) (oi := _) (v := .bool true) rfl (by kernel_rfl) (by kernel_rfl) (by kernel_rfl) (fun _ _ _ h => h) (Or.inl ⟨by rfl, ?_⟩) hH1 ?_
    · intro w hSw; go_simp
    simp only [Act.put, List.getElem_toArray, List.getElem_cons_zero, List.getElem_cons_succ, List.setIfInBounds_toArray, List.set_cons_zero, List.set_cons_succ]
    refine wpAnyH_take (i := 23) (oi := _) (v := .bool true) rfl (by kernel_rfl) (by kernel_rfl) (by kernel_rfl) (fun _ _ _ h => h) (Or.inl ⟨by rfl, ?_⟩) hH1 ?_
    · intro w hSw; go_simp
    simp only [Act.put, List.getElem_toArray, List.getElem_cons_zero, List.getElem_cons_succ, List.setIfInBounds_toArray, List.set_cons_zero, List.set_cons_succ]
    refine wpAnyH_done (by kernel_rfl) ?_ _
    go_wp2
    go_ret
    exact ⟨ret_eq (by rw [HC.out]; rfl), HG.out.trans (Below.drew (Below.refl _ _) |>.mono HG.out.size)⟩
  have HT := Lib.hid' (fun w => rin_t e 1099511627776 h3.1 h3.2 w)
  have HH := Lib.hid' (fun w => rhi_any k w)
  by_cases h4 : 0 ≤ ad ∧ ad ≤ hiN k
  rotate_left
  · have HC := Lib.hid' (ck_1 (x := ⟨k, e, ad, d⟩) (.inr (.inr (.inr h4))))
    have HA := Lib.hid' (fun w => rin_f ad (hiN k) h4 w)
    clear h3 h4
    obtain ⟨hi, hhi⟩ : ∃ hi, hi = hiN k := ⟨_, rfl⟩
    rw [← hhi] at HA HH
    clear hhi
    go_enter Tryz.func52, Tryz.ntmps52
    go_wp2_with fail
    have c0 : (w.alloc (.cells #[.int .i64 k, .int .i64 e, .int .i64 ad, .slice a d.length c] 41)).cell? ⟨w.heap.size, 0, none⟩ = some (.int .i64 k) := by simp [go_sem]
    have c1 : (w.alloc (.cells #[.int .i64 k, .int .i64 e, .int .i64 ad, .slice a d.length c] 41)).cell? ⟨w.heap.size, 1, none⟩ = some (.int .i64 e) := by simp [go_sem]
    have c2 : (w.alloc (.cells #[.int .i64 k, .int .i64 e, .int .i64 ad, .slice a d.length c] 41)).cell? ⟨w.heap.size, 2, none⟩ = some (.int .i64 ad) := by simp [go_sem]
    have c3 : (w.alloc (.cells #[.int .i64 k, .int .i64 e, .int .i64 ad, .slice a d.length c] 41)).cell? ⟨w.heap.size, 3, none⟩ = some (.slice a d.length c) := by simp [go_sem]
    have HG := Lib.hid' (show Below w.heap.size w (w.alloc (.cells #[.int .i64 k, .int .i64 e, .int .i64 ad, .slice a d.length c] 41)) by go_grown)
    generalize w.alloc (.cells #[.int .i64 k, .int .i64 e, .int .i64 ad, .slice a d.length c] 41) = w1 at *
    refine wp_region_held_drew (S := (fun w' => w'.cell? ⟨w.heap.size, 0, none⟩ = some (.int .i64 k) ∧ w'.cell? ⟨w.heap.size, 1, none⟩ = some (.int .i64 e) ∧ w'.cell? ⟨w.heap.size, 2, none⟩ = some (.int .i64 ad) ∧ w'.cell? ⟨w.heap.size, 3, none⟩ = some (.slice a d.length c))) (by kernel_rfl) ⟨by simpa using c0, by simpa using c1, by simpa using c2, by simpa using c3⟩ (fun hH0 => ?_)
    refine wpAnyH_take (i := 0) (oi := _) (v := .pointer (some ⟨w.heap.size, 0, none⟩)) rfl (by kernel_rfl) (by kernel_rfl) (by kernel_rfl) (fun _ _ _ h => h) (Or.inl ⟨by rfl, ?_⟩) hH0 ?_
    · intro w hSw; go_simp
    simp only [Act.put, List.getElem_toArray, List.getElem_cons_zero, List.getElem_cons_succ, List.setIfInBounds_toArray, List.set_cons_zero, List.set_cons_succ]
    refine wpAnyH_take (i := 1) (oi := _) (v := .int .i64 k) rfl (by kernel_rfl) (by kernel_rfl) (by kernel_rfl) (fun _ _ _ h => h) (Or.inl ⟨by rfl, ?_⟩) hH0 ?_
    · intro w hSw; go_simp
    simp only [Act.put, List.getElem_toArray, List.getElem_cons_zero, List.getElem_cons_succ, List.setIfInBounds_toArray, List.set_cons_zero, List.set_cons_succ]
    refine wpAnyH_take (i := 2) (oi := _) (v := .bool false) rfl (by kernel_rfl) (by kernel_rfl) (by kernel_rfl) (fun _ _ _ h => h) (Or.inl ⟨by rfl, ?_⟩) hH0 ?_
    · intro w hSw; go_simp
    simp only [Act.put, List.getElem_toArray, List.getElem_cons_zero, List.getElem_cons_succ, List.setIfInBounds_toArray, List.set_cons_zero, List.set_cons_succ]
    refine wpAnyH_take (i := 3) (oi := _) (v := .bool false) rfl (by kernel_rfl) (by kernel_rfl) (by kernel_rfl) (fun _ _ _ h => h) (Or.inl ⟨by rfl, ?_⟩) hH0 ?_
    · intro w hSw; go_simp
    simp only [Act.put, List.getElem_toArray, List.getElem_cons_zero, List.getElem_cons_succ, List.setIfInBounds_toArray, List.set_cons_zero, List.set_cons_succ]
    refine wpAnyH_take (i := 4) (oi := _) (v := .pointer (some ⟨w.heap.size, 0, none⟩)) rfl (by kernel_rfl) (by kernel_rfl) (by kernel_rfl) (fun _ _ _ h => h) (Or.inl ⟨by rfl, ?_⟩) hH0 ?_
    · intro w hSw; go_simp
    simp only [Act.put, List.getElem_toArray, List.getElem_cons_zero, List.getElem_cons_succ, List.setIfInBounds_toArray, List.set_cons_zero, List.set_cons_succ]
    refine wpAnyH_take (i := 5) (oi := _) (v := .int .i64 k) rfl (by kernel_rfl) (by kernel_rfl) (by kernel_rfl) (fun _ _ _ h => h) (Or.inl ⟨by rfl, ?_⟩) hH0 ?_
    · intro w hSw; go_simp
    simp only [Act.put, List.getElem_toArray, List.getElem_cons_zero, List.getElem_cons_succ, List.setIfInBounds_toArray, List.set_cons_zero, List.set_cons_succ]
    refine wpAnyH_take (i := 6) (oi := _) (v := .bool false) rfl (by kernel_rfl) (by kernel_rfl) (by kernel_rfl) (fun _ _ _ h => h) (Or.inl ⟨by rfl, ?_⟩) hH0 ?_
    · intro w hSw; go_simp
    simp only [Act.put, List.getElem_toArray, List.getElem_cons_zero, List.getElem_cons_succ, List.setIfInBounds_toArray, List.set_cons_zero, List.set_cons_succ]
    refine wpAnyH_take (i := 7) (oi := _) (v := .bool false) rfl (by kernel_rfl) (by kernel_rfl) (by kernel_rfl) (fun _ _ _ h => h) (Or.inl ⟨by rfl, ?_⟩) hH0 ?_
    · intro w hSw; go_simp
    simp only [Act.put, List.getElem_toArray, List.getElem_cons_zero, List.getElem_cons_succ, List.setIfInBounds_toArray, List.set_cons_zero, List.set_cons_succ]
    refine wpAnyH_take (i := 8) (oi := _) (v := .bool false) rfl (by kernel_rfl) (by kernel_rfl) (by kernel_rfl) (fun _ _ _ h => h) (Or.inl ⟨by rfl, ?_⟩) hH0 ?_
    · intro w hSw; go_simp
    simp only [Act.put, List.getElem_toArray, List.getElem_cons_zero, List.getElem_cons_succ, List.setIfInBounds_toArray, List.set_cons_zero, List.set_cons_succ]
    refine wpAnyH_take (i := 9) (oi := _) (v := .pointer (some ⟨w.heap.size, 1, none⟩)) rfl (by kernel_rfl) (by kernel_rfl) (by kernel_rfl) (fun _ _ _ h => h) (Or.inl ⟨by rfl, ?_⟩) hH0 ?_
    · intro w hSw; go_simp
    simp only [Act.put, List.getElem_toArray, List.getElem_cons_zero, List.getElem_cons_succ, List.setIfInBounds_toArray, List.set_cons_zero, List.set_cons_succ]
    refine wpAnyH_take (i := 10) (oi := _) (v := .int .i64 e) rfl (by kernel_rfl) (by kernel_rfl) (by kernel_rfl) (fun _ _ _ h => h) (Or.inl ⟨by rfl, ?_⟩) hH0 ?_
    · intro w hSw; go_simp
    simp only [Act.put, List.getElem_toArray, List.getElem_cons_zero, List.getElem_cons_succ, List.setIfInBounds_toArray, List.set_cons_zero, List.set_cons_succ]
    refine wpAnyH_ready (rs := [11]) (by kernel_rfl) (by simp) (AllReadyH.cons (o := _) rfl (fun K hK => ?_) AllReadyH.nil)
    go_simp
    refine (HT.out _).mono ?_
    rintro en w5 ⟨rfl, rfl⟩
    refine hK.out _ _ ?_ (fun hH1 => ?_)
    · exact hH0
    clear hK K
    refine wpAnyH_take (i := 12) (oi := _) (v := .bool false) rfl (by kernel_rfl) (by kernel_rfl) (by kernel_rfl) (fun _ _ _ h => h) (Or.inl ⟨by rfl, ?_⟩) hH1 ?_
    · intro w hSw; go_simp
    simp only [Act.put, List.getElem_toArray, List.getElem_cons_zero, List.getElem_cons_succ, List.setIfInBounds_toArray, List.set_cons_zero, List.set_cons_succ]
    refine wpAnyH_take (i := 13) (oi := _) (v := .bool false) rfl (by kernel_rfl) (by kernel_rfl) (by kernel_rfl) (fun _ _ _ h => h) (Or.inl ⟨by rfl, ?_⟩) hH1 ?_
    · intro w hSw; go_simp
    simp only [Act.put, List.getElem_toArray, List.getElem_cons_zero, List.getElem_cons_succ, List.setIfInBounds_toArray, List.set_cons_zero, List.set_cons_succ]
    refine wpAnyH_take (i := 14) (oi := _) (v := .bool false) rfl (by kernel_rfl) (by kernel_rfl) (by kernel_rfl) (fun _ _ _ h => h) (Or.inl ⟨by rfl, ?_⟩) hH1 ?_
    · intro w hSw; go_simp
    simp only [Act.put, List.getElem_toArray, List.getElem_cons_zero, List.getElem_cons_succ, List.setIfInBounds_toArray, List.set_cons_zero, List.set_cons_succ]
    refine wpAnyH_take (i := 15) (oi := _) (v := .pointer (some ⟨w.heap.size, 2, none⟩)) rfl (by kernel_rfl) (by kernel_rfl) (by kernel_rfl) (fun _ _ _ h => h) (Or.inl ⟨by rfl, ?_⟩) hH1 ?_
    · intro w hSw; go_simp
    simp only [Act.put, List.getElem_toArray, List.getElem_cons_zero, List.getElem_cons_succ, List.setIfInBounds_toArray, List.set_cons_zero, List.set_cons_succ]
    refine wpAnyH_take (i := 16) (oi := _) (v := .int .i64 ad) rfl (by kernel_rfl) (by kernel_rfl) (by kernel_rfl) (fun _ _ _ h => h) (Or.inl ⟨by rfl, ?_⟩) hH1 ?_
    · intro w hSw; go_simp
    simp only [Act.put, List.getElem_toArray, List.getElem_cons_zero, List.getElem_cons_succ, List.setIfInBounds_toArray, List.set_cons_zero, List.set_cons_succ]
    refine wpAnyH_take (i := 17) (oi := _) (v := .pointer (some ⟨w.heap.size, 0, none⟩)) rfl (by kernel_rfl) (by kernel_rfl) (by kernel_rfl) (fun _ _ _ h => h) (Or.inl ⟨by rfl, ?_⟩) hH1 ?_
    · intro w hSw; go_simp
    simp only [Act.put, List.getElem_toArray, List.getElem_cons_zero, List.getElem_cons_succ, List.setIfInBounds_toArray, List.set_cons_zero, List.set_cons_succ]
    refine wpAnyH_take (i := 18) (oi := _) (v := .int .i64 k) rfl (by kernel_rfl) (by kernel_rfl) (by kernel_rfl) (fun _ _ _ h => h) (Or.inl ⟨by rfl, ?_⟩) hH1 ?_
    · intro w hSw; go_simp
    simp only [Act.put, List.getElem_toArray, List.getElem_cons_zero, List.getElem_cons_succ, List.setIfInBounds_toArray, List.set_cons_zero, List.set_cons_succ]
    refine wpAnyH_ready (rs := [19]) (by kernel_rfl) (by simp) (AllReadyH.cons (o := _) rfl (fun K hK => ?_) AllReadyH.nil)
    go_simp
    refine (HH.out _).mono ?_
    rintro en w5 ⟨rfl, rfl⟩
    refine hK.out _ _ ?_ (fun hH2 => ?_)
    · exact hH1
    clear hK K
    refine wpAnyH_ready (rs := [20]) (by kernel_rfl) (by simp) (AllReadyH.cons (o := _) rfl (fun K hK => ?_) AllReadyH.nil)
    go_simp
    refine (HA.out _).mono ?_
    rintro en w5 ⟨rfl, rfl⟩
    refine hK.out _ _ ?_ (fun hH3 => ?_)
    · exact hH2
    clear hK K
    refine wpAnyH_take (i := 21) (oi := _) (v := .bool true) rfl (by kernel_rfl) (by kernel_rfl) (by kernel_rfl) (fun _ _ _ h => h) (Or.inl ⟨by rfl, ?_⟩) hH3 ?_
    · intro w hSw; go_simp
    simp only [Act.put, List.getElem_toArray, List.getElem_cons_zero, List.getElem_cons_succ, List.setIfInBounds_toArray, List.set_cons_zero, List.set_cons_succ]
    refine wpAnyH_take (i := 22) (oi := _) (v := .bool true) rfl (by kernel_rfl) (by kernel_rfl) (by kernel_rfl) (fun _ _ _ h => h) (Or.inl ⟨by rfl, ?_⟩) hH3 ?_
    · intro w hSw; go_simp
    simp only [Act.put, List.getElem_toArray, List.getElem_cons_zero, List.getElem_cons_succ, List.setIfInBounds_toArray, List.set_cons_zero, List.set_cons_succ]
    refine wpAnyH_take (i := 23) (oi := _) (v := .bool true) rfl (by kernel_rfl) (by kernel_rfl) (by kernel_rfl) (fun _ _ _ h => h) (Or.inl ⟨by rfl, ?_⟩) hH3 ?_
    · intro w hSw; go_simp
    simp only [Act.put, List.getElem_toArray, List.getElem_cons_zero, List.getElem_cons_succ, List.setIfInBounds_toArray, List.set_cons_zero, List.set_cons_succ]
    refine wpAnyH_done (by kernel_rfl) ?_ _
    go_wp2
    go_ret
    exact ⟨ret_eq (by rw [HC.out]; rfl), HG.out.trans (Below.drew (Below.refl _ _) |>.mono HG.out.size)⟩
  have HA := Lib.hid' (fun w => rin_t ad (hiN k) h4.1 h4.2 w)
  have HC := Lib.hid' (ck_go (x := ⟨k, e, ad, d⟩) h1 h2 h3 h4)
  have ha0 : 0 ≤ ad := h4.1
  clear h3 h4
  obtain ⟨hi, hhi⟩ : ∃ hi, hi = hiN k := ⟨_, rfl⟩
  rw [← hhi] at HA HH
  clear hhi
  go_enter Tryz.func52, Tryz.ntmps52
  go_wp2_with fail
  have c0 : (w.alloc (.cells #[.int .i64 k, .int .i64 e, .int .i64 ad, .slice a d.length c] 41)).cell? ⟨w.heap.size, 0, none⟩ = some (.int .i64 k) := by simp [go_sem]
  have c1 : (w.alloc (.cells #[.int .i64 k, .int .i64 e, .int .i64 ad, .slice a d.length c] 41)).cell? ⟨w.heap.size, 1, none⟩ = some (.int .i64 e) := by simp [go_sem]
  have c2 : (w.alloc (.cells #[.int .i64 k, .int .i64 e, .int .i64 ad, .slice a d.length c] 41)).cell? ⟨w.heap.size, 2, none⟩ = some (.int .i64 ad) := by simp [go_sem]
  have c3 : (w.alloc (.cells #[.int .i64 k, .int .i64 e, .int .i64 ad, .slice a d.length c] 41)).cell? ⟨w.heap.size, 3, none⟩ = some (.slice a d.length c) := by simp [go_sem]
  have HG := Lib.hid' (show Below w.heap.size w (w.alloc (.cells #[.int .i64 k, .int .i64 e, .int .i64 ad, .slice a d.length c] 41)) by go_grown)
  generalize w.alloc (.cells #[.int .i64 k, .int .i64 e, .int .i64 ad, .slice a d.length c] 41) = w1 at *
  refine wp_region_held_drew (S := (fun w' => w'.cell? ⟨w.heap.size, 0, none⟩ = some (.int .i64 k) ∧ w'.cell? ⟨w.heap.size, 1, none⟩ = some (.int .i64 e) ∧ w'.cell? ⟨w.heap.size, 2, none⟩ = some (.int .i64 ad) ∧ w'.cell? ⟨w.heap.size, 3, none⟩ = some (.slice a d.length c))) (by kernel_rfl) ⟨by simpa using c0, by simpa using c1, by simpa using c2, by simpa using c3⟩ (fun hH0 => ?_)
  refine wpAnyH_take (i := 0) (oi := _) (v := .pointer (some ⟨w.heap.size, 0, none⟩)) rfl (by kernel_rfl) (by kernel_rfl) (by kernel_rfl) (fun _ _ _ h => h) (Or.inl ⟨by rfl, ?_⟩) hH0 ?_
  · intro w hSw; go_simp
  simp only [Act.put, List.getElem_toArray, List.getElem_cons_zero, List.getElem_cons_succ, List.setIfInBounds_toArray, List.set_cons_zero, List.set_cons_succ]
  refine wpAnyH_take (i := 1) (oi := _) (v := .int .i64 k) rfl (by kernel_rfl) (by kernel_rfl) (by kernel_rfl) (fun _ _ _ h => h) (Or.inl ⟨by rfl, ?_⟩) hH0 ?_
  · intro w hSw; go_simp
  simp only [Act.put, List.getElem_toArray, List.getElem_cons_zero, List.getElem_cons_succ, List.setIfInBounds_toArray, List.set_cons_zero, List.set_cons_succ]
  refine wpAnyH_take (i := 2) (oi := _) (v := .bool false) rfl (by kernel_rfl) (by kernel_rfl) (by kernel_rfl) (fun _ _ _ h => h) (Or.inl ⟨by rfl, ?_⟩) hH0 ?_
  · intro w hSw; go_simp
  simp only [Act.put, List.getElem_toArray, List.getElem_cons_zero, List.getElem_cons_succ, List.setIfInBounds_toArray, List.set_cons_zero, List.set_cons_succ]
  refine wpAnyH_take (i := 3) (oi := _) (v := .bool false) rfl (by kernel_rfl) (by kernel_rfl) (by kernel_rfl) (fun _ _ _ h => h) (Or.inl ⟨by rfl, ?_⟩) hH0 ?_
  · intro w hSw; go_simp
  simp only [Act.put, List.getElem_toArray, List.getElem_cons_zero, List.getElem_cons_succ, List.setIfInBounds_toArray, List.set_cons_zero, List.set_cons_succ]
  refine wpAnyH_take (i := 4) (oi := _) (v := .pointer (some ⟨w.heap.size, 0, none⟩)) rfl (by kernel_rfl) (by kernel_rfl) (by kernel_rfl) (fun _ _ _ h => h) (Or.inl ⟨by rfl, ?_⟩) hH0 ?_
  · intro w hSw; go_simp
  simp only [Act.put, List.getElem_toArray, List.getElem_cons_zero, List.getElem_cons_succ, List.setIfInBounds_toArray, List.set_cons_zero, List.set_cons_succ]
  refine wpAnyH_take (i := 5) (oi := _) (v := .int .i64 k) rfl (by kernel_rfl) (by kernel_rfl) (by kernel_rfl) (fun _ _ _ h => h) (Or.inl ⟨by rfl, ?_⟩) hH0 ?_
  · intro w hSw; go_simp
  simp only [Act.put, List.getElem_toArray, List.getElem_cons_zero, List.getElem_cons_succ, List.setIfInBounds_toArray, List.set_cons_zero, List.set_cons_succ]
  refine wpAnyH_take (i := 6) (oi := _) (v := .bool false) rfl (by kernel_rfl) (by kernel_rfl) (by kernel_rfl) (fun _ _ _ h => h) (Or.inl ⟨by rfl, ?_⟩) hH0 ?_
  · intro w hSw; go_simp
  simp only [Act.put, List.getElem_toArray, List.getElem_cons_zero, List.getElem_cons_succ, List.setIfInBounds_toArray, List.set_cons_zero, List.set_cons_succ]
  refine wpAnyH_take (i := 7) (oi := _) (v := .bool false) rfl (by kernel_rfl) (by kernel_rfl) (by kernel_rfl) (fun _ _ _ h => h) (Or.inl ⟨by rfl, ?_⟩) hH0 ?_
  · intro w hSw; go_simp
  simp only [Act.put, List.getElem_toArray, List.getElem_cons_zero, List.getElem_cons_succ, List.setIfInBounds_toArray, List.set_cons_zero, List.set_cons_succ]
  refine wpAnyH_take (i := 8) (oi := _) (v := .bool false) rfl (by kernel_rfl) (by kernel_rfl) (by kernel_rfl) (fun _ _ _ h => h) (Or.inl ⟨by rfl, ?_⟩) hH0 ?_
  · intro w hSw; go_simp
  simp only [Act.put, List.getElem_toArray, List.getElem_cons_zero, List.getElem_cons_succ, List.setIfInBounds_toArray, List.set_cons_zero, List.set_cons_succ]
  refine wpAnyH_take (i := 9) (oi := _) (v := .pointer (some ⟨w.heap.size, 1, none⟩)) rfl (by kernel_rfl) (by kernel_rfl) (by kernel_rfl) (fun _ _ _ h => h) (Or.inl ⟨by rfl, ?_⟩) hH0 ?_
  · intro w hSw; go_simp
  simp only [Act.put, List.getElem_toArray, List.getElem_cons_zero, List.getElem_cons_succ, List.setIfInBounds_toArray, List.set_cons_zero, List.set_cons_succ]
  refine wpAnyH_take (i := 10) (oi := _) (v := .int .i64 e) rfl (by kernel_rfl) (by kernel_rfl) (by kernel_rfl) (fun _ _ _ h => h) (Or.inl ⟨by rfl, ?_⟩) hH0 ?_
  · intro w hSw; go_simp
  simp only [Act.put, List.getElem_toArray, List.getElem_cons_zero, List.getElem_cons_succ, List.setIfInBounds_toArray, List.set_cons_zero, List.set_cons_succ]
  refine wpAnyH_ready (rs := [11]) (by kernel_rfl) (by simp) (AllReadyH.cons (o := _) rfl (fun K hK => ?_) AllReadyH.nil)
  go_simp
  refine (HT.out _).mono ?_
  rintro en w5 ⟨rfl, rfl⟩
  refine hK.out _ _ ?_ (fun hH1 => ?_)
  · exact hH0
  clear hK K
  refine wpAnyH_take (i := 12) (oi := _) (v := .bool false) rfl (by kernel_rfl) (by kernel_rfl) (by kernel_rfl) (fun _ _ _ h => h) (Or.inl ⟨by rfl, ?_⟩) hH1 ?_
  · intro w hSw; go_simp
  simp only [Act.put, List.getElem_toArray, List.getElem_cons_zero, List.getElem_cons_succ, List.setIfInBounds_toArray, List.set_cons_zero, List.set_cons_succ]
  refine wpAnyH_take (i := 13) (oi := _) (v := .bool false) rfl (by kernel_rfl) (by kernel_rfl) (by kernel_rfl) (fun _ _ _ h => h) (Or.inl ⟨by rfl, ?_⟩) hH1 ?_
  · intro w hSw; go_simp
  simp only [Act.put, List.getElem_toArray, List.getElem_cons_zero, List.getElem_cons_succ, List.setIfInBounds_toArray, List.set_cons_zero, List.set_cons_succ]
  refine wpAnyH_take (i := 14) (oi := _) (v := .bool false) rfl (by kernel_rfl) (by kernel_rfl) (by kernel_rfl) (fun _ _ _ h => h) (Or.inl ⟨by rfl, ?_⟩) hH1 ?_
  · intro w hSw; go_simp
  simp only [Act.put, List.getElem_toArray, List.getElem_cons_zero, List.getElem_cons_succ, List.setIfInBounds_toArray, List.set_cons_zero, List.set_cons_succ]
  refine wpAnyH_take (i := 15) (oi := _) (v := .pointer (some ⟨w.heap.size, 2, none⟩)) rfl (by kernel_rfl) (by kernel_rfl) (by kernel_rfl) (fun _ _ _ h => h) (Or.inl ⟨by rfl, ?_⟩) hH1 ?_
  · intro w hSw; go_simp
  simp only [Act.put, List.getElem_toArray, List.getElem_cons_zero, List.getElem_cons_succ, List.setIfInBounds_toArray, List.set_cons_zero, List.set_cons_succ]
  refine wpAnyH_take (i := 16) (oi := _) (v := .int .i64 ad) rfl (by kernel_rfl) (by kernel_rfl) (by kernel_rfl) (fun _ _ _ h => h) (Or.inl ⟨by rfl, ?_⟩) hH1 ?_
  · intro w hSw; go_simp
  simp only [Act.put, List.getElem_toArray, List.getElem_cons_zero, List.getElem_cons_succ, List.setIfInBounds_toArray, List.set_cons_zero, List.set_cons_succ]
  refine wpAnyH_take (i := 17) (oi := _) (v := .pointer (some ⟨w.heap.size, 0, none⟩)) rfl (by kernel_rfl) (by kernel_rfl) (by kernel_rfl) (fun _ _ _ h => h) (Or.inl ⟨by rfl, ?_⟩) hH1 ?_
  · intro w hSw; go_simp
  simp only [Act.put, List.getElem_toArray, List.getElem_cons_zero, List.getElem_cons_succ, List.setIfInBounds_toArray, List.set_cons_zero, List.set_cons_succ]
  refine wpAnyH_take (i := 18) (oi := _) (v := .int .i64 k) rfl (by kernel_rfl) (by kernel_rfl) (by kernel_rfl) (fun _ _ _ h => h) (Or.inl ⟨by rfl, ?_⟩) hH1 ?_
  · intro w hSw; go_simp
  simp only [Act.put, List.getElem_toArray, List.getElem_cons_zero, List.getElem_cons_succ, List.setIfInBounds_toArray, List.set_cons_zero, List.set_cons_succ]
  refine wpAnyH_ready (rs := [19]) (by kernel_rfl) (by simp) (AllReadyH.cons (o := _) rfl (fun K hK => ?_) AllReadyH.nil)
  go_simp
  refine (HH.out _).mono ?_
  rintro en w5 ⟨rfl, rfl⟩
  refine hK.out _ _ ?_ (fun hH2 => ?_)
  · exact hH1
  clear hK K
  refine wpAnyH_ready (rs := [20]) (by kernel_rfl) (by simp) (AllReadyH.cons (o := _) rfl (fun K hK => ?_) AllReadyH.nil)
  go_simp
  refine (HA.out _).mono ?_
  rintro en w5 ⟨rfl, rfl⟩
  refine hK.out _ _ ?_ (fun hH3 => ?_)
  · exact hH2
  clear hK K
  refine wpAnyH_take (i := 21) (oi := _) (v := .bool false) rfl (by kernel_rfl) (by kernel_rfl) (by kernel_rfl) (fun _ _ _ h => h) (Or.inl ⟨by rfl, ?_⟩) hH3 ?_
  · intro w hSw; go_simp
  simp only [Act.put, List.getElem_toArray, List.getElem_cons_zero, List.getElem_cons_succ, List.setIfInBounds_toArray, List.set_cons_zero, List.set_cons_succ]
  refine wpAnyH_take (i := 22) (oi := _) (v := .bool false) rfl (by kernel_rfl) (by kernel_rfl) (by kernel_rfl) (fun _ _ _ h => h) (Or.inl ⟨by rfl, ?_⟩) hH3 ?_
  · intro w hSw; go_simp
  simp only [Act.put, List.getElem_toArray, List.getElem_cons_zero, List.getElem_cons_succ, List.setIfInBounds_toArray, List.set_cons_zero, List.set_cons_succ]
  refine wpAnyH_take (i := 23) (oi := _) (v := .bool false) rfl (by kernel_rfl) (by kernel_rfl) (by kernel_rfl) (fun _ _ _ h => h) (Or.inl ⟨by rfl, ?_⟩) hH3 ?_
  · intro w hSw; go_simp
  simp only [Act.put, List.getElem_toArray, List.getElem_cons_zero, List.getElem_cons_succ, List.setIfInBounds_toArray, List.set_cons_zero, List.set_cons_succ]
  refine wpAnyH_done (by kernel_rfl) ?_ _
  have HGD := Lib.hid' (show Below w.heap.size w w1.drew from HG.out.trans (Below.drew (Below.refl _ _) |>.mono HG.out.size))
  have d0 : w1.drew.cell? ⟨w.heap.size, 0, none⟩ = some (.int .i64 k) := c0
  have d2 : w1.drew.cell? ⟨w.heap.size, 2, none⟩ = some (.int .i64 ad) := c2
  have d3 : w1.drew.cell? ⟨w.heap.size, 3, none⟩ = some (.slice a d.length c) := c3
  clear c0 c1 c2 c3 HG HT HA HH
  generalize w1.drew = w2 at *
  by_cases h64 : 64 < d.length
  · have HF := Lib.hid' (HC.out.trans (if_pos h64))
    go_wp2
    go_ret
    exact ⟨ret_eq (by rw [HF.out]; rfl), HGD.out⟩
  have HF := Lib.hid' (HC.out.trans (if_neg h64))
  clear HC
  by_cases hk1 : k = 1
  · have hk1b : (k == 1) = true := by rw [beq_iff_eq]; exact hk1
    have hk2b : (k != 2) = true := by rw [bne_iff_ne]; omega
    by_cases hz : ad = 0
    · have hz0 : (ad != 0) = false := by rw [bne_eq_false_iff_eq]; exact hz
      by_cases hd : 0 < d.length
      · have HV := Lib.hid' (HF.out.trans (if_pos (.inr ⟨(by show k ≠ 2; omega), hd⟩)))
        clear hk1 hz
        go_wp2
        go_ret
        exact ⟨ret_eq (by rw [HV.out]; rfl), HGD.out⟩
      · have HV := Lib.hid' (HF.out.trans (if_neg (by rintro (h | h); exact h.2 hz; exact hd h.2)))
        clear hk1 hz
        go_wp2
        go_ret
        exact ⟨ret_eq (by rw [HV.out]; rfl), HGD.out⟩
    · have hz0 : (ad != 0) = true := by rw [bne_iff_ne]; exact hz
      have HV := Lib.hid' (HF.out.trans (if_pos (.inl ⟨hk1, hz⟩)))
      clear hk1 hz
      go_wp2
      go_ret
      exact ⟨ret_eq (by rw [HV.out]; rfl), HGD.out⟩
  have hk1b : (k == 1) = false := by rw [beq_eq_false_iff_ne]; exact hk1
  by_cases hk2 : k = 2
  · have hk2b : (k != 2) = false := by rw [bne_eq_false_iff_eq]; exact hk2
    have HV := Lib.hid' (HF.out.trans (if_neg (by rintro (h | h); exact hk1 h.1; exact h.1 hk2)))
    clear hk1 hk2
    go_wp2
    go_ret
    exact ⟨ret_eq (by rw [HV.out]; rfl), HGD.out⟩
  have hk2b : (k != 2) = true := by rw [bne_iff_ne]; exact hk2
  by_cases hd : 0 < d.length
  · have HV := Lib.hid' (HF.out.trans (if_pos (.inr ⟨hk2, hd⟩)))
    clear hk1 hk2
    go_wp2
    go_ret
    exact ⟨ret_eq (by rw [HV.out]; rfl), HGD.out⟩
  · have HV := Lib.hid' (HF.out.trans (if_neg (by rintro (h | h); exact hk1 h.1; exact hd h.2)))
    clear hk1 hk2
    go_wp2
    go_ret
    exact ⟨ret_eq (by rw [HV.out]; rfl), HGD.out⟩
end Go.Proofs.YtkljeefncopodaaGreat
