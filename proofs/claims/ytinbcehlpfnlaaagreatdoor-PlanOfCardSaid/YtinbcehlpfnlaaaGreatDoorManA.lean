/- Layer 15 (manifest): a part's check. -/
import Derived.Test.YtinbcehlpfnlaaaGreatDoorManM
namespace Go.Proofs.YtinbcehlpfnlaaaGreatDoor
open Go.RowKit
set_option linter.unusedSimpArgs false
set_option linter.unusedVariables false
set_option maxRecDepth 100000

theorem wrap64_i (n : Int) : wrap64 n = IntKind.i64.wrap n := by
  simp [wrap64, IntKind.wrap, IntKind.bits, IntKind.signed]
  split <;> omega
theorem inR_less (m k : Int) (h1 : -9223372036854775808 ≤ m) (h2 : m ≤ 9223372036854775807) (hk : k < 9223372036854775807) : inR (wrap64 (m - 1)) k = decide (1 ≤ m ∧ m ≤ k + 1) := by
  rw [wrap64_i]
  by_cases h : m = -9223372036854775808
  · subst h
    have e : IntKind.i64.wrap (-9223372036854775808 - 1) = 9223372036854775807 := by decide
    rw [e]
    have h3 : ¬ ((1 : Int) ≤ -9223372036854775808 ∧ (-9223372036854775808 : Int) ≤ k + 1) := by omega
    rw [decide_eq_false h3]
    simp [inR]; omega
  · rw [IntWalk.i64_in _ (by omega)]
    unfold inR
    rw [Bool.eq_iff_iff]
    simp
    omega
set_option maxHeartbeats 4000000 in
theorem pcheck_any (x : Pt) (at' : Int) (h1 : -9223372036854775808 ≤ x.m ∧ x.m ≤ 9223372036854775807) (h2 : -9223372036854775808 ≤ x.s ∧ x.s ≤ 9223372036854775807) (w : World) :
    Calls Tryz.prog 40 #[.agg (ptV x).toArray, .int .i64 at'] w fun e w' => e = .returned (errV (x.check at')) ∧ Below w.heap.size w w' := by
  have HM := Lib.hid' (inR_less x.m 63 h1.1 h1.2 (by decide))
  have HS := Lib.hid' (inR_less x.s 65535 h2.1 h2.2 (by decide))
  have HC := Lib.hid' (show x.check at' = if x.m < 1 ∨ 64 < x.m ∨ x.s < 1 ∨ 65536 < x.s then 1 else if x.f ≠ at' then 2 else 0 from rfl)
  clear h1 h2
  go_enter Tryz.func40, Tryz.ntmps40
  go_upto_region 1 with fail
  have H0 : Sep w NoF [.box w.heap.size (ptV x) 53] (w.alloc (.cells (ptV x).toArray 53)) := (Sep.start w).allocAt (w.heap.size) (ptV x) 53 rfl
  have c0 : (w.alloc (.cells (ptV x).toArray 53)).cell? ⟨w.heap.size, 0, none⟩ = some (.int .i64 x.f) := H0.cell 0 rfl 0 rfl
  have c1 : (w.alloc (.cells (ptV x).toArray 53)).cell? ⟨w.heap.size, 1, none⟩ = some (.int .i64 x.m) := H0.cell 0 rfl 1 rfl
  have c2 : (w.alloc (.cells (ptV x).toArray 53)).cell? ⟨w.heap.size, 2, none⟩ = some (.int .i64 x.s) := H0.cell 0 rfl 2 rfl
  have HB := Lib.hid' H0.toBelow
  generalize w.alloc (.cells (ptV x).toArray 53) = w1 at *
  clear H0
  by_cases hm : 1 ≤ x.m ∧ x.m ≤ 64
  · have b1 := HM.out.trans (decide_eq_true (by omega))
    by_cases hs : 1 ≤ x.s ∧ x.s ≤ 65536
    · have b2 := HS.out.trans (decide_eq_true (by omega))
      have HC2 := Lib.hid' (HC.out.trans (if_neg (by omega)))
      by_cases hf : x.f = at'
      · have b3 : (x.f != at') = false := by rw [bne_eq_false_iff_eq]; exact hf
        have HC3 := Lib.hid' (HC2.out.trans (if_neg (by simpa using hf)))
        clear hf hm hs
        go_wp2_with (go_at_call 38; refine (min_any _ _ _).mono ?_; rintro e w' ⟨rfl, rfl⟩)
        go_ret
        exact ⟨ret_eq (by rw [HC3.out]; rfl), HB.out⟩
      · have b3 : (x.f != at') = true := by rw [bne_iff_ne]; exact hf
        have HC3 := Lib.hid' (HC2.out.trans (if_pos hf))
        clear hf hm hs
        go_wp2_with (go_at_call 38; refine (min_any _ _ _).mono ?_; rintro e w' ⟨rfl, rfl⟩)
        go_ret
        exact ⟨ret_eq (by rw [HC3.out]; rfl), HB.out⟩
    · have b2 := HS.out.trans (decide_eq_false (by omega))
      have HC2 := Lib.hid' (HC.out.trans (if_pos (by omega)))
      clear hm hs
      go_wp2_with (go_at_call 38; refine (min_any _ _ _).mono ?_; rintro e w' ⟨rfl, rfl⟩)
      go_ret
      exact ⟨ret_eq (by rw [HC2.out]; rfl), HB.out⟩
  · have b1 := HM.out.trans (decide_eq_false (by omega))
    have HC2 := Lib.hid' (HC.out.trans (if_pos (by omega)))
    clear hm
    go_wp2_with (go_at_call 38; refine (min_any _ _ _).mono ?_; rintro e w' ⟨rfl, rfl⟩)
    go_ret
    exact ⟨ret_eq (by rw [HC2.out]; rfl), HB.out⟩
end Go.Proofs.YtinbcehlpfnlaaaGreatDoor
