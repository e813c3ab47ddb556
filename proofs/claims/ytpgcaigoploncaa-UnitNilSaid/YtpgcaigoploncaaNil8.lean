/- UnitNil: what a nil unit answers. -/
import Derived.Test.YtpgcaigoploncaaAlive8
namespace Go.Proofs.Ytpgcaigoploncaa
open Go.RowKit
set_option linter.unusedSimpArgs false
set_option linter.unusedVariables false
set_option maxRecDepth 20000

theorem errV_4 : errV 4 = .iface 84 (.int .i64 4) := rfl
theorem seal_nil (e : Int) (w : World) : Calls Try.prog 49 #[.pointer none, .int .i64 e] w fun en w' => en = .returned (.tuple #[.int .i64 0, errV 4]) ∧ Below w.heap.size w w' := by
  go_enter Try.func49, Try.ntmps49
  go_wp2
  go_ret2
  exact ⟨rfl, by go_grown⟩
theorem write_nil (e a : Int) (v : Value) (w : World) : Calls Try.prog 51 #[.pointer none, .int .i64 e, .int .i64 a, v] w fun en w' => en = .returned (errV 4) ∧ Below w.heap.size w w' := by
  go_enter Try.func51, Try.ntmps51
  go_wp2
  go_ret
  exact ⟨rfl, by go_grown⟩
theorem tail_nil (e : Int) (w : World) : Calls Try.prog 24 #[.pointer none, .int .i64 e] w fun en w' => en = .returned (.tuple #[.int .i64 0, errV 4]) ∧ Below w.heap.size w w' := by
  go_enter Try.func24, Try.ntmps24
  go_wp2_with (go_at_call 79; refine (asks_nil _ _ _).mono ?_; rintro e w' ⟨rfl, rfl⟩; rw [errV_4])
  go_ret2
  exact ⟨rfl, by go_grown⟩
theorem fill_nil (e a : Int) (w : World) : Calls Try.prog 52 #[.pointer none, .int .i64 e, .int .i64 a] w fun en w' => en = .returned (errV 4) ∧ Below w.heap.size w w' := by
  go_enter Try.func52, Try.ntmps52
  go_wp2_with (first | (go_at_call 81; refine (in_any _ _ _).mono ?_; rintro e w' ⟨rfl, rfl⟩) | (go_at_call 79; refine (asks_nil _ _ _).mono ?_; rintro e w' ⟨rfl, rfl⟩; rw [errV_4]))
  go_ret
  exact ⟨rfl, by go_grown⟩
theorem trim_nil (e a : Int) (w : World) : Calls Try.prog 53 #[.pointer none, .int .i64 e, .int .i64 a] w fun en w' => en = .returned (errV 4) ∧ Below w.heap.size w w' := by
  go_enter Try.func53, Try.ntmps53
  go_wp2_with fail
  go_region_held3 (fun w' => w'.cell? ⟨w.heap.size, 0, none⟩ = some (.pointer none)) (go_keep) (first | (go_at_call 81; refine (in_any _ _ _).mono ?_; rintro en w' ⟨rfl, rfl⟩) | (go_at_call 79; refine (asks_nil _ _ _).mono ?_; rintro en w' ⟨rfl, rfl⟩; rw [errV_4]))
  go_wp2
  go_ret
  exact ⟨rfl, by go_grown⟩
theorem cut_nil (e a : Int) (w : World) : Calls Try.prog 26 #[.pointer none, .int .i64 e, .int .i64 a] w fun en w' => en = .returned (.tuple #[.int .i64 0, errV 4]) ∧ Below w.heap.size w w' := by
  go_enter Try.func26, Try.ntmps26
  go_wp2_with (first | (go_at_call 81; refine (in_any _ _ _).mono ?_; rintro e w' ⟨rfl, rfl⟩) | (go_at_call 79; refine (asks_nil _ _ _).mono ?_; rintro e w' ⟨rfl, rfl⟩; rw [errV_4]))
  go_ret2
  exact ⟨rfl, by go_grown⟩
theorem read_nil (e a : Int) (w : World) : Calls Try.prog 50 #[.pointer none, .int .i64 e, .int .i64 a] w fun en w' => en = .returned (.tuple #[.agg #[.int .i64 0, .slice none 0 0], errV 4]) ∧ Below w.heap.size w w' := by
  go_enter Try.func50, Try.ntmps50
  go_wp2_with (first | (go_at_call 81; refine (in_any _ _ _).mono ?_; rintro e w' ⟨rfl, rfl⟩) | (go_at_call 79; refine (asks_nil _ _ _).mono ?_; rintro e w' ⟨rfl, rfl⟩; rw [errV_4]))
  refine bodyPost_ret (v := .tuple #[.agg #[.int .i64 0, .slice none 0 0], errV 4]) (by simp [results, Try.results50, go_sem, errV_4]) rfl ⟨rfl, by go_grown⟩
theorem epoch_nil (w : World) : Calls Try.prog 25 #[.pointer none] w fun en w' => en = .returned (.int .i64 0) ∧ w = w' := by
  go_enter Try.func25, Try.ntmps25
  go_wp2
  go_ret
  exact ⟨rfl, rfl⟩
theorem low_nil (w : World) : Calls Try.prog 22 #[.pointer none] w fun en w' => en = .returned (.int .i64 0) ∧ w = w' := by
  go_enter Try.func22, Try.ntmps22
  go_wp2
  go_ret
  exact ⟨rfl, rfl⟩
theorem entries_nil (w : World) : Calls Try.prog 23 #[.pointer none] w fun en w' => en = .returned (.slice none 0 0) ∧ w = w' := by
  go_enter Try.func23, Try.ntmps23
  go_wp2
  go_ret
  exact ⟨rfl, rfl⟩
theorem copy_nil (w : World) : Calls Try.prog 55 #[.pointer none] w fun en w' => en = .returned (.pointer none) ∧ w = w' := by
  go_enter Try.func55, Try.ntmps55
  go_wp2
  go_ret
  exact ⟨rfl, rfl⟩
end Go.Proofs.Ytpgcaigoploncaa
