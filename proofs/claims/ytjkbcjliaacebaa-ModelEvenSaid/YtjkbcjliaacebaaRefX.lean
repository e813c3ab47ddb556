/- The document's unit (holdfastref08): Tail, Current, Seal. -/
import Derived.Test.YtjkbcjliaacebaaRefW
namespace Go.Proofs.Ytjkbcjliaacebaa
open Go.RowKit
set_option linter.unusedSimpArgs false
set_option linter.unusedVariables false
set_option maxRecDepth 20000

theorem rCur_any (u : U) (ad : Option Addr) (cap : Nat) (e : Int) (w : World) :
    Calls Try.prog 93 #[ruV u ad cap, .int .i64 e] w fun en w' => en = .returned (.int .i64 (u.cur e)) ∧ Below w.heap.size w w' := by
  unfold ruV
  go_enter Try.func93, Try.ntmps93
  go_wp2
  all_goals go_ret
  all_goals refine ⟨ret_eq ?_, by go_grown⟩
  all_goals (unfold U.cur; (repeat' split) <;> first | rfl | (exfalso; omega))

theorem rTail_any (u : U) (ad : Option Addr) (cap : Nat) (w : World) (h : RList w (.slice ad u.cells.length cap) u.cells) (hu : ∀ p ∈ u.cells, 0 ≤ p.1 ∧ p.1 < 1048576) :
    Calls Try.prog 94 #[ruV u ad cap] w fun en w' => en = .returned (.int .i64 u.rTail) ∧ Below w.heap.size w w' := by
  have H := Lib.hid' h
  have hlen : u.cells.length ≤ 9223372036854775807 := by obtain ⟨_, _, he, h1, h2, _⟩ := h; cases he; unfold maxLen at h2; omega
  clear h
  unfold ruV
  by_cases h0 : u.cells.length = 0
  · have h0' : ((u.cells.length : Int) == 0) = true := by simpa using h0
    have hn : u.cells = [] := List.eq_nil_of_length_eq_zero h0
    have e1 := Lib.hid' (show u.rTail = u.l by simp [U.rTail, hn])
    clear hn h0 hu
    go_enter Try.func94, Try.ntmps94
    go_wp2
    go_ret
    exact ⟨ret_eq (by rw [e1.out]; rfl), by go_grown⟩
  · have h0' : ((u.cells.length : Int) == 0) = false := by simpa using h0
    have hk : u.cells.length - 1 < u.cells.length := by omega
    obtain ⟨b, off, rfl, hb, c0, c1, c2⟩ := H.out.get hk
    have e1 := Lib.hid' (show u.rTail = u.cells[u.cells.length - 1].1 + 1 by simp [U.rTail, List.getLast?_eq_getElem?, List.getElem?_eq_getElem hk])
    have hx := hu _ (List.getElem_mem hk)
    have hi : ((u.cells.length : Int) - 1).toNat = u.cells.length - 1 := by omega
    have hi0 : (0 : Int) ≤ (u.cells.length : Int) - 1 := by omega
    have hi1 : (u.cells.length : Int) - 1 < u.cells.length := by omega
    clear h0 hu c1 c2
    go_enter Try.func94, Try.ntmps94
    go_wp2
    go_ret
    exact ⟨ret_eq (by rw [e1.out]; rfl), by go_grown⟩

/-- a unit and an error's number are handed back -/
def RUN (u : U) (n : Nat) (w : World) (en : Ending) (w' : World) : Prop := ∃ ad cap, en = .returned (.tuple #[ruV u ad cap, .int .i64 n]) ∧ RList w' (.slice ad u.cells.length cap) u.cells ∧ Below w.heap.size w w'
def RTUN (t : Int) (u : U) (n : Nat) (w : World) (en : Ending) (w' : World) : Prop := ∃ ad cap, en = .returned (.tuple #[.int .i64 t, ruV u ad cap, .int .i64 n]) ∧ RList w' (.slice ad u.cells.length cap) u.cells ∧ Below w.heap.size w w'
theorem RList.below {w w' : World} {s : Value} {L : List (Int × C)} (h : RList w s L) {B : Nat} (hB : w.heap.size ≤ B) (hb : Below B w w') : RList w' s L := SlV.below h hB hb

theorem rSeal_any (u : U) (ad : Option Addr) (cap : Nat) (e : Int) (w : World) (h : RList w (.slice ad u.cells.length cap) u.cells) (hu : ∀ p ∈ u.cells, 0 ≤ p.1 ∧ p.1 < 1048576) :
    Calls Try.prog 84 #[ruV u ad cap, .int .i64 e] w (RTUN (u.rSeal e).1 (u.rSeal e).2.1 (u.rSeal e).2.2 w) := by
  have H := Lib.hid' h
  have HU := Lib.hid' hu
  clear h hu
  by_cases h1 : e < 0 ∨ 1099511627776 < e
  · have Hf := Lib.hid' (show u.rSeal e = (0, u, 1) by simp [U.rSeal, h1])
    unfold ruV
    rcases h1 with h1 | h1
    · go_enter Try.func84, Try.ntmps84
      go_wp2_with fail
      go_region_held3 (fun w' => w'.cell? ⟨w.heap.size, 0, none⟩ = some (.int .i64 u.e) ∧ w'.cell? ⟨w.heap.size, 1, none⟩ = some (.int .i64 u.l) ∧ w'.cell? ⟨w.heap.size, 2, none⟩ = some (.slice ad u.cells.length cap)) (go_keep) (fail)
      go_wp2
      refine bodyPost_ret (v := .tuple #[.int .i64 0, .agg #[.int .i64 u.e, .int .i64 u.l, .slice ad u.cells.length cap], .int .i64 1]) (by simp [results, Try.results84, go_sem]) rfl ?_
      rw [Hf.out]
      exact ⟨ad, cap, rfl, H.out.below (Nat.le_refl _) (by go_grown), by go_grown⟩
    · have h1' : ¬ e < 0 := by omega
      go_enter Try.func84, Try.ntmps84
      go_wp2_with fail
      go_region_held3 (fun w' => w'.cell? ⟨w.heap.size, 0, none⟩ = some (.int .i64 u.e) ∧ w'.cell? ⟨w.heap.size, 1, none⟩ = some (.int .i64 u.l) ∧ w'.cell? ⟨w.heap.size, 2, none⟩ = some (.slice ad u.cells.length cap)) (go_keep) (fail)
      go_wp2
      refine bodyPost_ret (v := .tuple #[.int .i64 0, .agg #[.int .i64 u.e, .int .i64 u.l, .slice ad u.cells.length cap], .int .i64 1]) (by simp [results, Try.results84, go_sem]) rfl ?_
      rw [Hf.out]
      exact ⟨ad, cap, rfl, H.out.below (Nat.le_refl _) (by go_grown), by go_grown⟩
  · have h1a : ¬ e < 0 := by omega
    have h1b : ¬ 1099511627776 < e := by omega
    by_cases h2 : e ≤ u.e
    · have Hf := Lib.hid' (show u.rSeal e = (0, u, 6) by simp [U.rSeal, h1, h2])
      unfold ruV
      clear h1
      go_enter Try.func84, Try.ntmps84
      go_wp2_with fail
      go_region_held3 (fun w' => w'.cell? ⟨w.heap.size, 0, none⟩ = some (.int .i64 u.e) ∧ w'.cell? ⟨w.heap.size, 1, none⟩ = some (.int .i64 u.l) ∧ w'.cell? ⟨w.heap.size, 2, none⟩ = some (.slice ad u.cells.length cap)) (go_keep) (fail)
      go_wp2
      refine bodyPost_ret (v := .tuple #[.int .i64 0, .agg #[.int .i64 u.e, .int .i64 u.l, .slice ad u.cells.length cap], .int .i64 6]) (by simp [results, Try.results84, go_sem]) rfl ?_
      rw [Hf.out]
      exact ⟨ad, cap, rfl, H.out.below (Nat.le_refl _) (by go_grown), by go_grown⟩
    · have Hf := Lib.hid' (show u.rSeal e = (U.rTail { u with e := e }, { u with e := e }, 0) by simp [U.rSeal, h1, h2])
      unfold ruV
      clear h1
      go_enter Try.func84, Try.ntmps84
      go_wp2_with fail
      go_region_held3 (fun w' => w'.cell? ⟨w.heap.size, 0, none⟩ = some (.int .i64 e) ∧ w'.cell? ⟨w.heap.size, 1, none⟩ = some (.int .i64 u.l) ∧ w'.cell? ⟨w.heap.size, 2, none⟩ = some (.slice ad u.cells.length cap)) (go_keep) (first | (go_at_call 94; refine (rTail_any { u with e := e } ad cap _ (H.out.below (Nat.le_refl _) (by go_grown)) HU.out).mono ?_; rintro en w' ⟨rfl, hb⟩; obtain ⟨hc, hf⟩ := bcell hb))
      have c0 : w'.cell? ⟨w.heap.size + 1, 0, none⟩ = some (.int .i64 0) := (hc _ _ (by simp)).trans (by simp [go_sem])
      have c1 : w'.cell? ⟨w.heap.size + 1, 1, none⟩ = some (.int .i64 0) := (hc _ _ (by simp)).trans (by simp [go_sem])
      have c2 : w'.cell? ⟨w.heap.size + 1, 2, none⟩ = some (.slice none 0 0) := (hc _ _ (by simp)).trans (by simp [go_sem])
      go_wp2
      refine bodyPost_ret (v := .tuple #[.int .i64 (U.rTail { u with e := e }), .agg #[.int .i64 e, .int .i64 u.l, .slice ad u.cells.length cap], .int .i64 0]) (by simp [results, Try.results84, go_sem, c0, c1, c2]) rfl ?_
      rw [Hf.out]
      have hbb : Below w.heap.size w w' := below_call (by go_grown) (by go_size) hb
      exact ⟨ad, cap, rfl, H.out.below (Nat.le_refl _) (((hbb.setCell (by simp) _).setCell (by simp) _).setCell (by simp) _), ((hbb.setCell (by simp) _).setCell (by simp) _).setCell (by simp) _⟩

end Go.Proofs.Ytjkbcjliaacebaa
