/- Layer 33 (model): Trim, Cut, and what a nil one answers. -/
import Derived.Test.YtjkbcjliaacebaaMdlD
namespace Go.Proofs.Ytjkbcjliaacebaa
open Go.RowKit
set_option linter.unusedSimpArgs false
set_option linter.unusedVariables false
set_option maxRecDepth 20000

theorem mTrim_any {A : Nat → Prop} {bl bm : Nat} {m : M} (b : Int) (w : World) (h : LogAt A w bl bm m) (hA : ∀ k, A k → k < w.heap.size) :
    Calls Try.prog 26 #[.pointer (some ⟨bl, 0, none⟩), .int .i64 b] w (LogR (errV (m.trim b).1) A bl bm (m.trim b).2 w) := by
  have H := Lib.hid' h
  have HA := Lib.hid' hA
  have HOK := Lib.hid' (M.ok_trim h.ok b)
  clear h hA
  cases hin : inR b 1048576 with
  | false =>
    have Hf := Lib.hid' (show m.trim b = (1, m) by simp [M.trim, hin])
    go_enter Try.func26, Try.ntmps26
    go_wp2_with (go_at_call 60; refine (min_any _ _ _).mono ?_; rintro en w' ⟨rfl, rfl⟩; rw [hin])
    refine (masks_any _ _ _).mono ?_
    rintro en w1 ⟨rfl, rfl⟩
    rw [show errV (if false = true then 0 else 1) = .iface 55 (.int .i64 1) from rfl]
    go_wp2
    go_ret
    rw [Hf.out]
    exact LogR.same H.out rfl (Below.refl _ _)
  | true =>
    have Hf := Lib.hid' (show m.trim b = (0, m.trim' b) by simp [M.trim, hin])
    go_enter Try.func26, Try.ntmps26
    go_wp2_with (go_at_call 60; refine (min_any _ _ _).mono ?_; rintro en w' ⟨rfl, rfl⟩; rw [hin])
    refine (masks_any _ _ _).mono ?_
    rintro en w1 ⟨rfl, rfl⟩
    rw [show errV (if true = true then 0 else 1) = .nilIface from rfl]
    go_wp2_with fail
    refine (mtrim1_any b _ H.out HA.out (by have := HOK.out; rw [Hf.out] at this; exact this)).mono ?_
    rintro en w2 ⟨rfl, hl, hf⟩
    have HL := Lib.hid' hl
    have HF := Lib.hid' hf
    clear hl hf
    go_wp2
    go_ret
    rw [Hf.out]
    exact ⟨rfl, HL.out, HF.out⟩

set_option maxHeartbeats 1000000 in
theorem mCut_any {A : Nat → Prop} {bl bm : Nat} {m : M} (f : Int) (w : World) (h : LogAt A w bl bm m) (hA : ∀ k, A k → k < w.heap.size) :
    Calls Try.prog 27 #[.pointer (some ⟨bl, 0, none⟩), .int .i64 f] w (LogR (errV (m.cut f).1) A bl bm (m.cut f).2 w) := by
  have H := Lib.hid' h
  have HOK := Lib.hid' (M.ok_cut h.ok f)
  have HNE := Lib.hid' h.ne
  have hlt := h.lt.1
  have hltm := h.lt.2
  obtain ⟨c0, c1, c2⟩ := h.cell
  clear h hA
  cases hin : inR f 1048576 with
  | false =>
    have Hf := Lib.hid' (show m.cut f = (1, m) by simp [M.cut, hin])
    go_enter Try.func27, Try.ntmps27
    go_wp2_with (go_at_call 60; refine (min_any _ _ _).mono ?_; rintro en w' ⟨rfl, rfl⟩; rw [hin])
    refine (masks_any _ _ _).mono ?_
    rintro en w1 ⟨rfl, rfl⟩
    rw [show errV (if false = true then 0 else 1) = .iface 55 (.int .i64 1) from rfl]
    go_wp2
    go_ret
    rw [Hf.out]
    exact LogR.same H.out rfl (by go_grown)
  | true =>
  have HIN := Lib.hid' hin
  by_cases hl : f < m.u.l
  · have Hf := Lib.hid' (show m.cut f = (9, m) by simp [M.cut, hin, hl])
    go_enter Try.func27, Try.ntmps27
    go_wp2_with (go_at_call 60; refine (min_any _ _ _).mono ?_; rintro en w' ⟨rfl, rfl⟩; rw [hin])
    refine (masks_any _ _ _).mono ?_
    rintro en w1 ⟨rfl, rfl⟩
    rw [show errV (if true = true then 0 else 1) = .nilIface from rfl]
    go_wp2_with fail
    go_region_held3 (fun w' => w'.cell? ⟨w.heap.size, 0, none⟩ = some (.int .i64 f) ∧ w'.cell? ⟨bl, 1, none⟩ = some (.int .i64 m.u.l)) (go_keep) (fail)
    go_wp2
    go_ret
    rw [Hf.out]
    exact LogR.same H.out rfl (by go_grown)
  have Hf := Lib.hid' (show m.cut f = (0, ⟨{ m.u with cells := m.u.cells.filter (fun p => !decide (f ≤ p.1)) }, f⟩) by simp [M.cut, hin, hl])
  go_enter Try.func27, Try.ntmps27
  go_wp2_with (go_at_call 60; refine (min_any _ _ _).mono ?_; rintro en w' ⟨rfl, rfl⟩; rw [hin])
  refine (masks_any _ _ _).mono ?_
  rintro en w1 ⟨rfl, rfl⟩
  rw [show errV (if true = true then 0 else 1) = .nilIface from rfl]
  go_wp2_with fail
  go_region_held3 (fun w' => w'.cell? ⟨w.heap.size, 0, none⟩ = some (.int .i64 f) ∧ w'.cell? ⟨bl, 1, none⟩ = some (.int .i64 m.u.l)) (go_keep) (fail)
  have k1 : (w.alloc (.cells #[.int .i64 f] 3)).drew.cell? ⟨w.heap.size, 0, none⟩ = some (.int .i64 f) := by simp [go_sem]
  have k4 := Lib.hid' (show Below w.heap.size w (w.alloc (.cells #[.int .i64 f] 3)).drew by go_grown)
  have k5 : w.heap.size < (w.alloc (.cells #[.int .i64 f] 3)).drew.heap.size := by simp
  clear c0 c1 c2
  generalize (w.alloc (.cells #[.int .i64 f] 3)).drew = w1 at *
  have HW1 := Lib.hid' (H.out.below (Nat.le_refl _) k4.out)
  have k2 := HW1.out.cell.1
  obtain ⟨L, hm, hL⟩ := HW1.out.map
  have HM1 := Lib.hid' hm
  have HL := Lib.hid' hL
  clear hm hL
  go_wp2_with fail
  refine (deleteFunc_any 68 #[.pointer (some ⟨w.heap.size, 0, none⟩)] (fun x => decide (f ≤ x)) bm L _ HM1.out HL.out.cells mcf_cut (Lib.hid' ?_)).mono ?_
  · intro w3 x v hf3 hv
    exact mcutF_any _ _ _ _ _ hv (hf3.cell k1 (by simp; omega))
  rintro en w3 ⟨rfl, hm3, hf3⟩
  have Hm3 := Lib.hid' hm3
  have Hf3 := Lib.hid' hf3
  have q1 : w3.cell? ⟨w.heap.size, 0, none⟩ = some (.int .i64 f) := hf3.cell k1 (by simp; omega)
  have q2 : w3.cell? ⟨bl, 2, none⟩ = some (.int .i64 m.t) := hf3.cell HW1.out.cell.2.2 HNE.out
  have q3 : w3.frozen? ⟨bl, 2, none⟩ = false := by
    rw [← HW1.out.free 2]; simp only [World.frozen?, hf3.block bl HW1.out.lt.1 HNE.out]
  have HY := Lib.hid' (show w3.heap[bl]? = some (.cells #[.map (some bm), .int .i64 m.u.l, .int .i64 m.t] 108 (0, 0)) from (hf3.block bl HW1.out.lt.1 HNE.out).trans HW1.out.blk)
  clear hm3 hf3 k1 k2
  go_wp2
  go_ret
  rw [Hf.out]
  have HF := Lib.hid' (show Fr (fun k => k = bl ∨ k = bm) w1 (w3.setCell ⟨bl, 2, none⟩ (.int .i64 f)) from (Hf3.out.mono (fun k hk => Or.inr hk)).trans (fr_set w3 bl 2 _) (fun k hk => Or.inl (Or.inl hk)))
  refine ⟨rfl, ⟨heap_setCell_same w3 bl 2 _ _ _ HY.out, ?_, by have := HOK.out; rw [Hf.out] at this; exact this, H.out.abl, H.out.abm⟩, (Fr.of_below k4.out).trans HF.out (fun k hk => .inl hk)⟩
  exact CellsAt.filt (p := fun x => decide (f ≤ x)) HL.out (Hm3.out.block (heap_setCell_other _ _ _ _ (fun h => HNE.out h.symm))) HF.out (fun k hk => by rcases hk with rfl | rfl; exact H.out.abl; exact H.out.abm)

theorem mapp_nil (v : Value) (w : World) : Calls Try.prog 19 #[.pointer none, v] w fun en w' => en = .returned (.tuple #[.int .i64 0, errV 4]) ∧ Below w.heap.size w w' := by
  go_enter Try.func19, Try.ntmps19
  go_wp2
  go_ret2
  exact ⟨rfl, by go_grown⟩
theorem mread_nil (a : Int) (w : World) : Calls Try.prog 20 #[.pointer none, .int .i64 a] w fun en w' => en = .returned (.tuple #[.agg #[.int .i64 0, .slice none 0 0], errV 4]) ∧ Below w.heap.size w w' := by
  go_enter Try.func20, Try.ntmps20
  go_wp2_with (first | (go_at_call 60; refine (min_any _ _ _).mono ?_; rintro e w' ⟨rfl, rfl⟩) | (go_at_call 59; refine (masks_nil _ _).mono ?_; rintro e w' ⟨rfl, rfl⟩; rw [show errV 4 = .iface 55 (.int .i64 4) from rfl]))
  refine bodyPost_ret (v := .tuple #[.agg #[.int .i64 0, .slice none 0 0], errV 4]) (by simp [results, Try.results20, go_sem, show errV 4 = .iface 55 (.int .i64 4) from rfl]) rfl ⟨rfl, by go_grown⟩
theorem mfill_nil (a : Int) (w : World) : Calls Try.prog 24 #[.pointer none, .int .i64 a] w fun en w' => en = .returned (errV 4) ∧ Below w.heap.size w w' := by
  go_enter Try.func24, Try.ntmps24
  go_wp2_with (first | (go_at_call 60; refine (min_any _ _ _).mono ?_; rintro e w' ⟨rfl, rfl⟩) | (go_at_call 59; refine (masks_nil _ _).mono ?_; rintro e w' ⟨rfl, rfl⟩; rw [show errV 4 = .iface 55 (.int .i64 4) from rfl]))
  go_ret
  exact ⟨rfl, by go_grown⟩
theorem mput_nil (a k : Int) (d : Option Addr) (n c : Nat) (w : World) : Calls Try.prog 25 #[.pointer none, .int .i64 a, .agg #[.int .i64 k, .slice d n c]] w fun en w' => en = .returned (errV 4) ∧ Below w.heap.size w w' := by
  go_enter Try.func25, Try.ntmps25
  go_wp2_with (first | (go_at_call 60; refine (min_any _ _ _).mono ?_; rintro e w' ⟨rfl, rfl⟩) | (go_at_call 59; refine (masks_nil _ _).mono ?_; rintro e w' ⟨rfl, rfl⟩; rw [show errV 4 = .iface 55 (.int .i64 4) from rfl]))
  go_ret
  exact ⟨rfl, by go_grown⟩
theorem mTrim_nil (a : Int) (w : World) : Calls Try.prog 26 #[.pointer none, .int .i64 a] w fun en w' => en = .returned (errV 4) ∧ Below w.heap.size w w' := by
  go_enter Try.func26, Try.ntmps26
  go_wp2_with (first | (go_at_call 60; refine (min_any _ _ _).mono ?_; rintro e w' ⟨rfl, rfl⟩) | (go_at_call 59; refine (masks_nil _ _).mono ?_; rintro e w' ⟨rfl, rfl⟩; rw [show errV 4 = .iface 55 (.int .i64 4) from rfl]))
  go_ret
  exact ⟨rfl, by go_grown⟩
theorem mCut_nil (a : Int) (w : World) : Calls Try.prog 27 #[.pointer none, .int .i64 a] w fun en w' => en = .returned (errV 4) ∧ Below w.heap.size w w' := by
  go_enter Try.func27, Try.ntmps27
  go_wp2_with (first | (go_at_call 60; refine (min_any _ _ _).mono ?_; rintro e w' ⟨rfl, rfl⟩) | (go_at_call 59; refine (masks_nil _ _).mono ?_; rintro e w' ⟨rfl, rfl⟩; rw [show errV 4 = .iface 55 (.int .i64 4) from rfl]))
  go_ret
  exact ⟨rfl, by go_grown⟩
theorem mentries_nil (w : World) : Calls Try.prog 22 #[.pointer none] w fun en w' => en = .returned (.slice none 0 0) ∧ w = w' := by
  go_enter Try.func22, Try.ntmps22
  go_wp2
  go_ret
  exact ⟨rfl, rfl⟩
end Go.Proofs.Ytjkbcjliaacebaa
