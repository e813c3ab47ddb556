/- Layer 33 (model): shows, the fixed fact; layer 13's scripts and which are too long. -/
import Derived.Test.YtjkbcjliaacebaaMdlR2
import Derived.Test.YtjkbcjliaacebaaRd
import Derived.Test.YtjkbcjliaacebaaAlive8
namespace Go.Proofs.Ytjkbcjliaacebaa
open Go.RowKit
set_option linter.unusedSimpArgs false
set_option linter.unusedVariables false
set_option maxRecDepth 20000

theorem LogAt.weak {A A' : Nat → Prop} {w : World} {bl bm : Nat} {m : M} (h : LogAt A w bl bm m) (hA : ∀ k, A' k → A k ∨ w.heap.size ≤ k) (h1 : A' bl) (h2 : A' bm) : LogAt A' w bl bm m := by
  obtain ⟨L, hm, hr⟩ := h.map
  refine ⟨h.blk, ⟨L, hm, hr.mono fun p q _ _ hpq => ?_⟩, h.ok, h1, h2⟩
  obtain ⟨e1, a, cap, e2, e3, e4⟩ := hpq
  refine ⟨e1, a, cap, e2, e3, fun x hx => ⟨fun hk => ?_, (e4 x hx).2⟩⟩
  rcases hA _ hk with h5 | h5
  · exact (e4 x hx).1 h5
  · have := (e4 x hx).2; omega
set_option maxHeartbeats 2000000 in
theorem shows_any {A : Nat → Prop} {bl bm : Nat} {l : M} (m : M) (ma : Option Addr) (mc : Nat) (w : World) (h : LogAt A w bl bm l) (hm : RList w (.slice ma m.u.cells.length mc) m.u.cells) (hl : l.u.cells.length ≤ 1048576) :
    Calls Try.prog 76 #[.pointer (some ⟨bl, 0, none⟩), rmV m ma mc] w fun en w' => en = .returned (.bool (showM l m)) ∧ Below w.heap.size w w' := by
  unfold rmV
  have H := Lib.hid' h
  have HM := Lib.hid' hm
  have HL := Lib.hid' hl
  clear h hm hl
  go_enter Try.func76, Try.ntmps76
  go_upto_region 1 with fail
  have HB := Lib.hid' (show Below w.heap.size w (w.alloc (.cells #[.int .i64 m.u.e, .int .i64 m.u.l, .slice ma m.u.cells.length mc, .int .i64 m.t] 63)) by go_grown)
  have HX := Lib.hid' (show BoxW w.heap.size [.int .i64 m.u.e, .int .i64 m.u.l, .slice ma m.u.cells.length mc, .int .i64 m.t] 63 (w.alloc (.cells #[.int .i64 m.u.e, .int .i64 m.u.l, .slice ma m.u.cells.length mc, .int .i64 m.t] 63)) from BoxW.start w [.int .i64 m.u.e, .int .i64 m.u.l, .slice ma m.u.cells.length mc, .int .i64 m.t] 63)
  generalize w.alloc (.cells #[.int .i64 m.u.e, .int .i64 m.u.l, .slice ma m.u.cells.length mc, .int .i64 m.t] 63) = w1 at *
  have H1 := Lib.hid' (H.out.below (Nat.le_refl _) HB.out)
  have HM1 := Lib.hid' (HM.out.below (Nat.le_refl _) HB.out)
  have x2 := HX.out.box.1 2 _ rfl; have x3 := HX.out.box.1 3 _ rfl
  have hxl := HX.out.lt
  go_wp2_with fail
  refine (mtail_any _ H1.out).mono ?_
  rintro en w' ⟨rfl, rfl⟩
  go_upto_region 2 with fail
  cases ht : (l.t == m.t)
  · have HF := Lib.hid' (show showM l m = false by simp only [showM]; rw [show decide (l.t = m.t) = false from by simpa using ht]; rfl)
    refine wp_region_held_drew (S := (fun w' => w'.cell? ⟨w.heap.size, 2, none⟩ = some (.slice ma m.u.cells.length mc) ∧ w'.cell? ⟨w.heap.size, 3, none⟩ = some (.int .i64 m.t))) (by kernel_rfl) ⟨by simpa using x2, by simpa using x3⟩ (fun hH0 => ?_)
    refine wpAnyH_take (i := 0) (oi := _) (v := .nilIface) rfl (by kernel_rfl) (by kernel_rfl) (by kernel_rfl) (fun _ _ _ h => h) (Or.inl ⟨by rfl, ?_⟩) hH0 ?_
    · intro w hSw; go_simp
    simp only [Act.put, List.getElem_toArray, List.getElem_cons_zero, List.getElem_cons_succ, List.setIfInBounds_toArray, List.set_cons_zero, List.set_cons_succ]
    refine wpAnyH_take (i := 1) (oi := _) (v := .bool true) rfl (by kernel_rfl) (by kernel_rfl) (by kernel_rfl) (fun _ _ _ h => h) (Or.inl ⟨by rfl, ?_⟩) hH0 ?_
    · intro w hSw; go_simp
    simp only [Act.put, List.getElem_toArray, List.getElem_cons_zero, List.getElem_cons_succ, List.setIfInBounds_toArray, List.set_cons_zero, List.set_cons_succ]
    refine wpAnyH_take (i := 2) (oi := _) (v := .bool true) rfl (by kernel_rfl) (by kernel_rfl) (by kernel_rfl) (fun _ _ _ h => h) (Or.inl ⟨by rfl, ?_⟩) hH0 ?_
    · intro w hSw; go_simp
    simp only [Act.put, List.getElem_toArray, List.getElem_cons_zero, List.getElem_cons_succ, List.setIfInBounds_toArray, List.set_cons_zero, List.set_cons_succ]
    refine wpAnyH_take (i := 3) (oi := _) (v := .int .i64 l.t) rfl (by kernel_rfl) (by kernel_rfl) (by kernel_rfl) (fun _ _ _ h => h) (Or.inl ⟨by rfl, ?_⟩) hH0 ?_
    · intro w hSw; go_simp
    simp only [Act.put, List.getElem_toArray, List.getElem_cons_zero, List.getElem_cons_succ, List.setIfInBounds_toArray, List.set_cons_zero, List.set_cons_succ]
    refine wpAnyH_take (i := 4) (oi := _) (v := .pointer (some ⟨w.heap.size, 3, none⟩)) rfl (by kernel_rfl) (by kernel_rfl) (by kernel_rfl) (fun _ _ _ h => h) (Or.inl ⟨by rfl, ?_⟩) hH0 ?_
    · intro w hSw; go_simp
    simp only [Act.put, List.getElem_toArray, List.getElem_cons_zero, List.getElem_cons_succ, List.setIfInBounds_toArray, List.set_cons_zero, List.set_cons_succ]
    refine wpAnyH_take (i := 5) (oi := _) (v := .int .i64 m.t) rfl (by kernel_rfl) (by kernel_rfl) (by kernel_rfl) (fun _ _ _ h => h) (Or.inl ⟨by rfl, ?_⟩) hH0 ?_
    · intro w hSw; go_simp
    simp only [Act.put, List.getElem_toArray, List.getElem_cons_zero, List.getElem_cons_succ, List.setIfInBounds_toArray, List.set_cons_zero, List.set_cons_succ]
    refine wpAnyH_take (i := 6) (oi := _) (v := .bool false) rfl (by kernel_rfl) (by kernel_rfl) (by kernel_rfl) (fun _ _ _ h => h) (Or.inl ⟨by rfl, ?_⟩) hH0 ?_
    · intro w hSw; go_simp
    simp only [Act.put, List.getElem_toArray, List.getElem_cons_zero, List.getElem_cons_succ, List.setIfInBounds_toArray, List.set_cons_zero, List.set_cons_succ]
    refine wpAnyH_take (i := 7) (oi := _) (v := .bool false) rfl (by kernel_rfl) (by kernel_rfl) (by kernel_rfl) (fun _ _ _ h => h) (Or.inl ⟨by rfl, ?_⟩) hH0 ?_
    · intro w hSw; go_simp
    simp only [Act.put, List.getElem_toArray, List.getElem_cons_zero, List.getElem_cons_succ, List.setIfInBounds_toArray, List.set_cons_zero, List.set_cons_succ]
    refine wpAnyH_take (i := 8) (oi := _) (v := .bool false) rfl (by kernel_rfl) (by kernel_rfl) (by kernel_rfl) (fun _ _ _ h => h) (Or.inl ⟨by rfl, ?_⟩) hH0 ?_
    · intro w hSw; go_simp
    simp only [Act.put, List.getElem_toArray, List.getElem_cons_zero, List.getElem_cons_succ, List.setIfInBounds_toArray, List.set_cons_zero, List.set_cons_succ]
    refine wpAnyH_take (i := 9) (oi := _) (v := undef) rfl (by kernel_rfl) (by kernel_rfl) (by kernel_rfl) (fun _ _ _ h => h) (Or.inr ⟨by kernel_rfl, rfl⟩) hH0 ?_
    simp only [Act.put, List.getElem_toArray, List.getElem_cons_zero, List.getElem_cons_succ, List.setIfInBounds_toArray, List.set_cons_zero, List.set_cons_succ]
    refine wpAnyH_take (i := 10) (oi := _) (v := undef) rfl (by kernel_rfl) (by kernel_rfl) (by kernel_rfl) (fun _ _ _ h => h) (Or.inr ⟨by kernel_rfl, rfl⟩) hH0 ?_
    simp only [Act.put, List.getElem_toArray, List.getElem_cons_zero, List.getElem_cons_succ, List.setIfInBounds_toArray, List.set_cons_zero, List.set_cons_succ]
    refine wpAnyH_take (i := 11) (oi := _) (v := undef) rfl (by kernel_rfl) (by kernel_rfl) (by kernel_rfl) (fun _ _ _ h => h) (Or.inr ⟨by kernel_rfl, rfl⟩) hH0 ?_
    simp only [Act.put, List.getElem_toArray, List.getElem_cons_zero, List.getElem_cons_succ, List.setIfInBounds_toArray, List.set_cons_zero, List.set_cons_succ]
    refine wpAnyH_take (i := 12) (oi := _) (v := undef) rfl (by kernel_rfl) (by kernel_rfl) (by kernel_rfl) (fun _ _ _ h => h) (Or.inr ⟨by kernel_rfl, rfl⟩) hH0 ?_
    simp only [Act.put, List.getElem_toArray, List.getElem_cons_zero, List.getElem_cons_succ, List.setIfInBounds_toArray, List.set_cons_zero, List.set_cons_succ]
    refine wpAnyH_take (i := 13) (oi := _) (v := undef) rfl (by kernel_rfl) (by kernel_rfl) (by kernel_rfl) (fun _ _ _ h => h) (Or.inr ⟨by kernel_rfl, rfl⟩) hH0 ?_
    simp only [Act.put, List.getElem_toArray, List.getElem_cons_zero, List.getElem_cons_succ, List.setIfInBounds_toArray, List.set_cons_zero, List.set_cons_succ]
    refine wpAnyH_take (i := 14) (oi := _) (v := undef) rfl (by kernel_rfl) (by kernel_rfl) (by kernel_rfl) (fun _ _ _ h => h) (Or.inr ⟨by kernel_rfl, rfl⟩) hH0 ?_
    simp only [Act.put, List.getElem_toArray, List.getElem_cons_zero, List.getElem_cons_succ, List.setIfInBounds_toArray, List.set_cons_zero, List.set_cons_succ]
    refine wpAnyH_take (i := 15) (oi := _) (v := undef) rfl (by kernel_rfl) (by kernel_rfl) (by kernel_rfl) (fun _ _ _ h => h) (Or.inr ⟨by kernel_rfl, rfl⟩) hH0 ?_
    simp only [Act.put, List.getElem_toArray, List.getElem_cons_zero, List.getElem_cons_succ, List.setIfInBounds_toArray, List.set_cons_zero, List.set_cons_succ]
    refine wpAnyH_take (i := 16) (oi := _) (v := undef) rfl (by kernel_rfl) (by kernel_rfl) (by kernel_rfl) (fun _ _ _ h => h) (Or.inr ⟨by kernel_rfl, rfl⟩) hH0 ?_
    simp only [Act.put, List.getElem_toArray, List.getElem_cons_zero, List.getElem_cons_succ, List.setIfInBounds_toArray, List.set_cons_zero, List.set_cons_succ]
    refine wpAnyH_take (i := 17) (oi := _) (v := undef) rfl (by kernel_rfl) (by kernel_rfl) (by kernel_rfl) (fun _ _ _ h => h) (Or.inr ⟨by kernel_rfl, rfl⟩) hH0 ?_
    simp only [Act.put, List.getElem_toArray, List.getElem_cons_zero, List.getElem_cons_succ, List.setIfInBounds_toArray, List.set_cons_zero, List.set_cons_succ]
    refine wpAnyH_take (i := 18) (oi := _) (v := .bool false) rfl (by kernel_rfl) (by kernel_rfl) (by kernel_rfl) (fun _ _ _ h => h) (Or.inl ⟨by rfl, ?_⟩) hH0 ?_
    · intro w hSw; go_simp
    simp only [Act.put, List.getElem_toArray, List.getElem_cons_zero, List.getElem_cons_succ, List.setIfInBounds_toArray, List.set_cons_zero, List.set_cons_succ]
    refine wpAnyH_take (i := 19) (oi := _) (v := .bool false) rfl (by kernel_rfl) (by kernel_rfl) (by kernel_rfl) (fun _ _ _ h => h) (Or.inl ⟨by rfl, ?_⟩) hH0 ?_
    · intro w hSw; go_simp
    simp only [Act.put, List.getElem_toArray, List.getElem_cons_zero, List.getElem_cons_succ, List.setIfInBounds_toArray, List.set_cons_zero, List.set_cons_succ]
    refine wpAnyH_done (by kernel_rfl) ?_ _
    go_wp2
    go_ret
    exact ⟨ret_eq (by rw [HF.out]; rfl), HB.out.trans ((show Below w1.heap.size w1 _ by go_grown).mono HB.out.size)⟩
  · have HF := Lib.hid' (show showM l m = decide (sortC l.u.cells = m.u.cells) by simp only [showM]; rw [show decide (l.t = m.t) = true from by simpa using ht]; rfl)
    refine wp_region_held_drew (S := (fun w' => w'.cell? ⟨w.heap.size, 2, none⟩ = some (.slice ma m.u.cells.length mc) ∧ w'.cell? ⟨w.heap.size, 3, none⟩ = some (.int .i64 m.t))) (by kernel_rfl) ⟨by simpa using x2, by simpa using x3⟩ (fun hH0 => ?_)
    refine wpAnyH_take (i := 0) (oi := _) (v := .nilIface) rfl (by kernel_rfl) (by kernel_rfl) (by kernel_rfl) (fun _ _ _ h => h) (Or.inl ⟨by rfl, ?_⟩) hH0 ?_
    · intro w hSw; go_simp
    simp only [Act.put, List.getElem_toArray, List.getElem_cons_zero, List.getElem_cons_succ, List.setIfInBounds_toArray, List.set_cons_zero, List.set_cons_succ]
    refine wpAnyH_take (i := 1) (oi := _) (v := .bool true) rfl (by kernel_rfl) (by kernel_rfl) (by kernel_rfl) (fun _ _ _ h => h) (Or.inl ⟨by rfl, ?_⟩) hH0 ?_
    · intro w hSw; go_simp
    simp only [Act.put, List.getElem_toArray, List.getElem_cons_zero, List.getElem_cons_succ, List.setIfInBounds_toArray, List.set_cons_zero, List.set_cons_succ]
    refine wpAnyH_take (i := 2) (oi := _) (v := .bool true) rfl (by kernel_rfl) (by kernel_rfl) (by kernel_rfl) (fun _ _ _ h => h) (Or.inl ⟨by rfl, ?_⟩) hH0 ?_
    · intro w hSw; go_simp
    simp only [Act.put, List.getElem_toArray, List.getElem_cons_zero, List.getElem_cons_succ, List.setIfInBounds_toArray, List.set_cons_zero, List.set_cons_succ]
    refine wpAnyH_take (i := 3) (oi := _) (v := .int .i64 l.t) rfl (by kernel_rfl) (by kernel_rfl) (by kernel_rfl) (fun _ _ _ h => h) (Or.inl ⟨by rfl, ?_⟩) hH0 ?_
    · intro w hSw; go_simp
    simp only [Act.put, List.getElem_toArray, List.getElem_cons_zero, List.getElem_cons_succ, List.setIfInBounds_toArray, List.set_cons_zero, List.set_cons_succ]
    refine wpAnyH_take (i := 4) (oi := _) (v := .pointer (some ⟨w.heap.size, 3, none⟩)) rfl (by kernel_rfl) (by kernel_rfl) (by kernel_rfl) (fun _ _ _ h => h) (Or.inl ⟨by rfl, ?_⟩) hH0 ?_
    · intro w hSw; go_simp
    simp only [Act.put, List.getElem_toArray, List.getElem_cons_zero, List.getElem_cons_succ, List.setIfInBounds_toArray, List.set_cons_zero, List.set_cons_succ]
    refine wpAnyH_take (i := 5) (oi := _) (v := .int .i64 m.t) rfl (by kernel_rfl) (by kernel_rfl) (by kernel_rfl) (fun _ _ _ h => h) (Or.inl ⟨by rfl, ?_⟩) hH0 ?_
    · intro w hSw; go_simp
    simp only [Act.put, List.getElem_toArray, List.getElem_cons_zero, List.getElem_cons_succ, List.setIfInBounds_toArray, List.set_cons_zero, List.set_cons_succ]
    refine wpAnyH_take (i := 6) (oi := _) (v := .bool true) rfl (by kernel_rfl) (by kernel_rfl) (by kernel_rfl) (fun _ _ _ h => h) (Or.inl ⟨by rfl, ?_⟩) hH0 ?_
    · intro w hSw; go_simp
    simp only [Act.put, List.getElem_toArray, List.getElem_cons_zero, List.getElem_cons_succ, List.setIfInBounds_toArray, List.set_cons_zero, List.set_cons_succ]
    refine wpAnyH_take (i := 7) (oi := _) (v := .bool true) rfl (by kernel_rfl) (by kernel_rfl) (by kernel_rfl) (fun _ _ _ h => h) (Or.inl ⟨by rfl, ?_⟩) hH0 ?_
    · intro w hSw; go_simp
    simp only [Act.put, List.getElem_toArray, List.getElem_cons_zero, List.getElem_cons_succ, List.setIfInBounds_toArray, List.set_cons_zero, List.set_cons_succ]
    refine wpAnyH_take (i := 8) (oi := _) (v := .bool true) rfl (by kernel_rfl) (by kernel_rfl) (by kernel_rfl) (fun _ _ _ h => h) (Or.inl ⟨by rfl, ?_⟩) hH0 ?_
    · intro w hSw; go_simp
    simp only [Act.put, List.getElem_toArray, List.getElem_cons_zero, List.getElem_cons_succ, List.setIfInBounds_toArray, List.set_cons_zero, List.set_cons_succ]
    refine wpAnyH_take (i := 9) (oi := _) (v := .pointer (some ⟨bl, 0, none⟩)) rfl (by kernel_rfl) (by kernel_rfl) (by kernel_rfl) (fun _ _ _ h => h) (Or.inl ⟨by rfl, ?_⟩) hH0 ?_
    · intro w hSw; go_simp
    simp only [Act.put, List.getElem_toArray, List.getElem_cons_zero, List.getElem_cons_succ, List.setIfInBounds_toArray, List.set_cons_zero, List.set_cons_succ]
    refine wpAnyH_take (i := 13) (oi := _) (v := .pointer (some ⟨w.heap.size, 0, none⟩)) rfl (by kernel_rfl) (by kernel_rfl) (by kernel_rfl) (fun _ _ _ h => h) (Or.inl ⟨by rfl, ?_⟩) hH0 ?_
    · intro w hSw; go_simp
    simp only [Act.put, List.getElem_toArray, List.getElem_cons_zero, List.getElem_cons_succ, List.setIfInBounds_toArray, List.set_cons_zero, List.set_cons_succ]
    refine wpAnyH_take (i := 14) (oi := _) (v := .pointer (some ⟨w.heap.size, 2, none⟩)) rfl (by kernel_rfl) (by kernel_rfl) (by kernel_rfl) (fun _ _ _ h => h) (Or.inl ⟨by rfl, ?_⟩) hH0 ?_
    · intro w hSw; go_simp
    simp only [Act.put, List.getElem_toArray, List.getElem_cons_zero, List.getElem_cons_succ, List.setIfInBounds_toArray, List.set_cons_zero, List.set_cons_succ]
    refine wpAnyH_take (i := 15) (oi := _) (v := .slice ma m.u.cells.length mc) rfl (by kernel_rfl) (by kernel_rfl) (by kernel_rfl) (fun _ _ _ h => h) (Or.inl ⟨by rfl, ?_⟩) hH0 ?_
    · intro w hSw; go_simp
    simp only [Act.put, List.getElem_toArray, List.getElem_cons_zero, List.getElem_cons_succ, List.setIfInBounds_toArray, List.set_cons_zero, List.set_cons_succ]
    refine wpAnyH_take (i := 16) (oi := _) (v := .agg #[.int .i64 0, .int .i64 0, .slice ma m.u.cells.length mc]) rfl (by kernel_rfl) (by kernel_rfl) (by kernel_rfl) (fun _ _ _ h => h) (Or.inl ⟨by rfl, ?_⟩) hH0 ?_
    · intro w hSw; go_simp
    simp only [Act.put, List.getElem_toArray, List.getElem_cons_zero, List.getElem_cons_succ, List.setIfInBounds_toArray, List.set_cons_zero, List.set_cons_succ]
    refine wpAnyH_ready (rs := [10]) (by kernel_rfl) (by simp) (AllReadyH.cons (o := _) rfl (fun K hK => ?_) AllReadyH.nil)
    go_simp
    refine (mentries_any _ (H1.out.below (Nat.le_refl _) (by go_grown)) HL.out).mono ?_
    rintro en w4 ⟨E, ae, ce, rfl, hE, ho, hby, hb4⟩
    have HE := Lib.hid' hE
    have HO := Lib.hid' (SlV.of_own ho)
    have HBY := Lib.hid' (fun x hx => SlV.of_own (hby x hx))
    have HB4 := Lib.hid' (show Below w1.heap.size w1 w4 from below_call (B := w1.heap.size) (w := w1) (by go_grown) (by go_size) hb4)
    have HEl := Lib.hid' (show E.length ≤ 1048576 by have := congrArg List.length hE; rw [List.length_map, sortC_len] at this; rw [this]; exact HL.out)
    have y2 := (HB4.out.cell (p := ⟨w.heap.size, 2, none⟩) hxl).trans x2; have y3 := (HB4.out.cell (p := ⟨w.heap.size, 3, none⟩) hxl).trans x3
    have hy4 : w.heap.size < w4.heap.size := Nat.lt_of_lt_of_le hxl HB4.out.size
    clear hE ho hby hb4
    refine hK.out _ _ ?_ (fun hH1 => ?_)
    · exact ⟨y2, y3⟩
    clear hK K
    refine wpAnyH_ready (rs := [11]) (by kernel_rfl) (by simp) (AllReadyH.cons (o := _) rfl (fun K hK => ?_) AllReadyH.nil)
    go_simp
    refine (lEntries_any E ae ce _ HO.out (fun x hx => HBY.out x hx) HEl.out).mono ?_
    rintro en w5 ⟨a5, c5, rfl, ho5, hb5⟩
    have HO5 := Lib.hid' (SlV.of_own ho5)
    have HB5 := Lib.hid' (HB4.out.trans (hb5.mono HB4.out.size))
    have z2 := (hb5.cell (p := ⟨w.heap.size, 2, none⟩) hy4).trans y2; have z3 := (hb5.cell (p := ⟨w.heap.size, 3, none⟩) hy4).trans y3
    have hy5 : w.heap.size < w5.heap.size := Nat.lt_of_lt_of_le hy4 hb5.size
    clear ho5 hb5
    refine hK.out _ _ ?_ (fun hH2 => ?_)
    · exact ⟨z2, z3⟩
    clear hK K
    refine wpAnyH_take (i := 12) (oi := _) (v := .agg #[.int .i64 0, .int .i64 0, .slice a5 E.length c5]) rfl (by kernel_rfl) (by kernel_rfl) (by kernel_rfl) (fun _ _ _ h => h) (Or.inl ⟨by rfl, ?_⟩) hH2 ?_
    · intro w hSw; go_simp
    simp only [Act.put, List.getElem_toArray, List.getElem_cons_zero, List.getElem_cons_succ, List.setIfInBounds_toArray, List.set_cons_zero, List.set_cons_succ]
    refine wpAnyH_ready (rs := [17]) (by kernel_rfl) (by simp) (AllReadyH.cons (o := _) rfl (fun K hK => ?_) AllReadyH.nil)
    go_simp
    have hsm := rSame_any ⟨0, 0, E.map noAd⟩ ⟨0, 0, m.u.cells⟩ a5 c5 ma mc w5 (by unfold RList; rw [List.length_map]; exact HO5.out) (HM1.out.below (Nat.le_refl _) HB5.out)
    simp only [ruV, List.length_map] at hsm
    have hsm2 := Lib.hid' hsm
    clear hsm
    refine hsm2.out.mono ?_
    rintro en w6 ⟨rfl, hb6⟩
    rw [show (⟨0, 0, E.map noAd⟩ : U).rSame ⟨0, 0, m.u.cells⟩ = decide (sortC l.u.cells = m.u.cells) from by rw [HE.out]; simp [U.rSame]]
    have HB6 := Lib.hid' (HB5.out.trans (hb6.mono HB5.out.size))
    have v2 := (hb6.cell (p := ⟨w.heap.size, 2, none⟩) hy5).trans z2; have v3 := (hb6.cell (p := ⟨w.heap.size, 3, none⟩) hy5).trans z3
    clear hb6
    refine hK.out _ _ ?_ (fun hH3 => ?_)
    · exact ⟨v2, v3⟩
    clear hK K
    refine wpAnyH_take (i := 18) (oi := _) (v := .bool (decide (sortC l.u.cells = m.u.cells))) rfl (by kernel_rfl) (by kernel_rfl) (by kernel_rfl) (fun _ _ _ h => h) (Or.inl ⟨by rfl, ?_⟩) hH3 ?_
    · intro w hSw; go_simp
    simp only [Act.put, List.getElem_toArray, List.getElem_cons_zero, List.getElem_cons_succ, List.setIfInBounds_toArray, List.set_cons_zero, List.set_cons_succ]
    refine wpAnyH_take (i := 19) (oi := _) (v := .bool (decide (sortC l.u.cells = m.u.cells))) rfl (by kernel_rfl) (by kernel_rfl) (by kernel_rfl) (fun _ _ _ h => h) (Or.inl ⟨by rfl, ?_⟩) hH3 ?_
    · intro w hSw; go_simp
    simp only [Act.put, List.getElem_toArray, List.getElem_cons_zero, List.getElem_cons_succ, List.setIfInBounds_toArray, List.set_cons_zero, List.set_cons_succ]
    refine wpAnyH_done (by kernel_rfl) ?_ _
    go_wp2
    go_ret
    exact ⟨ret_eq (by rw [HF.out]; rfl), HB.out.trans (HB6.out.mono HB.out.size)⟩


/-- an act of layer 13's script, and where its data lie -/
structure A13 where
  k : Int
  un : Int
  a : Int
  c : C
  da : Option Addr
  dc : Nat
  ka : Option Addr
  kl : Nat
  kc : Nat
  sa : Option Addr
  sl : Nat
  sc : Nat
def a13V (x : A13) : List Value := [.int .i64 x.k, .int .i64 x.un, .int .i64 x.a, .int .i64 x.c.k, .slice x.da x.c.d.length x.dc, .slice x.ka x.kl x.kc, .slice x.sa x.sl x.sc]
structure A13.In (w : World) (x : A13) : Prop where
  d : Bytes w (.slice x.da x.c.d.length x.dc) x.c.d
  k : x.kl ≤ maxLen
  s : x.sl ≤ maxLen
def S13At (w : World) (v : Value) (X : List A13) : Prop := SlV w v X.length (X.flatMap a13V) ∧ ∀ x ∈ X, A13.In w x
theorem S13At.below {w w' : World} {v : Value} {X : List A13} (h : S13At w v X) {B : Nat} (hB : w.heap.size ≤ B) (hb : Below B w w') : S13At w' v X :=
  ⟨SlV.below h.1 hB hb, fun x hx => ⟨SlV.below (h.2 x hx).d hB hb, (h.2 x hx).k, (h.2 x hx).s⟩⟩
def longA (x : A13) : Bool := decide (100 < x.c.d.length) || decide (60 < x.kl) || decide (12 < x.sl)
def longS (X : List A13) (most : Nat) : Bool := X.any longA || decide (most < X.length)
set_option maxHeartbeats 2000000 in
theorem long13_any (X : List A13) (most : Nat) (hmost : most ≤ 1000) (a : Option Addr) (c : Nat) (W : World) (h : S13At W (.slice a X.length c) X) :
    Calls Try.prog 18 #[.slice a X.length c, .int .i64 most] W fun e w' => e = .returned (.bool (longS X most)) ∧ Below W.heap.size W w' := by
  have HS := Lib.hid' h
  have hlen : X.length ≤ 9223372036854775807 := by obtain ⟨_, _, he, h1, h2, _⟩ := h.1; cases he; unfold maxLen at h2; omega
  clear h
  go_enter Try.func18, Try.ntmps18
  go_wp2_with fail
  go_loopw [9] (fun v9 wr => ∃ k : Nat, v9 = .int .i64 k ∧ k ≤ X.length ∧ (X.take k).any longA = false ∧ Below W.heap.size W wr) (fun v9 _ => X.length - (intOf v9).toNat)
  case atStart => exact ⟨0, rfl, Nat.zero_le _, by simp, Below.refl _ _⟩
  case round =>
    obtain ⟨k, rfl, hk, hno, hbw⟩ := hrel
    have HNO := Lib.hid' hno
    have HBW := Lib.hid' hbw
    clear hno hbw
    by_cases hlt : k < X.length
    · obtain ⟨hsl, hby⟩ := HS.out.below (Nat.le_refl _) HBW.out
      obtain ⟨b, off, rfl, hb, hc⟩ := SlV.row (s := 7) (fun _ => rfl) (by decide) hsl hlt
      have c0 := hc 0 _ rfl; have c1 := hc 1 _ rfl; have c2 := hc 2 _ rfl; have c3 := hc 3 _ rfl; have c4 := hc 4 _ rfl; have c5 := hc 5 _ rfl; have c6 := hc 6 _ rfl
      simp only [Nat.add_zero] at c0
      have hin := hby _ (List.getElem_mem hlt)
      have hd := hin.d
      have hdl : X[k].c.d.length ≤ 9223372036854775807 := by obtain ⟨_, _, he, h1, h2, _⟩ := hd; cases he; unfold maxLen at h2; omega
      have hkl := hin.k; have hsl' := hin.s
      unfold maxLen at hkl hsl'
      have HTK := Lib.hid' (show (X.take (k + 1)).any longA = longA X[k] by rw [List.take_succ_eq_append_getElem hlt, List.any_append, HNO.out]; simp)
      have HMEM := Lib.hid' (List.getElem_mem hlt)
      clear hc hsl hby hin hd
      generalize X[k] = x at *
      by_cases hq : longA x = true
      · have HF := Lib.hid' (show longS X most = true by
          unfold longS; rw [Bool.or_eq_true]; left; exact List.any_eq_true.2 ⟨x, HMEM.out, hq⟩)
        have hq3 : 100 < x.c.d.length ∨ (¬ 100 < x.c.d.length ∧ 60 < x.kl) ∨ (¬ 100 < x.c.d.length ∧ ¬ 60 < x.kl ∧ 12 < x.sl) := by
          simp only [longA, Bool.or_eq_true, decide_eq_true_eq] at hq; omega
        clear hq
        rcases hq3 with hq | ⟨hq1, hq⟩ | ⟨hq1, hq2, hq⟩
        all_goals
          go_wp2_with fail
          go_ret
          exact ⟨ret_eq (by rw [HF.out]; rfl), HBW.out.trans ((show Below wr.heap.size wr _ by go_grown).mono HBW.out.size)⟩
      · have hqf : longA x = false := by simpa using hq
        have HT := Lib.hid' (HTK.out.trans hqf)
        have hq3 : ¬ 100 < x.c.d.length ∧ ¬ 60 < x.kl ∧ ¬ 12 < x.sl := by
          simp only [longA, Bool.or_eq_false_iff, decide_eq_false_iff_not] at hqf; omega
        obtain ⟨q1, q2, q3⟩ := hq3
        clear hq hqf HTK
        go_wp2_with fail
        go_roundw
        case rel => exact ⟨k + 1, by go_num, by omega, HT.out, HBW.out.trans ((show Below wr.heap.size wr _ by go_grown).mono HBW.out.size)⟩
        case measure => simp [intOf]; omega
    · have HF := Lib.hid' (show longS X most = decide (most < X.length) by
        have := HNO.out; rw [List.take_of_length_le (by omega)] at this; unfold longS; rw [this]; rfl)
      by_cases hm : most < X.length
      · have HM := Lib.hid' hm
        go_wp2_with fail
        go_ret
        exact ⟨ret_eq (by rw [HF.out]; simp [HM.out]), HBW.out⟩
      · have HM := Lib.hid' hm
        go_wp2_with fail
        go_ret
        exact ⟨ret_eq (by rw [HF.out]; simp [HM.out]), HBW.out⟩

end Go.Proofs.Ytjkbcjliaacebaa
