/- Layer 8 (unit): Trim, Cut. -/
import Derived.Test.YtkljeefncopodaaGreatUnitD
import Derived.StillTailTactics
namespace Go.Proofs.YtkljeefncopodaaGreat
open Go.RowKit
set_option linter.unusedSimpArgs false
set_option linter.unusedVariables false
set_option maxRecDepth 20000

theorem F2.cells {A : Nat → Prop} {w : World} {L : List (Int × Value)} {M : List (Int × C)} (h : F2 (EntIs A w) L M) : ∀ q ∈ L, IsCell q.2 := fun q hq => by
  obtain ⟨r, _, _, a, cap, hv, _⟩ := h.mem_left hq
  exact ⟨_, _, _, _, hv⟩

theorem UnitAt.filt {A : Nat → Prop} {w w4 : World} {bu bm : Nat} {u : U} (h : UnitAt A w bu bm u) {L : List (Int × Value)} (hL : F2 (EntIs A w) L u.cells) (hf : Fr (fun k => k = bu ∨ k = bm) w w4) {p : Int → Bool} {l : Int}
    (hblk : w4.heap[bu]? = some (.cells #[.int .i64 u.e, .int .i64 l, .map (some bm)] 139 (0, 0))) (hm : MapAt w4 bm (L.filter (fun q => !p q.1))) (hok : U.ok { u with l := l, cells := u.cells.filter (fun q => !p q.1) }) :
    UnitAt A w4 bu bm { u with l := l, cells := u.cells.filter (fun q => !p q.1) } :=
  ⟨hblk, ⟨_, hm, (hL.mono fun q r _ _ hqr => hqr.fr hf (fun k hk => by rcases hk with rfl | rfl; exact h.abu; exact h.abm)).filter fun q r hqr => by rw [hqr.1]⟩, hok, h.abu, h.abm⟩

theorem trimF_any (b1 b2 : Nat) (x l : Int) (v : Value) (w : World) (hv : IsCell v) (h1 : w.cell? ⟨b1, 0, none⟩ = some (.pointer (some ⟨b2, 0, none⟩))) (h2 : w.cell? ⟨b2, 1, none⟩ = some (.int .i64 l)) :
    Calls Tryz.prog 136 #[.int .i64 x, v, .pointer (some ⟨b1, 0, none⟩)] w fun en w' => en = .returned (.bool (decide (x < l))) ∧ Below w.heap.size w w' := by
  obtain ⟨k, a, n, c, rfl⟩ := hv
  have l1 := World.block_lt_of_cell? w _ h1
  have l2 := World.block_lt_of_cell? w _ h2
  simp only at l1 l2
  go_enter Tryz.func136, Tryz.ntmps136
  go_wp2
  go_ret
  exact ⟨rfl, by go_grown⟩
theorem cutF_any (b1 : Nat) (x f : Int) (v : Value) (w : World) (hv : IsCell v) (h1 : w.cell? ⟨b1, 0, none⟩ = some (.int .i64 f)) :
    Calls Tryz.prog 137 #[.int .i64 x, v, .pointer (some ⟨b1, 0, none⟩)] w fun en w' => en = .returned (.bool (decide (f ≤ x))) ∧ Below w.heap.size w w' := by
  obtain ⟨k, a, n, c, rfl⟩ := hv
  have l1 := World.block_lt_of_cell? w _ h1
  simp only at l1
  go_enter Tryz.func137, Tryz.ntmps137
  go_wp2
  go_ret
  exact ⟨rfl, by go_grown⟩

theorem cf_trim (args : Array Value) (w : World) : (callFunc 136 args).run Tryz.prog w = .ok (.enter 136 args) w := by kernel_rfl
theorem cf_cut (args : Array Value) (w : World) : (callFunc 137 args).run Tryz.prog w = .ok (.enter 137 args) w := by kernel_rfl

set_option maxHeartbeats 1000000 in
theorem trim_any {A : Nat → Prop} {bu bm : Nat} {u : U} (e b : Int) (w : World) (h : UnitAt A w bu bm u) (hA : ∀ k, A k → k < w.heap.size) :
    Calls Tryz.prog 79 #[.pointer (some ⟨bu, 0, none⟩), .int .i64 e, .int .i64 b] w (UnitR (errV (u.trim e b).1) A bu bm (u.trim e b).2 w) := by
  have H := Lib.hid' h
  have hok := Lib.hid' (U.ok_trim h.ok e b)
  have HNE := Lib.hid' h.ne
  have hlt := h.lt.1
  have hltm := h.lt.2
  have c1 := h.cell.2.1
  have c2 := h.cell.2.2
  have f1 := h.free 1
  clear h hA
  by_cases hq : u.asks e (inR b 1048576) = 0
  rotate_left
  · have Hf := Lib.hid' (show u.trim e b = (u.asks e (inR b 1048576), u) by simp [U.trim, hq])
    have HQ := Lib.hid' hq
    clear hq
    go_enter Tryz.func79, Tryz.ntmps79
    go_wp2_with fail
    go_region_held3 (fun w' => w'.cell? ⟨w.heap.size, 0, none⟩ = some (.pointer (some ⟨bu, 0, none⟩))) (go_keep) (first | (go_at_call 67; refine (in_any _ _ _).mono ?_; rintro en w' ⟨rfl, rfl⟩) | (go_at_call 134; refine (asks_any _ _ _ (H.out.below (Nat.le_refl _) (by go_grown))).mono ?_; rintro en w' ⟨rfl, rfl⟩; rw [errV_pos HQ.out]))
    go_wp2
    go_ret
    rw [Hf.out, errV_pos HQ.out]
    exact UnitR.same H.out rfl (by go_grown)
  have HQ := Lib.hid' hq
  have hin := asks_in (show ¬ u.asks e (inR b 1048576) ≠ 0 by simp [hq])
  simp [inR] at hin
  have Hf := Lib.hid' (show u.trim e b = (0, { u with l := max u.l b, cells := u.cells.filter (fun p => !decide (p.1 < max u.l b)) }) by simp [U.trim, hq])
  obtain ⟨L, hm, hL⟩ := H.out.map
  have HM := Lib.hid' hm
  have HL := Lib.hid' hL
  clear hq hm hL
  go_enter Tryz.func79, Tryz.ntmps79
  go_wp2_with fail
  go_region_held3 (fun w' => w'.cell? ⟨w.heap.size, 0, none⟩ = some (.pointer (some ⟨bu, 0, none⟩))) (go_keep) (first | (go_at_call 67; refine (in_any _ _ _).mono ?_; rintro en w' ⟨rfl, rfl⟩) | (go_at_call 134; refine (asks_any _ _ _ (H.out.below (Nat.le_refl _) (by go_grown))).mono ?_; rintro en w' ⟨rfl, rfl⟩; rw [HQ.out, errV_0]))
  go_wp2_with fail
  have k1 : (w.alloc (.cells #[.pointer (some ⟨bu, 0, none⟩)] 49)).drew.cell? ⟨w.heap.size, 0, none⟩ = some (.pointer (some ⟨bu, 0, none⟩)) := by simp [go_sem]
  have k2 : (w.alloc (.cells #[.pointer (some ⟨bu, 0, none⟩)] 49)).drew.cell? ⟨bu, 1, none⟩ = some (.int .i64 u.l) := by simp [go_sem, c1, hlt]
  have k3 : (w.alloc (.cells #[.pointer (some ⟨bu, 0, none⟩)] 49)).drew.frozen? ⟨bu, 1, none⟩ = false := by simp [go_sem, f1, hlt]
  have k4 := Lib.hid' (show Below w.heap.size w (w.alloc (.cells #[.pointer (some ⟨bu, 0, none⟩)] 49)).drew by go_grown)
  have k5 : w.heap.size < (w.alloc (.cells #[.pointer (some ⟨bu, 0, none⟩)] 49)).drew.heap.size := by simp
  generalize (w.alloc (.cells #[.pointer (some ⟨bu, 0, none⟩)] 49)).drew = w1 at *
  go_region
  have hmx : (if u.l < b then b else u.l) = max u.l b := by split <;> omega
  rw [hmx]
  have HW1 := Lib.hid' (H.out.below (Nat.le_refl _) k4.out)
  have q1 : (w1.setCell ⟨bu, 1, none⟩ (.int .i64 (max u.l b))).drew.cell? ⟨w.heap.size, 0, none⟩ = some (.pointer (some ⟨bu, 0, none⟩)) := by
    rw [← k1]; exact World.cell?_of_block (w := w1) (heap_setCell_other _ _ _ _ (by simp; omega))
  have q2 : (w1.setCell ⟨bu, 1, none⟩ (.int .i64 (max u.l b))).drew.cell? ⟨bu, 1, none⟩ = some (.int .i64 (max u.l b)) := by
    show (w1.setCell ⟨bu, 1, none⟩ (.int .i64 (max u.l b))).cell? ⟨bu, 1, none⟩ = _
    rw [cell_of_row _ bu 1 _ _ _ (heap_setCell_same w1 bu 1 _ _ _ HW1.out.blk)]; rfl
  have q3 : (w1.setCell ⟨bu, 1, none⟩ (.int .i64 (max u.l b))).drew.cell? ⟨bu, 2, none⟩ = some (.map (some bm)) := by
    show (w1.setCell ⟨bu, 1, none⟩ (.int .i64 (max u.l b))).cell? ⟨bu, 2, none⟩ = _
    rw [cell_of_row _ bu 2 _ _ _ (heap_setCell_same w1 bu 1 _ _ _ HW1.out.blk)]; rfl
  have q4 := Lib.hid' (show (w1.setCell ⟨bu, 1, none⟩ (.int .i64 (max u.l b))).drew.heap[bu]? = _ from heap_setCell_same w1 bu 1 _ _ (.int .i64 (max u.l b)) HW1.out.blk)
  have q5 := Lib.hid' (show Fr (fun k => k = bu ∨ k = bm) w (w1.setCell ⟨bu, 1, none⟩ (.int .i64 (max u.l b))).drew from ((Fr.of_below k4.out).trans (fr_setCell w1 bu 1 _) (fun k hk => Or.inl (Or.inl hk))).trans_below (Below.refl _ _).drew)
  have q6 := Lib.hid' (show MapAt (w1.setCell ⟨bu, 1, none⟩ (.int .i64 (max u.l b))).drew bm L from HM.out.block ((heap_setCell_other _ _ _ _ (fun h => HNE.out h.symm)).trans (k4.out.block bm hltm)))
  clear hmx k1 k2 k3 k5 f1 c1 c2
  generalize (w1.setCell ⟨bu, 1, none⟩ (.int .i64 (max u.l b))).drew = w2 at *
  have lt2 := World.block_lt_of_cell? w2 _ q1
  simp only at lt2
  go_wp2_with fail
  refine (deleteFunc_any 136 #[.pointer (some ⟨w.heap.size, 0, none⟩)] (fun x => decide (x < max u.l b)) bm L _ q6.out HL.out.cells cf_trim (Lib.hid' ?_)).mono ?_
  · intro w3 x v hf3 hv
    exact trimF_any _ _ _ _ _ _ hv (hf3.cell q1 (by simp; omega)) (hf3.cell q2 HNE.out)
  rintro en w3 ⟨rfl, hm3, hf3⟩
  go_wp2
  go_ret
  rw [Hf.out]
  have hfr := q5.out.trans hf3 (fun k hk => Or.inl (Or.inr hk))
  refine ⟨rfl, ?_, hfr⟩
  exact H.out.filt (p := fun x => decide (x < max u.l b)) HL.out hfr ((hf3.block _ (Nat.lt_trans hlt lt2) HNE.out).trans q4.out) hm3 (by have := hok.out; rw [Hf.out] at this; exact this)

set_option maxHeartbeats 1000000 in
theorem cut_any {A : Nat → Prop} {bu bm : Nat} {u : U} (e f : Int) (w : World) (h : UnitAt A w bu bm u) (hA : ∀ k, A k → k < w.heap.size) (hcount : u.cells.length ≤ 1048576) :
    Calls Tryz.prog 80 #[.pointer (some ⟨bu, 0, none⟩), .int .i64 e, .int .i64 f] w (UnitR (.tuple #[.int .i64 (u.cut e f).2.1, errV (u.cut e f).1]) A bu bm (u.cut e f).2.2 w) := by
  have H := Lib.hid' h
  have hok := Lib.hid' (U.ok_cut h.ok e f)
  have HNE := Lib.hid' h.ne
  have hlt := h.lt.1
  have hltm := h.lt.2
  have c1 := h.cell.2.1
  have c2 := h.cell.2.2
  clear h hA
  by_cases hq : u.asks e (inR f 1048576) = 0
  rotate_left
  · have Hf := Lib.hid' (show u.cut e f = (u.asks e (inR f 1048576), 0, u) by simp [U.cut, hq])
    have HQ := Lib.hid' hq
    clear hq hcount
    go_enter Tryz.func80, Tryz.ntmps80
    go_wp2_with (go_at_call 67; refine (in_any _ _ _).mono ?_; rintro en w' ⟨rfl, rfl⟩)
    refine (asks_any _ _ _ (H.out.below (Nat.le_refl _) (by go_grown))).mono ?_
    rintro en w' ⟨rfl, rfl⟩
    rw [errV_pos HQ.out]
    go_wp2
    go_ret2
    rw [Hf.out, errV_pos HQ.out]
    exact UnitR.same H.out rfl (by go_grown)
  have HQ := Lib.hid' hq
  by_cases hl : f < u.l
  · have Hf := Lib.hid' (show u.cut e f = (9, 0, u) by simp [U.cut, hq, hl])
    clear hq hcount
    go_enter Tryz.func80, Tryz.ntmps80
    go_wp2_with (go_at_call 67; refine (in_any _ _ _).mono ?_; rintro en w' ⟨rfl, rfl⟩)
    refine (asks_any _ _ _ (H.out.below (Nat.le_refl _) (by go_grown))).mono ?_
    rintro en w' ⟨rfl, rfl⟩
    rw [HQ.out, errV_0]
    go_wp2_with fail
    go_region_held3 (fun w' => w'.cell? ⟨w.heap.size, 0, none⟩ = some (.int .i64 f) ∧ w'.cell? ⟨bu, 1, none⟩ = some (.int .i64 u.l)) (go_keep) (fail)
    go_wp2
    go_ret2
    rw [Hf.out]
    exact UnitR.same H.out rfl (by go_grown)
  have Hf := Lib.hid' (show u.cut e f = (0, (u.cells.length : Int) - (u.cells.filter (fun p => !decide (f ≤ p.1))).length, { u with cells := u.cells.filter (fun p => !decide (f ≤ p.1)) }) by simp [U.cut, hq, hl])
  obtain ⟨L, hm, hL⟩ := H.out.map
  have HM := Lib.hid' hm
  have HL := Lib.hid' hL
  have hn1 := Lib.hid' hL.length
  have hn2 := Lib.hid' (hL.filter (f := fun q => !decide (f ≤ q.1)) (g := fun q => !decide (f ≤ q.1)) (fun q r hqr => by rw [hqr.1])).length
  clear hq hm hL
  go_enter Tryz.func80, Tryz.ntmps80
  go_wp2_with (go_at_call 67; refine (in_any _ _ _).mono ?_; rintro en w' ⟨rfl, rfl⟩)
  refine (asks_any _ _ _ (H.out.below (Nat.le_refl _) (by go_grown))).mono ?_
  rintro en w' ⟨rfl, rfl⟩
  rw [HQ.out, errV_0]
  go_wp2_with fail
  go_region_held3 (fun w' => w'.cell? ⟨w.heap.size, 0, none⟩ = some (.int .i64 f) ∧ w'.cell? ⟨bu, 1, none⟩ = some (.int .i64 u.l)) (go_keep) (fail)
  have k1 : (w.alloc (.cells #[.int .i64 f] 3)).drew.cell? ⟨w.heap.size, 0, none⟩ = some (.int .i64 f) := by simp [go_sem]
  have k2 : (w.alloc (.cells #[.int .i64 f] 3)).drew.cell? ⟨bu, 2, none⟩ = some (.map (some bm)) := by simp [go_sem, c2, hlt]
  have k4 := Lib.hid' (show Below w.heap.size w (w.alloc (.cells #[.int .i64 f] 3)).drew by go_grown)
  have k5 : w.heap.size < (w.alloc (.cells #[.int .i64 f] 3)).drew.heap.size := by simp
  generalize (w.alloc (.cells #[.int .i64 f] 3)).drew = w1 at *
  have HM1 := Lib.hid' (HM.out.block (k4.out.block bm hltm))
  have hn1' : L.length ≤ 1048576 := by have := hn1.out; omega
  have hn2' : (L.filter (fun q => !decide (f ≤ q.1))).length ≤ L.length := List.length_filter_le _ _
  clear hcount c1 c2
  go_wp2_with (at_len; refine wp_len (b := bm) (L := L) mtCells rfl (.tmp 28) rfl rfl HM1.out ?_)
  refine (deleteFunc_any 137 #[.pointer (some ⟨w.heap.size, 0, none⟩)] (fun x => decide (f ≤ x)) bm L _ HM1.out HL.out.cells cf_cut (Lib.hid' ?_)).mono ?_
  · intro w3 x v hf3 hv
    exact cutF_any _ _ _ _ _ hv (hf3.cell k1 (by simp; omega))
  rintro en w3 ⟨rfl, hm3, hf3⟩
  have q3 : w3.cell? ⟨bu, 2, none⟩ = some (.map (some bm)) := hf3.cell k2 HNE.out
  have Hm3 := Lib.hid' hm3
  have Hf3 := Lib.hid' hf3
  clear hm3 hf3
  go_wp2_with (at_len; refine wp_len (b := bm) (L := L.filter (fun q => !decide (f ≤ q.1))) mtCells rfl (.tmp 40) rfl rfl Hm3.out ?_)
  go_ret2
  rw [Hf.out]
  have hfr := (Fr.of_below (F := fun k => k = bu ∨ k = bm) k4.out).trans Hf3.out (fun k hk => Or.inl (Or.inr hk))
  refine ⟨ret_eq ?_, ?_, hfr⟩
  · rw [← hn1.out, ← hn2.out]; rfl
  · exact H.out.filt (p := fun x => decide (f ≤ x)) (l := u.l) HL.out hfr (((Hf3.out.block _ (Nat.lt_trans hlt k5) HNE.out).trans (k4.out.block bu hlt)).trans H.out.blk) Hm3.out (by have := hok.out; rw [Hf.out] at this; exact this)

end Go.Proofs.YtkljeefncopodaaGreat
