/- Layer 33 (model): Trim, Cut. -/
import Derived.Test.YtjkbcjliaacebaaMdlC
import Derived.StillTailTactics
namespace Go.Proofs.Ytjkbcjliaacebaa
open Go.RowKit
set_option linter.unusedSimpArgs false
set_option linter.unusedVariables false
set_option maxRecDepth 20000

theorem mtrimF_any (b1 b2 : Nat) (x l : Int) (v : Value) (w : World) (hv : IsCell v) (h1 : w.cell? ⟨b1, 0, none⟩ = some (.pointer (some ⟨b2, 0, none⟩))) (h2 : w.cell? ⟨b2, 1, none⟩ = some (.int .i64 l)) :
    Calls Try.prog 110 #[.int .i64 x, v, .pointer (some ⟨b1, 0, none⟩)] w fun en w' => en = .returned (.bool (decide (x < l))) ∧ Below w.heap.size w w' := by
  obtain ⟨k, a, n, c, rfl⟩ := hv
  have l1 := World.block_lt_of_cell? w _ h1
  have l2 := World.block_lt_of_cell? w _ h2
  simp only at l1 l2
  go_enter Try.func110, Try.ntmps110
  go_wp2
  go_ret
  exact ⟨rfl, by go_grown⟩
theorem mcutF_any (b1 : Nat) (x f : Int) (v : Value) (w : World) (hv : IsCell v) (h1 : w.cell? ⟨b1, 0, none⟩ = some (.int .i64 f)) :
    Calls Try.prog 68 #[.int .i64 x, v, .pointer (some ⟨b1, 0, none⟩)] w fun en w' => en = .returned (.bool (decide (f ≤ x))) ∧ Below w.heap.size w w' := by
  obtain ⟨k, a, n, c, rfl⟩ := hv
  have l1 := World.block_lt_of_cell? w _ h1
  simp only at l1
  go_enter Try.func68, Try.ntmps68
  go_wp2
  go_ret
  exact ⟨rfl, by go_grown⟩
theorem mcf_trim (args : Array Value) (w : World) : (callFunc 110 args).run Try.prog w = .ok (.enter 110 args) w := by kernel_rfl
theorem mcf_cut (args : Array Value) (w : World) : (callFunc 68 args).run Try.prog w = .ok (.enter 68 args) w := by kernel_rfl

/-- the cells that are left -/
theorem CellsAt.filt {A F : Nat → Prop} {w w3 : World} {bm : Nat} {M : List (Int × C)} {L : List (Int × Value)} {p : Int → Bool} (hL : F2 (EntIs A w) L M) (hm : MapAt w3 bm (L.filter (fun q => !p q.1))) (hf : Fr F w w3) (hF : ∀ k, F k → A k) : CellsAt A w3 bm (M.filter (fun q => !p q.1)) :=
  ⟨_, hm, (hL.filter (f := fun q => !p q.1) (g := fun q => !p q.1) (fun q r hqr => by rw [hqr.1])).mono fun _ _ _ _ h => h.fr hf hF⟩

set_option maxHeartbeats 1000000 in
theorem mtrim1_any {A : Nat → Prop} {bl bm : Nat} {m : M} (b : Int) (w : World) (h : LogAt A w bl bm m) (hA : ∀ k, A k → k < w.heap.size) (hok : (m.trim' b).ok) :
    Calls Try.prog 66 #[.pointer (some ⟨bl, 0, none⟩), .int .i64 b] w (LogR (.tuple #[]) A bl bm (m.trim' b) w) := by
  have H := Lib.hid' h
  have HOK := Lib.hid' hok
  have HNE := Lib.hid' h.ne
  have hlt := h.lt.1
  have hltm := h.lt.2
  obtain ⟨c0, c1, c2⟩ := h.cell
  have f1 := h.free 1
  have f2 := h.free 2
  clear h hok hA
  go_enter Try.func66, Try.ntmps66
  go_wp2_with fail
  have k1 : (w.alloc (.cells #[.pointer (some ⟨bl, 0, none⟩)] 43)).cell? ⟨w.heap.size, 0, none⟩ = some (.pointer (some ⟨bl, 0, none⟩)) := by simp [go_sem]
  have HG := Lib.hid' (show Below w.heap.size w (w.alloc (.cells #[.pointer (some ⟨bl, 0, none⟩)] 43)) by go_grown)
  have l0 : (w.alloc (.cells #[.pointer (some ⟨bl, 0, none⟩)] 43)).heap.size = w.heap.size + 1 := by simp
  generalize w.alloc (.cells #[.pointer (some ⟨bl, 0, none⟩)] 43) = w1 at *
  have HW1 := Lib.hid' (H.out.below (Nat.le_refl _) HG.out)
  have k2 := HW1.out.cell.2.1
  have k3 := HW1.out.cell.2.2
  have g1 := HW1.out.free 1
  have g2 := HW1.out.free 2
  clear c0 c1 c2 f1 f2
  go_region
  have b1 := Lib.hid' (heap_setCell_same w1 bl 1 _ _ (.int .i64 (max m.u.l b)) HW1.out.blk)
  have b2 := Lib.hid' (show ((w1.setCell ⟨bl, 1, none⟩ (.int .i64 (max m.u.l b))).setCell ⟨bl, 2, none⟩ (.int .i64 (max m.t b))).drew.heap[bl]? = some (.cells #[.map (some bm), .int .i64 (max m.u.l b), .int .i64 (max m.t b)] 108 (0, 0)) from heap_setCell_same _ bl 2 _ _ (.int .i64 (max m.t b)) b1.out)
  have hF := Lib.hid' (show Fr (fun k => k = bl) w1 ((w1.setCell ⟨bl, 1, none⟩ (.int .i64 (max m.u.l b))).setCell ⟨bl, 2, none⟩ (.int .i64 (max m.t b))).drew from ((fr_set w1 bl 1 _).trans (fr_set _ bl 2 _) (fun k hk => .inl hk)).trans_below (Below.drew (Below.refl _ _)))
  obtain ⟨L, hm, hL⟩ := HW1.out.map
  have HL := Lib.hid' hL
  have hne2 : ¬ bm = bl := fun h => HNE.out h.symm
  have q6 := Lib.hid' (show MapAt ((w1.setCell ⟨bl, 1, none⟩ (.int .i64 (max m.u.l b))).setCell ⟨bl, 2, none⟩ (.int .i64 (max m.t b))).drew bm L from hm.block (hF.out.block bm HW1.out.lt.2 hne2))
  have q1 : ((w1.setCell ⟨bl, 1, none⟩ (.int .i64 (max m.u.l b))).setCell ⟨bl, 2, none⟩ (.int .i64 (max m.t b))).drew.cell? ⟨w.heap.size, 0, none⟩ = some (.pointer (some ⟨bl, 0, none⟩)) := hF.out.cell k1 (by simp; omega)
  have q2 : ((w1.setCell ⟨bl, 1, none⟩ (.int .i64 (max m.u.l b))).setCell ⟨bl, 2, none⟩ (.int .i64 (max m.t b))).drew.cell? ⟨bl, 1, none⟩ = some (.int .i64 (max m.u.l b)) := by rw [cell_of_row _ bl 1 _ _ _ b2.out]; rfl
  have q3 : ((w1.setCell ⟨bl, 1, none⟩ (.int .i64 (max m.u.l b))).setCell ⟨bl, 2, none⟩ (.int .i64 (max m.t b))).drew.cell? ⟨bl, 0, none⟩ = some (.map (some bm)) := by rw [cell_of_row _ bl 0 _ _ _ b2.out]; rfl
  have q5 := Lib.hid' ((Fr.of_below (F := fun k => k = bl ∨ k = bm) HG.out).trans hF.out (fun k hk => .inl (.inl hk)))
  clear k1 k2 k3 g1 g2 hm hL b1 l0
  generalize ((w1.setCell ⟨bl, 1, none⟩ (.int .i64 (max m.u.l b))).setCell ⟨bl, 2, none⟩ (.int .i64 (max m.t b))).drew = w2 at *
  have lt2 := World.block_lt_of_cell? w2 _ q1
  simp only at lt2
  go_wp2_with fail
  refine (deleteFunc_any 110 #[.pointer (some ⟨w.heap.size, 0, none⟩)] (fun x => decide (x < max m.u.l b)) bm L _ q6.out HL.out.cells mcf_trim (Lib.hid' ?_)).mono ?_
  · intro w3 x v hf3 hv
    exact mtrimF_any _ _ _ _ _ _ hv (hf3.cell q1 (by simp; omega)) (hf3.cell q2 HNE.out)
  rintro en w3 ⟨rfl, hm3, hf3⟩
  have Hm3 := Lib.hid' hm3
  have Hf3 := Lib.hid' hf3
  clear hm3 hf3
  go_wp2
  go_end0
  have hfr := q5.out.trans Hf3.out (fun k hk => Or.inl (Or.inr hk))
  refine ⟨rfl, ⟨(Hf3.out.block _ (Nat.lt_trans hlt lt2) HNE.out).trans b2.out, ?_, HOK.out, H.out.abl, H.out.abm⟩, hfr⟩
  exact CellsAt.filt (p := fun x => decide (x < max m.u.l b)) HL.out Hm3.out ((hF.out.mono (F' := fun k => k = bl ∨ k = bm) (fun k hk => .inl hk)).trans Hf3.out (fun k hk => .inl (.inr hk))) (fun k hk => by rcases hk with rfl | rfl; exact H.out.abl; exact H.out.abm)
end Go.Proofs.Ytjkbcjliaacebaa
