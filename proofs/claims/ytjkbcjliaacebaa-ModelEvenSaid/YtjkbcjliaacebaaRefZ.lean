/- The document's unit (holdfastref08): Trim, Cut. -/
import Derived.Test.YtjkbcjliaacebaaRefY
namespace Go.Proofs.Ytjkbcjliaacebaa
open Go.RowKit
set_option linter.unusedSimpArgs false
set_option linter.unusedVariables false
set_option maxRecDepth 20000

theorem Box2.set1 {N : Nat} {e l : Int} {s : Value} {R : List Value} {w : World} (h : Box2 N e l s R w) (x : Int) : Box2 N e x s R (w.setCell ⟨N, 1, none⟩ (.int .i64 x)) := by
  obtain ⟨a, b, c, d, f, g, i, j, k⟩ := h
  have hn : ∀ o, w.cell? ⟨N, o, none⟩ ≠ none → (w.setCell ⟨N, 1, none⟩ (.int .i64 x)).cell? ⟨N, o, none⟩ = if o = 1 then some (.int .i64 x) else w.cell? ⟨N, o, none⟩ := by
    intro o ho
    by_cases h1 : o = 1
    · subst h1; simp [go_sem, b]
    · rw [if_neg h1]
      cases hc : w.cell? ⟨N, o, none⟩ with
      | none => exact absurd hc ho
      | some v => have h1' : ¬ 1 = o := fun h => h1 h.symm; simp [go_sem, hc, h1, h1']
  have hfz : ∀ B o, (w.setCell ⟨N, 1, none⟩ (.int .i64 x)).frozen? ⟨B, o, none⟩ = w.frozen? ⟨B, o, none⟩ := fun B o => by simp [go_sem]
  refine ⟨?_, ?_, ?_, ?_, ?_, ?_, ?_, ?_, by simpa using k⟩
  · rw [hn 0 (by rw [a]; simp)]; exact a
  · rw [hn 1 (by rw [b]; simp)]; rfl
  · rw [hn 2 (by rw [c]; simp)]; exact c
  · rw [hfz]; exact d
  · rw [hfz]; exact f
  · rw [hfz]; exact g
  · intro q v hq
    rw [← i q v hq]; exact World.cell?_of_block (w := w) (heap_setCell_other _ _ _ _ (by simp))
  · intro q; rw [hfz]; exact j q

set_option maxHeartbeats 4000000 in
theorem rTrim_any (u : U) (ad : Option Addr) (cap : Nat) (e b : Int) (w : World) (h : RList w (.slice ad u.cells.length cap) u.cells) (hc : u.cells.length ≤ 4194304) :
    Calls Try.prog 89 #[ruV u ad cap, .int .i64 e, .int .i64 b] w (RUN (u.rTrim e b).1 (u.rTrim e b).2 w) := by
  have H := Lib.hid' h; have hcount := Lib.hid' hc; clear h hc; unfold ruV
  by_cases h1 : b < 0 ∨ 1048576 < b
  · have Hf := Lib.hid' (show u.rTrim e b = (u, 1) by simp [U.rTrim, h1])
    rcases h1 with h1 | h1
    · skip
      go_enter Try.func89, Try.ntmps89
      go_wp2
      refine bodyPost_ret (v := .tuple #[.agg #[.int .i64 u.e, .int .i64 u.l, .slice ad u.cells.length cap], .int .i64 1]) (by simp [results, Try.results89, go_sem]) rfl ?_
      rw [Hf.out]
      exact ⟨ad, cap, rfl, H.out.below (Nat.le_refl _) (by go_grown), by go_grown⟩
    · have h1b : ¬ b < 0 := by omega
      go_enter Try.func89, Try.ntmps89
      go_wp2
      refine bodyPost_ret (v := .tuple #[.agg #[.int .i64 u.e, .int .i64 u.l, .slice ad u.cells.length cap], .int .i64 1]) (by simp [results, Try.results89, go_sem]) rfl ?_
      rw [Hf.out]
      exact ⟨ad, cap, rfl, H.out.below (Nat.le_refl _) (by go_grown), by go_grown⟩
  have h1a : ¬ b < 0 := by omega
  have h1b : ¬ 1048576 < b := by omega
  by_cases hc0 : u.cur e = 0
  rotate_left
  · have Hf := Lib.hid' (show u.rTrim e b = (u, u.cur e) by simp [U.rTrim, h1, hc0])
    have hc1 : (((u.cur e : Nat) : Int) != 0) = true := by rw [bne_iff_ne]; omega
    clear h1 hc0
    go_enter Try.func89, Try.ntmps89
    go_wp2_with fail
    have HX := Lib.hid' (Box2.start w u.e u.l (.slice ad u.cells.length cap) zU 61 61)
    have hb0 := Lib.hid' (show Below w.heap.size w ((w.alloc (.cells #[.int .i64 u.e, .int .i64 u.l, .slice ad u.cells.length cap] 61)).alloc (.cells #[.int .i64 0, .int .i64 0, .slice none 0 0] 61)) by go_grown)
    have e0 : (w.alloc (.cells #[.int .i64 u.e, .int .i64 u.l, .slice ad u.cells.length cap] 61)).alloc (.cells zU.toArray 61) = (w.alloc (.cells #[.int .i64 u.e, .int .i64 u.l, .slice ad u.cells.length cap] 61)).alloc (.cells #[.int .i64 0, .int .i64 0, .slice none 0 0] 61) := rfl
    rw [e0] at HX; clear e0
    generalize (w.alloc (.cells #[.int .i64 u.e, .int .i64 u.l, .slice ad u.cells.length cap] 61)).alloc (.cells #[.int .i64 0, .int .i64 0, .slice none 0 0] 61) = w0 at *
    refine (rCur_any u ad cap e _).mono ?_
    rintro en w1 ⟨rfl, hb1⟩
    have HX1 := Lib.hid' (HX.out.below (Nat.le_refl _) hb1)
    have HB1 := Lib.hid' (below_call hb0.out hb0.out.size hb1)
    obtain ⟨x0, x1, x2, y0, y1, y2, xr, xf, xs⟩ := HX1.out
    clear hb1
    have r0 := xr 0 _ rfl; have r1 := xr 1 _ rfl; have r2 := xr 2 _ rfl
    have f0 := xf 0; have f1 := xf 1; have f2 := xf 2
    clear xr xf
    go_wp2
    refine bodyPost_ret (v := .tuple #[.agg #[.int .i64 u.e, .int .i64 u.l, .slice ad u.cells.length cap], .int .i64 (u.cur e : Nat)]) (by simp [results, Try.results89, go_sem, r0, r1, r2]) rfl ?_
    rw [Hf.out]
    exact ⟨ad, cap, rfl, H.out.below (Nat.le_refl _) (by first | exact set3_below HB1.out _ _ _ | (refine Below.trans ?_ (Below.refl _ _).drew; exact set3_below HB1.out _ _ _) | (exact set3_below (HB1.out.drew) _ _ _)), by first | exact set3_below HB1.out _ _ _ | (exact set3_below (HB1.out.drew) _ _ _)⟩
  have HC := Lib.hid' hc0
  have Hf := Lib.hid' (show u.rTrim e b = ({ u with l := max u.l b, cells := u.cells.filter (fun p => decide (max u.l b ≤ p.1)) }, 0) by simp [U.rTrim, h1, hc0])
  clear h1 hc0
  go_enter Try.func89, Try.ntmps89
  go_wp2_with fail
  have HX := Lib.hid' (Box2.start w u.e u.l (.slice ad u.cells.length cap) zU 61 61)
  have hb0 := Lib.hid' (show Below w.heap.size w ((w.alloc (.cells #[.int .i64 u.e, .int .i64 u.l, .slice ad u.cells.length cap] 61)).alloc (.cells #[.int .i64 0, .int .i64 0, .slice none 0 0] 61)) by go_grown)
  have e0 : (w.alloc (.cells #[.int .i64 u.e, .int .i64 u.l, .slice ad u.cells.length cap] 61)).alloc (.cells zU.toArray 61) = (w.alloc (.cells #[.int .i64 u.e, .int .i64 u.l, .slice ad u.cells.length cap] 61)).alloc (.cells #[.int .i64 0, .int .i64 0, .slice none 0 0] 61) := rfl
  rw [e0] at HX; clear e0
  generalize (w.alloc (.cells #[.int .i64 u.e, .int .i64 u.l, .slice ad u.cells.length cap] 61)).alloc (.cells #[.int .i64 0, .int .i64 0, .slice none 0 0] 61) = w0 at *
  refine (rCur_any u ad cap e _).mono ?_
  rintro en w1 ⟨rfl, hb1⟩
  have HX1 := Lib.hid' (HX.out.below (Nat.le_refl _) hb1)
  have HB1 := Lib.hid' (below_call hb0.out hb0.out.size hb1)
  obtain ⟨x0, x1, x2, y0, y1, y2, xr, xf, xs⟩ := HX1.out
  clear hb1
  rw [show ((u.cur e : Nat) : Int) = 0 by rw [HC.out]; rfl]
  have cut : ∃ lv : Int, lv = max u.l b := ⟨_, rfl⟩
  obtain ⟨lv, hlv⟩ := cut
  have fin : ∀ wL : World, Box2 w.heap.size u.e lv (.slice ad u.cells.length cap) zU wL → Below w.heap.size w wL → True := fun _ _ _ => trivial
  clear fin
  by_cases hlb : u.l < b
  · obtain rfl : b = lv := by omega
    have Hlv := Lib.hid' hlv; clear hlv
    have HXa := Lib.hid' (HX1.out.set1 b)
    have HBa := Lib.hid' (HB1.out.setCell (p := ⟨w.heap.size, 1, none⟩) (by simp) (.int .i64 b))
    clear x0 x2 xr xf xs y0 y2
    go_wp2_with fail
    have e4 : w1.heap.size = (w1.setCell ⟨w.heap.size, 1, none⟩ (.int .i64 b)).heap.size := by simp
    rw [e4]; clear e4
    generalize w1.setCell ⟨w.heap.size, 1, none⟩ (.int .i64 b) = w4 at *
    go_loopw [9, 10] (fun vo vi wr => ∃ (k : Nat) (O : List (Int × C)) (a' : Option Addr) (c' : Nat), vo = .slice a' O.length c' ∧ vi = .int .i64 k ∧ k ≤ u.cells.length ∧ O = (u.cells.take k).filter (fun p => decide (b ≤ p.1)) ∧ wr.ownsRow w4.heap.size 169 3 (.slice a' O.length c') O.length (rents O) ∧ Below w4.heap.size w4 wr) (fun _ vi _ => u.cells.length - (intOf vi).toNat)
    case atStart => exact ⟨0, [], _, _, rfl, rfl, Nat.zero_le _, by simp, own_empty _ _ _, by go_grown⟩
    case round =>
      obtain ⟨k, O, a', c', rfl, rfl, hk, hO, ho, hbr⟩ := hrel
      have HO' := Lib.hid' hO
      have HO := Lib.hid' ho
      have HBR := Lib.hid' hbr
      have HXr := Lib.hid' (HXa.out.below (Nat.le_refl _) hbr)
      obtain ⟨x0, x1, x2, y0, y1, y2, xr, xf, xs⟩ := HXr.out
      have hws : w4.heap.size ≤ wr.heap.size := hbr.size
      have hn0 : O.length ≤ u.cells.length := by rw [hO]; exact Nat.le_trans (List.length_filter_le _ _) (by rw [List.length_take]; omega)
      have hcc := hcount.out
      have hxa := HXa.out.2.2.2.2.2.2.2.2
      clear hO ho
      by_cases hlt : k < u.cells.length
      · obtain ⟨b0, off, rfl, hb, c0, c1, c2⟩ := H.out.get hlt
        have hbw := Lib.hid' (HBa.out.trans (hbr.mono HBa.out.size))
        have d0 : wr.cell? ⟨b0, off + k * 3, none⟩ = some (.int .i64 u.cells[k].1) := ((bcell hbw.out).1 _ _ hb).trans c0
        have d1 : wr.cell? ⟨b0, off + k * 3 + 1, none⟩ = some (.int .i64 u.cells[k].2.k) := ((bcell hbw.out).1 _ _ hb).trans c1
        have d2 : wr.cell? ⟨b0, off + k * 3 + 2, none⟩ = some (.string (strOf u.cells[k].2.d)) := ((bcell hbw.out).1 _ _ hb).trans c2
        have hbr0 : b0 < wr.heap.size := Nat.lt_of_lt_of_le hb hbw.out.size
        have Hnx := Lib.hid' (take_succ u.cells k hlt)
        clear c0 c1 c2 hbr xr xf
        by_cases hp : b ≤ u.cells[k].1
        · have Hp := Lib.hid' hp
          go_wp2_with fail
          go_region_held3 (fun w' => w'.cell? ⟨w.heap.size, 1, none⟩ = some (.int .i64 b) ∧ w'.cell? ⟨w.heap.size, 2, none⟩ = some (.slice (some ⟨b0, off, none⟩) u.cells.length cap) ∧ w'.cell? ⟨b0, off + k * 3, none⟩ = some (.int .i64 u.cells[k].1)) (go_keep) (fail)
          have HO2 := Lib.hid' (show wr.drew.ownsRow w4.heap.size 169 3 (.slice a' O.length c') O.length (rents O) from HO.out)
          have HBR2 := Lib.hid' (show Below w4.heap.size w4 wr.drew from HBR.out.drew)
          have g2 : wr.drew.cell? ⟨w.heap.size, 2, none⟩ = some (.slice (some ⟨b0, off, none⟩) u.cells.length cap) := x2
          have g3 : wr.drew.cell? ⟨b0, off + k * 3, none⟩ = some (.int .i64 u.cells[k].1) := d0
          have g4 : wr.drew.cell? ⟨b0, off + k * 3 + 1, none⟩ = some (.int .i64 u.cells[k].2.k) := d1
          have g5 : wr.drew.cell? ⟨b0, off + k * 3 + 2, none⟩ = some (.string (strOf u.cells[k].2.d)) := d2
          have hws2 : w4.heap.size ≤ wr.drew.heap.size := hws
          clear x0 x1 x2 y0 y1 y2 d0 d1 d2 HXr HO HBR hbw hws hbr0 xs
          generalize wr.drew = wq at *
          go_wp2_with (at_builtin; refine append_one etREnt rfl (.tmp 48) (.tmp 54) rfl [.int .i64 u.cells[k].1, .int .i64 u.cells[k].2.k, .string (strOf u.cells[k].2.d)] rfl w4.heap.size _ _ _ rfl HO2.out rfl (one3 _ _ _) (by omega) hws2 ?_)
          intro a2 c2 w5 ho2 hf2
          have HO3 := Lib.hid' ho2
          have HB3 := Lib.hid' (hf2.row HO2.out (Nat.le_refl _) hws2 HBR2.out)
          clear ho2 hf2
          go_wp2
          go_roundw
          case rel =>
            refine ⟨k + 1, O ++ [u.cells[k]], a2, c2, by simp, by go_num, by omega, ?_, ?_, HB3.out⟩
            · have := Hp.out; rw [Hnx.out, List.filter_append, ← HO'.out]; simp [this]
            · rw [rents_append, List.length_append]; exact HO3.out
          case measure => simp [intOf]; omega
        · have Hp := Lib.hid' hp
          go_wp2_with fail
          go_region_held3 (fun w' => w'.cell? ⟨w.heap.size, 1, none⟩ = some (.int .i64 b) ∧ w'.cell? ⟨w.heap.size, 2, none⟩ = some (.slice (some ⟨b0, off, none⟩) u.cells.length cap) ∧ w'.cell? ⟨b0, off + k * 3, none⟩ = some (.int .i64 u.cells[k].1)) (go_keep) (fail)
          have HO2 := Lib.hid' (show wr.drew.ownsRow w4.heap.size 169 3 (.slice a' O.length c') O.length (rents O) from HO.out)
          have HBR2 := Lib.hid' (show Below w4.heap.size w4 wr.drew from HBR.out.drew)
          have g2 : wr.drew.cell? ⟨w.heap.size, 2, none⟩ = some (.slice (some ⟨b0, off, none⟩) u.cells.length cap) := x2
          have g3 : wr.drew.cell? ⟨b0, off + k * 3, none⟩ = some (.int .i64 u.cells[k].1) := d0
          have g4 : wr.drew.cell? ⟨b0, off + k * 3 + 1, none⟩ = some (.int .i64 u.cells[k].2.k) := d1
          have g5 : wr.drew.cell? ⟨b0, off + k * 3 + 2, none⟩ = some (.string (strOf u.cells[k].2.d)) := d2
          have hws2 : w4.heap.size ≤ wr.drew.heap.size := hws
          clear x0 x1 x2 y0 y1 y2 d0 d1 d2 HXr HO HBR hbw hws hbr0 xs
          generalize wr.drew = wq at *
          go_wp2
          go_roundw
          case rel =>
            refine ⟨k + 1, O, a', c', rfl, by go_num, by omega, ?_, HO2.out, HBR2.out⟩
            have := Hp.out; rw [Hnx.out, List.filter_append, ← HO'.out]; simp [this]
          case measure => simp [intOf]; omega
      · have HE := Lib.hid' (show O = u.cells.filter (fun p => decide (b ≤ p.1)) by have := HO'.out; rwa [List.take_of_length_le (by omega)] at this)
        have r0 := xr 0 _ rfl; have r1 := xr 1 _ rfl; have r2 := xr 2 _ rfl
        have f0 := xf 0; have f1 := xf 1; have f2 := xf 2
        have hbw := Lib.hid' (HBa.out.trans (hbr.mono HBa.out.size))
        clear xr xf hbr
        go_wp2
        refine bodyPost_ret (v := .tuple #[.agg #[.int .i64 u.e, .int .i64 b, .slice a' O.length c'], .int .i64 0]) (by simp [results, Try.results89, go_sem, r0, r1, r2, x0, x1, x2]) rfl ?_
        rw [Hf.out, ← Hlv.out, ← HE.out]
        refine ⟨a', c', rfl, ?_, ?_⟩
        · exact SlV.of_own (ownsRow_setCell_below (ownsRow_setCell_below (ownsRow_setCell_below (ownsRow_setCell_below HO.out (by simp; omega) _) (by simp; omega) _) (by simp; omega) _) (by simp; omega) _)
        · exact set3_below (hbw.out.setCell (by simp) _) _ _ _
  · have hlb' : max u.l b = u.l := by omega
    rw [hlb'] at hlv; subst hlv
    have Hlv := Lib.hid' hlb'; clear hlb'
    have HXa := HX1; have HBa := HB1
    clear x0 x2 xr xf xs y0 y1 y2
    go_wp2_with fail
    generalize w1 = w4 at *
    go_loopw [9, 10] (fun vo vi wr => ∃ (k : Nat) (O : List (Int × C)) (a' : Option Addr) (c' : Nat), vo = .slice a' O.length c' ∧ vi = .int .i64 k ∧ k ≤ u.cells.length ∧ O = (u.cells.take k).filter (fun p => decide (u.l ≤ p.1)) ∧ wr.ownsRow w4.heap.size 169 3 (.slice a' O.length c') O.length (rents O) ∧ Below w4.heap.size w4 wr) (fun _ vi _ => u.cells.length - (intOf vi).toNat)
    case atStart => exact ⟨0, [], _, _, rfl, rfl, Nat.zero_le _, by simp, own_empty _ _ _, by go_grown⟩
    case round =>
      obtain ⟨k, O, a', c', rfl, rfl, hk, hO, ho, hbr⟩ := hrel
      have HO' := Lib.hid' hO
      have HO := Lib.hid' ho
      have HBR := Lib.hid' hbr
      have HXr := Lib.hid' (HXa.out.below (Nat.le_refl _) hbr)
      obtain ⟨x0, x1, x2, y0, y1, y2, xr, xf, xs⟩ := HXr.out
      have hws : w4.heap.size ≤ wr.heap.size := hbr.size
      have hn0 : O.length ≤ u.cells.length := by rw [hO]; exact Nat.le_trans (List.length_filter_le _ _) (by rw [List.length_take]; omega)
      have hcc := hcount.out
      have hxa := HXa.out.2.2.2.2.2.2.2.2
      clear hO ho
      by_cases hlt : k < u.cells.length
      · obtain ⟨b0, off, rfl, hb, c0, c1, c2⟩ := H.out.get hlt
        have hbw := Lib.hid' (HBa.out.trans (hbr.mono HBa.out.size))
        have d0 : wr.cell? ⟨b0, off + k * 3, none⟩ = some (.int .i64 u.cells[k].1) := ((bcell hbw.out).1 _ _ hb).trans c0
        have d1 : wr.cell? ⟨b0, off + k * 3 + 1, none⟩ = some (.int .i64 u.cells[k].2.k) := ((bcell hbw.out).1 _ _ hb).trans c1
        have d2 : wr.cell? ⟨b0, off + k * 3 + 2, none⟩ = some (.string (strOf u.cells[k].2.d)) := ((bcell hbw.out).1 _ _ hb).trans c2
        have hbr0 : b0 < wr.heap.size := Nat.lt_of_lt_of_le hb hbw.out.size
        have Hnx := Lib.hid' (take_succ u.cells k hlt)
        clear c0 c1 c2 hbr xr xf
        by_cases hp : u.l ≤ u.cells[k].1
        · have Hp := Lib.hid' hp
          go_wp2_with fail
          go_region_held3 (fun w' => w'.cell? ⟨w.heap.size, 1, none⟩ = some (.int .i64 u.l) ∧ w'.cell? ⟨w.heap.size, 2, none⟩ = some (.slice (some ⟨b0, off, none⟩) u.cells.length cap) ∧ w'.cell? ⟨b0, off + k * 3, none⟩ = some (.int .i64 u.cells[k].1)) (go_keep) (fail)
          have HO2 := Lib.hid' (show wr.drew.ownsRow w4.heap.size 169 3 (.slice a' O.length c') O.length (rents O) from HO.out)
          have HBR2 := Lib.hid' (show Below w4.heap.size w4 wr.drew from HBR.out.drew)
          have g2 : wr.drew.cell? ⟨w.heap.size, 2, none⟩ = some (.slice (some ⟨b0, off, none⟩) u.cells.length cap) := x2
          have g3 : wr.drew.cell? ⟨b0, off + k * 3, none⟩ = some (.int .i64 u.cells[k].1) := d0
          have g4 : wr.drew.cell? ⟨b0, off + k * 3 + 1, none⟩ = some (.int .i64 u.cells[k].2.k) := d1
          have g5 : wr.drew.cell? ⟨b0, off + k * 3 + 2, none⟩ = some (.string (strOf u.cells[k].2.d)) := d2
          have hws2 : w4.heap.size ≤ wr.drew.heap.size := hws
          clear x0 x1 x2 y0 y1 y2 d0 d1 d2 HXr HO HBR hbw hws hbr0 xs
          generalize wr.drew = wq at *
          go_wp2_with (at_builtin; refine append_one etREnt rfl (.tmp 48) (.tmp 54) rfl [.int .i64 u.cells[k].1, .int .i64 u.cells[k].2.k, .string (strOf u.cells[k].2.d)] rfl w4.heap.size _ _ _ rfl HO2.out rfl (one3 _ _ _) (by omega) hws2 ?_)
          intro a2 c2 w5 ho2 hf2
          have HO3 := Lib.hid' ho2
          have HB3 := Lib.hid' (hf2.row HO2.out (Nat.le_refl _) hws2 HBR2.out)
          clear ho2 hf2
          go_wp2
          go_roundw
          case rel =>
            refine ⟨k + 1, O ++ [u.cells[k]], a2, c2, by simp, by go_num, by omega, ?_, ?_, HB3.out⟩
            · have := Hp.out; rw [Hnx.out, List.filter_append, ← HO'.out]; simp [this]
            · rw [rents_append, List.length_append]; exact HO3.out
          case measure => simp [intOf]; omega
        · have Hp := Lib.hid' hp
          go_wp2_with fail
          go_region_held3 (fun w' => w'.cell? ⟨w.heap.size, 1, none⟩ = some (.int .i64 u.l) ∧ w'.cell? ⟨w.heap.size, 2, none⟩ = some (.slice (some ⟨b0, off, none⟩) u.cells.length cap) ∧ w'.cell? ⟨b0, off + k * 3, none⟩ = some (.int .i64 u.cells[k].1)) (go_keep) (fail)
          have HO2 := Lib.hid' (show wr.drew.ownsRow w4.heap.size 169 3 (.slice a' O.length c') O.length (rents O) from HO.out)
          have HBR2 := Lib.hid' (show Below w4.heap.size w4 wr.drew from HBR.out.drew)
          have g2 : wr.drew.cell? ⟨w.heap.size, 2, none⟩ = some (.slice (some ⟨b0, off, none⟩) u.cells.length cap) := x2
          have g3 : wr.drew.cell? ⟨b0, off + k * 3, none⟩ = some (.int .i64 u.cells[k].1) := d0
          have g4 : wr.drew.cell? ⟨b0, off + k * 3 + 1, none⟩ = some (.int .i64 u.cells[k].2.k) := d1
          have g5 : wr.drew.cell? ⟨b0, off + k * 3 + 2, none⟩ = some (.string (strOf u.cells[k].2.d)) := d2
          have hws2 : w4.heap.size ≤ wr.drew.heap.size := hws
          clear x0 x1 x2 y0 y1 y2 d0 d1 d2 HXr HO HBR hbw hws hbr0 xs
          generalize wr.drew = wq at *
          go_wp2
          go_roundw
          case rel =>
            refine ⟨k + 1, O, a', c', rfl, by go_num, by omega, ?_, HO2.out, HBR2.out⟩
            have := Hp.out; rw [Hnx.out, List.filter_append, ← HO'.out]; simp [this]
          case measure => simp [intOf]; omega
      · have HE := Lib.hid' (show O = u.cells.filter (fun p => decide (u.l ≤ p.1)) by have := HO'.out; rwa [List.take_of_length_le (by omega)] at this)
        have r0 := xr 0 _ rfl; have r1 := xr 1 _ rfl; have r2 := xr 2 _ rfl
        have f0 := xf 0; have f1 := xf 1; have f2 := xf 2
        have hbw := Lib.hid' (HBa.out.trans (hbr.mono HBa.out.size))
        clear xr xf hbr
        go_wp2
        refine bodyPost_ret (v := .tuple #[.agg #[.int .i64 u.e, .int .i64 u.l, .slice a' O.length c'], .int .i64 0]) (by simp [results, Try.results89, go_sem, r0, r1, r2, x0, x1, x2]) rfl ?_
        rw [Hf.out, Hlv.out, ← HE.out]
        refine ⟨a', c', rfl, ?_, ?_⟩
        · exact SlV.of_own (ownsRow_setCell_below (ownsRow_setCell_below (ownsRow_setCell_below (ownsRow_setCell_below HO.out (by simp; omega) _) (by simp; omega) _) (by simp; omega) _) (by simp; omega) _)
        · exact set3_below (hbw.out.setCell (by simp) _) _ _ _

set_option maxHeartbeats 4000000 in
theorem rCut_any (u : U) (ad : Option Addr) (cap : Nat) (e b : Int) (w : World) (h : RList w (.slice ad u.cells.length cap) u.cells) (hc : u.cells.length ≤ 4194304) :
    Calls Try.prog 91 #[ruV u ad cap, .int .i64 e, .int .i64 b] w (RTUN (u.rCut e b).1 (u.rCut e b).2.1 (u.rCut e b).2.2 w) := by
  have H := Lib.hid' h; have hcount := Lib.hid' hc; clear h hc; unfold ruV
  by_cases h1 : b < 0 ∨ 1048576 < b
  · have Hf := Lib.hid' (show u.rCut e b = (0, u, 1) by simp [U.rCut, h1])
    rcases h1 with h1 | h1
    · skip
      go_enter Try.func91, Try.ntmps91
      go_wp2_with fail
      go_region_held3 (fun w' => w'.cell? ⟨w.heap.size, 0, none⟩ = some (.int .i64 u.e) ∧ w'.cell? ⟨w.heap.size, 1, none⟩ = some (.int .i64 u.l) ∧ w'.cell? ⟨w.heap.size, 2, none⟩ = some (.slice ad u.cells.length cap)) (go_keep) (fail)
      go_wp2
      refine bodyPost_ret (v := .tuple #[.int .i64 0, .agg #[.int .i64 u.e, .int .i64 u.l, .slice ad u.cells.length cap], .int .i64 1]) (by simp [results, Try.results91, go_sem]) rfl ?_
      rw [Hf.out]
      exact ⟨ad, cap, rfl, H.out.below (Nat.le_refl _) (by go_grown), by go_grown⟩
    · have h1b : ¬ b < 0 := by omega
      go_enter Try.func91, Try.ntmps91
      go_wp2_with fail
      go_region_held3 (fun w' => w'.cell? ⟨w.heap.size, 0, none⟩ = some (.int .i64 u.e) ∧ w'.cell? ⟨w.heap.size, 1, none⟩ = some (.int .i64 u.l) ∧ w'.cell? ⟨w.heap.size, 2, none⟩ = some (.slice ad u.cells.length cap)) (go_keep) (fail)
      go_wp2
      refine bodyPost_ret (v := .tuple #[.int .i64 0, .agg #[.int .i64 u.e, .int .i64 u.l, .slice ad u.cells.length cap], .int .i64 1]) (by simp [results, Try.results91, go_sem]) rfl ?_
      rw [Hf.out]
      exact ⟨ad, cap, rfl, H.out.below (Nat.le_refl _) (by go_grown), by go_grown⟩
  have h1a : ¬ b < 0 := by omega
  have h1b : ¬ 1048576 < b := by omega
  by_cases hc0 : u.cur e = 0
  rotate_left
  · have Hf := Lib.hid' (show u.rCut e b = (0, u, u.cur e) by simp [U.rCut, h1, hc0])
    have hc1 : (((u.cur e : Nat) : Int) != 0) = true := by rw [bne_iff_ne]; omega
    clear h1 hc0
    go_enter Try.func91, Try.ntmps91
    go_wp2_with fail
    have HX := Lib.hid' (Box2.start w u.e u.l (.slice ad u.cells.length cap) zU 61 61)
    have hb0 := Lib.hid' (show Below w.heap.size w ((w.alloc (.cells #[.int .i64 u.e, .int .i64 u.l, .slice ad u.cells.length cap] 61)).alloc (.cells #[.int .i64 0, .int .i64 0, .slice none 0 0] 61)) by go_grown)
    have e0 : (w.alloc (.cells #[.int .i64 u.e, .int .i64 u.l, .slice ad u.cells.length cap] 61)).alloc (.cells zU.toArray 61) = (w.alloc (.cells #[.int .i64 u.e, .int .i64 u.l, .slice ad u.cells.length cap] 61)).alloc (.cells #[.int .i64 0, .int .i64 0, .slice none 0 0] 61) := rfl
    rw [e0] at HX; clear e0
    generalize (w.alloc (.cells #[.int .i64 u.e, .int .i64 u.l, .slice ad u.cells.length cap] 61)).alloc (.cells #[.int .i64 0, .int .i64 0, .slice none 0 0] 61) = w0 at *
    refine (rCur_any u ad cap e _).mono ?_
    rintro en w1 ⟨rfl, hb1⟩
    have HX1 := Lib.hid' (HX.out.below (Nat.le_refl _) hb1)
    have HB1 := Lib.hid' (below_call hb0.out hb0.out.size hb1)
    obtain ⟨x0, x1, x2, y0, y1, y2, xr, xf, xs⟩ := HX1.out
    clear hb1
    have r0 := xr 0 _ rfl; have r1 := xr 1 _ rfl; have r2 := xr 2 _ rfl
    have f0 := xf 0; have f1 := xf 1; have f2 := xf 2
    clear xr xf
    go_wp2_with fail
    go_region_held3 (fun w' => w'.cell? ⟨w.heap.size, 0, none⟩ = some (.int .i64 u.e) ∧ w'.cell? ⟨w.heap.size, 1, none⟩ = some (.int .i64 u.l) ∧ w'.cell? ⟨w.heap.size, 2, none⟩ = some (.slice ad u.cells.length cap)) (go_keep) (fail)
    go_wp2
    refine bodyPost_ret (v := .tuple #[.int .i64 0, .agg #[.int .i64 u.e, .int .i64 u.l, .slice ad u.cells.length cap], .int .i64 (u.cur e : Nat)]) (by simp [results, Try.results91, go_sem, r0, r1, r2]) rfl ?_
    rw [Hf.out]
    exact ⟨ad, cap, rfl, H.out.below (Nat.le_refl _) (by first | exact set3_below HB1.out _ _ _ | (refine Below.trans ?_ (Below.refl _ _).drew; exact set3_below HB1.out _ _ _) | (exact set3_below (HB1.out.drew) _ _ _)), by first | exact set3_below HB1.out _ _ _ | (exact set3_below (HB1.out.drew) _ _ _)⟩
  have HC := Lib.hid' hc0
  by_cases hl : b < u.l
  · have Hf := Lib.hid' (show u.rCut e b = (0, u, 9) by simp [U.rCut, h1, hc0, hl])
    clear h1 hc0
    go_enter Try.func91, Try.ntmps91
    go_wp2_with fail
    have HX := Lib.hid' (Box2.start w u.e u.l (.slice ad u.cells.length cap) zU 61 61)
    have hb0 := Lib.hid' (show Below w.heap.size w ((w.alloc (.cells #[.int .i64 u.e, .int .i64 u.l, .slice ad u.cells.length cap] 61)).alloc (.cells #[.int .i64 0, .int .i64 0, .slice none 0 0] 61)) by go_grown)
    have e0 : (w.alloc (.cells #[.int .i64 u.e, .int .i64 u.l, .slice ad u.cells.length cap] 61)).alloc (.cells zU.toArray 61) = (w.alloc (.cells #[.int .i64 u.e, .int .i64 u.l, .slice ad u.cells.length cap] 61)).alloc (.cells #[.int .i64 0, .int .i64 0, .slice none 0 0] 61) := rfl
    rw [e0] at HX; clear e0
    generalize (w.alloc (.cells #[.int .i64 u.e, .int .i64 u.l, .slice ad u.cells.length cap] 61)).alloc (.cells #[.int .i64 0, .int .i64 0, .slice none 0 0] 61) = w0 at *
    refine (rCur_any u ad cap e _).mono ?_
    rintro en w1 ⟨rfl, hb1⟩
    have HX1 := Lib.hid' (HX.out.below (Nat.le_refl _) hb1)
    have HB1 := Lib.hid' (below_call hb0.out hb0.out.size hb1)
    obtain ⟨x0, x1, x2, y0, y1, y2, xr, xf, xs⟩ := HX1.out
    clear hb1
    rw [show ((u.cur e : Nat) : Int) = 0 by rw [HC.out]; rfl]
    have r0 := xr 0 _ rfl; have r1 := xr 1 _ rfl; have r2 := xr 2 _ rfl
    have f0 := xf 0; have f1 := xf 1; have f2 := xf 2
    clear xr xf
    go_wp2_with fail
    go_region_held3 (fun w' => w'.cell? ⟨w.heap.size, 0, none⟩ = some (.int .i64 u.e) ∧ w'.cell? ⟨w.heap.size, 1, none⟩ = some (.int .i64 u.l) ∧ w'.cell? ⟨w.heap.size, 2, none⟩ = some (.slice ad u.cells.length cap)) (go_keep) (fail)
    go_wp2
    refine bodyPost_ret (v := .tuple #[.int .i64 0, .agg #[.int .i64 u.e, .int .i64 u.l, .slice ad u.cells.length cap], .int .i64 9]) (by simp [results, Try.results91, go_sem, r0, r1, r2]) rfl ?_
    rw [Hf.out]
    exact ⟨ad, cap, rfl, H.out.below (Nat.le_refl _) (set3_below (HB1.out.drew) _ _ _), set3_below (HB1.out.drew) _ _ _⟩
  have Hf := Lib.hid' (show u.rCut e b = ((u.cells.length : Int) - (u.cells.filter (fun p => decide (p.1 < b))).length, { u with cells := u.cells.filter (fun p => decide (p.1 < b)) }, 0) by simp [U.rCut, h1, hc0, hl])
  clear h1 hc0
  go_enter Try.func91, Try.ntmps91
  go_wp2_with fail
  have HX := Lib.hid' (Box2.start w u.e u.l (.slice ad u.cells.length cap) zU 61 61)
  have hb0 := Lib.hid' (show Below w.heap.size w ((w.alloc (.cells #[.int .i64 u.e, .int .i64 u.l, .slice ad u.cells.length cap] 61)).alloc (.cells #[.int .i64 0, .int .i64 0, .slice none 0 0] 61)) by go_grown)
  have e0 : (w.alloc (.cells #[.int .i64 u.e, .int .i64 u.l, .slice ad u.cells.length cap] 61)).alloc (.cells zU.toArray 61) = (w.alloc (.cells #[.int .i64 u.e, .int .i64 u.l, .slice ad u.cells.length cap] 61)).alloc (.cells #[.int .i64 0, .int .i64 0, .slice none 0 0] 61) := rfl
  rw [e0] at HX; clear e0
  generalize (w.alloc (.cells #[.int .i64 u.e, .int .i64 u.l, .slice ad u.cells.length cap] 61)).alloc (.cells #[.int .i64 0, .int .i64 0, .slice none 0 0] 61) = w0 at *
  refine (rCur_any u ad cap e _).mono ?_
  rintro en w1 ⟨rfl, hb1⟩
  have HX1 := Lib.hid' (HX.out.below (Nat.le_refl _) hb1)
  have HB1 := Lib.hid' (below_call hb0.out hb0.out.size hb1)
  obtain ⟨x0, x1, x2, y0, y1, y2, xr, xf, xs⟩ := HX1.out
  clear hb1
  rw [show ((u.cur e : Nat) : Int) = 0 by rw [HC.out]; rfl]
  have HXa := HX1; have HBa := HB1
  clear x0 x2 xr xf xs y0 y1 y2
  go_wp2_with fail
  generalize w1 = w4 at *
  go_loopw [10, 11] (fun vo vi wr => ∃ (k : Nat) (O : List (Int × C)) (a' : Option Addr) (c' : Nat), vo = .slice a' O.length c' ∧ vi = .int .i64 k ∧ k ≤ u.cells.length ∧ O = (u.cells.take k).filter (fun p => decide (p.1 < b)) ∧ wr.ownsRow w4.heap.size 169 3 (.slice a' O.length c') O.length (rents O) ∧ Below w4.heap.size w4 wr) (fun _ vi _ => u.cells.length - (intOf vi).toNat)
  case atStart => exact ⟨0, [], _, _, rfl, rfl, Nat.zero_le _, by simp, own_empty _ _ _, by go_grown⟩
  case round =>
    obtain ⟨k, O, a', c', rfl, rfl, hk, hO, ho, hbr⟩ := hrel
    have HO' := Lib.hid' hO
    have HO := Lib.hid' ho
    have HBR := Lib.hid' hbr
    have HXr := Lib.hid' (HXa.out.below (Nat.le_refl _) hbr)
    obtain ⟨x0, x1, x2, y0, y1, y2, xr, xf, xs⟩ := HXr.out
    have hws : w4.heap.size ≤ wr.heap.size := hbr.size
    have hn0 : O.length ≤ u.cells.length := by rw [hO]; exact Nat.le_trans (List.length_filter_le _ _) (by rw [List.length_take]; omega)
    have hcc := hcount.out
    have hxa := HXa.out.2.2.2.2.2.2.2.2
    clear hO ho
    by_cases hlt : k < u.cells.length
    · obtain ⟨b0, off, rfl, hb, c0, c1, c2⟩ := H.out.get hlt
      have hbw := Lib.hid' (HBa.out.trans (hbr.mono HBa.out.size))
      have d0 : wr.cell? ⟨b0, off + k * 3, none⟩ = some (.int .i64 u.cells[k].1) := ((bcell hbw.out).1 _ _ hb).trans c0
      have d1 : wr.cell? ⟨b0, off + k * 3 + 1, none⟩ = some (.int .i64 u.cells[k].2.k) := ((bcell hbw.out).1 _ _ hb).trans c1
      have d2 : wr.cell? ⟨b0, off + k * 3 + 2, none⟩ = some (.string (strOf u.cells[k].2.d)) := ((bcell hbw.out).1 _ _ hb).trans c2
      have hbr0 : b0 < wr.heap.size := Nat.lt_of_lt_of_le hb hbw.out.size
      have Hnx := Lib.hid' (take_succ u.cells k hlt)
      clear c0 c1 c2 hbr xr xf
      by_cases hp : u.cells[k].1 < b
      · have Hp := Lib.hid' hp
        go_wp2_with (at_builtin; refine append_one etREnt rfl (.tmp 48) (.tmp 54) rfl [.int .i64 u.cells[k].1, .int .i64 u.cells[k].2.k, .string (strOf u.cells[k].2.d)] rfl w4.heap.size _ _ _ rfl HO.out rfl (one3 _ _ _) (by omega) hws ?_)
        intro a2 c2 w5 ho2 hf2
        have HO3 := Lib.hid' ho2
        have HB3 := Lib.hid' (hf2.row HO.out (Nat.le_refl _) hws HBR.out)
        clear ho2 hf2
        go_wp2
        go_roundw
        case rel =>
          refine ⟨k + 1, O ++ [u.cells[k]], a2, c2, by simp, by go_num, by omega, ?_, ?_, HB3.out⟩
          · have := Hp.out; rw [Hnx.out, List.filter_append, ← HO'.out]; simp [this]
          · rw [rents_append, List.length_append]; exact HO3.out
        case measure => simp [intOf]; omega
      · have Hp := Lib.hid' hp
        go_wp2
        go_roundw
        case rel =>
          refine ⟨k + 1, O, a', c', rfl, by go_num, by omega, ?_, HO.out, HBR.out⟩
          have := Hp.out; rw [Hnx.out, List.filter_append, ← HO'.out]; simp [this]
        case measure => simp [intOf]; omega
    · have HE := Lib.hid' (show O = u.cells.filter (fun p => decide (p.1 < b)) by have := HO'.out; rwa [List.take_of_length_le (by omega)] at this)
      have r0 := xr 0 _ rfl; have r1 := xr 1 _ rfl; have r2 := xr 2 _ rfl
      have f0 := xf 0; have f1 := xf 1; have f2 := xf 2
      have hbw := Lib.hid' (HBa.out.trans (hbr.mono HBa.out.size))
      clear xr xf hbr
      go_wp2_with fail
      have z0 : (wr.setCell ⟨w.heap.size, 2, none⟩ (.slice a' O.length c')).cell? ⟨w.heap.size, 0, none⟩ = some (.int .i64 u.e) := by simp [go_sem, x0]
      have z1 : (wr.setCell ⟨w.heap.size, 2, none⟩ (.slice a' O.length c')).cell? ⟨w.heap.size, 1, none⟩ = some (.int .i64 u.l) := by simp [go_sem, x1]
      have z2 : (wr.setCell ⟨w.heap.size, 2, none⟩ (.slice a' O.length c')).cell? ⟨w.heap.size, 2, none⟩ = some (.slice a' O.length c') := by simp [go_sem, x2]
      have q0 : (wr.setCell ⟨w.heap.size, 2, none⟩ (.slice a' O.length c')).cell? ⟨w.heap.size + 1, 0, none⟩ = some (.int .i64 0) := by simp [go_sem, r0]
      have g0 : (wr.setCell ⟨w.heap.size, 2, none⟩ (.slice a' O.length c')).frozen? ⟨w.heap.size + 1, 0, none⟩ = false := by simp [go_sem, f0]
      have q1 : (wr.setCell ⟨w.heap.size, 2, none⟩ (.slice a' O.length c')).cell? ⟨w.heap.size + 1, 1, none⟩ = some (.int .i64 0) := by simp [go_sem, r1]
      have g1 : (wr.setCell ⟨w.heap.size, 2, none⟩ (.slice a' O.length c')).frozen? ⟨w.heap.size + 1, 1, none⟩ = false := by simp [go_sem, f1]
      have q2 : (wr.setCell ⟨w.heap.size, 2, none⟩ (.slice a' O.length c')).cell? ⟨w.heap.size + 1, 2, none⟩ = some (.slice none 0 0) := by simp [go_sem, r2]
      have g2 : (wr.setCell ⟨w.heap.size, 2, none⟩ (.slice a' O.length c')).frozen? ⟨w.heap.size + 1, 2, none⟩ = false := by simp [go_sem, f2]
      have HOv := Lib.hid' (ownsRow_setCell_below HO.out (a := ⟨w.heap.size, 2, none⟩) (by simp; omega) (.slice a' O.length c'))
      have HBv := Lib.hid' (hbw.out.setCell (p := ⟨w.heap.size, 2, none⟩) (by simp) (.slice a' O.length c'))
      clear x0 x1 x2 y0 y1 y2 r0 r1 r2 f0 f1 f2
      generalize (wr.setCell ⟨w.heap.size, 2, none⟩ (.slice a' O.length c')) = wv at *
      go_region_held3 (fun w' => w'.cell? ⟨w.heap.size, 0, none⟩ = some (.int .i64 u.e) ∧ w'.cell? ⟨w.heap.size, 1, none⟩ = some (.int .i64 u.l) ∧ w'.cell? ⟨w.heap.size, 2, none⟩ = some (.slice a' O.length c')) (go_keep) (fail)
      go_wp2
      refine bodyPost_ret (v := .tuple #[.int .i64 ((u.cells.length : Int) - O.length), .agg #[.int .i64 u.e, .int .i64 u.l, .slice a' O.length c'], .int .i64 0]) (by simp [results, Try.results91, go_sem, q0, q1, q2]) rfl ?_
      rw [Hf.out, ← HE.out]
      refine ⟨a', c', rfl, ?_, ?_⟩
      · exact SlV.of_own (ownsRow_setCell_below (ownsRow_setCell_below (ownsRow_setCell_below (show wv.drew.ownsRow _ _ _ _ _ _ from HOv.out) (by simp; omega) _) (by simp; omega) _) (by simp; omega) _)
      · exact set3_below HBv.out.drew _ _ _

end Go.Proofs.Ytjkbcjliaacebaa
