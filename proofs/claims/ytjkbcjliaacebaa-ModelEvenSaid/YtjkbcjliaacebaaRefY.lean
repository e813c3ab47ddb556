/- The document's unit (holdfastref08): Write, Fill, Read. -/
import Derived.Test.YtjkbcjliaacebaaRefX
namespace Go.Proofs.Ytjkbcjliaacebaa
open Go.RowKit
set_option linter.unusedSimpArgs false
set_option linter.unusedVariables false
set_option maxRecDepth 20000

@[go_sem] theorem field_rkind (w : World) (x y : Value) : (Instr.field 125 (.agg #[x, y]) 0).run Try.prog w = .ok x w := by kernel_rfl

/-- the boxed parameter at block N, the result's place at N + 1 -/
def Box2 (N : Nat) (e l : Int) (s : Value) (R : List Value) (w : World) : Prop :=
  w.cell? ⟨N, 0, none⟩ = some (.int .i64 e) ∧ w.cell? ⟨N, 1, none⟩ = some (.int .i64 l) ∧ w.cell? ⟨N, 2, none⟩ = some s ∧
  w.frozen? ⟨N, 0, none⟩ = false ∧ w.frozen? ⟨N, 1, none⟩ = false ∧ w.frozen? ⟨N, 2, none⟩ = false ∧
  (∀ j v, R[j]? = some v → w.cell? ⟨N + 1, j, none⟩ = some v) ∧ (∀ j, w.frozen? ⟨N + 1, j, none⟩ = false) ∧ N + 1 < w.heap.size
theorem Box2.below {N : Nat} {e l : Int} {s : Value} {R : List Value} {w w' : World} (h : Box2 N e l s R w) {B : Nat} (hB : w.heap.size ≤ B) (hb : Below B w w') : Box2 N e l s R w' := by
  obtain ⟨a, b, c, d, f, g, i, j, k⟩ := h
  obtain ⟨hc, hf⟩ := bcell hb
  exact ⟨(hc _ _ (by omega)).trans a, (hc _ _ (by omega)).trans b, (hc _ _ (by omega)).trans c, (hf _ _ (by omega)).trans d, (hf _ _ (by omega)).trans f, (hf _ _ (by omega)).trans g,
    fun x v hx => (hc _ _ (by omega)).trans (i x v hx), fun x => (hf _ _ (by omega)).trans (j x), Nat.lt_of_lt_of_le k hb.size⟩
theorem Box2.start (w : World) (e l : Int) (s : Value) (R : List Value) (t t' : Nat) : Box2 w.heap.size e l s R ((w.alloc (.cells #[.int .i64 e, .int .i64 l, s] t)).alloc (.cells R.toArray t')) := by
  have h1 : ((w.alloc (.cells #[.int .i64 e, .int .i64 l, s] t)).alloc (.cells R.toArray t')).heap[w.heap.size + 1]? = some (.cells R.toArray t' (0, 0)) := heap_alloc2_new w _ _
  have h0 : ((w.alloc (.cells #[.int .i64 e, .int .i64 l, s] t)).alloc (.cells R.toArray t')).heap[w.heap.size]? = some (.cells #[.int .i64 e, .int .i64 l, s] t (0, 0)) := heap_alloc2_old w _ _
  refine ⟨?_, ?_, ?_, ?_, ?_, ?_, fun j v hj => ?_, fun j => ?_, by simp⟩
  · rw [cell_of_row _ _ _ _ _ _ h0]; rfl
  · rw [cell_of_row _ _ _ _ _ _ h0]; rfl
  · rw [cell_of_row _ _ _ _ _ _ h0]; rfl
  · exact frozen_of_row _ _ _ _ _ h0
  · exact frozen_of_row _ _ _ _ _ h0
  · exact frozen_of_row _ _ _ _ _ h0
  · rw [cell_of_row _ _ _ _ _ _ h1]; simpa using hj
  · exact frozen_of_row _ _ _ _ _ h1

theorem set3_below {N : Nat} {w w' : World} (hb : Below N w w') (x y z : Value) : Below N w (((w'.setCell ⟨N + 1, 0, none⟩ x).setCell ⟨N + 1, 1, none⟩ y).setCell ⟨N + 1, 2, none⟩ z) :=
  ((hb.setCell (by simp) _).setCell (by simp) _).setCell (by simp) _
theorem set2_below {N : Nat} {w w' : World} (hb : Below N w w') (x y : Value) : Below N w ((w'.setCell ⟨N + 1, 0, none⟩ x).setCell ⟨N + 1, 1, none⟩ y) :=
  (hb.setCell (by simp) _).setCell (by simp) _

def zU : List Value := [.int .i64 0, .int .i64 0, .slice none 0 0]
def zRC : List Value := [.int .i64 0, .string ⟨#[]⟩]




set_option maxHeartbeats 2000000 in
theorem rWrite_any (u : U) (ad : Option Addr) (cap : Nat) (e a : Int) (d : List UInt8) (w : World) (h : RList w (.slice ad u.cells.length cap) u.cells) (hc : u.cells.length ≤ 4194304) (hd : d.length ≤ 1099511627776) :
    Calls Try.prog 86 #[ruV u ad cap, .int .i64 e, .int .i64 a, .string (strOf d)] w (RUN (u.rWrite e a d).1 (u.rWrite e a d).2 w) := by
  have H := Lib.hid' h; have hcount := Lib.hid' hc; clear h hc; unfold ruV
  by_cases h1 : a < 0 ∨ 1048575 < a
  · have Hf := Lib.hid' (show u.rWrite e a d = (u, 1) by simp [U.rWrite, h1])
    rcases h1 with h1 | h1
    · skip
      go_enter Try.func86, Try.ntmps86
      go_wp2
      refine bodyPost_ret (v := .tuple #[.agg #[.int .i64 u.e, .int .i64 u.l, .slice ad u.cells.length cap], .int .i64 1]) (by simp [results, Try.results86, go_sem]) rfl ?_
      rw [Hf.out]
      exact ⟨ad, cap, rfl, H.out.below (Nat.le_refl _) (by go_grown), by go_grown⟩
    · have h1b : ¬ a < 0 := by omega
      go_enter Try.func86, Try.ntmps86
      go_wp2
      refine bodyPost_ret (v := .tuple #[.agg #[.int .i64 u.e, .int .i64 u.l, .slice ad u.cells.length cap], .int .i64 1]) (by simp [results, Try.results86, go_sem]) rfl ?_
      rw [Hf.out]
      exact ⟨ad, cap, rfl, H.out.below (Nat.le_refl _) (by go_grown), by go_grown⟩
  have h1a : ¬ a < 0 := by omega
  have h1b : ¬ 1048575 < a := by omega
  by_cases h2 : 64 < d.length
  · have Hf := Lib.hid' (show u.rWrite e a d = (u, 3) by simp [U.rWrite, h1, h2])
    have h2' : (64 : Int) < ((strOf d).size : Int) := by rw [strOf_size]; omega
    clear h1
    go_enter Try.func86, Try.ntmps86
    go_wp2
    refine bodyPost_ret (v := .tuple #[.agg #[.int .i64 u.e, .int .i64 u.l, .slice ad u.cells.length cap], .int .i64 3]) (by simp [results, Try.results86, go_sem]) rfl ?_
    rw [Hf.out]
    exact ⟨ad, cap, rfl, H.out.below (Nat.le_refl _) (by go_grown), by go_grown⟩
  have h2' : ¬ (64 : Int) < ((strOf d).size : Int) := by rw [strOf_size]; omega
  by_cases hc0 : u.cur e = 0
  rotate_left
  · have Hf := Lib.hid' (show u.rWrite e a d = (u, u.cur e) by simp [U.rWrite, h1, h2, hc0])
    have hc1 : (((u.cur e : Nat) : Int) != 0) = true := by rw [bne_iff_ne]; omega
    have hc2 := hc1
    clear h1 h2 hc0 hc1
    go_enter Try.func86, Try.ntmps86
    go_wp2_with fail
    have HX := Lib.hid' (Box2.start w u.e u.l (.slice ad u.cells.length cap) zU 61 61)
    have hb0 := Lib.hid' (show Below w.heap.size w ((w.alloc (.cells #[.int .i64 u.e, .int .i64 u.l, .slice ad u.cells.length cap] 61)).alloc (.cells #[.int .i64 0, .int .i64 0, .slice none 0 0] 61)) by go_grown)
    have e0 : (w.alloc (.cells #[.int .i64 u.e, .int .i64 u.l, .slice ad u.cells.length cap] 61)).alloc (.cells zU.toArray 61) = (w.alloc (.cells #[.int .i64 u.e, .int .i64 u.l, .slice ad u.cells.length cap] 61)).alloc (.cells #[.int .i64 0, .int .i64 0, .slice none 0 0] 61) := rfl
    rw [e0] at HX; clear e0
    generalize (w.alloc (.cells #[.int .i64 u.e, .int .i64 u.l, .slice ad u.cells.length cap] 61)).alloc (.cells #[.int .i64 0, .int .i64 0, .slice none 0 0] 61) = w0 at *
    refine (rCur_any u ad cap e _).mono ?_
    rintro en w1 ⟨rfl, hb1⟩
    have HX1 := Lib.hid' (HX.out.below (Nat.le_refl _) hb1)
    have HB1 := Lib.hid' (below_call hb0.out hb0.out.size hb1)
    obtain ⟨x0, x1, x2, _, _, _, xr, xf, xs⟩ := HX1.out
    clear hb1
    have r0 := xr 0 _ rfl; have r1 := xr 1 _ rfl; have r2 := xr 2 _ rfl
    have f0 := xf 0; have f1 := xf 1; have f2 := xf 2
    clear xr xf
    go_wp2
    refine bodyPost_ret (v := .tuple #[.agg #[.int .i64 u.e, .int .i64 u.l, .slice ad u.cells.length cap], .int .i64 (u.cur e : Nat)]) (by simp [results, Try.results86, go_sem, r0, r1, r2]) rfl ?_
    rw [Hf.out]
    exact ⟨ad, cap, rfl, H.out.below (Nat.le_refl _) (set3_below HB1.out _ _ _), set3_below HB1.out _ _ _⟩
  have hc1 : u.cur e = 0 := hc0
  have HC := Lib.hid' hc0
  by_cases hk3 : (u.at a).k = 3
  · have Hf := Lib.hid' (show u.rWrite e a d = (u, 9) by simp [U.rWrite, h1, h2, hc0, hk3])
    have hb3 : ((u.at a).k == 3) = true := by simpa using hk3
    clear h1 h2 hc0 hc1 hk3
    go_enter Try.func86, Try.ntmps86
    go_wp2_with fail
    have HX := Lib.hid' (Box2.start w u.e u.l (.slice ad u.cells.length cap) zU 61 61)
    have hb0 := Lib.hid' (show Below w.heap.size w ((w.alloc (.cells #[.int .i64 u.e, .int .i64 u.l, .slice ad u.cells.length cap] 61)).alloc (.cells #[.int .i64 0, .int .i64 0, .slice none 0 0] 61)) by go_grown)
    have e0 : (w.alloc (.cells #[.int .i64 u.e, .int .i64 u.l, .slice ad u.cells.length cap] 61)).alloc (.cells zU.toArray 61) = (w.alloc (.cells #[.int .i64 u.e, .int .i64 u.l, .slice ad u.cells.length cap] 61)).alloc (.cells #[.int .i64 0, .int .i64 0, .slice none 0 0] 61) := rfl
    rw [e0] at HX; clear e0
    generalize (w.alloc (.cells #[.int .i64 u.e, .int .i64 u.l, .slice ad u.cells.length cap] 61)).alloc (.cells #[.int .i64 0, .int .i64 0, .slice none 0 0] 61) = w0 at *
    refine (rCur_any u ad cap e _).mono ?_
    rintro en w1 ⟨rfl, hb1⟩
    have HX1 := Lib.hid' (HX.out.below (Nat.le_refl _) hb1)
    have HB1 := Lib.hid' (below_call hb0.out hb0.out.size hb1)
    obtain ⟨x0, x1, x2, _, _, _, xr, xf, xs⟩ := HX1.out
    clear hb1
    rw [show ((u.cur e : Nat) : Int) = 0 by rw [HC.out]; rfl]
    go_wp2_with fail
    refine (rAt_any u ad cap a _ (H.out.below (Nat.le_refl _) HB1.out)).mono ?_
    rintro en w2 ⟨rfl, hb2⟩
    have HX2 := Lib.hid' (HX1.out.below (Nat.le_refl _) hb2)
    have HB2 := Lib.hid' (below_call HB1.out HB1.out.size hb2)
    clear x0 x1 x2 xr xf xs hb2
    obtain ⟨x0, x1, x2, _, _, _, xr, xf, xs⟩ := HX2.out
    unfold rcellV
    have r0 := xr 0 _ rfl; have r1 := xr 1 _ rfl; have r2 := xr 2 _ rfl
    have f0 := xf 0; have f1 := xf 1; have f2 := xf 2
    clear xr xf
    go_wp2
    refine bodyPost_ret (v := .tuple #[.agg #[.int .i64 u.e, .int .i64 u.l, .slice ad u.cells.length cap], .int .i64 9]) (by simp [results, Try.results86, go_sem, r0, r1, r2]) rfl ?_
    rw [Hf.out]
    exact ⟨ad, cap, rfl, H.out.below (Nat.le_refl _) (set3_below HB2.out _ _ _), set3_below HB2.out _ _ _⟩
  have hb3 : ((u.at a).k == 3) = false := by simpa using hk3
  by_cases hk0 : (u.at a).k = 0
  · have Hf := Lib.hid' (show u.rWrite e a d = ({ u with cells := insC u.cells a ⟨1, d⟩ }, 0) by simp [U.rWrite, h1, h2, hc0, hk3, hk0])
    have hb0 : ((u.at a).k == 0) = true := by simpa using hk0
    clear h1 h2 hc0 hc1 hk3 hk0
    go_enter Try.func86, Try.ntmps86
    go_wp2_with fail
    have HX := Lib.hid' (Box2.start w u.e u.l (.slice ad u.cells.length cap) zU 61 61)
    have hb0 := Lib.hid' (show Below w.heap.size w ((w.alloc (.cells #[.int .i64 u.e, .int .i64 u.l, .slice ad u.cells.length cap] 61)).alloc (.cells #[.int .i64 0, .int .i64 0, .slice none 0 0] 61)) by go_grown)
    have e0 : (w.alloc (.cells #[.int .i64 u.e, .int .i64 u.l, .slice ad u.cells.length cap] 61)).alloc (.cells zU.toArray 61) = (w.alloc (.cells #[.int .i64 u.e, .int .i64 u.l, .slice ad u.cells.length cap] 61)).alloc (.cells #[.int .i64 0, .int .i64 0, .slice none 0 0] 61) := rfl
    rw [e0] at HX; clear e0
    generalize (w.alloc (.cells #[.int .i64 u.e, .int .i64 u.l, .slice ad u.cells.length cap] 61)).alloc (.cells #[.int .i64 0, .int .i64 0, .slice none 0 0] 61) = w0 at *
    refine (rCur_any u ad cap e _).mono ?_
    rintro en w1 ⟨rfl, hb1⟩
    have HX1 := Lib.hid' (HX.out.below (Nat.le_refl _) hb1)
    have HB1 := Lib.hid' (below_call hb0.out hb0.out.size hb1)
    obtain ⟨x0, x1, x2, _, _, _, xr, xf, xs⟩ := HX1.out
    clear hb1
    rw [show ((u.cur e : Nat) : Int) = 0 by rw [HC.out]; rfl]
    go_wp2_with fail
    refine (rAt_any u ad cap a _ (H.out.below (Nat.le_refl _) HB1.out)).mono ?_
    rintro en w2 ⟨rfl, hb2⟩
    have HX2 := Lib.hid' (HX1.out.below (Nat.le_refl _) hb2)
    have HB2 := Lib.hid' (below_call HB1.out HB1.out.size hb2)
    clear x0 x1 x2 xr xf xs hb2
    obtain ⟨x0, x1, x2, _, _, _, xr, xf, xs⟩ := HX2.out
    unfold rcellV
    go_wp2_with fail
    refine (with_any u ad cap a ⟨1, d⟩ _ (H.out.below (Nat.le_refl _) HB2.out) hcount.out).mono ?_
    rintro en w3 ⟨ad3, cap3, rfl, hl3, hin3, hb3⟩
    have HX3 := Lib.hid' (HX2.out.below (Nat.le_refl _) hb3)
    have HB3 := Lib.hid' (below_call HB2.out HB2.out.size hb3)
    have HL3 := Lib.hid' hl3
    clear x0 x1 x2 xr xf xs hl3 hb3
    obtain ⟨x0, x1, x2, _, _, _, xr, xf, xs⟩ := HX3.out
    have r0 := xr 0 _ rfl; have r1 := xr 1 _ rfl; have r2 := xr 2 _ rfl
    have f0 := xf 0; have f1 := xf 1; have f2 := xf 2
    clear xr xf
    unfold ruV
    go_wp2
    refine bodyPost_ret (v := .tuple #[.agg #[.int .i64 u.e, .int .i64 u.l, .slice ad3 (insC u.cells a ⟨1, d⟩).length cap3], .int .i64 0]) (by simp [results, Try.results86, go_sem, r0, r1, r2]) rfl ?_
    rw [Hf.out]
    refine ⟨ad3, cap3, rfl, ?_, set3_below HB3.out _ _ _⟩
    refine SlV.fr HL3.out (F := fun k => k = w.heap.size + 1) (((fr_set _ _ _ _).trans (fr_set _ _ _ _) (fun _ h => .inl h)).trans (fr_set _ _ _ _) (fun _ h => .inl h)) ?_
    intro p n c' hp hk
    simp only [Value.slice.injEq] at hp
    have := hin3 p hp.1; have := HX2.out.2.2.2.2.2.2.2.2; omega
  have hb0 : ((u.at a).k == 0) = false := by simpa using hk0
  have Hf := Lib.hid' (show u.rWrite e a d = (u, 8) by simp [U.rWrite, h1, h2, hc0, hk3, hk0])
  clear h1 h2 hc0 hc1 hk3 hk0
  go_enter Try.func86, Try.ntmps86
  go_wp2_with fail
  have HX := Lib.hid' (Box2.start w u.e u.l (.slice ad u.cells.length cap) zU 61 61)
  have hb0 := Lib.hid' (show Below w.heap.size w ((w.alloc (.cells #[.int .i64 u.e, .int .i64 u.l, .slice ad u.cells.length cap] 61)).alloc (.cells #[.int .i64 0, .int .i64 0, .slice none 0 0] 61)) by go_grown)
  have e0 : (w.alloc (.cells #[.int .i64 u.e, .int .i64 u.l, .slice ad u.cells.length cap] 61)).alloc (.cells zU.toArray 61) = (w.alloc (.cells #[.int .i64 u.e, .int .i64 u.l, .slice ad u.cells.length cap] 61)).alloc (.cells #[.int .i64 0, .int .i64 0, .slice none 0 0] 61) := rfl
  rw [e0] at HX; clear e0
  generalize (w.alloc (.cells #[.int .i64 u.e, .int .i64 u.l, .slice ad u.cells.length cap] 61)).alloc (.cells #[.int .i64 0, .int .i64 0, .slice none 0 0] 61) = w0 at *
  refine (rCur_any u ad cap e _).mono ?_
  rintro en w1 ⟨rfl, hb1⟩
  have HX1 := Lib.hid' (HX.out.below (Nat.le_refl _) hb1)
  have HB1 := Lib.hid' (below_call hb0.out hb0.out.size hb1)
  obtain ⟨x0, x1, x2, _, _, _, xr, xf, xs⟩ := HX1.out
  clear hb1
  rw [show ((u.cur e : Nat) : Int) = 0 by rw [HC.out]; rfl]
  go_wp2_with fail
  refine (rAt_any u ad cap a _ (H.out.below (Nat.le_refl _) HB1.out)).mono ?_
  rintro en w2 ⟨rfl, hb2⟩
  have HX2 := Lib.hid' (HX1.out.below (Nat.le_refl _) hb2)
  have HB2 := Lib.hid' (below_call HB1.out HB1.out.size hb2)
  clear x0 x1 x2 xr xf xs hb2
  obtain ⟨x0, x1, x2, _, _, _, xr, xf, xs⟩ := HX2.out
  unfold rcellV
  have r0 := xr 0 _ rfl; have r1 := xr 1 _ rfl; have r2 := xr 2 _ rfl
  have f0 := xf 0; have f1 := xf 1; have f2 := xf 2
  clear xr xf
  go_wp2
  refine bodyPost_ret (v := .tuple #[.agg #[.int .i64 u.e, .int .i64 u.l, .slice ad u.cells.length cap], .int .i64 8]) (by simp [results, Try.results86, go_sem, r0, r1, r2]) rfl ?_
  rw [Hf.out]
  exact ⟨ad, cap, rfl, H.out.below (Nat.le_refl _) (set3_below HB2.out _ _ _), set3_below HB2.out _ _ _⟩

set_option maxHeartbeats 2000000 in
theorem rFill_any (u : U) (ad : Option Addr) (cap : Nat) (e a : Int) (w : World) (h : RList w (.slice ad u.cells.length cap) u.cells) (hc : u.cells.length ≤ 4194304) :
    Calls Try.prog 87 #[ruV u ad cap, .int .i64 e, .int .i64 a] w (RUN (u.rFill e a).1 (u.rFill e a).2 w) := by
  have H := Lib.hid' h; have hcount := Lib.hid' hc; clear h hc; unfold ruV
  by_cases h1 : a < 0 ∨ 1048575 < a
  · have Hf := Lib.hid' (show u.rFill e a = (u, 1) by simp [U.rFill, h1])
    rcases h1 with h1 | h1
    · skip
      go_enter Try.func87, Try.ntmps87
      go_wp2
      refine bodyPost_ret (v := .tuple #[.agg #[.int .i64 u.e, .int .i64 u.l, .slice ad u.cells.length cap], .int .i64 1]) (by simp [results, Try.results87, go_sem]) rfl ?_
      rw [Hf.out]
      exact ⟨ad, cap, rfl, H.out.below (Nat.le_refl _) (by go_grown), by go_grown⟩
    · have h1b : ¬ a < 0 := by omega
      go_enter Try.func87, Try.ntmps87
      go_wp2
      refine bodyPost_ret (v := .tuple #[.agg #[.int .i64 u.e, .int .i64 u.l, .slice ad u.cells.length cap], .int .i64 1]) (by simp [results, Try.results87, go_sem]) rfl ?_
      rw [Hf.out]
      exact ⟨ad, cap, rfl, H.out.below (Nat.le_refl _) (by go_grown), by go_grown⟩
  have h1a : ¬ a < 0 := by omega
  have h1b : ¬ 1048575 < a := by omega
  by_cases hc0 : u.cur e = 0
  rotate_left
  · have Hf := Lib.hid' (show u.rFill e a = (u, u.cur e) by simp [U.rFill, h1, hc0])
    have hc1 : (((u.cur e : Nat) : Int) != 0) = true := by rw [bne_iff_ne]; omega
    have hc2 := hc1
    clear h1 hc0 hc1
    go_enter Try.func87, Try.ntmps87
    go_wp2_with fail
    have HX := Lib.hid' (Box2.start w u.e u.l (.slice ad u.cells.length cap) zU 61 61)
    have hb0 := Lib.hid' (show Below w.heap.size w ((w.alloc (.cells #[.int .i64 u.e, .int .i64 u.l, .slice ad u.cells.length cap] 61)).alloc (.cells #[.int .i64 0, .int .i64 0, .slice none 0 0] 61)) by go_grown)
    have e0 : (w.alloc (.cells #[.int .i64 u.e, .int .i64 u.l, .slice ad u.cells.length cap] 61)).alloc (.cells zU.toArray 61) = (w.alloc (.cells #[.int .i64 u.e, .int .i64 u.l, .slice ad u.cells.length cap] 61)).alloc (.cells #[.int .i64 0, .int .i64 0, .slice none 0 0] 61) := rfl
    rw [e0] at HX; clear e0
    generalize (w.alloc (.cells #[.int .i64 u.e, .int .i64 u.l, .slice ad u.cells.length cap] 61)).alloc (.cells #[.int .i64 0, .int .i64 0, .slice none 0 0] 61) = w0 at *
    refine (rCur_any u ad cap e _).mono ?_
    rintro en w1 ⟨rfl, hb1⟩
    have HX1 := Lib.hid' (HX.out.below (Nat.le_refl _) hb1)
    have HB1 := Lib.hid' (below_call hb0.out hb0.out.size hb1)
    obtain ⟨x0, x1, x2, _, _, _, xr, xf, xs⟩ := HX1.out
    clear hb1
    have r0 := xr 0 _ rfl; have r1 := xr 1 _ rfl; have r2 := xr 2 _ rfl
    have f0 := xf 0; have f1 := xf 1; have f2 := xf 2
    clear xr xf
    go_wp2
    refine bodyPost_ret (v := .tuple #[.agg #[.int .i64 u.e, .int .i64 u.l, .slice ad u.cells.length cap], .int .i64 (u.cur e : Nat)]) (by simp [results, Try.results87, go_sem, r0, r1, r2]) rfl ?_
    rw [Hf.out]
    exact ⟨ad, cap, rfl, H.out.below (Nat.le_refl _) (set3_below HB1.out _ _ _), set3_below HB1.out _ _ _⟩
  have hc1 : u.cur e = 0 := hc0
  have HC := Lib.hid' hc0
  by_cases hk3 : (u.at a).k = 3
  · have Hf := Lib.hid' (show u.rFill e a = (u, 9) by simp [U.rFill, h1, hc0, hk3])
    have hb3 : ((u.at a).k == 3) = true := by simpa using hk3
    clear h1 hc0 hc1 hk3
    go_enter Try.func87, Try.ntmps87
    go_wp2_with fail
    have HX := Lib.hid' (Box2.start w u.e u.l (.slice ad u.cells.length cap) zU 61 61)
    have hb0 := Lib.hid' (show Below w.heap.size w ((w.alloc (.cells #[.int .i64 u.e, .int .i64 u.l, .slice ad u.cells.length cap] 61)).alloc (.cells #[.int .i64 0, .int .i64 0, .slice none 0 0] 61)) by go_grown)
    have e0 : (w.alloc (.cells #[.int .i64 u.e, .int .i64 u.l, .slice ad u.cells.length cap] 61)).alloc (.cells zU.toArray 61) = (w.alloc (.cells #[.int .i64 u.e, .int .i64 u.l, .slice ad u.cells.length cap] 61)).alloc (.cells #[.int .i64 0, .int .i64 0, .slice none 0 0] 61) := rfl
    rw [e0] at HX; clear e0
    generalize (w.alloc (.cells #[.int .i64 u.e, .int .i64 u.l, .slice ad u.cells.length cap] 61)).alloc (.cells #[.int .i64 0, .int .i64 0, .slice none 0 0] 61) = w0 at *
    refine (rCur_any u ad cap e _).mono ?_
    rintro en w1 ⟨rfl, hb1⟩
    have HX1 := Lib.hid' (HX.out.below (Nat.le_refl _) hb1)
    have HB1 := Lib.hid' (below_call hb0.out hb0.out.size hb1)
    obtain ⟨x0, x1, x2, _, _, _, xr, xf, xs⟩ := HX1.out
    clear hb1
    rw [show ((u.cur e : Nat) : Int) = 0 by rw [HC.out]; rfl]
    go_wp2_with fail
    refine (rAt_any u ad cap a _ (H.out.below (Nat.le_refl _) HB1.out)).mono ?_
    rintro en w2 ⟨rfl, hb2⟩
    have HX2 := Lib.hid' (HX1.out.below (Nat.le_refl _) hb2)
    have HB2 := Lib.hid' (below_call HB1.out HB1.out.size hb2)
    clear x0 x1 x2 xr xf xs hb2
    obtain ⟨x0, x1, x2, _, _, _, xr, xf, xs⟩ := HX2.out
    unfold rcellV
    have r0 := xr 0 _ rfl; have r1 := xr 1 _ rfl; have r2 := xr 2 _ rfl
    have f0 := xf 0; have f1 := xf 1; have f2 := xf 2
    clear xr xf
    go_wp2
    refine bodyPost_ret (v := .tuple #[.agg #[.int .i64 u.e, .int .i64 u.l, .slice ad u.cells.length cap], .int .i64 9]) (by simp [results, Try.results87, go_sem, r0, r1, r2]) rfl ?_
    rw [Hf.out]
    exact ⟨ad, cap, rfl, H.out.below (Nat.le_refl _) (set3_below HB2.out _ _ _), set3_below HB2.out _ _ _⟩
  have hb3 : ((u.at a).k == 3) = false := by simpa using hk3
  by_cases hk1 : (u.at a).k = 1
  · have Hf := Lib.hid' (show u.rFill e a = (u, 8) by simp [U.rFill, h1, hc0, hk3, hk1])
    have hb1 : ((u.at a).k == 1) = true := by simpa using hk1
    clear h1 hc0 hc1 hk3 hk1
    go_enter Try.func87, Try.ntmps87
    go_wp2_with fail
    have HX := Lib.hid' (Box2.start w u.e u.l (.slice ad u.cells.length cap) zU 61 61)
    have hb0 := Lib.hid' (show Below w.heap.size w ((w.alloc (.cells #[.int .i64 u.e, .int .i64 u.l, .slice ad u.cells.length cap] 61)).alloc (.cells #[.int .i64 0, .int .i64 0, .slice none 0 0] 61)) by go_grown)
    have e0 : (w.alloc (.cells #[.int .i64 u.e, .int .i64 u.l, .slice ad u.cells.length cap] 61)).alloc (.cells zU.toArray 61) = (w.alloc (.cells #[.int .i64 u.e, .int .i64 u.l, .slice ad u.cells.length cap] 61)).alloc (.cells #[.int .i64 0, .int .i64 0, .slice none 0 0] 61) := rfl
    rw [e0] at HX; clear e0
    generalize (w.alloc (.cells #[.int .i64 u.e, .int .i64 u.l, .slice ad u.cells.length cap] 61)).alloc (.cells #[.int .i64 0, .int .i64 0, .slice none 0 0] 61) = w0 at *
    refine (rCur_any u ad cap e _).mono ?_
    rintro en w1 ⟨rfl, hb1⟩
    have HX1 := Lib.hid' (HX.out.below (Nat.le_refl _) hb1)
    have HB1 := Lib.hid' (below_call hb0.out hb0.out.size hb1)
    obtain ⟨x0, x1, x2, _, _, _, xr, xf, xs⟩ := HX1.out
    clear hb1
    rw [show ((u.cur e : Nat) : Int) = 0 by rw [HC.out]; rfl]
    go_wp2_with fail
    refine (rAt_any u ad cap a _ (H.out.below (Nat.le_refl _) HB1.out)).mono ?_
    rintro en w2 ⟨rfl, hb2⟩
    have HX2 := Lib.hid' (HX1.out.below (Nat.le_refl _) hb2)
    have HB2 := Lib.hid' (below_call HB1.out HB1.out.size hb2)
    clear x0 x1 x2 xr xf xs hb2
    obtain ⟨x0, x1, x2, _, _, _, xr, xf, xs⟩ := HX2.out
    unfold rcellV
    have r0 := xr 0 _ rfl; have r1 := xr 1 _ rfl; have r2 := xr 2 _ rfl
    have f0 := xf 0; have f1 := xf 1; have f2 := xf 2
    clear xr xf
    go_wp2
    refine bodyPost_ret (v := .tuple #[.agg #[.int .i64 u.e, .int .i64 u.l, .slice ad u.cells.length cap], .int .i64 8]) (by simp [results, Try.results87, go_sem, r0, r1, r2]) rfl ?_
    rw [Hf.out]
    exact ⟨ad, cap, rfl, H.out.below (Nat.le_refl _) (set3_below HB2.out _ _ _), set3_below HB2.out _ _ _⟩
  have hb1 : ((u.at a).k == 1) = false := by simpa using hk1
  by_cases hk0 : (u.at a).k = 0
  · have Hf := Lib.hid' (show u.rFill e a = ({ u with cells := insC u.cells a ⟨2, []⟩ }, 0) by simp [U.rFill, h1, hc0, hk3, hk1, hk0])
    have hb0 : ((u.at a).k == 0) = true := by simpa using hk0
    clear h1 hc0 hc1 hk3 hk1 hk0
    go_enter Try.func87, Try.ntmps87
    go_wp2_with fail
    have HX := Lib.hid' (Box2.start w u.e u.l (.slice ad u.cells.length cap) zU 61 61)
    have hb0 := Lib.hid' (show Below w.heap.size w ((w.alloc (.cells #[.int .i64 u.e, .int .i64 u.l, .slice ad u.cells.length cap] 61)).alloc (.cells #[.int .i64 0, .int .i64 0, .slice none 0 0] 61)) by go_grown)
    have e0 : (w.alloc (.cells #[.int .i64 u.e, .int .i64 u.l, .slice ad u.cells.length cap] 61)).alloc (.cells zU.toArray 61) = (w.alloc (.cells #[.int .i64 u.e, .int .i64 u.l, .slice ad u.cells.length cap] 61)).alloc (.cells #[.int .i64 0, .int .i64 0, .slice none 0 0] 61) := rfl
    rw [e0] at HX; clear e0
    generalize (w.alloc (.cells #[.int .i64 u.e, .int .i64 u.l, .slice ad u.cells.length cap] 61)).alloc (.cells #[.int .i64 0, .int .i64 0, .slice none 0 0] 61) = w0 at *
    refine (rCur_any u ad cap e _).mono ?_
    rintro en w1 ⟨rfl, hb1⟩
    have HX1 := Lib.hid' (HX.out.below (Nat.le_refl _) hb1)
    have HB1 := Lib.hid' (below_call hb0.out hb0.out.size hb1)
    obtain ⟨x0, x1, x2, _, _, _, xr, xf, xs⟩ := HX1.out
    clear hb1
    rw [show ((u.cur e : Nat) : Int) = 0 by rw [HC.out]; rfl]
    go_wp2_with fail
    refine (rAt_any u ad cap a _ (H.out.below (Nat.le_refl _) HB1.out)).mono ?_
    rintro en w2 ⟨rfl, hb2⟩
    have HX2 := Lib.hid' (HX1.out.below (Nat.le_refl _) hb2)
    have HB2 := Lib.hid' (below_call HB1.out HB1.out.size hb2)
    clear x0 x1 x2 xr xf xs hb2
    obtain ⟨x0, x1, x2, _, _, _, xr, xf, xs⟩ := HX2.out
    unfold rcellV
    go_wp2_with fail
    refine (with_any u ad cap a ⟨2, []⟩ _ (H.out.below (Nat.le_refl _) HB2.out) hcount.out).mono ?_
    rintro en w3 ⟨ad3, cap3, rfl, hl3, hin3, hb3⟩
    have HX3 := Lib.hid' (HX2.out.below (Nat.le_refl _) hb3)
    have HB3 := Lib.hid' (below_call HB2.out HB2.out.size hb3)
    have HL3 := Lib.hid' hl3
    clear x0 x1 x2 xr xf xs hl3 hb3
    obtain ⟨x0, x1, x2, _, _, _, xr, xf, xs⟩ := HX3.out
    have r0 := xr 0 _ rfl; have r1 := xr 1 _ rfl; have r2 := xr 2 _ rfl
    have f0 := xf 0; have f1 := xf 1; have f2 := xf 2
    clear xr xf
    unfold ruV
    go_wp2
    refine bodyPost_ret (v := .tuple #[.agg #[.int .i64 u.e, .int .i64 u.l, .slice ad3 (insC u.cells a ⟨2, []⟩).length cap3], .int .i64 0]) (by simp [results, Try.results87, go_sem, r0, r1, r2]) rfl ?_
    rw [Hf.out]
    refine ⟨ad3, cap3, rfl, ?_, set3_below HB3.out _ _ _⟩
    refine SlV.fr HL3.out (F := fun k => k = w.heap.size + 1) (((fr_set _ _ _ _).trans (fr_set _ _ _ _) (fun _ h => .inl h)).trans (fr_set _ _ _ _) (fun _ h => .inl h)) ?_
    intro p n c' hp hk
    simp only [Value.slice.injEq] at hp
    have := hin3 p hp.1; have := HX2.out.2.2.2.2.2.2.2.2; omega
  have hb0 : ((u.at a).k == 0) = false := by simpa using hk0
  have Hf := Lib.hid' (show u.rFill e a = (u, 0) by simp [U.rFill, h1, hc0, hk3, hk1, hk0])
  clear h1 hc0 hc1 hk3 hk1 hk0
  go_enter Try.func87, Try.ntmps87
  go_wp2_with fail
  have HX := Lib.hid' (Box2.start w u.e u.l (.slice ad u.cells.length cap) zU 61 61)
  have hb0 := Lib.hid' (show Below w.heap.size w ((w.alloc (.cells #[.int .i64 u.e, .int .i64 u.l, .slice ad u.cells.length cap] 61)).alloc (.cells #[.int .i64 0, .int .i64 0, .slice none 0 0] 61)) by go_grown)
  have e0 : (w.alloc (.cells #[.int .i64 u.e, .int .i64 u.l, .slice ad u.cells.length cap] 61)).alloc (.cells zU.toArray 61) = (w.alloc (.cells #[.int .i64 u.e, .int .i64 u.l, .slice ad u.cells.length cap] 61)).alloc (.cells #[.int .i64 0, .int .i64 0, .slice none 0 0] 61) := rfl
  rw [e0] at HX; clear e0
  generalize (w.alloc (.cells #[.int .i64 u.e, .int .i64 u.l, .slice ad u.cells.length cap] 61)).alloc (.cells #[.int .i64 0, .int .i64 0, .slice none 0 0] 61) = w0 at *
  refine (rCur_any u ad cap e _).mono ?_
  rintro en w1 ⟨rfl, hb1⟩
  have HX1 := Lib.hid' (HX.out.below (Nat.le_refl _) hb1)
  have HB1 := Lib.hid' (below_call hb0.out hb0.out.size hb1)
  obtain ⟨x0, x1, x2, _, _, _, xr, xf, xs⟩ := HX1.out
  clear hb1
  rw [show ((u.cur e : Nat) : Int) = 0 by rw [HC.out]; rfl]
  go_wp2_with fail
  refine (rAt_any u ad cap a _ (H.out.below (Nat.le_refl _) HB1.out)).mono ?_
  rintro en w2 ⟨rfl, hb2⟩
  have HX2 := Lib.hid' (HX1.out.below (Nat.le_refl _) hb2)
  have HB2 := Lib.hid' (below_call HB1.out HB1.out.size hb2)
  clear x0 x1 x2 xr xf xs hb2
  obtain ⟨x0, x1, x2, _, _, _, xr, xf, xs⟩ := HX2.out
  unfold rcellV
  have r0 := xr 0 _ rfl; have r1 := xr 1 _ rfl; have r2 := xr 2 _ rfl
  have f0 := xf 0; have f1 := xf 1; have f2 := xf 2
  clear xr xf
  go_wp2
  refine bodyPost_ret (v := .tuple #[.agg #[.int .i64 u.e, .int .i64 u.l, .slice ad u.cells.length cap], .int .i64 0]) (by simp [results, Try.results87, go_sem, r0, r1, r2]) rfl ?_
  rw [Hf.out]
  exact ⟨ad, cap, rfl, H.out.below (Nat.le_refl _) (set3_below HB2.out _ _ _), set3_below HB2.out _ _ _⟩

set_option maxHeartbeats 2000000 in
theorem rRead_any (u : U) (ad : Option Addr) (cap : Nat) (e a : Int) (w : World) (h : RList w (.slice ad u.cells.length cap) u.cells) (hc : u.cells.length ≤ 4194304) :
    Calls Try.prog 70 #[ruV u ad cap, .int .i64 e, .int .i64 a] w (fun en w' => en = .returned (.tuple #[rcellV (u.rRead e a).1, .int .i64 (u.rRead e a).2]) ∧ Below w.heap.size w w') := by
  have H := Lib.hid' h; have hcount := Lib.hid' hc; clear h hc; unfold ruV
  by_cases h1 : a < 0 ∨ 1048575 < a
  · have Hf := Lib.hid' (show u.rRead e a = (⟨0, []⟩, 1) by simp [U.rRead, h1])
    rcases h1 with h1 | h1
    · skip
      go_enter Try.func70, Try.ntmps70
      go_wp2
      refine bodyPost_ret (v := .tuple #[.agg #[.int .i64 0, .string ⟨#[]⟩], .int .i64 1]) (by simp [results, Try.results70, go_sem]) rfl ?_
      rw [Hf.out]
      exact ⟨rfl, by go_grown⟩
    · have h1b : ¬ a < 0 := by omega
      go_enter Try.func70, Try.ntmps70
      go_wp2
      refine bodyPost_ret (v := .tuple #[.agg #[.int .i64 0, .string ⟨#[]⟩], .int .i64 1]) (by simp [results, Try.results70, go_sem]) rfl ?_
      rw [Hf.out]
      exact ⟨rfl, by go_grown⟩
  have h1a : ¬ a < 0 := by omega
  have h1b : ¬ 1048575 < a := by omega
  by_cases hc0 : u.cur e = 0
  rotate_left
  · have Hf := Lib.hid' (show u.rRead e a = (⟨0, []⟩, u.cur e) by simp [U.rRead, h1, hc0])
    have hc1 : (((u.cur e : Nat) : Int) != 0) = true := by rw [bne_iff_ne]; omega
    have hc2 := hc1
    clear h1 hc0 hc1
    go_enter Try.func70, Try.ntmps70
    go_wp2_with fail
    have HX := Lib.hid' (Box2.start w u.e u.l (.slice ad u.cells.length cap) zRC 61 125)
    have hb0 := Lib.hid' (show Below w.heap.size w ((w.alloc (.cells #[.int .i64 u.e, .int .i64 u.l, .slice ad u.cells.length cap] 61)).alloc (.cells #[.int .i64 0, .string ⟨#[]⟩] 125)) by go_grown)
    have e0 : (w.alloc (.cells #[.int .i64 u.e, .int .i64 u.l, .slice ad u.cells.length cap] 61)).alloc (.cells zRC.toArray 125) = (w.alloc (.cells #[.int .i64 u.e, .int .i64 u.l, .slice ad u.cells.length cap] 61)).alloc (.cells #[.int .i64 0, .string ⟨#[]⟩] 125) := rfl
    rw [e0] at HX; clear e0
    generalize (w.alloc (.cells #[.int .i64 u.e, .int .i64 u.l, .slice ad u.cells.length cap] 61)).alloc (.cells #[.int .i64 0, .string ⟨#[]⟩] 125) = w0 at *
    refine (rCur_any u ad cap e _).mono ?_
    rintro en w1 ⟨rfl, hb1⟩
    have HX1 := Lib.hid' (HX.out.below (Nat.le_refl _) hb1)
    have HB1 := Lib.hid' (below_call hb0.out hb0.out.size hb1)
    obtain ⟨x0, x1, x2, _, _, _, xr, xf, xs⟩ := HX1.out
    clear hb1
    have r0 := xr 0 _ rfl; have r1 := xr 1 _ rfl
    have f0 := xf 0; have f1 := xf 1
    clear xr xf
    go_wp2
    refine bodyPost_ret (v := .tuple #[.agg #[.int .i64 0, .string ⟨#[]⟩], .int .i64 (u.cur e : Nat)]) (by simp [results, Try.results70, go_sem, r0, r1]) rfl ?_
    rw [Hf.out]
    exact ⟨rfl, set2_below HB1.out _ _⟩
  have hc1 : u.cur e = 0 := hc0
  have HC := Lib.hid' hc0
  have Hf := Lib.hid' (show u.rRead e a = (u.at a, 0) by simp [U.rRead, h1, hc0])
  clear h1 hc0 hc1
  go_enter Try.func70, Try.ntmps70
  go_wp2_with fail
  have HX := Lib.hid' (Box2.start w u.e u.l (.slice ad u.cells.length cap) zRC 61 125)
  have hb0 := Lib.hid' (show Below w.heap.size w ((w.alloc (.cells #[.int .i64 u.e, .int .i64 u.l, .slice ad u.cells.length cap] 61)).alloc (.cells #[.int .i64 0, .string ⟨#[]⟩] 125)) by go_grown)
  have e0 : (w.alloc (.cells #[.int .i64 u.e, .int .i64 u.l, .slice ad u.cells.length cap] 61)).alloc (.cells zRC.toArray 125) = (w.alloc (.cells #[.int .i64 u.e, .int .i64 u.l, .slice ad u.cells.length cap] 61)).alloc (.cells #[.int .i64 0, .string ⟨#[]⟩] 125) := rfl
  rw [e0] at HX; clear e0
  generalize (w.alloc (.cells #[.int .i64 u.e, .int .i64 u.l, .slice ad u.cells.length cap] 61)).alloc (.cells #[.int .i64 0, .string ⟨#[]⟩] 125) = w0 at *
  refine (rCur_any u ad cap e _).mono ?_
  rintro en w1 ⟨rfl, hb1⟩
  have HX1 := Lib.hid' (HX.out.below (Nat.le_refl _) hb1)
  have HB1 := Lib.hid' (below_call hb0.out hb0.out.size hb1)
  obtain ⟨x0, x1, x2, _, _, _, xr, xf, xs⟩ := HX1.out
  clear hb1
  rw [show ((u.cur e : Nat) : Int) = 0 by rw [HC.out]; rfl]
  go_wp2_with fail
  refine (rAt_any u ad cap a _ (H.out.below (Nat.le_refl _) HB1.out)).mono ?_
  rintro en w2 ⟨rfl, hb2⟩
  have HX2 := Lib.hid' (HX1.out.below (Nat.le_refl _) hb2)
  have HB2 := Lib.hid' (below_call HB1.out HB1.out.size hb2)
  clear x0 x1 x2 xr xf xs hb2
  obtain ⟨x0, x1, x2, _, _, _, xr, xf, xs⟩ := HX2.out
  unfold rcellV
  have r0 := xr 0 _ rfl; have r1 := xr 1 _ rfl
  have f0 := xf 0; have f1 := xf 1
  clear xr xf
  go_wp2
  refine bodyPost_ret (v := .tuple #[.agg #[.int .i64 (u.at a).k, .string (strOf (u.at a).d)], .int .i64 0]) (by simp [results, Try.results70, go_sem, r0, r1]) rfl ?_
  rw [Hf.out]
  exact ⟨rfl, set2_below HB2.out _ _⟩

end Go.Proofs.Ytjkbcjliaacebaa
