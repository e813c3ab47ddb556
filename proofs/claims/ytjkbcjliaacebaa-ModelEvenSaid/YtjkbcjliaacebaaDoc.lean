import Derived.Test.YtjkbcjliaacebaaEntD
import Derived.Test.YtjkbcjliaacebaaRefS
namespace Go.Proofs.Ytjkbcjliaacebaa
open Go.RowKit
set_option linter.unusedSimpArgs false
set_option linter.unusedVariables false
set_option maxRecDepth 20000

/-- a unit as the document's -/
def DocR (u : U) (w : World) (en : Ending) (w' : World) : Prop :=
  ∃ (a : Option Addr) (c : Nat), en = .returned (.agg #[.int .i64 u.e, .int .i64 u.l, .slice a u.cells.length c]) ∧ w'.ownsRow w.heap.size 169 3 (.slice a u.cells.length c) u.cells.length (rents (sortC u.cells)) ∧ Below w.heap.size w w'

theorem sortC_len (M : List (Int × C)) : (sortC M).length = M.length := by simp [sortC, sortA]

theorem doc_any {A : Nat → Prop} {bu bm : Nat} {u : U} (w : World) (h : UnitAt A w bu bm u) (hlen : u.cells.length ≤ 1048576) : Calls Try.prog 97 #[.pointer (some ⟨bu, 0, none⟩)] w (DocR u w) := by
  have H := Lib.hid' h
  clear h
  go_enter Try.func97, Try.ntmps97
  go_wp2_with fail
  have HX := Lib.hid' (Box1.start w zU 61)
  have HB := Lib.hid' (show Below w.heap.size w (w.alloc (.cells #[.int .i64 0, .int .i64 0, .slice none 0 0] 61)) by go_grown)
  have e0 : w.alloc (.cells zU.toArray 61) = w.alloc (.cells #[.int .i64 0, .int .i64 0, .slice none 0 0] 61) := rfl
  rw [e0] at HX; clear e0
  generalize w.alloc (.cells #[.int .i64 0, .int .i64 0, .slice none 0 0] 61) = w1 at *
  have H1 := Lib.hid' (H.out.below (Nat.le_refl _) HB.out)
  refine (epoch_any _ H1.out).mono ?_
  rintro en w' ⟨rfl, rfl⟩
  go_wp2_with fail
  refine (low_any _ H1.out).mono ?_
  rintro en w' ⟨rfl, rfl⟩
  go_wp2_with fail
  refine (entries_any _ H1.out hlen).mono ?_
  rintro en w2 ⟨E, a2, c2, rfl, hE, ho, hx, hb2⟩
  have HE := Lib.hid' hE
  have HO := Lib.hid' ho
  have HXs := Lib.hid' hx
  have HB2 := Lib.hid' hb2
  clear hE ho hx hb2
  go_wp2_with fail
  have HEl := Lib.hid' (show E.length = u.cells.length by rw [← sortC_len, ← HE.out, List.length_map])
  refine (lEntries_any E a2 c2 _ (SlV.of_own HO.out) (fun x hx => SlV.of_own (HXs.out x hx)) (by rw [HEl.out]; exact hlen)).mono ?_
  rintro en w3 ⟨a3, c3, rfl, ho3, hb3⟩
  have HO3 := Lib.hid' ho3
  have HB3 := Lib.hid' hb3
  clear ho3 hb3
  obtain ⟨xr, xf, xs⟩ := (HX.out.below (Nat.le_refl _) HB2.out).below (Nat.le_refl _) HB3.out
  have r0 := xr 0 _ rfl; have r1 := xr 1 _ rfl; have r2 := xr 2 _ rfl
  have f0 := xf 0; have f1 := xf 1; have f2 := xf 2
  clear xr xf
  go_wp2
  have hw1 : w.heap.size ≤ w1.heap.size := HB.out.size
  have hw2 : w1.heap.size ≤ w2.heap.size := HB2.out.size
  have hw3 : w.heap.size < w2.heap.size := Nat.lt_of_lt_of_le HX.out.2.2 hw2
  have HG := Lib.hid' ((HB.out.trans (HB2.out.mono hw1)).trans (HB3.out.mono (Nat.le_of_lt hw3)))
  have h3 := Lib.hid' (ownsRow_setCell_below (ownsRow_setCell_below (ownsRow_setCell_below HO3.out (a := ⟨w.heap.size, 0, none⟩) (by simpa using hw3) (.int .i64 u.e)) (a := ⟨w.heap.size, 1, none⟩) (by simpa using hw3) (.int .i64 u.l)) (a := ⟨w.heap.size, 2, none⟩) (by simpa using hw3) (.slice a3 E.length c3))
  have h4 := Lib.hid' (((HG.out.setCell (p := ⟨w.heap.size, 0, none⟩) (by simp) (.int .i64 u.e)).setCell (p := ⟨w.heap.size, 1, none⟩) (by simp) (.int .i64 u.l)).setCell (p := ⟨w.heap.size, 2, none⟩) (by simp) (.slice a3 E.length c3))
  have z0 : (((w3.setCell ⟨w.heap.size, 0, none⟩ (.int .i64 u.e)).setCell ⟨w.heap.size, 1, none⟩ (.int .i64 u.l)).setCell ⟨w.heap.size, 2, none⟩ (.slice a3 E.length c3)).cell? ⟨w.heap.size, 0, none⟩ = some (.int .i64 u.e) := by simp [go_sem, r0]
  have z1 : (((w3.setCell ⟨w.heap.size, 0, none⟩ (.int .i64 u.e)).setCell ⟨w.heap.size, 1, none⟩ (.int .i64 u.l)).setCell ⟨w.heap.size, 2, none⟩ (.slice a3 E.length c3)).cell? ⟨w.heap.size, 1, none⟩ = some (.int .i64 u.l) := by simp [go_sem, r1]
  have z2 : (((w3.setCell ⟨w.heap.size, 0, none⟩ (.int .i64 u.e)).setCell ⟨w.heap.size, 1, none⟩ (.int .i64 u.l)).setCell ⟨w.heap.size, 2, none⟩ (.slice a3 E.length c3)).cell? ⟨w.heap.size, 2, none⟩ = some (.slice a3 E.length c3) := by simp [go_sem, r2]
  generalize (((w3.setCell ⟨w.heap.size, 0, none⟩ (.int .i64 u.e)).setCell ⟨w.heap.size, 1, none⟩ (.int .i64 u.l)).setCell ⟨w.heap.size, 2, none⟩ (.slice a3 E.length c3)) = wv at *
  refine bodyPost_ret (v := .agg #[.int .i64 u.e, .int .i64 u.l, .slice a3 E.length c3]) (by simp [results, Try.results97, go_sem, z0, z1, z2]) rfl ?_
  refine ⟨a3, c3, by rw [HEl.out], ?_, h4.out⟩
  have := own_base h3.out (Nat.le_of_lt hw3)
  rw [HE.out] at this
  rw [← HEl.out]; exact this
end Go.Proofs.Ytjkbcjliaacebaa
