/- The statement ProjHomes: its walk. -/
import Derived.Test.YtdlgagdgbpfdnaaPrjL
namespace Go.Proofs.Ytdlgagdgbpfdnaa
open Go.RowKit
set_option linter.unusedSimpArgs false
set_option linter.unusedVariables false
set_option maxRecDepth 100000

set_option maxHeartbeats 4000000 in
theorem projHomes_any (e : Int) (a : Option Addr) (c : Nat) (X : List Ch) (p q : Int) (w : World) (h : Chs w a c X) :
    Calls Try.prog 5 #[pjV e a c X, .int .i64 p, .int .i64 q] w fun en w' => en = .returned (.bool true) ∧ Below w.heap.size w w' := by
  have HS := Lib.hid' h
  have hlen := h.len
  clear h
  have HV := Lib.hid' (show pjV e a c X = .agg #[.int .i64 e, .slice a X.length c] from rfl)
  rw [HV.out]
  go_enter Try.func5, Try.ntmps5
  go_wp2_with fail
  refine (alive11_any _).mono ?_
  rintro en w2 ⟨rfl, hb2⟩
  have HB2 := Lib.hid' (show Below w.heap.size w w2 from below_call (by go_grown) (by simp) hb2)
  have hz2 : w.heap.size < w2.heap.size := by have := hb2.size; simp at this; omega
  have c20 := ((bcell hb2).1 w.heap.size 0 (by simp)).trans (show _ = some (.int .i64 e) by simp [go_sem])
  have c21 := ((bcell hb2).1 w.heap.size 1 (by simp)).trans (show _ = some (.slice a X.length c) by simp [go_sem])
  clear hb2
  go_wp2_with fail
  refine (long11_any e a c X w2 (HS.out.below (Nat.le_refl _) HB2.out)).mono ?_
  rintro en w3 ⟨rfl, hb3⟩
  have HB3 := Lib.hid' (HB2.out.trans (hb3.mono (by omega)))
  have hz3 : w.heap.size < w3.heap.size := Nat.lt_of_lt_of_le hz2 hb3.size
  have c30 := (hb3.cell (p := ⟨w.heap.size, 0, none⟩) hz2).trans c20
  have c31 := (hb3.cell (p := ⟨w.heap.size, 1, none⟩) hz2).trans c21
  clear hb3 c20 c21
  cases hlo : long11 X with
  | true =>
    clear hlo
    go_wp2
    go_ret
    exact ⟨rfl, HB3.out⟩
  | false =>
  have HFL := Lib.hid' (long11_flat hlo)
  clear hlo
  go_wp2_with fail
  refine (phome_any e a c X p w3 (HS.out.below (Nat.le_refl _) HB3.out) (by have := HFL.out.1; omega)).mono ?_
  rintro en w4 ⟨rfl, hb4⟩
  have HB4 := Lib.hid' (HB3.out.trans (hb4.mono (by omega)))
  have hz4 : w.heap.size < w4.heap.size := Nat.lt_of_lt_of_le hz3 hb4.size
  have c40 := (hb4.cell (p := ⟨w.heap.size, 0, none⟩) hz3).trans c30
  have c41 := (hb4.cell (p := ⟨w.heap.size, 1, none⟩) hz3).trans c31
  clear hb4 c30 c31
  obtain ⟨⟨x, n⟩, hx⟩ : ∃ r, (docJ e X).home p = r := ⟨_, rfl⟩
  rw [hx]
  have HX := Lib.hid' hx
  clear hx
  go_wp2_with fail
  refine (phome_any e a c X q w4 (HS.out.below (Nat.le_refl _) HB4.out) (by have := HFL.out.1; omega)).mono ?_
  rintro en w5 ⟨rfl, hb5⟩
  have HB5 := Lib.hid' (HB4.out.trans (hb5.mono (by omega)))
  have c50 := (hb5.cell (p := ⟨w.heap.size, 0, none⟩) hz4).trans c40
  have c51 := (hb5.cell (p := ⟨w.heap.size, 1, none⟩) hz4).trans c41
  clear hb5 c40 c41
  obtain ⟨⟨y, m⟩, hy⟩ : ∃ r, (docJ e X).home q = r := ⟨_, rfl⟩
  rw [hy]
  have HY := Lib.hid' hy
  clear hy
  simp only
  by_cases hn : n = 0
  rotate_left
  · obtain rfl := home_zero HX.out hn
    rw [errV_pos hn]
    clear hn
    go_wp2
    go_ret
    exact ⟨rfl, HB5.out⟩
  by_cases hm : m = 0
  rotate_left
  · obtain rfl := home_zero HY.out hm
    subst hn
    rw [errV_pos hm, errV_0]
    cases hx0 : (x == 0) with
    | true =>
      go_wp2
      go_ret
      exact ⟨rfl, HB5.out⟩
    | false =>
      go_wp2
      go_ret
      exact ⟨rfl, HB5.out⟩
  subst hn hm
  rw [errV_0]
  obtain ⟨g1, g2, g3⟩ := home_ok HX.out
  obtain ⟨g4, g5, g6⟩ := home_ok HY.out
  have hX : (docJ e X).cs.length = X.length := by unfold docJ; simp
  rw [hX] at g1 g3 g6
  obtain ⟨k1, k2, k3⟩ := home_law X.length g1 p q g2 g5
  rw [← g3, ← g6] at k1
  rw [← g3] at k2
  rw [← g6] at k3
  have hp2 : p < 1048576 := by
    have := HX.out; unfold Pj.home at this
    split at this
    · simp only [Prod.mk.injEq] at this; rename_i h1; exact absurd this.2 h1
    · split at this
      · simp only [Prod.mk.injEq] at this; exact absurd this.2 (by decide)
      · omega
  have hq2 : q < 1048576 := by
    have := HY.out; unfold Pj.home at this
    split at this
    · simp only [Prod.mk.injEq] at this; rename_i h1; exact absurd this.2 h1
    · split at this
      · simp only [Prod.mk.injEq] at this; exact absurd this.2 (by decide)
      · omega
  have hX12 := HFL.out.2.1
  obtain ⟨r, hr⟩ : ∃ r, r = (x == y) := ⟨_, rfl⟩
  have e1 : (x == y) = r := hr.symm
  have e2 : ((p - q).tmod (X.length : Int) == 0) = r := by rw [← k1, hr]
  clear k1 hr g3 g6 hX g4
  cases r
  · go_wp2
    go_ret
    exact ⟨rfl, HB5.out⟩
  · go_wp2
    go_ret
    exact ⟨rfl, HB5.out⟩
end Go.Proofs.Ytdlgagdgbpfdnaa
