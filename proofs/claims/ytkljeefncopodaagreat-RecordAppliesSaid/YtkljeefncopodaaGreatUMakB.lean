/- Layer 8 (unit): right, and whether entries rise. -/
import Derived.Test.YtkljeefncopodaaGreatUMakA
namespace Go.Proofs.YtkljeefncopodaaGreat
open Go.RowKit
set_option linter.unusedSimpArgs false
set_option linter.unusedVariables false
set_option maxRecDepth 20000

theorem risesB_iff : ∀ E : List (Int × C), risesB E = true ↔ ∀ j, 0 < j → (h : j < E.length) → (E[j - 1]'(by omega)).1 < E[j].1
  | [] => by simp [risesB]
  | [x] => by
    simp only [risesB, true_iff]
    intro j h0 h1; simp at h1; omega
  | x :: y :: E => by
    have ih := risesB_iff (y :: E)
    simp only [risesB, Bool.and_eq_true, decide_eq_true_eq, ih]
    constructor
    · rintro ⟨h1, h2⟩ j h0 hj
      match j, h0 with
      | 1, _ => exact h1
      | j + 2, _ => have := h2 (j + 1) (by omega) (by simpa using hj); simpa using this
    · intro h
      refine ⟨h 1 (by omega) (by simp), fun j h0 hj => ?_⟩
      obtain ⟨i, rfl⟩ : ∃ i, j = i + 1 := ⟨j - 1, by omega⟩
      have := h (i + 2) (by omega) (by simpa using hj)
      simpa using this
theorem right1_any (x y : Ent) (w : World) : Calls Tryz.prog 129 #[.agg #[.int .i64 x.1, .int .i64 x.2.1.k, .slice x.2.2.1 x.2.1.d.length x.2.2.2], .agg #[.int .i64 y.1, .int .i64 y.2.1.k, .slice y.2.2.1 y.2.1.d.length y.2.2.2]] w
    fun e w' => e = .returned (.int .i64 (if x.1 ≤ y.1 then -1 else 1)) ∧ Below w.heap.size w w' := by
  by_cases h : x.1 ≤ y.1
  · rw [if_pos h]
    go_enter Tryz.func129, Tryz.ntmps129
    go_wp2
    go_ret
    exact ⟨rfl, by go_grown⟩
  · rw [if_neg h]
    go_enter Tryz.func129, Tryz.ntmps129
    go_wp2
    go_ret
    exact ⟨rfl, by go_grown⟩
set_option maxHeartbeats 1000000 in
theorem rises_any (E : List Ent) (a : Option Addr) (c : Nat) (W : World) (h : EL W a c E) :
    Calls Tryz.prog 128 #[.slice a E.length c, .func (.func 129) #[] #[]] W fun e w' => e = .returned (.bool (risesB (docE E))) ∧ Below W.heap.size W w' := by
  have HS := Lib.hid' h
  have hlen := h.len
  clear h
  go_enter Tryz.func128, Tryz.ntmps128
  go_wp2_with fail
  go_loopw [5] (fun v5 wr => ∃ k : Int, v5 = .int .i64 k ∧ -1 ≤ k ∧ k < E.length ∧ (∀ j, k < (j : Nat) → (hj : j < E.length) → 0 < j → (E[j - 1]'(by omega)).1 < E[j].1) ∧ Below W.heap.size W wr) (fun v5 _ => (intOf v5 + 1).toNat)
  case atStart => exact ⟨(E.length : Int) - 1, rfl, by omega, by omega, fun j h1 h2 _ => by omega, Below.refl _ _⟩
  case round =>
    obtain ⟨k, rfl, hk0, hk1, hok, hbw⟩ := hrel
    have HOK := Lib.hid' hok
    have HBW := Lib.hid' hbw
    clear hok hbw
    by_cases hpos : 0 < k
    rotate_left
    · have HF := Lib.hid' (show risesB (docE E) = true by
        rw [risesB_iff]
        intro j h0 hj
        have hj' : j < E.length := by simpa [docE] using hj
        have := HOK.out j (by omega) hj' h0
        simpa [docE, noAd] using this)
      go_wp2_with fail
      go_ret
      exact ⟨ret_eq (by rw [HF.out]; rfl), HBW.out⟩
    obtain ⟨n, rfl⟩ : ∃ n : Nat, k = (n : Int) + 1 := ⟨(k - 1).toNat, by omega⟩
    have hn : n + 1 < E.length := by omega
    have hn0 : n < E.length := by omega
    obtain ⟨hsl, hby⟩ := HS.out.below (Nat.le_refl _) HBW.out
    obtain ⟨b, off, hae, hb, hc⟩ := SlV.row (s := 3) (fun _ => rfl) (by decide) hsl hn
    obtain ⟨b', off', hae', _, hc'⟩ := SlV.row (s := 3) (fun _ => rfl) (by decide) hsl hn0
    subst hae
    simp only [Option.some.injEq, Addr.mk.injEq, and_true] at hae'
    obtain ⟨rfl, rfl⟩ := hae'
    have c0 := hc 0 _ rfl; have c1 := hc 1 _ rfl; have c2 := hc 2 _ rfl
    have e0 := hc' 0 _ rfl; have e1 := hc' 1 _ rfl; have e2 := hc' 2 _ rfl
    simp only [Nat.add_zero] at c0 e0
    have HX := Lib.hid' (show (E[n + 1 - 1]'(by omega)) = E[n] from rfl)
    clear hc hc' hsl hby
    generalize hx : E[n + 1] = x at *
    generalize hy : E[n] = y at *
    have HXE := Lib.hid' hx
    have HYE := Lib.hid' hy
    clear hx hy
    obtain ⟨xa, xc, xd, xn⟩ := x
    obtain ⟨ya, yc, yd, yn⟩ := y
    go_upto_region 4 with fail
    by_cases hle : xa ≤ ya
    · refine wp_region_held_drew (S := (fun w' => w'.cell? ⟨b, off + (n + 1) * 3, none⟩ = some (.int .i64 xa) ∧ w'.cell? ⟨b, off + (n + 1) * 3 + 1, none⟩ = some (.int .i64 xc.k) ∧ w'.cell? ⟨b, off + (n + 1) * 3 + 2, none⟩ = some (.slice xd xc.d.length xn) ∧ w'.cell? ⟨b, off + n * 3, none⟩ = some (.int .i64 ya) ∧ w'.cell? ⟨b, off + n * 3 + 1, none⟩ = some (.int .i64 yc.k) ∧ w'.cell? ⟨b, off + n * 3 + 2, none⟩ = some (.slice yd yc.d.length yn))) (by kernel_rfl) ⟨by simpa using c0, by simpa using c1, by simpa using c2, by simpa using e0, by simpa using e1, by simpa using e2⟩ (fun hH0 => ?_)
      refine wpAnyH_take (i := 0) (oi := _) (v := .func (.func 129) #[] #[]) rfl (by kernel_rfl) (by kernel_rfl) (by kernel_rfl) (fun _ _ _ h => h) (Or.inl ⟨by rfl, ?_⟩) hH0 ?_
      · intro w hSw; go_simp
      simp only [Act.put, List.getElem_toArray, List.getElem_cons_zero, List.getElem_cons_succ, List.setIfInBounds_toArray, List.set_cons_zero, List.set_cons_succ]
      refine wpAnyH_take (i := 1) (oi := _) (v := .slice (some ⟨b, off, none⟩) E.length c) rfl (by kernel_rfl) (by kernel_rfl) (by kernel_rfl) (fun _ _ _ h => h) (Or.inl ⟨by rfl, ?_⟩) hH0 ?_
      · intro w hSw; go_simp
      simp only [Act.put, List.getElem_toArray, List.getElem_cons_zero, List.getElem_cons_succ, List.setIfInBounds_toArray, List.set_cons_zero, List.set_cons_succ]
      refine wpAnyH_take (i := 2) (oi := _) (v := .int .i64 ((n : Int) + 1)) rfl (by kernel_rfl) (by kernel_rfl) (by kernel_rfl) (fun _ _ _ h => h) (Or.inl ⟨by rfl, ?_⟩) hH0 ?_
      · intro w hSw; go_simp
      simp only [Act.put, List.getElem_toArray, List.getElem_cons_zero, List.getElem_cons_succ, List.setIfInBounds_toArray, List.set_cons_zero, List.set_cons_succ]
      refine wpAnyH_take (i := 3) (oi := _) (v := .pointer (some ⟨b, off + (n + 1) * 3, none⟩)) rfl (by kernel_rfl) (by kernel_rfl) (by kernel_rfl) (fun _ _ _ h => h) (Or.inl ⟨by rfl, ?_⟩) hH0 ?_
      · intro w hSw; go_simp; (try (intro h; exfalso; omega))
      simp only [Act.put, List.getElem_toArray, List.getElem_cons_zero, List.getElem_cons_succ, List.setIfInBounds_toArray, List.set_cons_zero, List.set_cons_succ]
      refine wpAnyH_take (i := 4) (oi := _) (v := .agg #[.int .i64 xa, .int .i64 xc.k, .slice xd xc.d.length xn]) rfl (by kernel_rfl) (by kernel_rfl) (by kernel_rfl) (fun _ _ _ h => h) (Or.inl ⟨by rfl, ?_⟩) hH0 ?_
      · intro w hSw; go_simp
      simp only [Act.put, List.getElem_toArray, List.getElem_cons_zero, List.getElem_cons_succ, List.setIfInBounds_toArray, List.set_cons_zero, List.set_cons_succ]
      refine wpAnyH_take (i := 5) (oi := _) (v := .slice (some ⟨b, off, none⟩) E.length c) rfl (by kernel_rfl) (by kernel_rfl) (by kernel_rfl) (fun _ _ _ h => h) (Or.inl ⟨by rfl, ?_⟩) hH0 ?_
      · intro w hSw; go_simp
      simp only [Act.put, List.getElem_toArray, List.getElem_cons_zero, List.getElem_cons_succ, List.setIfInBounds_toArray, List.set_cons_zero, List.set_cons_succ]
      refine wpAnyH_take (i := 6) (oi := _) (v := .int .i64 ((n : Int) + 1)) rfl (by kernel_rfl) (by kernel_rfl) (by kernel_rfl) (fun _ _ _ h => h) (Or.inl ⟨by rfl, ?_⟩) hH0 ?_
      · intro w hSw; go_simp
      simp only [Act.put, List.getElem_toArray, List.getElem_cons_zero, List.getElem_cons_succ, List.setIfInBounds_toArray, List.set_cons_zero, List.set_cons_succ]
      refine wpAnyH_take (i := 7) (oi := _) (v := .int .i64 (n : Int)) rfl (by kernel_rfl) (by kernel_rfl) (by kernel_rfl) (fun _ _ _ h => h) (Or.inl ⟨by rfl, ?_⟩) hH0 ?_
      · intro w hSw; go_simp; first | exact IntWalk.i64_in _ (by omega) | exact IntWalk.i64_in _ (by omega) (by omega)
      simp only [Act.put, List.getElem_toArray, List.getElem_cons_zero, List.getElem_cons_succ, List.setIfInBounds_toArray, List.set_cons_zero, List.set_cons_succ]
      refine wpAnyH_take (i := 8) (oi := _) (v := .pointer (some ⟨b, off + n * 3, none⟩)) rfl (by kernel_rfl) (by kernel_rfl) (by kernel_rfl) (fun _ _ _ h => h) (Or.inl ⟨by rfl, ?_⟩) hH0 ?_
      · intro w hSw; go_simp
      simp only [Act.put, List.getElem_toArray, List.getElem_cons_zero, List.getElem_cons_succ, List.setIfInBounds_toArray, List.set_cons_zero, List.set_cons_succ]
      refine wpAnyH_take (i := 9) (oi := _) (v := .agg #[.int .i64 ya, .int .i64 yc.k, .slice yd yc.d.length yn]) rfl (by kernel_rfl) (by kernel_rfl) (by kernel_rfl) (fun _ _ _ h => h) (Or.inl ⟨by rfl, ?_⟩) hH0 ?_
      · intro w hSw; go_simp
      simp only [Act.put, List.getElem_toArray, List.getElem_cons_zero, List.getElem_cons_succ, List.setIfInBounds_toArray, List.set_cons_zero, List.set_cons_succ]
      refine wpAnyH_ready (rs := [10]) (by kernel_rfl) (by simp) (AllReadyH.cons (o := _) rfl (fun K hK => ?_) AllReadyH.nil)
      go_simp
      refine (right1_any (xa, xc, xd, xn) (ya, yc, yd, yn) _).mono ?_
      rintro en w5 ⟨rfl, hb5'⟩
      have hb5 : Below wr.heap.size wr w5 := (Below.drew (Below.refl _ _)).trans hb5'
      clear hb5'
      rw [if_pos hle]
      have HB5 := Lib.hid' hb5
      have d0 := (hb5.cell (p := ⟨b, off + (n + 1) * 3, none⟩) hb).trans c0
      have d1 := (hb5.cell (p := ⟨b, off + (n + 1) * 3 + 1, none⟩) hb).trans c1
      have d2 := (hb5.cell (p := ⟨b, off + (n + 1) * 3 + 2, none⟩) hb).trans c2
      have d3 := (hb5.cell (p := ⟨b, off + n * 3, none⟩) hb).trans e0
      have d4 := (hb5.cell (p := ⟨b, off + n * 3 + 1, none⟩) hb).trans e1
      have d5 := (hb5.cell (p := ⟨b, off + n * 3 + 2, none⟩) hb).trans e2
      refine hK.out _ _ ?_ (fun hH1 => ?_)
      · exact ⟨d0, d1, d2, d3, d4, d5⟩
      clear hK K
      refine wpAnyH_take (i := 11) (oi := _) (v := .bool true) rfl (by kernel_rfl) (by kernel_rfl) (by kernel_rfl) (fun _ _ _ h => h) (Or.inl ⟨by rfl, ?_⟩) hH1 ?_
      · intro w hSw; go_simp
      simp only [Act.put, List.getElem_toArray, List.getElem_cons_zero, List.getElem_cons_succ, List.setIfInBounds_toArray, List.set_cons_zero, List.set_cons_succ]
      refine wpAnyH_done (by kernel_rfl) ?_ _
      have HF := Lib.hid' (show risesB (docE E) = false by
        rw [Bool.eq_false_iff]; intro hr
        have h5 := (risesB_iff _).1 hr (n + 1) (by omega) (by simpa [docE] using hn)
        simp only [docE, List.getElem_map, noAd, Nat.add_sub_cancel, HXE.out, HYE.out] at h5
        omega)
      go_wp2_with fail
      go_ret
      exact ⟨ret_eq (by rw [HF.out]; rfl), HBW.out.trans (HB5.out.mono HBW.out.size)⟩
    · refine wp_region_held_drew (S := (fun w' => w'.cell? ⟨b, off + (n + 1) * 3, none⟩ = some (.int .i64 xa) ∧ w'.cell? ⟨b, off + (n + 1) * 3 + 1, none⟩ = some (.int .i64 xc.k) ∧ w'.cell? ⟨b, off + (n + 1) * 3 + 2, none⟩ = some (.slice xd xc.d.length xn) ∧ w'.cell? ⟨b, off + n * 3, none⟩ = some (.int .i64 ya) ∧ w'.cell? ⟨b, off + n * 3 + 1, none⟩ = some (.int .i64 yc.k) ∧ w'.cell? ⟨b, off + n * 3 + 2, none⟩ = some (.slice yd yc.d.length yn))) (by kernel_rfl) ⟨by simpa using c0, by simpa using c1, by simpa using c2, by simpa using e0, by simpa using e1, by simpa using e2⟩ (fun hH0 => ?_)
      refine wpAnyH_take (i := 0) (oi := _) (v := .func (.func 129) #[] #[]) rfl (by kernel_rfl) (by kernel_rfl) (by kernel_rfl) (fun _ _ _ h => h) (Or.inl ⟨by rfl, ?_⟩) hH0 ?_
      · intro w hSw; go_simp
      simp only [Act.put, List.getElem_toArray, List.getElem_cons_zero, List.getElem_cons_succ, List.setIfInBounds_toArray, List.set_cons_zero, List.set_cons_succ]
      refine wpAnyH_take (i := 1) (oi := _) (v := .slice (some ⟨b, off, none⟩) E.length c) rfl (by kernel_rfl) (by kernel_rfl) (by kernel_rfl) (fun _ _ _ h => h) (Or.inl ⟨by rfl, ?_⟩) hH0 ?_
      · intro w hSw; go_simp
      simp only [Act.put, List.getElem_toArray, List.getElem_cons_zero, List.getElem_cons_succ, List.setIfInBounds_toArray, List.set_cons_zero, List.set_cons_succ]
      refine wpAnyH_take (i := 2) (oi := _) (v := .int .i64 ((n : Int) + 1)) rfl (by kernel_rfl) (by kernel_rfl) (by kernel_rfl) (fun _ _ _ h => h) (Or.inl ⟨by rfl, ?_⟩) hH0 ?_
      · intro w hSw; go_simp
      simp only [Act.put, List.getElem_toArray, List.getElem_cons_zero, List.getElem_cons_succ, List.setIfInBounds_toArray, List.set_cons_zero, List.set_cons_succ]
      refine wpAnyH_take (i := 3) (oi := _) (v := .pointer (some ⟨b, off + (n + 1) * 3, none⟩)) rfl (by kernel_rfl) (by kernel_rfl) (by kernel_rfl) (fun _ _ _ h => h) (Or.inl ⟨by rfl, ?_⟩) hH0 ?_
      · intro w hSw; go_simp; (try (intro h; exfalso; omega))
      simp only [Act.put, List.getElem_toArray, List.getElem_cons_zero, List.getElem_cons_succ, List.setIfInBounds_toArray, List.set_cons_zero, List.set_cons_succ]
      refine wpAnyH_take (i := 4) (oi := _) (v := .agg #[.int .i64 xa, .int .i64 xc.k, .slice xd xc.d.length xn]) rfl (by kernel_rfl) (by kernel_rfl) (by kernel_rfl) (fun _ _ _ h => h) (Or.inl ⟨by rfl, ?_⟩) hH0 ?_
      · intro w hSw; go_simp
      simp only [Act.put, List.getElem_toArray, List.getElem_cons_zero, List.getElem_cons_succ, List.setIfInBounds_toArray, List.set_cons_zero, List.set_cons_succ]
      refine wpAnyH_take (i := 5) (oi := _) (v := .slice (some ⟨b, off, none⟩) E.length c) rfl (by kernel_rfl) (by kernel_rfl) (by kernel_rfl) (fun _ _ _ h => h) (Or.inl ⟨by rfl, ?_⟩) hH0 ?_
      · intro w hSw; go_simp
      simp only [Act.put, List.getElem_toArray, List.getElem_cons_zero, List.getElem_cons_succ, List.setIfInBounds_toArray, List.set_cons_zero, List.set_cons_succ]
      refine wpAnyH_take (i := 6) (oi := _) (v := .int .i64 ((n : Int) + 1)) rfl (by kernel_rfl) (by kernel_rfl) (by kernel_rfl) (fun _ _ _ h => h) (Or.inl ⟨by rfl, ?_⟩) hH0 ?_
      · intro w hSw; go_simp
      simp only [Act.put, List.getElem_toArray, List.getElem_cons_zero, List.getElem_cons_succ, List.setIfInBounds_toArray, List.set_cons_zero, List.set_cons_succ]
      refine wpAnyH_take (i := 7) (oi := _) (v := .int .i64 (n : Int)) rfl (by kernel_rfl) (by kernel_rfl) (by kernel_rfl) (fun _ _ _ h => h) (Or.inl ⟨by rfl, ?_⟩) hH0 ?_
      · intro w hSw; go_simp; first | exact IntWalk.i64_in _ (by omega) | exact IntWalk.i64_in _ (by omega) (by omega)
      simp only [Act.put, List.getElem_toArray, List.getElem_cons_zero, List.getElem_cons_succ, List.setIfInBounds_toArray, List.set_cons_zero, List.set_cons_succ]
      refine wpAnyH_take (i := 8) (oi := _) (v := .pointer (some ⟨b, off + n * 3, none⟩)) rfl (by kernel_rfl) (by kernel_rfl) (by kernel_rfl) (fun _ _ _ h => h) (Or.inl ⟨by rfl, ?_⟩) hH0 ?_
      · intro w hSw; go_simp
      simp only [Act.put, List.getElem_toArray, List.getElem_cons_zero, List.getElem_cons_succ, List.setIfInBounds_toArray, List.set_cons_zero, List.set_cons_succ]
      refine wpAnyH_take (i := 9) (oi := _) (v := .agg #[.int .i64 ya, .int .i64 yc.k, .slice yd yc.d.length yn]) rfl (by kernel_rfl) (by kernel_rfl) (by kernel_rfl) (fun _ _ _ h => h) (Or.inl ⟨by rfl, ?_⟩) hH0 ?_
      · intro w hSw; go_simp
      simp only [Act.put, List.getElem_toArray, List.getElem_cons_zero, List.getElem_cons_succ, List.setIfInBounds_toArray, List.set_cons_zero, List.set_cons_succ]
      refine wpAnyH_ready (rs := [10]) (by kernel_rfl) (by simp) (AllReadyH.cons (o := _) rfl (fun K hK => ?_) AllReadyH.nil)
      go_simp
      refine (right1_any (xa, xc, xd, xn) (ya, yc, yd, yn) _).mono ?_
      rintro en w5 ⟨rfl, hb5'⟩
      have hb5 : Below wr.heap.size wr w5 := (Below.drew (Below.refl _ _)).trans hb5'
      clear hb5'
      rw [if_neg hle]
      have HB5 := Lib.hid' hb5
      have d0 := (hb5.cell (p := ⟨b, off + (n + 1) * 3, none⟩) hb).trans c0
      have d1 := (hb5.cell (p := ⟨b, off + (n + 1) * 3 + 1, none⟩) hb).trans c1
      have d2 := (hb5.cell (p := ⟨b, off + (n + 1) * 3 + 2, none⟩) hb).trans c2
      have d3 := (hb5.cell (p := ⟨b, off + n * 3, none⟩) hb).trans e0
      have d4 := (hb5.cell (p := ⟨b, off + n * 3 + 1, none⟩) hb).trans e1
      have d5 := (hb5.cell (p := ⟨b, off + n * 3 + 2, none⟩) hb).trans e2
      refine hK.out _ _ ?_ (fun hH1 => ?_)
      · exact ⟨d0, d1, d2, d3, d4, d5⟩
      clear hK K
      refine wpAnyH_take (i := 11) (oi := _) (v := .bool false) rfl (by kernel_rfl) (by kernel_rfl) (by kernel_rfl) (fun _ _ _ h => h) (Or.inl ⟨by rfl, ?_⟩) hH1 ?_
      · intro w hSw; go_simp
      simp only [Act.put, List.getElem_toArray, List.getElem_cons_zero, List.getElem_cons_succ, List.setIfInBounds_toArray, List.set_cons_zero, List.set_cons_succ]
      refine wpAnyH_done (by kernel_rfl) ?_ _
      go_wp2_with fail
      go_roundw
      case rel =>
        refine ⟨(n : Int), by go_num, by omega, by omega, fun j h1 h2 h3 => ?_, HBW.out.trans (HB5.out.mono HBW.out.size)⟩
        by_cases hj : j = n + 1
        · subst hj
          have h6 := HXE.out; have h7 := HYE.out
          rw [h6, show (E[n + 1 - 1]'(by omega)) = (ya, yc, yd, yn) from h7]
          show ya < xa
          omega
        · exact HOK.out j (by omega) h2 h3
      case measure => simp [intOf]; omega

end Go.Proofs.YtkljeefncopodaaGreat
