/- Layer 11 (proj), the document's: Same. -/
import Derived.Test.YtkljeefncopodaaGreatPrjS
namespace Go.Proofs.YtkljeefncopodaaGreat
open Go.RowKit
set_option linter.unusedSimpArgs false
set_option linter.unusedVariables false
set_option maxRecDepth 100000

theorem maps_take {X Y : List Ch} (hl : X.length = Y.length) {k : Nat} (h : (X.map (·.1)).take k = (Y.map (·.1)).take k) (hk : ¬ k < X.length) : X.map (·.1) = Y.map (·.1) :=
  eq_take (by simp [hl]) h (by simpa using hk)
theorem maps_next {X Y : List Ch} {k : Nat} (h : (X.map (·.1)).take k = (Y.map (·.1)).take k) (h1 : k < X.length) (h2 : k < Y.length) (he : X[k].1 = Y[k].1) : (X.map (·.1)).take (k + 1) = (Y.map (·.1)).take (k + 1) :=
  take_next h (by simpa using h1) (by simpa using h2) (by simpa using he)
theorem maps_no {X Y : List Ch} {k : Nat} (h1 : k < X.length) (h2 : k < Y.length) (he : X[k].1 ≠ Y[k].1) : (X.map (·.1) == Y.map (·.1)) = false := by
  rw [beq_eq_false_iff_ne]
  intro e
  have h3 := congrArg (fun l : List (List Int) => l[k]?) e
  simp [h1, h2] at h3
  exact he h3
set_option maxHeartbeats 4000000 in
theorem rsame11_any (e f : Int) (a b : Option Addr) (c d : Nat) (X Y : List Ch) (w : World) (h : Chs w a c X) (h' : Chs w b d Y) :
    Calls Tryz.prog 11 #[pjV e a c X, pjV f b d Y] w fun en w' => en = .returned (.bool (sameJ (docJ e X) (docJ f Y))) ∧ Below w.heap.size w w' := by
  have HS := Lib.hid' h
  have HM := Lib.hid' h'
  have hlen := h.len
  have hlen' := h'.len
  have HF := Lib.hid' (show sameJ (docJ e X) (docJ f Y) = (e == f && X.map (·.1) == Y.map (·.1)) from rfl)
  clear h h'
  unfold pjV
  cases he : (e == f) with
  | false =>
    have HE := Lib.hid' he
    have hn : (e != f) = true := by rw [bne_iff_ne]; intro h; subst h; simp at he
    clear he
    go_enter Tryz.func11, Tryz.ntmps11
    go_wp2
    go_ret
    exact ⟨ret_eq (by rw [HF.out, HE.out]; rfl), by go_grown⟩
  | true =>
    have HE := Lib.hid' he
    have hn : (e != f) = false := by rw [bne_eq_false_iff_eq]; exact beq_iff_eq.1 he
    clear he
    by_cases hl : X.length = Y.length
    rotate_left
    · have HQ := Lib.hid' (show (X.map (·.1) == Y.map (·.1)) = false by rw [beq_eq_false_iff_ne]; intro e; apply hl; have := congrArg List.length e; simpa using this)
      have hd : ((X.length : Int) != (Y.length : Int)) = true := by rw [bne_iff_ne]; omega
      clear hl
      go_enter Tryz.func11, Tryz.ntmps11
      go_wp2
      go_ret
      exact ⟨ret_eq (by rw [HF.out, HE.out, HQ.out]; rfl), by go_grown⟩
    have HL := Lib.hid' hl
    have hd : ((X.length : Int) != (Y.length : Int)) = false := by rw [bne_eq_false_iff_eq]; omega
    clear hl
    go_enter Tryz.func11, Tryz.ntmps11
    go_wp2_with fail
    clear hd hn
    have HB0 := Lib.hid' (show Below w.heap.size w ((w.alloc (.cells #[.int .i64 e, .slice a X.length c] 32)).alloc (.cells #[.int .i64 f, .slice b Y.length d] 32)) by go_grown)
    have BX1 := Lib.hid' (show BoxW w.heap.size [.int .i64 e, .slice a X.length c] 32 ((w.alloc (.cells #[.int .i64 e, .slice a X.length c] 32)).alloc (.cells #[.int .i64 f, .slice b Y.length d] 32)) from (BoxW.start w _ _).below (Nat.le_refl _) (by go_grown))
    have BX2 := Lib.hid' (show BoxW (w.heap.size + 1) [.int .i64 f, .slice b Y.length d] 32 ((w.alloc (.cells #[.int .i64 e, .slice a X.length c] 32)).alloc (.cells #[.int .i64 f, .slice b Y.length d] 32)) by
      have h := BoxW.start (w.alloc (.cells #[.int .i64 e, .slice a X.length c] 32)) [.int .i64 f, .slice b Y.length d] 32
      rw [show (w.alloc (.cells #[.int .i64 e, .slice a X.length c] 32)).heap.size = w.heap.size + 1 by simp] at h
      exact h)
    generalize ((w.alloc (.cells #[.int .i64 e, .slice a X.length c] 32)).alloc (.cells #[.int .i64 f, .slice b Y.length d] 32)) = w1 at *
    go_loopw [24] (fun v24 wr => ∃ k : Nat, v24 = .int .i64 k ∧ k ≤ X.length ∧ Hid ((X.map (·.1)).take k = (Y.map (·.1)).take k) ∧ Hid (Below w1.heap.size w1 wr)) (fun v24 _ => X.length - (intOf v24).toNat)
    case atStart => exact ⟨0, rfl, Nat.zero_le _, Lib.hid' (by simp), Lib.hid' (Below.refl _ _)⟩
    case round =>
      obtain ⟨k, rfl, hk, HNO, HB⟩ := hrel
      by_cases hlt : k < X.length
      · have hlt' : k < Y.length := by have := HL.out; omega
        have HBW := Lib.hid' (HB0.out.trans (HB.out.mono HB0.out.size))
        obtain ⟨b1, off1, ha1, hb1, hc1, hz1⟩ := (HS.out.below (Nat.le_refl _) HBW.out).at hlt
        obtain ⟨b2, off2, ha2, hb2, hc2, hz2⟩ := (HM.out.below (Nat.le_refl _) HBW.out).at hlt'
        have x1 := ((BX1.out.below (Nat.le_refl _) HB.out).box.1 1 _ rfl)
        have y1 := ((BX2.out.below (Nat.le_refl _) HB.out).box.1 1 _ rfl)
        subst ha1 ha2
        have hzl1 := hz1.len
        have hzl2 := hz2.len
        have HZ1 := Lib.hid' hz1
        have HZ2 := Lib.hid' hz2
        have HT := Lib.hid' (fun he => maps_next HNO.out hlt hlt' he)
        have HN := Lib.hid' (fun he => maps_no hlt hlt' he)
        clear hz1 hz2
        generalize X[k] = x at *
        generalize Y[k] = y at *
        obtain ⟨l, la, lc⟩ := x
        obtain ⟨m, ma, mc⟩ := y
        simp only at hc1 hc2 hzl1 hzl2 HZ1 HZ2 HT HN
        go_wp2_with fail
        by_cases hq : l.length = m.length
        rotate_left
        · have HF2 := Lib.hid' (HN.out (fun h => hq (by rw [h])))
          have hd : ((l.length : Int) != (m.length : Int)) = true := by rw [bne_iff_ne]; omega
          clear hq
          go_quiet (fail)
          go_wp2_with fail
          go_ret
          exact ⟨ret_eq (by rw [HF.out, HE.out, HF2.out]; rfl), below_drewN' HBW.out _⟩
        have HQ := Lib.hid' hq
        have hd : ((l.length : Int) != (m.length : Int)) = false := by rw [bne_eq_false_iff_eq]; omega
        clear hq
        go_quiet (fail)
        go_wp2_with fail
        clear hd
        go_loopw [46] (fun v46 ws => ∃ j : Nat, v46 = .int .i64 j ∧ j ≤ l.length ∧ Hid (l.take j = m.take j) ∧ Hid (Below wr.heap.size wr ws)) (fun v46 _ => l.length - (intOf v46).toNat)
        case atStart => exact ⟨0, rfl, Nat.zero_le _, Lib.hid' (by simp), Lib.hid' (below_drewN' (Below.refl _ _) _)⟩
        case round =>
          obtain ⟨j, rfl, hj, HNJ, HBJ⟩ := hrel
          by_cases hjl : j < l.length
          · have hjl' : j < m.length := by have := HQ.out; omega
            obtain ⟨b3, off3, rfl, hb3, hc3'⟩ := HZ1.out.at hjl
            obtain ⟨b4, off4, rfl, hb4, hc4'⟩ := HZ2.out.at hjl'
            have z1 := (HBJ.out.cell (p := ⟨w.heap.size, 1, none⟩) (BX1.out.below (Nat.le_refl _) HB.out).lt).trans x1
            have z2 := (HBJ.out.cell (p := ⟨w.heap.size + 1, 1, none⟩) (BX2.out.below (Nat.le_refl _) HB.out).lt).trans y1
            have z3 := (HBJ.out.cell (p := ⟨b1, off1 + k, none⟩) hb1).trans hc1
            have z4 := (HBJ.out.cell (p := ⟨b2, off2 + k, none⟩) hb2).trans hc2
            have z5 := (HBJ.out.cell (p := ⟨b3, off3 + j, none⟩) hb3).trans hc3'
            have z6 := (HBJ.out.cell (p := ⟨b4, off4 + j, none⟩) hb4).trans hc4'
            have HTJ := Lib.hid' (fun he => take_next HNJ.out hjl hjl' he)
            have HNN := Lib.hid' (show l[j] ≠ m[j] → l ≠ m from fun h e => by subst e; exact h rfl)
            clear hc3' hc4' x1 y1
            generalize l[j] = u at *
            generalize m[j] = v at *
            go_wp2_with fail
            cases hq : (u != v) with
            | true =>
              have HF2 := Lib.hid' (HN.out (HNN.out (by rwa [bne_iff_ne] at hq)))
              go_quiet (fail)
              go_wp2_with fail
              go_ret
              exact ⟨ret_eq (by rw [HF.out, HE.out, HF2.out]; rfl), below_drewN' (HBW.out.trans (HBJ.out.mono HBW.out.size)) _⟩
            | false =>
              have HF2 := Lib.hid' (HTJ.out (by rwa [bne_eq_false_iff_eq] at hq))
              go_quiet (fail)
              go_wp2_with fail
              go_roundw
              case rel => exact ⟨j + 1, by go_num, by omega, HF2, Lib.hid' (below_drewN' HBJ.out _)⟩
              case measure => simp [intOf]; omega
          · have HF2 := Lib.hid' (HT.out (eq_take HQ.out HNJ.out hjl))
            go_wp2_with fail
            go_roundw
            case rel => exact ⟨k + 1, by go_num, by omega, HF2, Lib.hid' (HB.out.trans (HBJ.out.mono HB.out.size))⟩
            case measure => simp [intOf]; omega
      · have HF2 := Lib.hid' (show (X.map (·.1) == Y.map (·.1)) = true by rw [beq_iff_eq]; exact maps_take HL.out HNO.out hlt)
        go_wp2_with fail
        go_ret
        exact ⟨ret_eq (by rw [HF.out, HE.out, HF2.out]; rfl), HB0.out.trans (HB.out.mono HB0.out.size)⟩
end Go.Proofs.YtkljeefncopodaaGreat
