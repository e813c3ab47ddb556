/- Layer 11 (proj), the document's: Check, Same; holdfastlaw11.Document. -/
import Derived.Test.YtkljeefncopodaaGreatPrjR
import Derived.Test.YtkljeefncopodaaGreatStep
namespace Go.Proofs.YtkljeefncopodaaGreat
open Go.RowKit
set_option linter.unusedSimpArgs false
set_option linter.unusedVariables false
set_option maxRecDepth 100000

theorem doc11_any (e : Int) (a : Option Addr) (c : Nat) (X : List Ch) (w : World) : Calls Tryz.prog 12 #[pjV e a c X] w fun en w' => en = .returned (pjV e a c X) ∧ Below w.heap.size w w' := by
  unfold pjV
  go_enter Tryz.func12, Tryz.ntmps12
  go_wp2
  refine bodyPost_ret (v := .agg #[.int .i64 e, .slice a X.length c]) (by simp [results, Tryz.results12, go_sem]) rfl ⟨rfl, ?_⟩
  go_grown
theorem rck_1 {p : Pj} (h : p.e < 0 ∨ 1099511627776 < p.e) : p.rCheck = 1 := if_pos h
theorem rck_2 {p : Pj} (h : ¬ (p.e < 0 ∨ 1099511627776 < p.e)) (h2 : p.cs.length = 0 ∨ 4 < p.cs.length) : p.rCheck = 2 := by unfold Pj.rCheck; rw [if_neg h, if_pos h2]
theorem rck_3 {p : Pj} (h : ¬ (p.e < 0 ∨ 1099511627776 < p.e)) (h2 : ¬ (p.cs.length = 0 ∨ 4 < p.cs.length)) (h3 : p.cs.any wrongC = true) : p.rCheck = 2 := by unfold Pj.rCheck; rw [if_neg h, if_neg h2, if_pos h3]
theorem rck_4 {p : Pj} (h : ¬ (p.e < 0 ∨ 1099511627776 < p.e)) (h2 : ¬ (p.cs.length = 0 ∨ 4 < p.cs.length)) (h3 : ¬ p.cs.any wrongC = true) (h4 : p.all.any oddU = true) : p.rCheck = 1 := by unfold Pj.rCheck; rw [if_neg h, if_neg h2, if_neg h3, if_pos h4]
theorem rck_5 {p : Pj} (h : ¬ (p.e < 0 ∨ 1099511627776 < p.e)) (h2 : ¬ (p.cs.length = 0 ∨ 4 < p.cs.length)) (h3 : ¬ p.cs.any wrongC = true) (h4 : ¬ p.all.any oddU = true) : p.rCheck = if p.all.any (fun u => decide (1 < p.all.count u)) = true then 2 else 0 := by unfold Pj.rCheck; rw [if_neg h, if_neg h2, if_neg h3, if_neg h4]
theorem odd_t {u : Int} (h : u < 0 ∨ 7 < u) : oddU u = true := by unfold oddU; simp; omega
theorem odd_f {u : Int} (h : ¬ (u < 0 ∨ 7 < u)) : oddU u = false := by unfold oddU; simp; omega
theorem any_next {α : Type} (f : α → Bool) {l : List α} {j : Nat} (hj : j < l.length) : (l.take (j + 1)).any f = ((l.take j).any f || f l[j]) := by
  rw [List.take_succ_eq_append_getElem hj, List.any_append]; simp
def twiceF (X : List Ch) (u : Int) : Bool := decide (1 < (flatC X).count u)
set_option maxHeartbeats 4000000 in
theorem rcheck11_any (e : Int) (a : Option Addr) (c : Nat) (X : List Ch) (w : World) (h : Chs w a c X) (ht : (flatC X).length ≤ 1099511627776) :
    Calls Tryz.prog 48 #[pjV e a c X] w fun en w' => en = .returned (.int .i64 (docJ e X).check) ∧ Below w.heap.size w w' := by
  rw [← Pj.check_ref]
  have HS := Lib.hid' h
  have hlen := h.len
  clear h
  have HMN := Lib.hid' (fun u w h => rmany_any e u a c X w h ht)
  have R1 := Lib.hid' (rck_1 (p := docJ e X))
  have R2 := Lib.hid' (rck_2 (p := docJ e X))
  have R3 := Lib.hid' (rck_3 (p := docJ e X))
  have R4 := Lib.hid' (rck_4 (p := docJ e X))
  have R5 := Lib.hid' (rck_5 (p := docJ e X))
  have HL := Lib.hid' (show (docJ e X).cs.length = X.length by simp [docJ])
  have HWX := Lib.hid' (any_wrong e X)
  have HAL := Lib.hid' (docJ_all e X)
  obtain ⟨rc, hrc⟩ : ∃ n, n = (docJ e X).rCheck := ⟨_, rfl⟩
  rw [← hrc] at R1 R2 R3 R4 R5 ⊢
  rw [HL.out] at R2 R3 R4 R5
  rw [← HWX.out] at R3 R4 R5
  rw [HAL.out] at R4 R5
  clear hrc HL HWX HAL
  have hde : (docJ e X).e = e := rfl
  rw [hde] at R1 R2 R3 R4 R5
  clear hde
  unfold pjV at HMN ⊢
  by_cases h1 : e < 0 ∨ 1099511627776 < e
  · have HF := Lib.hid' (R1.out h1)
    clear R1 R2 R3 R4 R5
    rcases h1 with h1 | h1
    · go_enter Tryz.func48, Tryz.ntmps48
      go_wp2
      go_ret
      exact ⟨ret_eq (by rw [HF.out]; rfl), by go_grown⟩
    · have h0 : ¬ e < 0 := by omega
      go_enter Tryz.func48, Tryz.ntmps48
      go_wp2
      go_ret
      exact ⟨ret_eq (by rw [HF.out]; rfl), by go_grown⟩
  have g1 : ¬ e < 0 := by omega
  have g2 : ¬ 1099511627776 < e := by omega
  have R2 := Lib.hid' (R2.out h1)
  have R3 := Lib.hid' (R3.out h1)
  have R4 := Lib.hid' (R4.out h1)
  have R5 := Lib.hid' (R5.out h1)
  clear h1 R1
  by_cases h2 : X.length = 0 ∨ 4 < X.length
  · have HF := Lib.hid' (R2.out h2)
    clear R2 R3 R4 R5
    by_cases h0 : X.length = 0
    · have hb : ((X.length : Int) == 0) = true := by rw [beq_iff_eq]; omega
      clear h2 h0
      go_enter Tryz.func48, Tryz.ntmps48
      go_wp2
      go_ret
      exact ⟨ret_eq (by rw [HF.out]; rfl), by go_grown⟩
    · have hb : ((X.length : Int) == 0) = false := by rw [beq_eq_false_iff_ne]; omega
      have h4 : 4 < X.length := by omega
      clear h2 h0
      go_enter Tryz.func48, Tryz.ntmps48
      go_wp2
      go_ret
      exact ⟨ret_eq (by rw [HF.out]; rfl), by go_grown⟩
  have hb0 : ((X.length : Int) == 0) = false := by rw [beq_eq_false_iff_ne]; omega
  have hb4 : ¬ 4 < X.length := by omega
  have R3 := Lib.hid' (R3.out h2)
  have R4 := Lib.hid' (R4.out h2)
  have R5 := Lib.hid' (R5.out h2)
  clear h2 R2
  go_enter Tryz.func48, Tryz.ntmps48
  go_wp2_with fail
  have HB0 := Lib.hid' (show Below w.heap.size w (w.alloc (.cells #[.int .i64 e, .slice a X.length c] 32)) by go_grown)
  have x0 : (w.alloc (.cells #[.int .i64 e, .slice a X.length c] 32)).cell? ⟨w.heap.size, 0, none⟩ = some (.int .i64 e) := by simp [go_sem]
  have x1 : (w.alloc (.cells #[.int .i64 e, .slice a X.length c] 32)).cell? ⟨w.heap.size, 1, none⟩ = some (.slice a X.length c) := by simp [go_sem]
  have hz1 : w.heap.size < (w.alloc (.cells #[.int .i64 e, .slice a X.length c] 32)).heap.size := by simp
  generalize (w.alloc (.cells #[.int .i64 e, .slice a X.length c] 32)) = w1 at *
  go_loop [31] (fun v31 => ∃ k : Nat, v31 = .int .i64 k ∧ k ≤ X.length ∧ Hid (∀ y ∈ X.take k, wrongN y.1.length = false)) (fun v31 => X.length - (intOf v31).toNat)
  case atStart => exact ⟨0, rfl, Nat.zero_le _, Lib.hid' (by simp)⟩
  case round =>
    obtain ⟨k, rfl, hk, HNO⟩ := hrel
    by_cases hlt : k < X.length
    · obtain ⟨b, off, rfl, hb, hc, hz⟩ := (HS.out.below (Nat.le_refl _) HB0.out).at hlt
      have hzl := hz.len
      have HM := Lib.hid' (List.getElem_mem hlt)
      have HT := Lib.hid' (fun h2 => take_no (f := fun x : Ch => wrongN x.1.length) hlt HNO.out h2)
      clear hz
      generalize X[k] = y at *
      by_cases hq0 : y.1.length = 0
      · have HF := Lib.hid' (R3.out (List.any_eq_true.2 ⟨y, HM.out, by rw [hq0]; rfl⟩))
        have hq : ((y.1.length : Int) == 0) = true := by rw [beq_iff_eq]; omega
        clear hq0
        go_wp2_with fail
        go_ret
        exact ⟨ret_eq (by rw [HF.out]; rfl), HB0.out⟩
      have hq : ((y.1.length : Int) == 0) = false := by rw [beq_eq_false_iff_ne]; omega
      by_cases hq4 : 4 < y.1.length
      · have HF := Lib.hid' (R3.out (List.any_eq_true.2 ⟨y, HM.out, by unfold wrongN; rw [decide_eq_true hq4]; simp⟩))
        clear hq0
        go_wp2_with fail
        go_ret
        exact ⟨ret_eq (by rw [HF.out]; rfl), HB0.out⟩
      · have HF := Lib.hid' (HT.out (by unfold wrongN; rw [decide_eq_false (by omega), decide_eq_false (by omega)]; rfl))
        clear hq0
        go_wp2_with fail
        go_round
        case rel => exact ⟨k + 1, by go_num, by omega, HF⟩
        case measure => simp [intOf]; omega
    · have HNW := Lib.hid' (show ¬ X.any (fun x => wrongN x.1.length) = true by
        have := HNO.out; rw [List.take_of_length_le (by omega)] at this
        rw [List.any_eq_true]; rintro ⟨y, hy, h⟩; rw [this y hy] at h; cases h)
      have R4 := Lib.hid' (R4.out HNW.out)
      have R5 := Lib.hid' (R5.out HNW.out)
      clear R3 HNW
      go_wp2_with fail
      go_loopw [5, 47] (fun v5 v47 wr => ∃ k : Nat, v47 = .int .i64 k ∧ k ≤ X.length ∧ v5 = .bool ((flatC (X.take k)).any (twiceF X)) ∧ Hid (∀ y ∈ flatC (X.take k), oddU y = false) ∧ Hid (Below w.heap.size w wr) ∧ wr.cell? ⟨w.heap.size, 0, none⟩ = some (.int .i64 e) ∧ wr.cell? ⟨w.heap.size, 1, none⟩ = some (.slice a X.length c) ∧ w.heap.size < wr.heap.size) (fun _ v47 _ => X.length - (intOf v47).toNat)
      case atStart => exact ⟨0, rfl, Nat.zero_le _, rfl, Lib.hid' (by simp [flatC]), HB0, x0, x1, hz1⟩
      case round =>
        clear x0 x1 hz1 HB0
        obtain ⟨k, rfl, hk, rfl, HNO, HBk, x0, x1, hz1⟩ := hrel
        by_cases hlt : k < X.length
        · obtain ⟨b, off, rfl, hb, hc, hz⟩ := (HS.out.below (Nat.le_refl _) HBk.out).at hlt
          have hzl := hz.len
          have HZ := Lib.hid' hz
          have HFT := Lib.hid' (flat_take hlt)
          have HMEM := Lib.hid' (show ∀ y ∈ X[k].1, y ∈ flatC X by
            intro y hy; unfold flatC; exact List.mem_flatten.2 ⟨_, List.mem_map.2 ⟨_, List.getElem_mem hlt, rfl⟩, hy⟩)
          clear hz
          generalize X[k] = y at *
          obtain ⟨l, ya, yc⟩ := y
          simp only at hc hzl HZ HFT HMEM
          obtain ⟨q, hq⟩ : ∃ q, q = flatC (X.take k) := ⟨_, rfl⟩
          rw [← hq] at HFT HNO ⊢
          clear hq
          go_wp2_with fail
          go_loopw [5, 53] (fun v5 v53 wr => ∃ j : Nat, v53 = .int .i64 j ∧ j ≤ l.length ∧ v5 = .bool ((q ++ l.take j).any (twiceF X)) ∧ Hid (∀ y ∈ l.take j, oddU y = false) ∧ Hid (Below w.heap.size w wr) ∧ Hid (Zs wr (.slice ya l.length yc) l) ∧ wr.cell? ⟨w.heap.size, 0, none⟩ = some (.int .i64 e) ∧ wr.cell? ⟨w.heap.size, 1, none⟩ = some (.slice (some ⟨b, off, none⟩) X.length c) ∧ w.heap.size < wr.heap.size) (fun _ v53 _ => l.length - (intOf v53).toNat)
          case atStart => exact ⟨0, rfl, Nat.zero_le _, by rw [List.take_zero, List.append_nil], Lib.hid' (by simp), HBk, HZ, x0, x1, hz1⟩
          case round =>
            clear x0 x1 hz1 HBk HZ hb hc
            obtain ⟨j, rfl, hj, rfl, HNJ, HBk, HZ, x0, x1, hz1⟩ := hrel
            by_cases hjl : j < l.length
            · obtain ⟨b2, off2, rfl, hb2, hc2⟩ := HZ.out.at hjl
              have HT := Lib.hid' (fun h2 => take_no (f := oddU) hjl HNJ.out h2)
              have HAN := Lib.hid' (show (q ++ l.take (j + 1)).any (twiceF X) = ((q ++ l.take j).any (twiceF X) || twiceF X l[j]) by
                rw [List.take_succ_eq_append_getElem hjl, ← List.append_assoc, List.any_append]; simp)
              have HM := Lib.hid' (HMEM.out _ (List.getElem_mem hjl))
              generalize l[j] = z at *
              by_cases hodd : z < 0 ∨ 7 < z
              · have HF := Lib.hid' (R4.out (List.any_eq_true.2 ⟨z, HM.out, odd_t hodd⟩))
                by_cases hz0 : z < 0
                · clear hodd
                  go_wp2_with fail
                  go_ret
                  exact ⟨ret_eq (by rw [HF.out]; rfl), HBk.out⟩
                · have hz7 : 7 < z := by omega
                  clear hodd
                  go_wp2_with fail
                  go_ret
                  exact ⟨ret_eq (by rw [HF.out]; rfl), HBk.out⟩
              · have HF := Lib.hid' (HT.out (odd_f hodd))
                have hz0 : ¬ z < 0 := by omega
                have hz7 : ¬ 7 < z := by omega
                clear hodd
                obtain ⟨B, hB⟩ : ∃ B, B = (q ++ l.take j).any (twiceF X) := ⟨_, rfl⟩
                rw [← hB] at HAN ⊢
                clear hB
                cases B with
                | true =>
                  have HQ := Lib.hid' (show (q ++ l.take (j + 1)).any (twiceF X) = true by rw [HAN.out]; rfl)
                  go_wp2_with fail
                  go_roundw
                  case rel => exact ⟨j + 1, by go_num, by omega, by rw [HQ.out], HF, HBk, HZ, x0, x1, hz1⟩
                  case measure => simp [intOf]; omega
                | false =>
                  have HQ := Lib.hid' (show (q ++ l.take (j + 1)).any (twiceF X) = decide (1 < (flatC X).count z) by rw [HAN.out]; rfl)
                  have HC := HMN.out z wr (HS.out.below (Nat.le_refl _) HBk.out)
                  obtain ⟨n, hn⟩ : ∃ n, n = (flatC X).count z := ⟨_, rfl⟩
                  rw [← hn] at HC HQ
                  clear hn
                  go_wp2_with fail
                  refine HC.mono ?_
                  rintro en w2 ⟨rfl, hb9⟩
                  have HB2 := Lib.hid' (HBk.out.trans (hb9.mono (by omega)))
                  have HZ2 := Lib.hid' (show Zs w2 _ l from SlV.below HZ.out (Nat.le_refl _) hb9)
                  have y0 := (hb9.cell (p := ⟨w.heap.size, 0, none⟩) hz1).trans x0
                  have y1 := (hb9.cell (p := ⟨w.heap.size, 1, none⟩) hz1).trans x1
                  have hz2 : w.heap.size < w2.heap.size := Nat.lt_of_lt_of_le hz1 hb9.size
                  clear hb9 x0 x1 HC
                  by_cases hn1 : 1 < n
                  · have HQ2 := Lib.hid' (HQ.out.trans (decide_eq_true hn1))
                    go_wp2_with fail
                    go_roundw
                    case rel => exact ⟨j + 1, by go_num, by omega, by rw [HQ2.out, decide_eq_true (show (1 : Int) < n by omega)], HF, HB2, HZ2, y0, y1, hz2⟩
                    case measure => simp [intOf]; omega
                  · have HQ2 := Lib.hid' (HQ.out.trans (decide_eq_false hn1))
                    go_wp2_with fail
                    go_roundw
                    case rel => exact ⟨j + 1, by go_num, by omega, by rw [HQ2.out, decide_eq_false (show ¬ (1 : Int) < n by omega)], HF, HB2, HZ2, y0, y1, hz2⟩
                    case measure => simp [intOf]; omega
            · have HE := Lib.hid' (show l.take j = l from List.take_of_length_le (by omega))
              rw [HE.out] at HNJ ⊢
              obtain ⟨r, hr⟩ : ∃ r, r = flatC (X.take (k + 1)) := ⟨_, rfl⟩
              have HRR := Lib.hid' hr
              rw [← HFT.out, ← hr]
              have HNR := Lib.hid' (show ∀ y ∈ r, oddU y = false by
                rw [hr, HFT.out]; intro y hy
                rcases List.mem_append.1 hy with hy | hy
                · exact HNO.out y hy
                · exact HNJ.out y hy)
              clear hr
              go_wp2_with fail
              go_roundw
              case rel => exact ⟨k + 1, by go_num, by omega, by rw [HRR.out], by rw [← HRR.out]; exact HNR, HBk, x0, x1, hz1⟩
              case measure => simp [intOf]; omega
        · have HE := Lib.hid' (show X.take k = X from List.take_of_length_le (by omega))
          rw [HE.out] at HNO ⊢
          have HF := Lib.hid' (R5.out (by rw [List.any_eq_true]; rintro ⟨y, hy, h⟩; rw [HNO.out y hy] at h; cases h))
          have HTW := Lib.hid' (show (flatC X).any (fun u => decide (1 < (flatC X).count u)) = (flatC X).any (twiceF X) from rfl)
          rw [HTW.out] at HF
          obtain ⟨B, hB⟩ : ∃ B, B = (flatC X).any (twiceF X) := ⟨_, rfl⟩
          rw [← hB] at HF ⊢
          clear hB
          cases B with
          | true =>
            go_wp2_with fail
            go_ret
            exact ⟨ret_eq (by rw [HF.out]; rfl), HBk.out⟩
          | false =>
            go_wp2_with fail
            go_ret
            exact ⟨ret_eq (by rw [HF.out]; rfl), HBk.out⟩
end Go.Proofs.YtkljeefncopodaaGreat
