/- Layer 11 (proj), the document's: has, Many, Check. -/
import Derived.Test.YtkljeefncopodaaGreatPrjA
import Derived.BigQuiet
namespace Go.Proofs.YtkljeefncopodaaGreat
open Go.RowKit
set_option linter.unusedSimpArgs false
set_option linter.unusedVariables false
set_option maxRecDepth 100000

theorem count_next {u : Int} {l : List Int} {j : Nat} (hj : j < l.length) : (l.take (j + 1)).count u = (l.take j).count u + (if l[j] == u then 1 else 0) := by
  rw [List.take_succ_eq_append_getElem hj, List.count_append, List.count_singleton]
set_option maxHeartbeats 1000000 in
theorem rmany_any (e u : Int) (a : Option Addr) (c : Nat) (X : List Ch) (w : World) (h : Chs w a c X) (ht : (flatC X).length ≤ 1099511627776) :
    Calls Tryz.prog 111 #[pjV e a c X, .int .i64 u] w fun en w' => en = .returned (.int .i64 ((flatC X).count u : Nat)) ∧ Below w.heap.size w w' := by
  have HS := Lib.hid' h
  have hlen := h.len
  clear h
  unfold pjV
  go_enter Tryz.func111, Tryz.ntmps111
  go_wp2_with fail
  have HB0 := Lib.hid' (show Below w.heap.size w (w.alloc (.cells #[.int .i64 e, .slice a X.length c] 32)) by go_grown)
  have x1 : (w.alloc (.cells #[.int .i64 e, .slice a X.length c] 32)).cell? ⟨w.heap.size, 1, none⟩ = some (.slice a X.length c) := by simp [go_sem]
  generalize (w.alloc (.cells #[.int .i64 e, .slice a X.length c] 32)) = w1 at *
  go_loop [5, 13] (fun v5 v13 => ∃ k : Nat, v13 = .int .i64 k ∧ k ≤ X.length ∧ v5 = .int .i64 (((flatC (X.take k)).count u : Nat) : Int)) (fun _ v13 => X.length - (intOf v13).toNat)
  case atStart => exact ⟨0, rfl, Nat.zero_le _, rfl⟩
  case round =>
    obtain ⟨k, rfl, hk, rfl⟩ := hrel
    by_cases hlt : k < X.length
    · obtain ⟨b, off, rfl, hb, hc, hz⟩ := (HS.out.below (Nat.le_refl _) HB0.out).at hlt
      have hzl := hz.len
      have HZ := Lib.hid' hz
      have HFT := Lib.hid' (show (flatC (X.take (k + 1))).count u = (flatC (X.take k)).count u + (X[k].1).count u by rw [flat_take hlt, List.count_append])
      have hnb : (flatC (X.take k)).count u + X[k].1.length ≤ 1099511627776 := by
        have h1 := flat_take_le X (k + 1)
        have h2 := List.count_le_length (a := u) (l := flatC (X.take k))
        rw [flat_take hlt, List.length_append] at h1
        omega
      clear hz
      generalize X[k] = y at *
      obtain ⟨l, ya, yc⟩ := y
      simp only at hc hzl HZ HFT hnb
      obtain ⟨n, hn⟩ : ∃ n, n = (flatC (X.take k)).count u := ⟨_, rfl⟩
      rw [← hn] at HFT hnb ⊢
      clear hn
      go_wp2_with fail
      go_loop [5, 19] (fun v5 v19 => ∃ j : Nat, v19 = .int .i64 j ∧ j ≤ l.length ∧ v5 = .int .i64 ((n + (l.take j).count u : Nat) : Int)) (fun _ v19 => l.length - (intOf v19).toNat)
      case atStart => exact ⟨0, rfl, Nat.zero_le _, rfl⟩
      case round =>
        obtain ⟨j, rfl, hj, rfl⟩ := hrel
        have hcl := List.count_le_length (a := u) (l := l.take j)
        rw [List.length_take] at hcl
        by_cases hjl : j < l.length
        · obtain ⟨b2, off2, rfl, hb2, hc2⟩ := HZ.out.at hjl
          have HT := Lib.hid' (count_next (u := u) hjl)
          generalize l[j] = z at *
          obtain ⟨m, hm⟩ : ∃ m, m = (l.take j).count u := ⟨_, rfl⟩
          rw [← hm] at HT hcl ⊢
          clear hm
          have hnm : n + m ≤ 1099511627776 := by omega
          cases hq : (z == u) with
          | true =>
            have HQ := Lib.hid' (show (l.take (j + 1)).count u = m + 1 by rw [HT.out, hq]; rfl)
            go_wp2_with fail
            go_round
            case rel => exact ⟨j + 1, by go_num, by omega, by rw [HQ.out]; go_num⟩
            case measure => simp [intOf]; omega
          | false =>
            have HQ := Lib.hid' (show (l.take (j + 1)).count u = m by rw [HT.out, hq]; rfl)
            go_wp2_with fail
            go_round
            case rel => exact ⟨j + 1, by go_num, by omega, by rw [HQ.out]⟩
            case measure => simp [intOf]; omega
        · have HQ := Lib.hid' (show l.take j = l from List.take_of_length_le (by omega))
          rw [HQ.out]
          have HE := Lib.hid' HFT.out.symm
          rw [HE.out]
          obtain ⟨m, hm⟩ : ∃ m, m = (flatC (X.take (k + 1))).count u := ⟨_, rfl⟩
          rw [← hm]
          have HM := Lib.hid' hm
          clear hm hcl
          go_wp2_with fail
          go_round
          case rel => exact ⟨k + 1, by go_num, by omega, by rw [HM.out]⟩
          case measure => simp [intOf]; omega
    · have HQ := Lib.hid' (show X.take k = X from List.take_of_length_le (by omega))
      rw [HQ.out]
      obtain ⟨m, hm⟩ : ∃ m, m = (flatC X).count u := ⟨_, rfl⟩
      rw [← hm]
      have HM := Lib.hid' hm
      clear hm
      go_wp2_with fail
      go_ret
      exact ⟨ret_eq (by rw [HM.out]; rfl), HB0.out⟩
end Go.Proofs.YtkljeefncopodaaGreat
