/- Layer 1 (varint): PutText, PutList, Take. -/
import Derived.Test.YtkljeefncopodaaGreatVarA
namespace Go.Proofs.YtkljeefncopodaaGreat
open Go.RowKit
set_option linter.unusedSimpArgs false
set_option linter.unusedVariables false
set_option maxRecDepth 20000

theorem us_one (w : World) (x : Nat) (t : Nat) : Us (w.alloc (.cells #[.int .u64 (x : Int)] t)) (.slice (some ⟨w.heap.size, 0, none⟩) 1 1) [x] :=
  SlV.new w [.int .u64 (x : Int)] 1 t (by decide)
set_option maxHeartbeats 1000000 in
theorem vPutText_any (b t : List UInt8) (a ta : Option Addr) (c tc : Nat) (w : World) (h : Bytes w (.slice a b.length c) b) (hT : Bytes w (.slice ta t.length tc) t) (hb : b.length ≤ 1073741824) (hlt : t.length ≤ 1073741824) :
    Calls Tryz.prog 65 #[.slice a b.length c, .slice ta t.length tc] w (OwnR w.heap.size 5 1 (b ++ headB t).length (byteVs (b ++ headB t)) w) := by
  have HB := Lib.hid' h
  have HT := Lib.hid' hT
  clear h hT
  go_enter Tryz.func65, Tryz.ntmps65
  go_wp2_with fail
  have hg : Below w.heap.size w (w.alloc (.cells #[.int .u64 (t.length : Int)] 86)) := by go_grown
  have HC := Lib.hid' (vPut_any b a c [t.length] (some ⟨w.heap.size, 0, none⟩) 1 _ (show Bytes (w.alloc (.cells #[.int .u64 (t.length : Int)] 86)) (.slice a b.length c) b from SlV.below HB.out (Nat.le_refl _) hg) (us_one w t.length _) (by intro n hn; simp at hn; omega) hb (by simp))
  have HT1 := Lib.hid' (show Bytes (w.alloc (.cells #[.int .u64 (t.length : Int)] 86)) (.slice ta t.length tc) t from SlV.below HT.out (Nat.le_refl _) hg)
  have HG := Lib.hid' hg
  have hz : (w.alloc (.cells #[.int .u64 (t.length : Int)] 86)).heap.size = w.heap.size + 1 := by simp
  clear hg
  generalize (w.alloc (.cells #[.int .u64 (t.length : Int)] 86)) = w1 at *
  obtain ⟨r, hr⟩ : ∃ r, r = b ++ vbs [t.length] := ⟨_, rfl⟩
  have hrl : r.length ≤ 1073741844 := by
    have := vbs_len (l := [t.length]) (by intro n hn; simp at hn; omega)
    rw [hr]; simp only [List.length_append]; simp at this; omega
  have HR := Lib.hid' (show b ++ headB t = r ++ t by rw [hr]; simp [vbs, headB])
  rw [← hr] at HC
  clear hr
  refine HC.out.mono ?_
  rintro e w2 ⟨a2, c2, rfl, ho2, hb2⟩
  have HO2 := Lib.hid' (own_base (B' := w.heap.size) ho2 (by omega))
  have HB2 := Lib.hid' (HG.out.trans (hb2.mono (by omega)))
  have HT2 := Lib.hid' (show Bytes w2 (.slice ta t.length tc) t from SlV.below HT1.out (Nat.le_refl _) hb2)
  have hz2 : w.heap.size ≤ w2.heap.size := by have := hb2.size; omega
  clear ho2 hb2 hz HC HT1
  go_wp2_with (at_builtin; refine append_sl etBytes rfl (.tmp 10) (.tmp 11) rfl w.heap.size r.length (byteVs r) _ rfl HO2.out t.length (byteVs t) _ rfl HT2.out (by simp [byteVs]) (byteVs_one _) (by omega) hz2 ?_)
  intro a3 c3 w3 ho3 hf3
  have HL := Lib.hid' (show (b ++ headB t).length = r.length + t.length by rw [HR.out]; simp)
  have HO3 := Lib.hid' (show w3.ownsRow w.heap.size 5 1 (.slice a3 (b ++ headB t).length c3) (b ++ headB t).length (byteVs (b ++ headB t)) by rw [HL.out, HR.out, byteVs_append]; exact ho3)
  have HB3 := Lib.hid' (hf3.row HO2.out (Nat.le_refl _) hz2 HB2.out)
  clear ho3 hf3
  go_wp2_with fail
  go_ret
  exact ⟨a3, c3, ret_eq (by rw [HL.out]; rfl), HO3.out, HB3.out⟩

/- plain: what Take answers -/
theorem vt_all {b : List UInt8} (h : ∀ y ∈ b.take 10, 128 ≤ y.toNat) : vtake b = none := by
  unfold vtake
  have : vend (b.take 10) 0 = none := by
    cases hq : vend (b.take 10) 0 with
    | none => rfl
    | some k =>
      obtain ⟨_, h2, h3, _⟩ := vend_some hq
      simp only [Nat.sub_zero] at h2 h3
      have := h ((b.take 10).getD k 0) (by rw [List.getD, List.getElem?_eq_getElem h2]; exact List.getElem_mem h2)
      omega
  rw [this]
theorem vend_at {b : List UInt8} {k : Nat} (hk : k < 10) (hl : k < b.length) (h : ∀ y ∈ b.take k, 128 ≤ y.toNat) (hx : b[k].toNat < 128) : vend (b.take 10) 0 = some k := by
  have e : b.take 10 = b.take k ++ b[k] :: (b.drop (k + 1)).take (10 - (k + 1)) := by
    rw [show 10 = k + (10 - k) by omega, List.take_add, List.drop_eq_getElem_cons hl]
    congr 1
    rw [show 10 - k = (10 - (k + 1)) + 1 by omega, List.take_succ_cons]
    congr 2; omega
  rw [e, vend_mk _ _ _ _ hx h, List.length_take]
  congr 1; omega
theorem getD_at {b : List UInt8} {k : Nat} (hl : k < b.length) : b.getD k 0 = b[k] := by simp [List.getD, hl]
theorem vt_hit {b : List UInt8} {k : Nat} (hk : k < 10) (hl : k < b.length) (h : ∀ y ∈ b.take k, 128 ≤ y.toNat) (hx : b[k].toNat < 128) (h0 : ¬ (k ≠ 0 ∧ b[k].toNat = 0)) (h9 : ¬ (k = 9 ∧ 1 < b[k].toNat)) : vtake b = some (vv (b.take (k + 1)), k + 1) := by
  unfold vtake
  rw [vend_at hk hl h hx]
  simp only [getD_at hl]
  rw [if_neg (by rintro (h | h); exact h0 h; exact h9 h)]
theorem vt_bad {b : List UInt8} {k : Nat} (hk : k < 10) (hl : k < b.length) (h : ∀ y ∈ b.take k, 128 ≤ y.toNat) (hx : b[k].toNat < 128) (h0 : (k ≠ 0 ∧ b[k].toNat = 0) ∨ (k = 9 ∧ 1 < b[k].toNat)) : vtake b = none := by
  unfold vtake
  rw [vend_at hk hl h hx]
  simp only [getD_at hl]
  rw [if_pos h0]
theorem vt_nine {b : List UInt8} (hl : 9 < b.length) (h : ∀ y ∈ b.take 9, 128 ≤ y.toNat) (hx : 1 < b[9].toNat) : vtake b = none := by
  by_cases h2 : b[9].toNat < 128
  · exact vt_bad (by decide) hl h h2 (.inr ⟨rfl, hx⟩)
  · refine vt_all fun y hy => ?_
    rw [List.take_succ_eq_append_getElem hl] at hy
    rcases List.mem_append.1 hy with hy | hy
    · exact h y hy
    · simp at hy; subst hy; omega
theorem vv_next {b : List UInt8} {k : Nat} (hl : k < b.length) : vv (b.take (k + 1)) = vv (b.take k) + 128 ^ k * (b[k].toNat % 128) := by
  rw [List.take_succ_eq_append_getElem hl, vv_append, List.length_take, Nat.min_eq_left (by omega)]
  simp [vv]
theorem vv_bound {b : List UInt8} {k : Nat} (hl : k ≤ b.length) : vv (b.take k) < 128 ^ k := by
  have := vv_lt (b.take k)
  rwa [List.length_take, Nat.min_eq_left hl] at this
theorem pow128 (k : Nat) : (128 : Nat) ^ k = 2 ^ (7 * k) := by rw [show (128 : Nat) = 2 ^ 7 from rfl, ← Nat.pow_mul]
theorem shl_or {n x k : Nat} (hk : k ≤ 9) (hn : n < 128 ^ k) (hx : k = 9 → x % 128 ≤ 1) : bits .or .u64 (n : Int) (IntKind.u64.wrap ((x : Int) % 128 * 2 ^ (7 * k))) = ((n + 128 ^ k * (x % 128) : Nat) : Int) := by
  have h1 : 128 ^ k * (x % 128) < 18446744073709551616 := by
    rcases Nat.lt_or_ge k 9 with h | h
    · have : 128 ^ k ≤ 128 ^ 8 := Nat.pow_le_pow_right (by decide) (by omega)
      have h2 : x % 128 ≤ 127 := by omega
      have := Nat.mul_le_mul this h2
      omega
    · obtain rfl : k = 9 := by omega
      have := hx rfl
      have := Nat.mul_le_mul (Nat.le_refl (128 ^ 9)) this
      omega
  have hn2 : n < 18446744073709551616 := by
    have : 128 ^ k ≤ 128 ^ 9 := Nat.pow_le_pow_right (by decide) hk
    have h9 : (128 : Nat) ^ 9 = 9223372036854775808 := by decide
    omega
  have e : (x : Int) % 128 * 2 ^ (7 * k) = ((128 ^ k * (x % 128) : Nat) : Int) := by
    rw [pow128]; push_cast; exact Int.mul_comm _ _
  rw [e, wraps_u64 _ (by omega) (by omega), or_u64 hn2 h1]
  rw [pow128] at hn ⊢
  rw [or_add hn]
def TakeR (r : Option (Nat × Nat)) : Value := match r with | none => .tuple #[.int .u64 0, .int .i64 0, errV 2] | some (n, k) => .tuple #[.int .u64 (n : Nat), .int .i64 (k : Nat), .nilIface]
set_option maxHeartbeats 1000000 in
theorem vTake_any (b : List UInt8) (a : Option Addr) (c : Nat) (w : World) (h : Bytes w (.slice a b.length c) b) :
    Calls Tryz.prog 100 #[.slice a b.length c] w fun e w' => e = .returned (TakeR (vtake b)) ∧ w = w' := by
  have HB := Lib.hid' h
  have hlen := bytes_len h
  have hcap : b.length ≤ c := by obtain ⟨_, _, he, h1, _⟩ := h; cases he; exact h1
  obtain ⟨m, hm⟩ : ∃ m : Nat, m = min b.length 10 := ⟨_, rfl⟩
  have hm1 : m ≤ 10 := by omega
  have hm2 : m ≤ b.length := by omega
  have hmc : m ≤ c := by omega
  have hmi : min (b.length : Int) 10 = (m : Int) := by omega
  have HM := Lib.hid' hm
  clear h hm
  go_enter Tryz.func100, Tryz.ntmps100
  go_wp2_with fail
  go_loop [5, 15] (fun v5 v15 => ∃ k : Nat, v15 = .int .i64 k ∧ k ≤ m ∧ v5 = .int .u64 (vv (b.take k) : Nat) ∧ Hid (∀ y ∈ b.take k, 128 ≤ y.toNat)) (fun _ v15 => m - (intOf v15).toNat)
  case atStart => exact ⟨0, rfl, Nat.zero_le _, rfl, Lib.hid' (by simp)⟩
  case round =>
    obtain ⟨k, rfl, hk, rfl, HA⟩ := hrel
    clear hmi
    by_cases hlt : k < m
    · have hl : k < b.length := by omega
      obtain ⟨bb, off, rfl, hbb, hc⟩ := bytes_at HB.out hl
      have HVN := Lib.hid' (vv_next hl)
      have hvb := vv_bound (b := b) (k := k) (by omega)
      have HVB := Lib.hid' hvb
      have hx256 := b[k].toNat_lt
      have e1 := andNot128_u8 b[k]
      have HHIT := Lib.hid' (fun hx h0 h9 => vt_hit (k := k) (by omega) hl HA.out hx h0 h9)
      have HBAD := Lib.hid' (fun hx h0 => vt_bad (k := k) (by omega) hl HA.out hx h0)
      clear hvb
      obtain ⟨x, hx⟩ : ∃ x, x = b[k].toNat := ⟨_, rfl⟩
      rw [← hx] at hc HVN hx256 e1 HHIT HBAD
      have HX := Lib.hid' hx
      clear hx
      obtain ⟨n, hn⟩ : ∃ n, n = vv (b.take k) := ⟨_, rfl⟩
      rw [← hn] at HVN HVB ⊢
      clear hn
      have hlen2 := HB.out
      by_cases hk9 : k = 9
      · subst hk9
        by_cases h9 : 1 < x
        · have HF := Lib.hid' (vt_nine hl HA.out (by rw [← HX.out]; exact h9))
          go_wp2_with fail
          refine bodyPost_ret (v := .tuple #[.int .u64 0, .int .i64 0, .iface 71 (.int .i64 2)]) (by simp [results, Tryz.results100, go_sem]) rfl ⟨by rw [HF.out]; rfl, rfl⟩
        · by_cases hx0 : x = 0
          · have HF := Lib.hid' (HBAD.out (by omega) (.inl ⟨by decide, hx0⟩))
            have hx0b : ((x : Int) == 0) = true := by rw [beq_iff_eq]; omega
            have h9' : x ≤ 1 := by omega
            clear hx0
            go_wp2_with fail
            refine bodyPost_ret (v := .tuple #[.int .u64 0, .int .i64 0, .iface 71 (.int .i64 2)]) (by simp [results, Tryz.results100, go_sem]) rfl ⟨by rw [HF.out]; rfl, rfl⟩
          · have HF := Lib.hid' (HHIT.out (by omega) (by omega) (by omega))
            have e2 := shl_or (n := n) (x := x) (k := 9) (by decide) HVB.out (by omega)
            rw [show n + 128 ^ 9 * (x % 128) = vv (b.take (9 + 1)) from HVN.out.symm, show (x : Int) % 128 * 2 ^ (7 * 9) = (x : Int) % 128 * 9223372036854775808 from by rw [show (2 : Int) ^ (7 * 9) = 9223372036854775808 from by decide], wraps_u64 _ (by omega) (by omega)] at e2
            have hx0b : ((x : Int) == 0) = false := by rw [beq_eq_false_iff_ne]; omega
            have h9' : x ≤ 1 := by omega
            generalize vv (b.take (9 + 1)) = r at *
            go_wp2_with fail
            refine bodyPost_ret (v := .tuple #[.int .u64 (r : Nat), .int .i64 10, .nilIface]) (by simp [results, Tryz.results100, go_sem]) rfl ⟨by rw [HF.out]; rfl, rfl⟩
      · have hk9b : ((k : Int) == 9) = false := by rw [beq_eq_false_iff_ne]; omega
        have e2 := shl_or (n := n) (x := x) (k := k) (by omega) HVB.out (fun h => absurd h hk9)
        rw [show n + 128 ^ k * (x % 128) = vv (b.take (k + 1)) from HVN.out.symm] at e2
        by_cases h128 : x < 128
        · by_cases hx0 : x = 0
          · by_cases hk0 : k = 0
            · have HF := Lib.hid' (HHIT.out h128 (by rw [hk0]; simp) (by omega))
              have hx0b : ((x : Int) == 0) = true := by rw [beq_iff_eq]; omega
              have hk0' : ¬ ((0 : Int) < k) := by omega
              have HK0 := Lib.hid' hk0
              clear hk0 hx0
              generalize vv (b.take (k + 1)) = r at *
              go_wp2_with fail
              refine bodyPost_ret (v := .tuple #[.int .u64 (r : Nat), .int .i64 ((k : Int) + 1), .nilIface]) (by simp [results, Tryz.results100, go_sem]) rfl ⟨by rw [HF.out]; rfl, rfl⟩
            · have HF := Lib.hid' (HBAD.out h128 (.inl ⟨hk0, hx0⟩))
              have hx0b : ((x : Int) == 0) = true := by rw [beq_iff_eq]; omega
              have hk0' : (0 : Int) < k := by omega
              clear hx0
              go_wp2_with fail
              refine bodyPost_ret (v := .tuple #[.int .u64 0, .int .i64 0, .iface 71 (.int .i64 2)]) (by simp [results, Tryz.results100, go_sem]) rfl ⟨by rw [HF.out]; rfl, rfl⟩
          · have HF := Lib.hid' (HHIT.out h128 (by omega) (by omega))
            have hx0b : ((x : Int) == 0) = false := by rw [beq_eq_false_iff_ne]; omega
            generalize vv (b.take (k + 1)) = r at *
            go_wp2_with fail
            refine bodyPost_ret (v := .tuple #[.int .u64 (r : Nat), .int .i64 ((k : Int) + 1), .nilIface]) (by simp [results, Tryz.results100, go_sem]) rfl ⟨by rw [HF.out]; rfl, rfl⟩
        · have HA2 := Lib.hid' (show ∀ y ∈ b.take (k + 1), 128 ≤ y.toNat by
            intro y hy
            rw [List.take_succ_eq_append_getElem hl] at hy
            rcases List.mem_append.1 hy with hy | hy
            · exact HA.out y hy
            · simp only [List.mem_singleton] at hy; subst hy; rw [← HX.out]; omega)
          obtain ⟨r, hr⟩ : ∃ r, vv (b.take (k + 1)) = r := ⟨_, rfl⟩
          have HRR := Lib.hid' hr
          rw [hr] at e2
          clear hr
          go_wp2_with fail
          go_round
          case rel => exact ⟨k + 1, by go_num, by omega, by rw [HRR.out], HA2⟩
          case measure => simp [intOf]; omega
    · have HF := Lib.hid' (vt_all (b := b) (by
        obtain rfl : k = m := by omega
        have h := HA.out
        rw [HM.out] at h
        intro y hy
        refine h y ?_
        by_cases hb10 : b.length ≤ 10
        · rw [Nat.min_eq_left hb10, List.take_of_length_le (Nat.le_refl _)]; rwa [List.take_of_length_le hb10] at hy
        · rw [Nat.min_eq_right (by omega)]; exact hy))
      go_wp2_with fail
      refine bodyPost_ret (v := .tuple #[.int .u64 0, .int .i64 0, .iface 71 (.int .i64 2)]) (by simp [results, Tryz.results100, go_sem]) rfl ⟨by rw [HF.out]; rfl, rfl⟩
end Go.Proofs.YtkljeefncopodaaGreat
