/- Layer 4: One; the document's numbers, sums and frames: Bytes, Text, Extend, Sum, Four, Frame. -/
import Derived.Test.YtinbcehlpfnlaaaGreatDoorFrmB
namespace Go.Proofs.YtinbcehlpfnlaaaGreatDoor
open Go.RowKit
set_option linter.unusedSimpArgs false
set_option linter.unusedVariables false
set_option maxRecDepth 20000


theorem ofNat_lo' (m : Nat) (h : m < 128) : byteV (UInt8.ofNat m) = .int .u8 ((m : Int) % 128) := by
  simp [byteV]; omega
theorem ofNat_hi' (m : Nat) : byteV (UInt8.ofNat (m % 128 + 128)) = .int .u8 ((m : Int) % 128 + 128) := by
  simp [byteV]; omega
set_option maxHeartbeats 1000000 in
theorem rBytes_any (n : Nat) (hn : n < 18446744073709551616) (w : World) : Calls Tryz.prog 43 #[.int .u64 n] w (OwnR w.heap.size 5 1 (vb n).length (byteVs (vb n)) w) := by
  have hvl := vb_len10 hn
  go_enter Tryz.func43, Tryz.ntmps43
  go_wp2_with fail
  go_loopw [0, 3] (fun v0 v3 wr => ∃ (m : Nat) (p : List UInt8) (a' : Option Addr) (c' : Nat), v0 = .int .u64 m ∧ v3 = .slice a' p.length c' ∧ m < 18446744073709551616 ∧ Hid (vb n = p ++ vb m) ∧ Hid (wr.ownsRow w.heap.size 5 1 (.slice a' p.length c') p.length (byteVs p)) ∧ Hid (Below w.heap.size w wr)) (fun v0 _ _ => (intOf v0).toNat)
  case atStart => exact ⟨n, [], _, _, rfl, rfl, hn, Lib.hid' rfl, Lib.hid' (own_empty _ _ _), Lib.hid' (by go_grown)⟩
  case round =>
    obtain ⟨m, p, a', c', rfl, rfl, hm, HV, HO, HB⟩ := hrel
    have hpl : p.length ≤ 10 := by have := congrArg List.length HV.out; simp at this; omega
    have hzr := HB.out.size
    by_cases hlt : m < 128
    · have HV2 := Lib.hid' (vb_small hlt)
      have hd : ((m : Int) / 128 == 0) = true := by rw [beq_iff_eq]; omega
      go_wp2_with (at_builtin; refine append_one etBytes rfl (.tmp 13) (.tmp 15) rfl [.int .u8 ((m : Int) % 128)] rfl w.heap.size p.length (byteVs p) _ rfl HO.out rfl (by simp [Value.oneCell']) (by omega) hzr ?_)
      intro a2 c2 w2 ho2 hf2
      have HLE := Lib.hid' (show vb n = p ++ [UInt8.ofNat m] by rw [HV.out, HV2.out])
      have HL2 := Lib.hid' (show (vb n).length = p.length + 1 by rw [HLE.out]; simp)
      have HO2 := Lib.hid' (show w2.ownsRow w.heap.size 5 1 (.slice a2 (vb n).length c2) (vb n).length (byteVs (vb n)) by
        rw [HL2.out, HLE.out, byteVs_append]; simp only [byteVs, List.map_cons, List.map_nil, ofNat_lo' m hlt]; exact ho2)
      have HB2 := Lib.hid' (hf2.row HO.out (Nat.le_refl _) hzr HB.out)
      clear ho2 hf2
      go_wp2_with fail
      go_ret
      exact ⟨a2, c2, ret_eq (by rw [HL2.out]; rfl), HO2.out, HB2.out⟩
    · have HV2 := Lib.hid' (vb_big (n := m) hlt)
      have hd : ((m : Int) / 128 == 0) = false := by rw [beq_eq_false_iff_ne]; omega
      go_wp2_with (at_builtin; refine append_one etBytes rfl (.tmp 17) (.tmp 20) rfl [.int .u8 ((m : Int) % 128 + 128)] rfl w.heap.size p.length (byteVs p) _ rfl HO.out rfl (by simp [Value.oneCell']) (by omega) hzr ?_)
      intro a2 c2 w2 ho2 hf2
      have HO2 := Lib.hid' (show w2.ownsRow w.heap.size 5 1 (.slice a2 (p ++ [UInt8.ofNat (m % 128 + 128)]).length c2) (p ++ [UInt8.ofNat (m % 128 + 128)]).length (byteVs (p ++ [UInt8.ofNat (m % 128 + 128)])) by
        rw [byteVs_append, List.length_append]; simp only [byteVs, List.map_cons, List.map_nil, ofNat_hi']; exact ho2)
      have HB2 := Lib.hid' (hf2.row HO.out (Nat.le_refl _) hzr HB.out)
      have HL2 := Lib.hid' (show p.length + 1 = (p ++ [UInt8.ofNat (m % 128 + 128)]).length by simp)
      clear ho2 hf2
      go_wp2_with fail
      go_roundw
      case rel => exact ⟨m / 128, p ++ [UInt8.ofNat (m % 128 + 128)], a2, c2, by go_num, by rw [HL2.out], by omega, Lib.hid' (by rw [HV.out, HV2.out]; simp), HO2, HB2⟩
      case measure => simp [intOf]; omega
set_option maxHeartbeats 1000000 in
theorem rText_any (t : List UInt8) (ta : Option Addr) (tc : Nat) (w : World) (hT : Bytes w (.slice ta t.length tc) t) (hl : t.length ≤ 1073741824) :
    Calls Tryz.prog 62 #[.slice ta t.length tc] w (OwnR w.heap.size 5 1 (headB t).length (byteVs (headB t)) w) := by
  have HT := Lib.hid' hT
  have HC := Lib.hid' (rBytes_any t.length (by omega) w)
  clear hT
  go_enter Tryz.func62, Tryz.ntmps62
  go_wp2_with fail
  refine HC.out.mono ?_
  rintro e w2 ⟨a2, c2, rfl, ho2, hb2⟩
  have HO2 := Lib.hid' ho2
  have HB2 := Lib.hid' hb2
  have HT2 := Lib.hid' (show Bytes w2 (.slice ta t.length tc) t from SlV.below HT.out (Nat.le_refl _) hb2)
  have hz2 := hb2.size
  have hvl := vb_len10 (n := t.length) (by omega)
  have HHD := Lib.hid' (show headB t = vb t.length ++ t from rfl)
  clear ho2 hb2 HC
  generalize vb t.length = r at *
  go_wp2_with (at_builtin; refine append_sl etBytes rfl (.tmp 6) (.tmp 7) rfl w.heap.size r.length (byteVs r) _ rfl HO2.out t.length (byteVs t) _ rfl HT2.out (by simp [byteVs]) (byteVs_one _) (by omega) hz2 ?_)
  intro a3 c3 w3 ho3 hf3
  have HL := Lib.hid' (show (headB t).length = r.length + t.length by rw [HHD.out]; simp)
  have HO3 := Lib.hid' (show w3.ownsRow w.heap.size 5 1 (.slice a3 (headB t).length c3) (headB t).length (byteVs (headB t)) by rw [HL.out, HHD.out, byteVs_append]; exact ho3)
  have HB3 := Lib.hid' (hf3.row HO2.out (Nat.le_refl _) hz2 HB2.out)
  clear ho3 hf3
  go_wp2_with fail
  go_ret
  exact ⟨a3, c3, ret_eq (by rw [HL.out]; rfl), HO3.out, HB3.out⟩
theorem rFour_any (x : Nat) (hx : x < 4294967296) (w : World) : Calls Tryz.prog 63 #[.int .u32 x] w (OwnR w.heap.size 5 1 4 (byteVs (four x)) w) := by
  go_enter Tryz.func63, Tryz.ntmps63
  go_wp2
  go_ret
  refine ⟨_, _, rfl, ?_, by go_grown⟩
  have := slv_alloc w (byteVs (four x)) 4 5 (by decide) rfl
  have e : byteVs (four x) = [.int .u8 ((x : Int) / 16777216), .int .u8 ((x : Int) / 65536 % 256), .int .u8 ((x : Int) / 256 % 256), .int .u8 ((x : Int) % 256)] := by
    simp [byteVs, four, byteV]
    omega
  rw [e] at this ⊢
  exact this
theorem not32' {x : Nat} (h : x < 4294967296) : bits .xor .u32 (x : Int) 4294967295 = ((crcNot x : Nat) : Int) := by
  have := xor_u32 (a := x) (b := 4294967295) h (by decide)
  unfold crcNot; exact this
set_option maxHeartbeats 1600000 in
theorem rExtend_any (s : Nat) (hs : s < 4294967296) (a : Option Addr) (c : Nat) (b : List UInt8) (w : World) (hb : Bytes w (.slice a b.length c) b) :
    Calls Tryz.prog 75 #[.int .u32 s, .slice a b.length c] w fun e w' => e = .returned (.int .u32 (crcOf s b)) ∧ w = w' := by
  have HB := Lib.hid' hb
  have hlen := bytes_len hb
  have e0 := not32' hs
  have hfs := crcNot_lt hs
  clear hb
  go_enter Tryz.func75, Tryz.ntmps75
  go_wp2_with fail
  go_loop [5, 6] (fun v5 v6 => ∃ k : Nat, v6 = .int .i64 k ∧ k ≤ b.length ∧ v5 = .int .u32 (((b.take k).foldl crcRef (crcNot s) : Nat) : Int)) (fun _ v6 => b.length - (intOf v6).toNat)
  case atStart => exact ⟨0, rfl, Nat.zero_le _, rfl⟩
  case round =>
    obtain ⟨k, rfl, hk, rfl⟩ := hrel
    have hx := crcFold_lt (b.take k) hfs
    by_cases hlt : k < b.length
    · obtain ⟨bb, off, rfl, hbb, hc⟩ := bytes_at HB.out hlt
      have HT := Lib.hid' (show (b.take (k + 1)).foldl crcRef (crcNot s) = crcRef ((b.take k).foldl crcRef (crcNot s)) b[k] by
        rw [List.take_succ_eq_append_getElem hlt, List.foldl_append]; rfl)
      generalize b[k] = y at *
      generalize (b.take k).foldl crcRef (crcNot s) = x at *
      have hyl := y.toNat_lt
      have e1 := xor_u32 (a := x) (b := y.toNat) hx (by omega)
      have hz : (x ^^^ y.toNat) < 4294967296 := by have := @Nat.xor_lt_two_pow x y.toNat 32 (by omega) (by omega); simpa using this
      have HRR := Lib.hid' (show crcRef x y = crcBits 8 (x ^^^ y.toNat) from rfl)
      generalize x ^^^ y.toNat = z at *
      go_wp2_with fail
      go_loop [5, 7] (fun v5 v7 => ∃ j : Nat, v7 = .int .i64 j ∧ j ≤ 8 ∧ v5 = .int .u32 (crcBits j z)) (fun _ v7 => 8 - (intOf v7).toNat)
      case atStart => exact ⟨0, rfl, Nat.zero_le _, rfl⟩
      case round =>
        obtain ⟨j, rfl, hj, rfl⟩ := hrel
        have hq := crcBits_lt j hz
        have HS := Lib.hid' (crcBits_succ j z)
        have HE := Lib.hid' (show j = 8 → crcBits j z = crcRef x y from fun h => by subst h; exact HRR.out.symm)
        generalize crcBits j z = q at *
        by_cases hjl : j < 8
        · have HX := Lib.hid' (show bits .xor .u32 ((q : Int) / 2) 2197175160 = ((q / 2 ^^^ 2197175160 : Nat) : Int) from xor_u32 (a := q / 2) (b := 2197175160) (by omega) (by decide))
          by_cases hb1 : q % 2 = 1
          · have hb' : ((q : Int) % 2 == 1) = true := by rw [beq_iff_eq]; omega
            have HV := Lib.hid' (show ((q / 2 ^^^ 2197175160 : Nat)) = crcBit q by unfold crcBit; rw [if_pos hb1])
            clear hb1
            go_wp2_with fail
            go_round
            case rel => exact ⟨j + 1, by go_num, by omega, by rw [HX.out, HV.out, HS.out]⟩
            case measure => simp [intOf]; omega
          · have hb' : ((q : Int) % 2 == 1) = false := by rw [beq_eq_false_iff_ne]; omega
            have HV := Lib.hid' (show q / 2 = crcBit q by unfold crcBit; rw [if_neg hb1])
            clear hb1
            go_wp2_with fail
            go_round
            case rel => exact ⟨j + 1, by go_num, by omega, by rw [HS.out, ← HV.out]; go_num⟩
            case measure => simp [intOf]; omega
        · have HF := Lib.hid' (HE.out (by omega))
          obtain rfl : j = 8 := by omega
          go_wp2_with fail
          go_round
          case rel => exact ⟨k + 1, by go_num, by omega, by rw [HT.out, ← HF.out]⟩
          case measure => simp [intOf]; omega
    · obtain rfl : k = b.length := by omega
      have HF := Lib.hid' (show crcOf s b = crcNot ((b.take b.length).foldl crcRef (crcNot s)) by rw [List.take_length]; rfl)
      generalize (b.take b.length).foldl crcRef (crcNot s) = x at *
      have hn := not32' hx
      go_wp2_with fail
      go_ret
      exact ⟨ret_eq (by rw [HF.out]; rfl), rfl⟩
theorem rSum_any (a : Option Addr) (c : Nat) (b : List UInt8) (w : World) (hb : Bytes w (.slice a b.length c) b) :
    Calls Tryz.prog 64 #[.slice a b.length c] w fun e w' => e = .returned (.int .u32 (crcOf 0 b)) ∧ w = w' := by
  have HC := Lib.hid' (rExtend_any 0 (by decide) a c b w hb)
  clear hb
  go_enter Tryz.func64, Tryz.ntmps64
  go_wp2_with fail
  refine HC.out.mono ?_
  rintro e w' ⟨rfl, rfl⟩
  obtain ⟨x, hx⟩ : ∃ x, x = crcOf 0 b := ⟨_, rfl⟩
  have HX := Lib.hid' hx
  rw [← hx]
  clear hx
  go_wp2
  go_ret
  exact ⟨ret_eq (by rw [← HX.out]; rfl), rfl⟩
set_option maxHeartbeats 1000000 in
theorem rFrame_any (t : List UInt8) (ta : Option Addr) (tc : Nat) (w : World) (hT : Bytes w (.slice ta t.length tc) t) (hl : t.length ≤ 1073741824) :
    Calls Tryz.prog 44 #[.slice ta t.length tc] w (OwnR w.heap.size 5 1 (frameB t).length (byteVs (frameB t)) w) := by
  have HC := Lib.hid' (rText_any t ta tc w hT hl)
  have hhl : (headB t).length ≤ 1073741834 := by
    have := vb_len10 (n := t.length) (by omega)
    unfold headB; rw [List.length_append]; omega
  have HFR := Lib.hid' (show frameB t = headB t ++ four (crcOf 0 (headB t)) from rfl)
  clear hT
  go_enter Tryz.func44, Tryz.ntmps44
  go_wp2_with fail
  refine HC.out.mono ?_
  rintro e w1 ⟨a1, c1, rfl, ho, hb⟩
  have HO := Lib.hid' ho
  have HB := Lib.hid' hb
  clear ho hb HC
  obtain ⟨hd, hhd⟩ : ∃ hd, hd = headB t := ⟨_, rfl⟩
  rw [← hhd] at HO hhl HFR ⊢
  clear hhd
  go_wp2_with fail
  refine (rSum_any a1 c1 hd w1 (SlV.of_own HO.out)).mono ?_
  rintro e w2 ⟨rfl, rfl⟩
  have hcr := crcOf_lt (s := 0) (by decide) hd
  obtain ⟨x, hx⟩ : ∃ x, x = crcOf 0 hd := ⟨_, rfl⟩
  rw [← hx] at hcr HFR ⊢
  clear hx
  go_wp2_with fail
  refine (rFour_any x hcr w1).mono ?_
  rintro e w2 ⟨a2, c2, rfl, ho2, hb2⟩
  have HO1 := Lib.hid' (own_below HO.out (Nat.le_refl _) hb2)
  have HO2 := Lib.hid' (show Bytes w2 (.slice a2 (four x).length c2) (four x) from SlV.of_own ho2)
  have HB2 := Lib.hid' (HB.out.trans (hb2.mono HB.out.size))
  have hz2 := HB2.out.size
  clear ho2 hb2 HO HB
  go_wp2_with (at_builtin; refine append_sl etBytes rfl (.tmp 6) (.tmp 9) rfl w.heap.size hd.length (byteVs hd) _ rfl HO1.out 4 (byteVs (four x)) _ rfl HO2.out rfl (byteVs_one _) (by omega) hz2 ?_)
  intro a3 c3 w3 ho3 hf3
  have HL := Lib.hid' (show (frameB t).length = hd.length + 4 by rw [HFR.out]; simp [four_length])
  have HO3 := Lib.hid' (show w3.ownsRow w.heap.size 5 1 (.slice a3 (frameB t).length c3) (frameB t).length (byteVs (frameB t)) by rw [HL.out, HFR.out, byteVs_append]; exact ho3)
  have HB3 := Lib.hid' (hf3.row HO1.out (Nat.le_refl _) hz2 HB2.out)
  clear ho3 hf3
  go_wp2_with fail
  go_ret
  exact ⟨a3, c3, ret_eq (by rw [HL.out]; rfl), HO3.out, HB3.out⟩
end Go.Proofs.YtinbcehlpfnlaaaGreatDoor
