/- Layer 2 (crc): extend, Sum, Sealed, Opened of a maker that is new. -/
import Derived.Test.YtkljeefncopodaaGreatCrcO
import Derived.Test.YtkljeefncopodaaGreatStep
import Derived.Test.YtkljeefncopodaaGreatRd
namespace Go.Proofs.YtkljeefncopodaaGreat
open Go.RowKit
set_option linter.unusedSimpArgs false
set_option linter.unusedVariables false
set_option maxRecDepth 100000

theorem mkR_no (d : Int) (s : Int) (m : Int) (k : Nat) (q : Int) (b : UInt8) : byteV b ∉ mkR (.int .u32 d) (.int .i32 s) (.int .u32 m) k (.int .i64 q) := by
  unfold mkR byteV tabAt
  simp
theorem tab_in (d s m q : Value) {k : Nat} (hk : k < 256) : (mkR d s m 256 q)[3 + k]? = some (.int .u32 (crcByte k : Nat)) := by
  rw [mkR_get d s m q 256 k hk, if_pos hk]
theorem not_u32 {x : Nat} (h : x < 4294967296) : bits .xor .u32 IntKind.u32.max (x : Int) = ((crcNot x : Nat) : Int) := by
  have := xor_u32 (a := 4294967295) (b := x) (by decide) h
  rw [show IntKind.u32.max = ((4294967295 : Nat) : Int) from by decide, this]
  unfold crcNot; rw [Nat.xor_comm]
theorem tab_idx {x : Nat} (hx : x < 4294967296) (c : UInt8) : ∃ i : Nat, i < 256 ∧ bits .xor .u8 ((x : Int) % 256) (c.toNat : Int) = (i : Int) ∧ bits .xor .u32 ((crcByte i : Nat) : Int) ((x : Int) / 256) = ((crcTab x c : Nat) : Int) := by
  have hc := c.toNat_lt
  refine ⟨(x % 256) ^^^ c.toNat, ?_, ?_, ?_⟩
  · have := @Nat.xor_lt_two_pow (x % 256) c.toNat 8 (by omega) (by simpa using hc); simpa using this
  · exact xor_u8 (a := x % 256) (b := c.toNat) (by omega) (by omega)
  · have hb : crcByte ((x % 256) ^^^ c.toNat) < 4294967296 := crcBits_lt 8 (by
      have := @Nat.xor_lt_two_pow (x % 256) c.toNat 32 (by omega) (by omega); simpa using this)
    exact xor_u32 (a := crcByte ((x % 256) ^^^ c.toNat)) (b := x / 256) hb (by omega)
set_option maxHeartbeats 1600000 in
theorem extend_any (M : Nat) (m q : Int) (s : Nat) (hs : s < 4294967296) (a : Option Addr) (c : Nat) (b : List UInt8) (w : World) (h : BoxW M (mkR (.int .u32 0) (.int .i32 0) (.int .u32 m) 0 (.int .i64 q)) 230 w) (hb : Bytes w (.slice a b.length c) b) :
    Calls Tryz.prog 176 #[.pointer (some ⟨M, 0, none⟩), .int .u32 s, .slice a b.length c] w
      fun e w' => e = .returned (.int .u32 (crcOf s b)) ∧ BoxW M (mkR (.int .u32 1) (.int .i32 0) (.int .u32 m) 256 (.int .i64 q)) 230 w' ∧ Fr (fun k => k = M) w w' := by
  have HX := Lib.hid' h
  have HB := Lib.hid' hb
  have hlen : b.length ≤ 9223372036854775807 := by obtain ⟨_, _, he, h1, h2, _⟩ := hb; cases he; unfold maxLen at h2; omega
  have c0 := h.box.1 0 _ rfl
  clear h hb
  go_enter Tryz.func176, Tryz.ntmps176
  go_wp2_with fail
  refine (once_do M _ _ w HX.out).mono ?_
  rintro e w1 ⟨rfl, hx1, hf1⟩
  have HX1 := Lib.hid' hx1
  have HF1 := Lib.hid' hf1
  have HB1 := Lib.hid' (show Bytes w1 (.slice a b.length c) b from HX.out.bytes (fun x => mkR_no _ _ _ _ _ x) HB.out hf1)
  clear hx1 hf1 c0
  go_wp2_with fail
  rw [not_u32 hs]
  have hfs := crcNot_lt hs
  go_loopw [7, 26] (fun v7 v26 wr => ∃ k : Nat, v26 = .int .i64 k ∧ k ≤ b.length ∧ v7 = .int .u32 (((b.take k).foldl crcRef (crcNot s) : Nat) : Int) ∧ wr = w1) (fun _ v26 _ => b.length - (intOf v26).toNat)
  case atStart => exact ⟨0, rfl, Nat.zero_le _, rfl, rfl⟩
  case round =>
    obtain ⟨k, rfl, hk, rfl, rfl⟩ := hrel
    have hx := crcFold_lt (b.take k) hfs
    by_cases hlt : k < b.length
    · obtain ⟨bb, off, rfl, hbb, hc⟩ := SlV.row (f := fun x : UInt8 => [byteV x]) (s := 1) (fun _ => rfl) (by decide) (show SlV wr (.slice a b.length c) b.length (b.flatMap fun x => [byteV x]) from by rw [← map_one]; exact HB1.out) hlt
      have c1 := hc 0 _ rfl
      simp only [Nat.mul_one, Nat.add_zero, byteV] at c1
      have HT := Lib.hid' (show (b.take (k + 1)).foldl crcRef (crcNot s) = crcTab ((b.take k).foldl crcRef (crcNot s)) b[k] by
        rw [List.take_succ_eq_append_getElem hlt, List.foldl_append, crc_same]; rfl)
      clear hc
      generalize b[k] = y at *
      generalize (b.take k).foldl crcRef (crcNot s) = x at *
      obtain ⟨i, hi, e1, e2⟩ := tab_idx hx y
      have ck := HX1.out.box.1 _ _ (tab_in (.int .u32 1) (.int .i32 0) (.int .u32 m) (.int .i64 q) hi)
      have hyl := y.toNat_lt
      have c0 := HX1.out.box.1 0 _ rfl
      go_wp2_with fail
      go_roundw
      case rel => exact ⟨k + 1, by go_num, by omega, by rw [HT.out], trivial⟩
      case measure => simp [intOf]; omega
    · obtain rfl : k = b.length := by omega
      have HF := Lib.hid' (show crcOf s b = crcNot ((b.take b.length).foldl crcRef (crcNot s)) by rw [List.take_length]; rfl)
      generalize (b.take b.length).foldl crcRef (crcNot s) = x at *
      have hn := not_u32 hx
      go_wp2_with fail
      go_ret
      exact ⟨ret_eq (by rw [HF.out]; rfl), HX1.out, HF1.out⟩
theorem ask_any (M : Nat) (d s m : Value) (k : Nat) (w : World) (h : BoxW M (mkR d s m k (.int .i64 0)) 230 w) :
    Calls Tryz.prog 160 #[.pointer (some ⟨M, 0, none⟩)] w fun e w' => e = .returned (.tuple #[]) ∧ BoxW M (mkR d s m k (.int .i64 1)) 230 w' ∧ Fr (fun k => k = M) w w' := by
  have HX := Lib.hid' h
  have hq : (mkR d s m k (.int .i64 0))[259]? = some (.int .i64 0) := by
    unfold mkR
    simp only [List.getElem?_cons_succ]
    rw [List.getElem?_append_right (by rw [tab_len]; decide), tab_len]; rfl
  have hs : (mkR d s m k (.int .i64 0)).set 259 (.int .i64 1) = mkR d s m k (.int .i64 1) := by
    unfold mkR
    simp only [List.set_cons_succ]
    rw [List.set_append_right _ _ (by rw [tab_len]; decide), tab_len]; rfl
  have HS := Lib.hid' hs
  have cq := h.box.1 _ _ hq
  have fq := h.box.2.1 259
  have c0 := h.box.1 0 _ rfl
  have hadd := run_call_add (P := Tryz.prog) Tryz.func183 (by kernel_rfl) (by kernel_rfl) (by kernel_rfl) .i64 (by kernel_rfl) (y := 1) (s := 1) cq fq (by simp [go_sem]; rfl)
  clear h hq hs
  go_enter Tryz.func160, Tryz.ntmps160
  go_wp2
  first | go_end0 | skip
  exact ⟨rfl, by rw [← HS.out]; exact HX.out.set 259 _, fr_set _ _ _ _⟩
end Go.Proofs.YtkljeefncopodaaGreat
