/- Layer 3 (sha): what stands behind a text. -/
import Derived.Test.YtinbcehlpfnlaaaGreatDoorShaB
namespace Go.Proofs.YtinbcehlpfnlaaaGreatDoor
open Go.RowKit
set_option linter.unusedSimpArgs false
set_option linter.unusedVariables false
set_option maxRecDepth 100000

theorem own_lit_at (w : World) (N : Nat) (xs : List Value) (e n size : Nat) (h1 : xs.length = n * size) (h2 : n ≤ maxLen) (hN : w.heap.size = N) : (w.alloc (.cells xs.toArray e)).ownsRow N e size (.slice (some ⟨N, 0, none⟩) n n) n xs := by
  subst hN
  exact ⟨h1, Or.inr ⟨w.heap.size, n, xs.toArray, rfl, Nat.le_refl _, by show (w.heap.push _)[w.heap.size]? = _; simp, Nat.le_refl _, h2, by simp [h1], by simp [← h1]⟩⟩
theorem lit_row_at {w0 w : World} {F : Nat → Prop} {L : List Asn} (h : Sep w0 F L w) (N e size n : Nat) (xs : List Value) (h1 : xs.length = n * size) (h2 : n ≤ maxLen) (hN : w.heap.size = N) :
    Sep w0 F (.row e size (.slice (some ⟨N, 0, none⟩) n n) n xs :: L) (w.alloc (.cells xs.toArray e)) := by
  subst hN
  exact h.below1 ((Below.refl _ w).alloc (Nat.le_refl _) _) (own_base (own_lit_at w _ xs e n size h1 h2 rfl) (Nat.zero_le _)) (fun b hb => by have hb : some w.heap.size = some b := hb; simp at hb; omega)
def slLen : Value → Nat
  | .slice _ n _ => n
  | _ => 0
theorem be8_get (m : Nat) {i : Nat} (h : i < 8) : (be8 m)[i]? = some (UInt8.ofNat (m / 2 ^ (56 - 8 * i))) := by
  match i, h with
  | 0, _ => rfl
  | 1, _ => rfl
  | 2, _ => rfl
  | 3, _ => rfl
  | 4, _ => rfl
  | 5, _ => rfl
  | 6, _ => rfl
  | 7, _ => simp [be8]
theorem be8_take (m : Nat) {i : Nat} (h : i < 8) : (be8 m).take (i + 1) = (be8 m).take i ++ [UInt8.ofNat (m / 2 ^ (56 - 8 * i))] := by
  have hl : (be8 m).length = 8 := rfl
  have hg := be8_get m h
  rw [List.take_add_one, hg]; rfl
theorem byteV_mod (m : Nat) : byteV (UInt8.ofNat m) = .int .u8 ((m : Int) % 256) := by simp [byteV]
set_option maxHeartbeats 4000000 in
theorem pad_any (n : Nat) (hn : n ≤ 1099511627776) (w : World) : Calls Tryz.prog 84 #[.int .i64 (n : Int)] w (OwnR w.heap.size 5 1 (padB n).length (byteVs (padB n)) w) := by
  have HPL := Lib.hid' (padB_len n)
  have HPB := Lib.hid' (show padB n = [128] ++ List.replicate (padZ n) 0 ++ be8 (n * 8) from rfl)
  have hpz : padZ n < 64 := by unfold padZ; omega
  have HPZ := Lib.hid' (fun j (hj : j ≤ padZ n) => show (n + (1 + j) + 8) % 64 = 0 ↔ j = padZ n by unfold padZ at *; omega)
  generalize padB n = pb at *
  generalize padZ n = pz at *
  go_enter Tryz.func84, Tryz.ntmps84
  go_wp2_with fail
  have H0 : Sep w NoF [.row 5 1 (.slice (some ⟨w.heap.size, 0, none⟩) 1 1) 1 [.int .u8 128]] (w.alloc (.cells #[.int .u8 128] 5)) := lit_row_at (Sep.start w) (w.heap.size) 5 1 1 [.int .u8 128] rfl (by decide) rfl
  generalize w.alloc (.cells #[.int .u8 128] 5) = w1 at *
  go_loopw [3] (fun v3 wr => ∃ (j : Nat) (a : Option Addr) (c : Nat), v3 = .slice a (1 + j) c ∧ j ≤ pz ∧ Sep w NoF [.row 5 1 (.slice a (1 + j) c) (1 + j) (byteVs ([128] ++ List.replicate j 0))] wr) (fun v3 _ => pz + 1 - slLen v3)
  case atStart => exact ⟨0, _, _, rfl, Nat.zero_le _, H0⟩
  case round =>
    clear H0
    obtain ⟨j, a, c, rfl, hj, H0⟩ := hrel
    have hz := HPZ.out j hj
    by_cases hjz : j = pz
    rotate_left
    · have h0 : (((n : Int) + (1 + (j : Int)) + 8) % 64 != 0) = true := by rw [bne_iff_ne]; have := mt hz.1 hjz; omega
      have HRJ := Lib.hid' (show byteVs ([128] ++ List.replicate (j + 1) 0) = byteVs ([128] ++ List.replicate j 0) ++ [.int .u8 0] by rw [List.replicate_succ', ← List.append_assoc, byteVs_append]; rfl)
      go_wp2_with (at_builtin; refine Sep.append etBytes rfl (.tmp 13) (.tmp 14) rfl [.int .u8 0] rfl H0 0 rfl rfl rfl (by simp [Value.oneCell']) (by omega) ?_)
      intro a2 c2 w2 HA
      have HA2 : Sep w NoF [.row 5 1 (.slice a2 (1 + (j + 1)) c2) (1 + (j + 1)) (byteVs ([128] ++ List.replicate (j + 1) 0))] w2 := by rw [HRJ.out, show 1 + (j + 1) = 1 + j + 1 by omega]; exact HA
      clear HRJ H0 HA
      go_wp2_with fail
      go_roundw
      case rel => exact ⟨j + 1, a2, c2, by rw [show 1 + j + 1 = 1 + (j + 1) by omega], by omega, HA2⟩
      case measure => simp [slLen]; omega
    have h0 : (((n : Int) + (1 + (j : Int)) + 8) % 64 != 0) = false := by rw [bne_eq_false_iff_eq]; have := hz.2 hjz; omega
    subst hjz
    clear HPZ hz hj
    obtain ⟨t, ht⟩ : ∃ t : List UInt8, t = [128] ++ List.replicate j 0 := ⟨_, rfl⟩
    have HT := Lib.hid' ht
    have hB0 : (be8 (n * 8)).take 0 = [] := rfl
    replace H0 : Sep w NoF [.row 5 1 (.slice a (1 + j + 0) c) (1 + j + 0) (byteVs (t ++ (be8 (n * 8)).take 0))] wr := by rw [hB0, List.append_nil, ht]; exact H0
    clear ht hB0
    go_wp2_with fail
    go_loopw [4, 3] (fun v4 v3 wr => ∃ (i : Nat) (s : Int) (a : Option Addr) (c : Nat), v4 = .int .i64 s ∧ s = 56 - 8 * (i : Int) ∧ i ≤ 8 ∧ v3 = .slice a (1 + j + i) c ∧ Sep w NoF [.row 5 1 (.slice a (1 + j + i) c) (1 + j + i) (byteVs (t ++ (be8 (n * 8)).take i))] wr) (fun v4 _ _ => (intOf v4 + 8).toNat)
    case atStart => exact ⟨0, 56, a, c, rfl, by omega, Nat.zero_le _, rfl, H0⟩
    case round =>
      clear H0
      obtain ⟨i, s, a, c, rfl, hs, hi, rfl, H0⟩ := hrel
      by_cases hlt : i < 8
      · obtain ⟨sh, hsh⟩ : ∃ sh : Nat, sh = 56 - 8 * i := ⟨_, rfl⟩
        obtain rfl : s = (sh : Int) := by omega
        have HBT := Lib.hid' (be8_take (n * 8) hlt)
        rw [← hsh] at HBT
        have g1 : (sh : Int) ≤ 64 := by omega
        have g2 : IntKind.i64.wrap ((sh : Int) - 8) = (sh : Int) - 8 := IntWalk.i64_in _ (by omega)
        have g3 : IntKind.u64.wrap (n : Int) = (n : Int) := by rw [IntKind.wrap_u64]; omega
        have g4 : IntKind.u64.wrap ((n : Int) * 8) = (n : Int) * 8 := by rw [IntKind.wrap_u64]; omega
        have HV := Lib.hid' (byteV_mod (n * 8 / 2 ^ sh))
        have HSH := Lib.hid' hsh
        clear hsh hs
        go_wp2_with (at_builtin; refine Sep.append etBytes rfl (.tmp 20) (.tmp 27) rfl [.int .u8 ((n : Int) * 8 / 2 ^ sh % 256)] rfl H0 0 rfl rfl rfl (by simp [Value.oneCell']) (by omega) ?_)
        intro a2 c2 w2 HA
        have HRJ := Lib.hid' (show byteVs (t ++ (be8 (n * 8)).take (i + 1)) = byteVs (t ++ (be8 (n * 8)).take i) ++ [.int .u8 ((n : Int) * 8 / 2 ^ sh % 256)] by
          rw [HBT.out, ← List.append_assoc, byteVs_append]
          show _ ++ [byteV _] = _
          rw [HV.out]
          simp)
        have HA2 : Sep w NoF [.row 5 1 (.slice a2 (1 + j + (i + 1)) c2) (1 + j + (i + 1)) (byteVs (t ++ (be8 (n * 8)).take (i + 1)))] w2 := by rw [HRJ.out, show 1 + j + (i + 1) = 1 + j + i + 1 by omega]; exact HA
        clear HRJ H0 HA
        go_wp2_with fail
        go_roundw
        case rel => exact ⟨i + 1, (sh : Int) - 8, a2, c2, by go_num, by have := HSH.out; omega, by omega, by rw [show 1 + j + i + 1 = 1 + j + (i + 1) by omega], HA2⟩
        case measure => have := HSH.out; simp [intOf]; omega
      · obtain rfl : i = 8 := by omega
        have hsn : ¬ (0 : Int) ≤ s := by omega
        have HF := Lib.hid' (show pb = t ++ (be8 (n * 8)).take 8 by rw [HPB.out, HT.out]; rfl)
        have HL := Lib.hid' (show pb.length = 1 + j + 8 from HPL.out)
        go_wp2_with fail
        go_ret
        exact ⟨a, c, ret_eq (by rw [HL.out]; rfl), by rw [HL.out, HF.out]; exact H0.own 0 rfl, H0.toBelow⟩
end Go.Proofs.YtinbcehlpfnlaaaGreatDoor
