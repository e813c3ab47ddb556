/- Layer 8: the fixed fact, and what a nil unit answers. -/
import Derived.Test.YtjkbcjliaacebaaUnitE
import Derived.Lib.SlBytesConst
namespace Go.Proofs.Ytjkbcjliaacebaa
open Go.RowKit
set_option linter.unusedSimpArgs false
set_option linter.unusedVariables false
set_option maxRecDepth 20000

theorem bytes_const (w : World) (b : UInt8) (n : Nat) (hn : n = 1) : Bytes (w.alloc (.cells #[byteV b] 5 (1, 2))) (.slice (some ⟨w.heap.size, 0, none⟩) n n) [b] := by
  subst hn
  refine ⟨_, _, rfl, Nat.le_refl _, by unfold maxLen; decide, by simp, fun j u hu => ⟨_, rfl, ?_⟩⟩
  have e1 : (Addr.add ⟨w.heap.size, 0, none⟩ j) = ⟨w.heap.size, j, none⟩ := by unfold Addr.add; split <;> simp_all
  rw [e1]
  have e2 : (w.alloc (.cells #[byteV b] 5 (1, 2))).heap[w.heap.size]? = some (.cells #[byteV b] 5 (1, 2)) := by show (w.heap.push _)[w.heap.size]? = _; simp
  simp only [World.cell?, e2, Option.isSome_none, Bool.false_eq_true, if_false]
  simpa [byteVs] using hu

def U1 : U := ⟨0, 0, [(3, ⟨1, [97]⟩)]⟩
theorem alive_w1 : U.new.write 0 3 [97] = (0, U1) := rfl
theorem alive_w2 : U1.write 0 3 [98] = (8, U1) := rfl
theorem alive_t : U1.tailOf 0 = (0, 4) := by decide

set_option maxHeartbeats 1000000 in
theorem alive8_any (w : World) : Calls Try.prog 33 #[] w fun e w' => e = .returned (.bool true) ∧ Below w.heap.size w w' := by
  have kc := fun (w : World) (C : Array Value) (n c : Nat) => Lib.run_convert_bytes_const (P := Try.prog) w 46 5 C n c Try.underlying46 Try.underlying5
  go_enter Try.func33, Try.ntmps33
  go_wp2_with fail
  refine (new_any _).mono ?_
  rintro e w1 ⟨rfl, hb1, hs1, hu1⟩
  have HU := Lib.hid' (hu1 (fun k => k = w.heap.size ∨ k = w.heap.size + 1) (.inl rfl) (.inr rfl))
  have HB1 := Lib.hid' hb1
  have HS1 := Lib.hid' hs1
  clear hu1 hb1 hs1
  go_wp2_with fail
  have HB2 := Lib.hid' (show Below w1.heap.size w1 (w1.alloc (.cells #[.int .u8 97] 5 (1, 2))) by go_grown)
  have hd := Lib.hid' (bytes_const w1 97 1 rfl)
  have e0 : (byteV 97) = .int .u8 97 := rfl
  rw [e0] at hd
  clear e0
  generalize (w1.alloc (.cells #[.int .u8 97] 5 (1, 2))) = w2 at *
  refine (write_any 0 3 _ [97] _ (HU.out.below (Nat.le_refl _) HB2.out) (fun k hk => by have := HB2.out.size; have := HS1.out; omega) hd.out).mono ?_
  rintro e w3 ⟨rfl, hu3, hf3⟩
  rw [alive_w1] at hu3
  have HU3 := Lib.hid' hu3
  have HB3 := Lib.hid' (show Below w.heap.size w w3 from (HB1.out.trans (HB2.out.mono HB1.out.size)).trans (hf3.below (Nat.le_trans HB1.out.size HB2.out.size) (fun k hk => by rcases hk with rfl | rfl <;> omega)))
  have HZ3 := Lib.hid' (show w.heap.size + 2 ≤ w3.heap.size by have := hf3.size; have := HB2.out.size; have := HS1.out; omega)
  clear hu3 hf3 hd
  rw [alive_w1, errV_0]
  go_wp2_with fail
  have HB4 := Lib.hid' (show Below w3.heap.size w3 (w3.alloc (.cells #[.int .u8 98] 5 (1, 2))) by go_grown)
  have hd := Lib.hid' (bytes_const w3 98 1 rfl)
  have e0 : (byteV 98) = .int .u8 98 := rfl
  rw [e0] at hd
  clear e0
  generalize (w3.alloc (.cells #[.int .u8 98] 5 (1, 2))) = w4 at *
  refine (write_any 0 3 _ [98] _ (HU3.out.below (Nat.le_refl _) HB4.out) (fun k hk => by have := HB4.out.size; have := HZ3.out; omega) hd.out).mono ?_
  rintro e w5 ⟨rfl, hu5, hf5⟩
  rw [alive_w2] at hu5
  have HU5 := Lib.hid' hu5
  have HB5 := Lib.hid' (show Below w.heap.size w w5 from (HB3.out.trans (HB4.out.mono HB3.out.size)).trans (hf5.below (Nat.le_trans HB3.out.size HB4.out.size) (fun k hk => by rcases hk with rfl | rfl <;> omega)))
  clear hu5 hf5 hd
  rw [alive_w2]
  go_wp2_with (go_at_call 23; refine (is_any _ _ _).mono ?_; rintro e w' ⟨rfl, rfl⟩)
  refine (Tail_any 0 _ HU5.out).mono ?_
  rintro e w6 ⟨rfl, hb6⟩
  have HB6 := Lib.hid' hb6
  clear hb6
  rw [alive_t]
  simp only [errV_0]
  go_wp2
  go_ret
  exact ⟨rfl, HB5.out.trans (HB6.out.mono HB5.out.size)⟩
end Go.Proofs.Ytjkbcjliaacebaa
