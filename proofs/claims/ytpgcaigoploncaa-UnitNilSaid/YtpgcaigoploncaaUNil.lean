/- UnitNil: what a nil unit answers. -/
import Derived.Test.YtpgcaigoploncaaNil8
namespace Go.Proofs.Ytpgcaigoploncaa
open Go.RowKit
set_option linter.unusedSimpArgs false
set_option linter.unusedVariables false
set_option maxRecDepth 20000

set_option maxHeartbeats 4000000 in
theorem unitNil_any (e a : Int) (d : Option Addr) (n c : Nat) (hn : n ≤ 9223372036854775807) (W : World) :
    Calls Try.prog 9 #[.int .i64 e, .int .i64 a, .slice d n c] W fun en w' => en = .returned (.bool true) ∧ Below W.heap.size W w' := by
  by_cases hx : 100 < n
  · go_enter Try.func9, Try.ntmps9
    go_wp2_with (go_at_call 19; refine (alive8_any _).mono ?_; rintro e w1 ⟨rfl, hb1⟩)
    go_ret
    exact ⟨rfl, hb1⟩
  · have hxd : decide ((100 : Int) < (n : Int)) = false := by simp; omega
    go_enter Try.func9, Try.ntmps9
    go_wp2_with fail
    refine (alive8_any _).mono ?_
    rintro en w1 ⟨rfl, hb1⟩
    have HB1 := Lib.hid' hb1
    clear hb1
    go_wp2_with fail
    refine (seal_nil _ _).mono ?_
    rintro en w2 ⟨rfl, hb2⟩
    have HB2 := Lib.hid' (HB1.out.trans (hb2.mono HB1.out.size))
    clear hb2 HB1
    go_wp2_with fail
    refine (read_nil _ _ _).mono ?_
    rintro en w3 ⟨rfl, hb3⟩
    have HB3 := Lib.hid' (HB2.out.trans (hb3.mono HB2.out.size))
    clear hb3 HB2
    have hz3 : W.heap.size ≤ w3.heap.size := HB3.out.size
    have d0 := (BoxW.start w3 [.int .i64 0, .slice none 0 0] 55).box
    go_wp2_with fail
    have HG := Lib.hid' (show Below w3.heap.size w3 (w3.alloc (.cells #[.int .i64 0, .slice none 0 0] 55)) by go_grown)
    have HX := Lib.hid' (BoxW.start w3 [.int .i64 0, .slice none 0 0] 55)
    rw [show w3.alloc (.cells [.int .i64 0, .slice none 0 0].toArray 55) = w3.alloc (.cells #[.int .i64 0, .slice none 0 0] 55) from rfl] at HX
    clear d0
    generalize w3.alloc (.cells #[.int .i64 0, .slice none 0 0] 55) = w4 at *
    have HB4 := Lib.hid' (HB3.out.trans (HG.out.mono HB3.out.size))
    clear HG HB3
    generalize w3.heap.size = N at *
    refine (cut_nil _ _ _).mono ?_
    rintro en w5 ⟨rfl, hb5⟩
    have HB5 := Lib.hid' (HB4.out.trans (hb5.mono HB4.out.size))
    have HX5 := Lib.hid' (HX.out.below (Nat.le_refl _) hb5)
    clear hb5 HB4 HX
    go_wp2_with fail
    refine (tail_nil _ _).mono ?_
    rintro en w6 ⟨rfl, hb6⟩
    have HB6 := Lib.hid' (HB5.out.trans (hb6.mono HB5.out.size))
    have HX6 := Lib.hid' (HX5.out.below (Nat.le_refl _) hb6)
    clear hb6 HB5 HX5
    go_wp2_with (go_at_call 41; refine (is_any _ _ _).mono ?_; rintro e w' ⟨rfl, rfl⟩)
    refine (write_nil _ _ _ _).mono ?_
    rintro en w7 ⟨rfl, hb7⟩
    have HB7 := Lib.hid' (HB6.out.trans (hb7.mono HB6.out.size))
    have HX7 := Lib.hid' (HX6.out.below (Nat.le_refl _) hb7)
    clear hb7 HB6 HX6
    go_wp2_with (go_at_call 41; refine (is_any _ _ _).mono ?_; rintro e w' ⟨rfl, rfl⟩)
    refine (fill_nil _ _ _).mono ?_
    rintro en w8 ⟨rfl, hb8⟩
    have HB8 := Lib.hid' (HB7.out.trans (hb8.mono HB7.out.size))
    have HX8 := Lib.hid' (HX7.out.below (Nat.le_refl _) hb8)
    clear hb8 HB7 HX7
    go_wp2_with (go_at_call 41; refine (is_any _ _ _).mono ?_; rintro e w' ⟨rfl, rfl⟩)
    refine (trim_nil _ _ _).mono ?_
    rintro en w9 ⟨rfl, hb9⟩
    have HB9 := Lib.hid' (HB8.out.trans (hb9.mono HB8.out.size))
    have HX9 := Lib.hid' (HX8.out.below (Nat.le_refl _) hb9)
    clear hb9 HB8 HX8
    have d0 := HX9.out.box.1 0 _ rfl; have d1 := HX9.out.box.1 1 _ rfl
    go_wp2_with (first | (go_at_call 41; refine (is_any _ _ _).mono ?_; rintro e w' ⟨rfl, rfl⟩) | (go_at_call 25; refine (epoch_nil _).mono ?_; rintro e w' ⟨rfl, rfl⟩) | (go_at_call 22; refine (low_nil _).mono ?_; rintro e w' ⟨rfl, rfl⟩) | (go_at_call 23; refine (entries_nil _).mono ?_; rintro e w' ⟨rfl, rfl⟩))
    refine (same_any _ _ ⟨0, []⟩ ⟨0, []⟩ _ ⟨none, 0, rfl, SlV.empty _ _ _ (Nat.zero_le _) (fun _ => rfl)⟩ ⟨none, 0, rfl, SlV.empty _ _ _ (Nat.zero_le _) (fun _ => rfl)⟩).mono ?_
    rintro en w10 ⟨rfl, hb10⟩
    have HB10 := Lib.hid' (HB9.out.trans (hb10.mono HB9.out.size))
    clear hb10 HB9
    rw [show decide ((⟨0, []⟩ : C) = ⟨0, []⟩) = true from rfl]
    go_wp2_with (go_at_call 55; refine (copy_nil _).mono ?_; rintro e w' ⟨rfl, rfl⟩)
    go_ret
    exact ⟨rfl, HB10.out⟩
end Go.Proofs.Ytpgcaigoploncaa
