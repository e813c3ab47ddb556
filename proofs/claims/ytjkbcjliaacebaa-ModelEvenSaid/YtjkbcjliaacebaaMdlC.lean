/- Layer 33 (model): Put, Trim, Cut. -/
import Derived.Test.YtjkbcjliaacebaaMdlB
namespace Go.Proofs.Ytjkbcjliaacebaa
open Go.RowKit
set_option linter.unusedSimpArgs false
set_option linter.unusedVariables false
set_option maxRecDepth 20000

set_option maxHeartbeats 4000000 in
theorem mput_any {A : Nat → Prop} {bl bm : Nat} {m : M} (a : Int) (x : C) (xa : Option Addr) (xc : Nat) (w : World) (h : LogAt A w bl bm m) (hA : ∀ k, A k → k < w.heap.size) (hd : Bytes w (.slice xa x.d.length xc) x.d) :
    Calls Try.prog 25 #[.pointer (some ⟨bl, 0, none⟩), .int .i64 a, .agg #[.int .i64 x.k, .slice xa x.d.length xc]] w (LogR (errV (m.put a x).1) A bl bm (m.put a x).2 w) := by
  have H := Lib.hid' h
  have HA := Lib.hid' hA
  have HD := Lib.hid' hd
  have HOK := Lib.hid' (M.ok_putx h.ok a x)
  clear h hA hd
  have HX0 := Lib.hid' (show BoxW w.heap.size [.int .i64 x.k, .slice xa x.d.length xc] 48 (w.alloc (.cells #[.int .i64 x.k, .slice xa x.d.length xc] 48)) from BoxW.start w [.int .i64 x.k, .slice xa x.d.length xc] _)
  have HG0 := Lib.hid' (show Below w.heap.size w (w.alloc (.cells #[.int .i64 x.k, .slice xa x.d.length xc] 48)) by go_grown)
  cases hin : inR a 1048575 with
  | false =>
    have Hf := Lib.hid' (show m.put a x = (1, m) by simp [M.put, hin])
    go_enter Try.func25, Try.ntmps25
    go_wp2_with (go_at_call 60; refine (min_any _ _ _).mono ?_; rintro en w' ⟨rfl, rfl⟩; rw [hin])
    refine (masks_any _ _ _).mono ?_
    rintro en w1 ⟨rfl, rfl⟩
    rw [show errV (if false = true then 0 else 1) = .iface 55 (.int .i64 1) from rfl]
    go_wp2
    go_ret
    rw [Hf.out]
    exact LogR.same H.out rfl HG0.out
  | true =>
  have HIN := Lib.hid' hin
  have ha : 0 ≤ a ∧ a < 1048576 := by simp [inR] at hin; omega
  go_enter Try.func25, Try.ntmps25
  go_wp2_with (go_at_call 60; refine (min_any _ _ _).mono ?_; rintro en w' ⟨rfl, rfl⟩; rw [hin])
  refine (masks_any _ _ _).mono ?_
  rintro en w1 ⟨rfl, rfl⟩
  rw [show errV (if true = true then 0 else 1) = .nilIface from rfl]
  clear hin
  go_wp2_with fail
  generalize w.alloc (.cells #[.int .i64 x.k, .slice xa x.d.length xc] 48) = w1 at *
  refine (check_any _ x _ ⟨xa, xc, rfl, SlV.below HD.out (Nat.le_refl _) HG0.out⟩).mono ?_
  rintro en w2 ⟨rfl, hb2⟩
  have HX2 := Lib.hid' (HX0.out.below (Nat.le_refl _) hb2)
  have HG2 := Lib.hid' (HG0.out.trans (hb2.mono HG0.out.size))
  clear hb2 HX0 HG0
  by_cases hc : x.check = 0
  rotate_left
  · have Hf := Lib.hid' (show m.put a x = (x.check, m) by simp [M.put, HIN.out, hc])
    have HC := Lib.hid' hc
    clear hc
    rw [errV_pos HC.out]
    go_wp2
    go_ret
    rw [Hf.out, errV_pos HC.out]
    exact LogR.same H.out rfl HG2.out
  have HC := Lib.hid' hc
  rw [hc, errV_0]
  clear hc
  go_wp2_with fail
  refine (mat_any _ _ (H.out.below (Nat.le_refl _) HG2.out)).mono ?_
  rintro en w3 ⟨a3, cp3, rfl, ho3, hb3⟩
  have HO3 := Lib.hid' (show Bytes w3 (.slice a3 (m.u.at a).d.length cp3) (m.u.at a).d from SlV.of_own ho3)
  have HX3 := Lib.hid' (HX2.out.below (Nat.le_refl _) hb3)
  have HG3 := Lib.hid' (HG2.out.trans (hb3.mono HG2.out.size))
  clear ho3 hb3 HX2 HG2
  have x0 := HX3.out.box.1 0 _ rfl; have x1 := HX3.out.box.1 1 _ rfl
  have xs := HX3.out.lt
  by_cases hk : x.k ≠ 1 ∧ x.k ≠ 2
  · have Hf := Lib.hid' (show m.put a x = (2, m) by simp [M.put, HIN.out, HC.out, hk])
    have k1 : (x.k != 1) = true := by simpa using hk.1
    have k2 : (x.k != 2) = true := by simpa using hk.2
    clear hk
    go_wp2
    go_ret
    rw [Hf.out]
    exact LogR.same H.out rfl (HG3.out.trans ((show Below w3.heap.size w3 _ by go_grown).mono HG3.out.size))
  have HK := Lib.hid' hk
  have HB4 := Lib.hid' (show Below w3.heap.size w3 (w3.alloc (.cells #[.int .i64 (m.u.at a).k, .slice a3 (m.u.at a).d.length cp3] 48)) by go_grown)
  have HG4 := Lib.hid' (HG3.out.trans (HB4.out.mono HG3.out.size))
  obtain ⟨bx, hbx⟩ : ∃ b, (x.k != 1) = b := ⟨_, rfl⟩
  have hb2' : bx = true → (x.k != 2) = false := by
    intro hb; subst hb
    have h1 : x.k ≠ 1 := by simpa using hbx
    have h2 : x.k = 2 := by
      by_cases h2 : x.k = 2
      · exact h2
      · exact absurd ⟨h1, h2⟩ hk
    simp [h2]
  have HKB : bx = false ∨ (bx = true ∧ (x.k != 2) = false) := by cases bx; exact .inl rfl; exact .inr ⟨rfl, hb2' rfl⟩
  clear hk hb2'
  rcases HKB with rfl | ⟨rfl, hx2⟩
  all_goals
    by_cases h3 : (m.u.at a).k = 3
    · have Hf := Lib.hid' (show m.put a x = (9, m) by simp [M.put, HIN.out, HC.out, HK.out, h3])
      have h3' : ((m.u.at a).k == 3) = true := by simpa using h3
      clear h3
      go_wp2
      go_ret
      rw [Hf.out]
      exact LogR.same H.out rfl HG4.out
    have h3' : ((m.u.at a).k == 3) = false := by simpa using h3
    go_wp2_with fail
    have HX4 := Lib.hid' (HX3.out.below (Nat.le_refl _) HB4.out)
    have HT4 := Lib.hid' (BoxW.start w3 [.int .i64 (m.u.at a).k, .slice a3 (m.u.at a).d.length cp3] 48)
    rw [show w3.alloc (.cells [.int .i64 (m.u.at a).k, .slice a3 (m.u.at a).d.length cp3].toArray 48) = w3.alloc (.cells #[.int .i64 (m.u.at a).k, .slice a3 (m.u.at a).d.length cp3] 48) from rfl] at HT4
    clear x0 x1 xs
    generalize w3.alloc (.cells #[.int .i64 (m.u.at a).k, .slice a3 (m.u.at a).d.length cp3] 48) = w4 at *
    refine (may_any _ _ (m.u.at a) x _ ⟨a3, cp3, rfl, SlV.below HO3.out (Nat.le_refl _) HB4.out⟩ ⟨xa, xc, rfl, SlV.below HD.out (Nat.le_refl _) HG4.out⟩).mono ?_
    rintro en w5 ⟨rfl, hb5⟩
    have HX5 := Lib.hid' (HX4.out.below (Nat.le_refl _) hb5)
    have HG5 := Lib.hid' (HG4.out.trans (hb5.mono HG4.out.size))
    clear hb5 HX4 HT4
    have x0 := HX5.out.box.1 0 _ rfl; have x1 := HX5.out.box.1 1 _ rfl
    cases hm : C.may (m.u.at a) x
    · have Hf := Lib.hid' (show m.put a x = (8, m) by simp [M.put, HIN.out, HC.out, HK.out, h3, hm])
      clear h3 hm
      go_wp2
      go_ret
      rw [Hf.out]
      exact LogR.same H.out rfl HG5.out
    · have Hf := Lib.hid' (show m.put a x = (0, m.put' a x) by simp [M.put, HIN.out, HC.out, HK.out, h3, hm])
      clear h3 hm
      go_wp2_with fail
      refine (set_any a _ x _ (H.out.below (Nat.le_refl _) HG5.out) (fun k hk => Nat.lt_of_lt_of_le (HA.out k hk) HG5.out.size) ⟨xa, xc, rfl, SlV.below HD.out (Nat.le_refl _) HG5.out⟩ (check_zero HC.out HK.out).2 (by have := HOK.out; rw [Hf.out] at this; exact this) ha).mono ?_
      rintro en w6 ⟨rfl, hl, hf⟩
      have HL := Lib.hid' hl
      have HF := Lib.hid' ((Fr.of_below (F := fun k => k = bl ∨ k = bm) HG5.out).trans hf (fun i hi => .inl hi))
      clear hl hf
      go_wp2
      go_ret
      rw [Hf.out]
      exact ⟨rfl, HL.out, HF.out⟩
end Go.Proofs.Ytjkbcjliaacebaa
