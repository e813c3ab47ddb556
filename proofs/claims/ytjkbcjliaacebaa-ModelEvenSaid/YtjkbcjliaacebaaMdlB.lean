/- Layer 33 (model): Append, Read, Fill, Put. -/
import Derived.Test.YtjkbcjliaacebaaMdl
namespace Go.Proofs.Ytjkbcjliaacebaa
open Go.RowKit
set_option linter.unusedSimpArgs false
set_option linter.unusedVariables false
set_option maxRecDepth 20000

set_option maxHeartbeats 1000000 in
theorem mapp_any {A : Nat → Prop} {bl bm : Nat} {m : M} (da : Option Addr) (dc : Nat) (d : List UInt8) (w : World) (h : LogAt A w bl bm m) (hA : ∀ k, A k → k < w.heap.size) (hd : Bytes w (.slice da d.length dc) d) :
    Calls Try.prog 19 #[.pointer (some ⟨bl, 0, none⟩), .slice da d.length dc] w (LogR (.tuple #[.int .i64 (m.app d).2.1, errV (m.app d).1]) A bl bm (m.app d).2.2 w) := by
  have H := Lib.hid' h
  obtain ⟨c0, c1, c2⟩ := h.cell
  have HA := Lib.hid' hA
  have HD := Lib.hid' hd
  have HOK := Lib.hid' (M.ok_app h.ok d)
  have hdl : d.length ≤ 9223372036854775807 := by obtain ⟨_, _, he, h1, h2, _⟩ := hd; cases he; unfold maxLen at h2; omega
  have ht0 : 0 ≤ m.t := Int.le_trans h.ok.u.l0 h.ok.lt
  have ht1 := h.ok.t1
  clear h hA hd
  by_cases h1 : 64 < d.length
  · have Hf := Lib.hid' (show m.app d = (3, 0, m) by simp [M.app, h1])
    go_enter Try.func19, Try.ntmps19
    go_wp2
    go_ret2
    rw [Hf.out]
    exact LogR.same H.out rfl (Below.refl _ _)
  by_cases h2 : 1048576 ≤ m.t
  · have Hf := Lib.hid' (show m.app d = (5, 0, m) by simp [M.app, h1, h2])
    go_enter Try.func19, Try.ntmps19
    go_wp2
    go_ret2
    rw [Hf.out]
    exact LogR.same H.out rfl (Below.refl _ _)
  have Hf := Lib.hid' (show m.app d = (0, m.t, m.put' m.t ⟨1, d⟩) by simp [M.app, h1, h2])
  go_enter Try.func19, Try.ntmps19
  go_wp2_with fail
  refine (set_any m.t _ ⟨1, d⟩ _ H.out HA.out ⟨da, dc, rfl, HD.out⟩ (by simp; omega) (by have := HOK.out; rw [Hf.out] at this; exact this) (by omega)).mono ?_
  rintro en w1 ⟨rfl, hl, hf⟩
  have HL := Lib.hid' hl
  have HF := Lib.hid' hf
  clear hl hf c0 c1 c2
  go_wp2
  go_ret2
  rw [Hf.out]
  exact ⟨rfl, HL.out, HF.out⟩

theorem mread_any {A : Nat → Prop} {bl bm : Nat} {m : M} (a : Int) (w : World) (h : LogAt A w bl bm m) :
    Calls Try.prog 20 #[.pointer (some ⟨bl, 0, none⟩), .int .i64 a] w (ReadR (m.rd a).1 (m.rd a).2 w) := by
  have H := Lib.hid' h
  clear h
  cases hin : inR a 1048575 with
  | false =>
    have Hf := Lib.hid' (show m.rd a = (1, ⟨0, []⟩) by simp [M.rd, hin])
    go_enter Try.func20, Try.ntmps20
    go_wp2_with (go_at_call 60; refine (min_any _ _ _).mono ?_; rintro en w' ⟨rfl, rfl⟩; rw [hin])
    refine (masks_any _ _ _).mono ?_
    rintro en w1 ⟨rfl, rfl⟩
    rw [show errV (if false = true then 0 else 1) = .iface 55 (.int .i64 1) from rfl]
    go_wp2
    refine bodyPost_ret (v := .tuple #[.agg #[.int .i64 0, .slice none 0 0], .iface 55 (.int .i64 1)]) (by simp [results, Try.results20, go_sem]) rfl ?_
    rw [Hf.out]
    exact ⟨none, 0, rfl, World.ownsRow_nil _ _ _ _, by go_grown⟩
  | true =>
    have Hf := Lib.hid' (show m.rd a = (0, m.u.at a) by simp [M.rd, hin])
    go_enter Try.func20, Try.ntmps20
    go_wp2_with (go_at_call 60; refine (min_any _ _ _).mono ?_; rintro en w' ⟨rfl, rfl⟩; rw [hin])
    refine (masks_any _ _ _).mono ?_
    rintro en w1 ⟨rfl, rfl⟩
    rw [show errV (if true = true then 0 else 1) = .nilIface from rfl]
    go_wp2_with fail
    refine (mat_any _ _ (H.out.below (Nat.le_refl _) (by go_grown))).mono ?_
    rintro en w2 ⟨a2, cp2, rfl, ho, hb2⟩
    have HO := Lib.hid' ho
    have hc2 := (bcell hb2).1
    have hz2 := hb2.size
    have lt1 : w.heap.size < w2.heap.size := by simp at hz2; omega
    have c0 : w2.cell? ⟨w.heap.size, 0, none⟩ = some (.int .i64 0) := (hc2 _ _ (by simp)).trans (by simp [go_sem])
    have c1 : w2.cell? ⟨w.heap.size, 1, none⟩ = some (.slice none 0 0) := (hc2 _ _ (by simp)).trans (by simp [go_sem])
    have f0 : w2.frozen? ⟨w.heap.size, 0, none⟩ = false := ((bcell hb2).2 _ _ (by simp)).trans (by simp [go_sem])
    have f1 : w2.frozen? ⟨w.heap.size, 1, none⟩ = false := ((bcell hb2).2 _ _ (by simp)).trans (by simp [go_sem])
    clear ho hc2
    go_wp2
    refine bodyPost_ret (v := .tuple #[.agg #[.int .i64 (m.u.at a).k, .slice a2 (m.u.at a).d.length cp2], .nilIface]) (by simp [results, Try.results20, go_sem, c0, c1]) rfl ?_
    rw [Hf.out]
    refine ⟨_, _, rfl, own_base (ownsRow_setCell_below (ownsRow_setCell_below HO.out (by simp) _) (by simp) _) (by simp <;> omega), ?_⟩
    refine Below.setCell (Below.setCell ?_ (by simp) _) (by simp) _
    exact below_call (B := w.heap.size) (w := w) (by go_grown) (by go_size) hb2
set_option maxHeartbeats 1000000 in
theorem mfill_any {A : Nat → Prop} {bl bm : Nat} {m : M} (a : Int) (w : World) (h : LogAt A w bl bm m) (hA : ∀ k, A k → k < w.heap.size) :
    Calls Try.prog 24 #[.pointer (some ⟨bl, 0, none⟩), .int .i64 a] w (LogR (errV (m.fil a).1) A bl bm (m.fil a).2 w) := by
  have H := Lib.hid' h
  have HA := Lib.hid' hA
  have HOK := Lib.hid' (M.ok_fil h.ok a)
  clear h hA
  cases hin : inR a 1048575 with
  | false =>
    have Hf := Lib.hid' (show m.fil a = (1, m) by simp [M.fil, hin])
    go_enter Try.func24, Try.ntmps24
    go_wp2_with (go_at_call 60; refine (min_any _ _ _).mono ?_; rintro en w' ⟨rfl, rfl⟩; rw [hin])
    refine (masks_any _ _ _).mono ?_
    rintro en w1 ⟨rfl, rfl⟩
    rw [show errV (if false = true then 0 else 1) = .iface 55 (.int .i64 1) from rfl]
    go_wp2
    go_ret
    rw [Hf.out]
    exact LogR.same H.out rfl (Below.refl _ _)
  | true =>
  have HIN := Lib.hid' hin
  have ha : 0 ≤ a ∧ a < 1048576 := by simp [inR] at hin; omega
  go_enter Try.func24, Try.ntmps24
  go_wp2_with (go_at_call 60; refine (min_any _ _ _).mono ?_; rintro en w' ⟨rfl, rfl⟩; rw [hin])
  refine (masks_any _ _ _).mono ?_
  rintro en w1 ⟨rfl, rfl⟩
  rw [show errV (if true = true then 0 else 1) = .nilIface from rfl]
  clear hin
  go_wp2_with fail
  refine (mat_any _ _ H.out).mono ?_
  rintro en w1 ⟨a1, cp1, rfl, ho, hb1⟩
  have HO := Lib.hid' (show Bytes w1 _ _ from SlV.of_own ho)
  have HB1 := Lib.hid' hb1
  have HB2 := Lib.hid' (show Below w.heap.size w (w1.alloc (.cells #[.int .i64 (m.u.at a).k, .slice a1 (m.u.at a).d.length cp1] 48)) from below_call (B := w.heap.size) (w := w) hb1 hb1.size (by go_grown))
  have HB3 := Lib.hid' (show Below w1.heap.size w1 (w1.alloc (.cells #[.int .i64 (m.u.at a).k, .slice a1 (m.u.at a).d.length cp1] 48)) by go_grown)
  have Hlen := Lib.hid' (U.at_len H.out.ok.u a)
  clear ho hb1
  by_cases h3 : (m.u.at a).k = 3
  · have Hf := Lib.hid' (show m.fil a = (9, m) by simp [M.fil, HIN.out, h3])
    have h3' : ((m.u.at a).k == 3) = true := by simpa using h3
    clear h3
    go_wp2
    go_ret
    rw [Hf.out]
    exact LogR.same H.out rfl HB2.out
  have h3' : ((m.u.at a).k == 3) = false := by simpa using h3
  by_cases h1 : (m.u.at a).k = 1
  · have Hf := Lib.hid' (show m.fil a = (8, m.put' a (m.u.at a)) by simp [M.fil, HIN.out, h1])
    have h1' : ((m.u.at a).k == 1) = true := by simpa using h1
    clear h3 h1
    go_wp2_with fail
    refine (set_any a _ (m.u.at a) _ (H.out.below (Nat.le_refl _) HB2.out) (fun k hk => Nat.lt_of_lt_of_le (HA.out k hk) HB2.out.size) ⟨a1, cp1, rfl, SlV.below HO.out (Nat.le_refl _) HB3.out⟩ Hlen.out (by have := HOK.out; rw [Hf.out] at this; exact this) ha).mono ?_
    rintro en w3 ⟨rfl, hl, hf⟩
    have HL := Lib.hid' hl
    have HF := Lib.hid' ((Fr.of_below (F := fun k => k = bl ∨ k = bm) HB2.out).trans hf (fun i hi => .inl hi))
    clear hl hf
    go_wp2
    go_ret
    rw [Hf.out]
    exact ⟨rfl, HL.out, HF.out⟩
  have h1' : ((m.u.at a).k == 1) = false := by simpa using h1
  have Hf := Lib.hid' (show m.fil a = (0, m.put' a ⟨2, []⟩) by simp [M.fil, HIN.out, h3, h1])
  clear h3 h1
  go_wp2_with fail
  refine (set_any a _ ⟨2, []⟩ _ (H.out.below (Nat.le_refl _) HB2.out) (fun k hk => Nat.lt_of_lt_of_le (HA.out k hk) HB2.out.size) ⟨none, 0, rfl, SlV.empty _ _ _ (Nat.zero_le _) (fun _ => rfl)⟩ (by simp) (by have := HOK.out; rw [Hf.out] at this; exact this) ha).mono ?_
  rintro en w3 ⟨rfl, hl, hf⟩
  have HL := Lib.hid' hl
  have HF := Lib.hid' ((Fr.of_below (F := fun k => k = bl ∨ k = bm) HB2.out).trans hf (fun i hi => .inl hi))
  clear hl hf
  go_wp2
  go_ret
  rw [Hf.out]
  exact ⟨rfl, HL.out, HF.out⟩
end Go.Proofs.Ytjkbcjliaacebaa
