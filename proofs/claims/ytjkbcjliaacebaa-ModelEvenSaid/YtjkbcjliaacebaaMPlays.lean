/- ModelPlays: what any model answers, and has, behind any acts, and what a nil one does. -/
import Derived.Test.YtjkbcjliaacebaaMdlDo
namespace Go.Proofs.Ytjkbcjliaacebaa
open Go.RowKit
set_option linter.unusedSimpArgs false
set_option linter.unusedVariables false
set_option maxRecDepth 20000

theorem alive33_a : M.new.app [97] = (0, 0, ⟨⟨0, 0, [(0, ⟨1, [97]⟩)]⟩, 1⟩) := by rfl
theorem alive33_b : (⟨⟨0, 0, [(0, ⟨1, [97]⟩)]⟩, 1⟩ : M).fil 3 = (0, ⟨⟨0, 0, [(0, ⟨1, [97]⟩), (3, ⟨2, []⟩)]⟩, 4⟩) := by rfl
set_option maxHeartbeats 1000000 in
theorem alive33_any (w : World) : Calls Try.prog 17 #[] w fun e w' => e = .returned (.bool true) ∧ Below w.heap.size w w' := by
  have kc := fun (w : World) (C : Array Value) (n c : Nat) => Lib.run_convert_bytes_const (P := Try.prog) w 46 5 C n c Try.underlying46 Try.underlying5
  go_enter Try.func17, Try.ntmps17
  go_wp2_with fail
  refine (mnew_any _).mono ?_
  rintro e w1 ⟨rfl, hb1, hs1, hu1⟩
  have HU := Lib.hid' (hu1 (fun k => k = w.heap.size ∨ k = w.heap.size + 1) (.inl rfl) (.inr rfl))
  have HB1 := Lib.hid' hb1
  have HS1 := Lib.hid' hs1
  clear hu1 hb1 hs1
  go_wp2_with fail
  have HB2 := Lib.hid' (show Below w1.heap.size w1 (w1.alloc (.cells #[.int .u8 97] 5 (1, 2))) by go_grown)
  have hd := Lib.hid' (bytes_const w1 97 1 rfl)
  have e0 : (byteV 97) = .int .u8 97 := rfl
  rw [e0] at hd
  clear e0
  generalize (w1.alloc (.cells #[.int .u8 97] 5 (1, 2))) = w2 at *
  refine (mapp_any _ _ [97] _ (HU.out.below (Nat.le_refl _) HB2.out) (fun k hk => by have := HB2.out.size; have := HS1.out; omega) hd.out).mono ?_
  rintro e w3 ⟨rfl, hu3, hf3⟩
  rw [alive33_a] at hu3
  have HU3 := Lib.hid' hu3
  have HB3 := Lib.hid' (show Below w.heap.size w w3 from (HB1.out.trans (HB2.out.mono HB1.out.size)).trans (hf3.below (Nat.le_trans HB1.out.size HB2.out.size) (fun k hk => by rcases hk with rfl | rfl <;> omega)))
  have HZ3 := Lib.hid' (show w.heap.size + 2 ≤ w3.heap.size by have := hf3.size; have := HB2.out.size; have := HS1.out; omega)
  clear hu3 hf3 hd
  rw [alive33_a, errV_0]
  go_wp2_with fail
  refine (mfill_any 3 _ HU3.out (fun k hk => by have := HZ3.out; omega)).mono ?_
  rintro e w5 ⟨rfl, hu5, hf5⟩
  rw [alive33_b] at hu5
  have HU5 := Lib.hid' hu5
  have HB5 := Lib.hid' (show Below w.heap.size w w5 from HB3.out.trans (hf5.below HB3.out.size (fun k hk => by rcases hk with rfl | rfl <;> omega)))
  clear hu5 hf5
  rw [alive33_b, errV_0]
  go_wp2_with fail
  refine (mtail_any _ HU5.out).mono ?_
  rintro e w6 ⟨rfl, rfl⟩
  go_wp2
  go_ret
  exact ⟨rfl, HB5.out⟩

theorem do33_plays (x : A13) (l : M) (ma : Option Addr) (mc bl bm : Nat) (w : World) (hl : LogAt (fun k => k = bl ∨ k = bm) w bl bm l) (hm : RList w (.slice ma l.doc.u.cells.length mc) l.doc.u.cells) (hx : A13.In w x) (hdl : x.c.d.length ≤ 100) (hlc : l.u.cells.length ≤ 1000000) :
    Calls Try.prog 29 #[.pointer (some ⟨bl, 0, none⟩), rmV l.doc ma mc, .agg #[.int .i64 x.k, .int .i64 x.un, .int .i64 x.a, .int .i64 x.c.k, .slice x.da x.c.d.length x.dc, .slice x.ka x.kl x.kc, .slice x.sa x.sl x.sc]] w
      (fun en w' => ∃ ma' mc', en = .returned (.tuple #[rmV (lS (kindL x.k) l x.a x.c).1.doc ma' mc', .bool true]) ∧ RList w' (.slice ma' (lS (kindL x.k) l x.a x.c).1.doc.u.cells.length mc') (lS (kindL x.k) l x.a x.c).1.doc.u.cells ∧ LogAt (fun k => k = bl ∨ k = bm) w' bl bm (lS (kindL x.k) l x.a x.c).1 ∧ Fr (fun k => k = bl ∨ k = bm) w w') := by
  have hok := hl.ok
  have h0 := hok.lt; have h1 := hok.u.l0; have h2 := hok.t1
  refine (do33_any x l l.doc ma mc bl bm w hl hm hx hdl (by show (sortC l.u.cells).length ≤ _; rw [sortC_len]; exact hlc) hlc (by show 0 ≤ l.t ∧ l.t ≤ _; omega)).mono ?_
  rintro en w' ⟨ma', mc', rfl, e1, e2, e3⟩
  rw [okL_play hok]
  rw [lplay_all hok] at e1 ⊢
  exact ⟨ma', mc', rfl, e1, e2, e3⟩

/-- what holds at the head of a round -/
structure MPlaysAt (W : World) (N bl bm k : Nat) (wr : World) : Prop where
  at' : ∃ (l : M) (ma : Option Addr) (mc : Nat), l.u.cells.length ≤ k ∧ LogAt (fun q => q = bl ∨ q = bm) wr bl bm l ∧ BoxW N [.int .i64 l.doc.u.e, .int .i64 l.doc.u.l, .slice ma l.doc.u.cells.length mc, .int .i64 l.doc.t] 63 wr ∧ RList wr (.slice ma l.doc.u.cells.length mc) l.doc.u.cells
  below : Below W.heap.size W wr
theorem BoxW.log {A : Nat → Prop} {N t : Nat} {R : List Value} {w w' : World} {bl bm : Nat} {m : M} (h : BoxW N R t w) (hR : ∀ b, byteV b ∉ R) (hu : LogAt A w bl bm m) (hf : Fr (fun k => k = N) w w') (h1 : bl ≠ N) (h2 : bm ≠ N) : LogAt A w' bl bm m := by
  obtain ⟨L, hm, hr⟩ := hu.map
  refine ⟨(hf.block _ hu.lt.1 h1).trans hu.blk, ⟨L, hm.block (hf.block _ hu.lt.2 h2), hr.mono ?_⟩, hu.ok, hu.abl, hu.abm⟩
  rintro p q _ _ ⟨e1, a, cap, e2, e3, e4⟩
  exact ⟨e1, a, cap, e2, h.bytes hR e3 hf, fun x hx => ⟨(e4 x hx).1, Nat.lt_of_lt_of_le (e4 x hx).2 hf.size⟩⟩
theorem mplays_step {W wr wa w4 : World} {N bm k : Nat} {u u' : M} {ma ma' : Option Addr} {mc mc' : Nat} (hp : MPlaysAt W N (bm + 1) bm k wr) (hn : bm + 1 < N ∧ W.heap.size ≤ bm)
    (hbox : BoxW N [.int .i64 u.doc.u.e, .int .i64 u.doc.u.l, .slice ma u.doc.u.cells.length mc, .int .i64 u.doc.t] 63 wr) (ha : Below wr.heap.size wr wa) (hf : Fr (fun q => q = bm + 1 ∨ q = bm) wa w4)
    (hu : LogAt (fun q => q = bm + 1 ∨ q = bm) w4 (bm + 1) bm u') (hr : RList w4 (.slice ma' u'.doc.u.cells.length mc') u'.doc.u.cells) (hl : u'.u.cells.length ≤ k + 1) :
    BoxW N [.int .i64 u.doc.u.e, .int .i64 u.doc.u.l, .slice ma u.doc.u.cells.length mc, .int .i64 u.doc.t] 63 w4 ∧ N < w4.heap.size ∧
    MPlaysAt W N (bm + 1) bm (k + 1) (((((w4.setCell ⟨N, 0, none⟩ (.int .i64 u'.doc.u.e)).setCell ⟨N, 1, none⟩ (.int .i64 u'.doc.u.l)).setCell ⟨N, 2, none⟩ (.slice ma' u'.doc.u.cells.length mc')).setCell ⟨N, 3, none⟩ (.int .i64 u'.doc.t)).alloc (.cells #[.int .i64 u'.doc.u.e, .int .i64 u'.doc.u.l, .slice ma' u'.doc.u.cells.length mc', .int .i64 u'.doc.t] 63)) := by
  obtain ⟨_, hb⟩ := hp
  have h5 := (hbox.below (Nat.le_refl _) ha).fr hf (by omega)
  have h4 : Below W.heap.size W w4 := (hb.trans (ha.mono hb.size)).trans (hf.below (Nat.le_trans hb.size ha.size) (by omega))
  refine ⟨h5, h5.lt, ?_⟩
  have h6 := BoxW.set4 (a' := .int .i64 u'.doc.u.e) (b' := .int .i64 u'.doc.u.l) (c' := .slice ma' u'.doc.u.cells.length mc') (d' := .int .i64 u'.doc.t) h5
  have hfN : Fr (fun q => q = N) w4 ((((w4.setCell ⟨N, 0, none⟩ (.int .i64 u'.doc.u.e)).setCell ⟨N, 1, none⟩ (.int .i64 u'.doc.u.l)).setCell ⟨N, 2, none⟩ (.slice ma' u'.doc.u.cells.length mc')).setCell ⟨N, 3, none⟩ (.int .i64 u'.doc.t)) :=
    (((fr_set _ _ _ _).trans (fr_set _ _ _ _) (fun i hi => .inl hi)).trans (fr_set _ _ _ _) (fun i hi => .inl hi)).trans (fr_set _ _ _ _) (fun i hi => .inl hi)
  generalize (((w4.setCell ⟨N, 0, none⟩ (.int .i64 u'.doc.u.e)).setCell ⟨N, 1, none⟩ (.int .i64 u'.doc.u.l)).setCell ⟨N, 2, none⟩ (.slice ma' u'.doc.u.cells.length mc')).setCell ⟨N, 3, none⟩ (.int .i64 u'.doc.t) = w6 at *
  have hg : Below w6.heap.size w6 (w6.alloc (.cells #[.int .i64 u'.doc.u.e, .int .i64 u'.doc.u.l, .slice ma' u'.doc.u.cells.length mc', .int .i64 u'.doc.t] 63)) := by go_grown
  generalize w6.alloc (.cells #[.int .i64 u'.doc.u.e, .int .i64 u'.doc.u.l, .slice ma' u'.doc.u.cells.length mc', .int .i64 u'.doc.t] 63) = w7 at *
  have hby : ∀ b, byteV b ∉ [Value.int .i64 u.doc.u.e, .int .i64 u.doc.u.l, .slice ma u.doc.u.cells.length mc, .int .i64 u.doc.t] := by intro b hb; simp [byteV] at hb
  have hst : ∀ b, Value.string b ∉ [Value.int .i64 u.doc.u.e, .int .i64 u.doc.u.l, .slice ma u.doc.u.cells.length mc, .int .i64 u.doc.t] := by intro b hb; simp at hb
  have h7 := hfN.below (Nat.le_trans h4.size (Nat.le_refl _)) (B := W.heap.size) (by omega)
  exact ⟨⟨u', ma', mc', hl, (h5.log hby hu hfN (by omega) (by omega)).below (Nat.le_refl _) hg, h6.below (Nat.le_refl _) hg, SlV.below (h5.rlist hst hr hfN) (Nat.le_refl _) hg⟩, (h4.trans h7).trans (hg.mono (Nat.le_trans h4.size hfN.size))⟩
theorem mdoc_new : M.new.doc = M.new := by simp [M.doc, M.new, U.doc, U.new, sortC, sortA]
theorem mplays_start {W w1 w2 : World} (hu : LogAt (fun k => k = w1.heap.size + 1 ∨ k = w1.heap.size) w2 (w1.heap.size + 1) w1.heap.size M.new) (hb : Below W.heap.size W w2) (h1 : W.heap.size ≤ w1.heap.size) (h2 : w2.heap.size = w1.heap.size + 2) :
    MPlaysAt W w2.heap.size (w1.heap.size + 1) w1.heap.size 0 (w2.alloc (.cells #[.int .i64 0, .int .i64 0, .slice none 0 0, .int .i64 0] 63)) := by
  have hg : Below w2.heap.size w2 (w2.alloc (.cells #[.int .i64 0, .int .i64 0, .slice none 0 0, .int .i64 0] 63)) := by go_grown
  refine ⟨⟨M.new, none, 0, Nat.le_refl _, hu.below (Nat.le_refl _) hg, ?_, ?_⟩, hb.trans (hg.mono (by omega))⟩
  · rw [mdoc_new]; exact BoxW.start w2 [.int .i64 0, .int .i64 0, .slice none 0 0, .int .i64 0] _
  · rw [mdoc_new]; exact SlV.empty _ _ _ (Nat.zero_le _) (fun _ => rfl)
theorem isnt_any (w : World) : Calls Try.prog 23 #[.iface 55 (.int .i64 4), .int .i64 4] w fun e w' => e = .returned (.bool true) ∧ w = w' :=
  (is_any 4 4 w).mono fun e w' ⟨h1, h2⟩ => ⟨h1, h2⟩
theorem errV_4 : errV 4 = .iface 55 (.int .i64 4) := rfl
theorem nil_app (w : World) : Calls Try.prog 19 #[.pointer none, .slice none 0 0] w fun en w' => en = .returned (.tuple #[.int .i64 0, .iface 55 (.int .i64 4)]) ∧ Below w.heap.size w w' := mapp_nil _ w
theorem nil_read (w : World) : Calls Try.prog 20 #[.pointer none, .int .i64 0] w fun en w' => en = .returned (.tuple #[.agg #[.int .i64 0, .slice none 0 0], .iface 55 (.int .i64 4)]) ∧ Below w.heap.size w w' := mread_nil 0 w
theorem nil_tail (w : World) : Calls Try.prog 21 #[.pointer none] w fun en w' => en = .returned (.tuple #[.int .i64 0, .iface 55 (.int .i64 4)]) ∧ w = w' := mtail_nil w
theorem nil_fill (w : World) : Calls Try.prog 24 #[.pointer none, .int .i64 0] w fun en w' => en = .returned (.iface 55 (.int .i64 4)) ∧ Below w.heap.size w w' := mfill_nil 0 w
theorem nil_put (w : World) : Calls Try.prog 25 #[.pointer none, .int .i64 0, .agg #[.int .i64 0, .slice none 0 0]] w fun en w' => en = .returned (.iface 55 (.int .i64 4)) ∧ Below w.heap.size w w' := mput_nil 0 0 none 0 0 w
theorem nil_trim (w : World) : Calls Try.prog 26 #[.pointer none, .int .i64 0] w fun en w' => en = .returned (.iface 55 (.int .i64 4)) ∧ Below w.heap.size w w' := mTrim_nil 0 w
theorem nil_cut (w : World) : Calls Try.prog 27 #[.pointer none, .int .i64 0] w fun en w' => en = .returned (.iface 55 (.int .i64 4)) ∧ Below w.heap.size w w' := mCut_nil 0 w
theorem longS_false {X : List A13} {most : Nat} (h : longS X most = false) : X.length ≤ most ∧ ∀ x ∈ X, x.c.d.length ≤ 100 := by
  unfold longS at h
  rw [Bool.or_eq_false_iff, decide_eq_false_iff_not, List.any_eq_false] at h
  refine ⟨by omega, fun x hx => ?_⟩
  have := h.1 x hx
  simp only [longA, Bool.or_eq_true, decide_eq_true_eq] at this
  omega

set_option maxHeartbeats 8000000 in
theorem modelPlays_any (X : List A13) (a : Option Addr) (c : Nat) (W : World) (h : S13At W (.slice a X.length c) X) :
    Calls Try.prog 4 #[.slice a X.length c] W fun e w' => e = .returned (.bool true) ∧ Below W.heap.size W w' := by
  have HS := Lib.hid' h
  have hlen : X.length ≤ 9223372036854775807 := by obtain ⟨_, _, he, h1, h2, _⟩ := h.1; cases he; unfold maxLen at h2; omega
  clear h
  go_enter Try.func4, Try.ntmps4
  go_wp2_with fail
  refine (alive33_any _).mono ?_
  rintro e w1 ⟨rfl, hb1⟩
  have HB1 := Lib.hid' hb1
  clear hb1
  go_wp2_with fail
  refine (long13_any X 60 (by decide) a c _ (HS.out.below (Nat.le_refl _) HB1.out)).mono ?_
  rintro e w2 ⟨rfl, hb2⟩
  have HB2 := Lib.hid' (HB1.out.trans (hb2.mono HB1.out.size))
  clear hb2 HB1
  cases hq : longS X 60
  rotate_left
  · go_wp2_with fail
    go_ret
    exact ⟨rfl, HB2.out⟩
  obtain ⟨hl60, hl100⟩ := longS_false hq
  have HL60 := Lib.hid' hl60
  have HL100 := Lib.hid' hl100
  clear hq hl60 hl100
  go_wp2_with fail
  refine (nil_app _).mono ?_
  rintro e w3 ⟨rfl, hb3⟩
  have HB3 := Lib.hid' (HB2.out.trans (hb3.mono HB2.out.size))
  clear hb3 HB2
  go_wp2_with fail
  refine (nil_read _).mono ?_
  rintro e w4 ⟨rfl, hb4⟩
  have HB4 := Lib.hid' (HB3.out.trans (hb4.mono HB3.out.size))
  clear hb4 HB3
  go_wp2_with (go_at_call 21; refine (nil_tail _).mono ?_; rintro e w' ⟨rfl, rfl⟩)
  have HX4 := Lib.hid' (BoxW.start w4 [.int .i64 0, .slice none 0 0] 48)
  have HB5 := Lib.hid' (HB4.out.trans ((show Below w4.heap.size w4 (w4.alloc (.cells #[.int .i64 0, .slice none 0 0] 48)) by go_grown).mono HB4.out.size))
  rw [show w4.alloc (.cells [.int .i64 0, .slice none 0 0].toArray 48) = w4.alloc (.cells #[.int .i64 0, .slice none 0 0] 48) from rfl] at HX4
  generalize w4.alloc (.cells #[.int .i64 0, .slice none 0 0] 48) = w5 at *
  clear HB4
  have x0 := HX4.out.box.1 0 _ rfl
  have xl := HX4.out.lt
  go_wp2_with (first | (go_at_call 22; refine (mentries_nil _).mono ?_; rintro e w' ⟨rfl, rfl⟩) | (go_at_call 23; refine (isnt_any _).mono ?_; rintro e w' ⟨rfl, rfl⟩))
  clear x0 xl HX4
  refine (nil_fill _).mono ?_
  rintro e w6 ⟨rfl, hb6⟩
  have HB6 := Lib.hid' (HB5.out.trans (hb6.mono HB5.out.size))
  clear hb6 HB5
  go_wp2_with (go_at_call 23; refine (isnt_any _).mono ?_; rintro e w' ⟨rfl, rfl⟩)
  refine (nil_put _).mono ?_
  rintro e w7 ⟨rfl, hb7⟩
  have HB7 := Lib.hid' (HB6.out.trans (hb7.mono HB6.out.size))
  clear hb7 HB6
  go_wp2_with (go_at_call 23; refine (isnt_any _).mono ?_; rintro e w' ⟨rfl, rfl⟩)
  refine (nil_trim _).mono ?_
  rintro e w8 ⟨rfl, hb8⟩
  have HB8 := Lib.hid' (HB7.out.trans (hb8.mono HB7.out.size))
  clear hb8 HB7
  go_wp2_with (go_at_call 23; refine (isnt_any _).mono ?_; rintro e w' ⟨rfl, rfl⟩)
  refine (nil_cut _).mono ?_
  rintro e w9 ⟨rfl, hb9⟩
  have HB9 := Lib.hid' (HB8.out.trans (hb9.mono HB8.out.size))
  clear hb9 HB8
  go_wp2_with (go_at_call 23; refine (isnt_any _).mono ?_; rintro e w' ⟨rfl, rfl⟩)
  refine (mnew_any _).mono ?_
  rintro e w10 ⟨rfl, hb10, hs10, hu10⟩
  have HU := Lib.hid' (hu10 (fun k => k = w9.heap.size + 1 ∨ k = w9.heap.size) (.inr rfl) (.inl rfl))
  have HB10 := Lib.hid' (HB9.out.trans (hb10.mono HB9.out.size))
  have HZ := Lib.hid' hs10
  clear hu10 hb10 hs10
  go_wp2_with fail
  have HP := Lib.hid' (mplays_start (W := W) HU.out HB10.out HB9.out.size HZ.out)
  have HN := Lib.hid' (show w9.heap.size + 1 < w10.heap.size ∧ W.heap.size ≤ w9.heap.size by have := HZ.out; have := HB9.out.size; omega)
  clear HU HB10 HB9 HZ
  generalize w10.alloc (.cells #[.int .i64 0, .int .i64 0, .slice none 0 0, .int .i64 0] 63) = w11 at *
  generalize w10.heap.size = N at *
  generalize w9.heap.size = bm at *
  go_loopw [92] (fun v92 wr => ∃ k : Nat, v92 = .int .i64 k ∧ k ≤ X.length ∧ MPlaysAt W N (bm + 1) bm k wr) (fun v92 _ => X.length - (intOf v92).toNat)
  case atStart => exact ⟨0, rfl, Nat.zero_le _, HP.out⟩
  case round =>
    obtain ⟨k, rfl, hk, hp⟩ := hrel
    have HPk := Lib.hid' hp
    clear hp HP
    by_cases hlt : k < X.length
    rotate_left
    · go_wp2_with fail
      go_ret
      exact ⟨rfl, HPk.out.below⟩
    obtain ⟨u, ma, mc, hl, hu, hbox, hr⟩ := HPk.out.at'
    obtain ⟨hsl, hby⟩ := HS.out.below (Nat.le_refl _) HPk.out.below
    obtain ⟨b, off, rfl, hb, hc⟩ := SlV.row (s := 7) (fun _ => rfl) (by decide) hsl hlt
    have c0 := hc 0 _ rfl; have c1 := hc 1 _ rfl; have c2 := hc 2 _ rfl; have c3 := hc 3 _ rfl; have c4 := hc 4 _ rfl; have c5 := hc 5 _ rfl; have c6 := hc 6 _ rfl
    simp only [Nat.add_zero] at c0
    have m0 := hbox.box.1 0 _ rfl; have m1 := hbox.box.1 1 _ rfl; have m2 := hbox.box.1 2 _ rfl; have m3 := hbox.box.1 3 _ rfl
    have hns := hbox.lt
    have HU := Lib.hid' hu
    have HBx := Lib.hid' hbox
    have HR := Lib.hid' hr
    have hin := hby _ (List.getElem_mem hlt)
    have HIN := Lib.hid' hin
    have HXl := Lib.hid' (HL100.out _ (List.getElem_mem hlt))
    have HL := Lib.hid' hl
    clear hu hbox hr hby hl hsl hc hin
    generalize X[k] = x at *
    go_wp2_with fail
    have HBa := Lib.hid' (show Below wr.heap.size wr (wr.alloc (.cells #[.int .i64 x.k, .int .i64 x.un, .int .i64 x.a, .int .i64 x.c.k, .slice x.da x.c.d.length x.dc, .slice x.ka x.kl x.kc, .slice x.sa x.sl x.sc] 66)) by go_grown)
    generalize wr.alloc (.cells #[.int .i64 x.k, .int .i64 x.un, .int .i64 x.a, .int .i64 x.c.k, .slice x.da x.c.d.length x.dc, .slice x.ka x.kl x.kc, .slice x.sa x.sl x.sc] 66) = wa at *
    clear c0 c1 c2 c3 c4 c5 c6 m0 m1 m2 m3
    refine (do33_plays x u ma mc (bm + 1) bm wa (HU.out.below (Nat.le_refl _) HBa.out) (HR.out.below (Nat.le_refl _) HBa.out) ⟨SlV.below HIN.out.d (Nat.le_refl _) HBa.out, HIN.out.k, HIN.out.s⟩ HXl.out (by have := HL.out; have := HL60.out; omega)).mono ?_
    rintro en w4 ⟨ma', mc', rfl, hr4, hu4, hf4⟩
    unfold rmV
    have HS4 := Lib.hid' (mplays_step HPk.out HN.out HBx.out HBa.out hf4 hu4 hr4 (Nat.le_trans (lS_len _ _ _ _) (Nat.succ_le_succ HL.out)))
    clear hr4 hu4 hf4
    obtain ⟨hb4, hl4, hp4⟩ := HS4.out
    have n0 := hb4.box.1 0 _ rfl; have n1 := hb4.box.1 1 _ rfl; have n2 := hb4.box.1 2 _ rfl; have n3 := hb4.box.1 3 _ rfl
    have f0 := hb4.box.2.1 0; have f1 := hb4.box.2.1 1; have f2 := hb4.box.2.1 2; have f3 := hb4.box.2.1 3
    have HP4 := Lib.hid' hp4
    clear hp4 HS4 hb4
    go_wp2_with fail
    go_roundw
    case rel => exact ⟨k + 1, by go_num, by omega, HP4.out⟩
    case measure => simp [intOf]; omega
end Go.Proofs.Ytjkbcjliaacebaa
