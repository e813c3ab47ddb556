/- Layer 33 (model): holdfastlaw33.do: an act on a model, and on the document's. -/
import Derived.Test.YtjkbcjliaacebaaMdlL
import Derived.Laws.BitsAllLaws
import Derived.Deep.DeepCutAuto
import Derived.Deep.CutBlock
import Derived.Deep.RegionHeld3
import Derived.BigQuiet
namespace Go.Proofs.Ytjkbcjliaacebaa
open Go.RowKit
set_option linter.unusedSimpArgs false
set_option linter.unusedVariables false
set_option maxRecDepth 100000

theorem xor_one (b : UInt8) : bits .xor .u8 (b.toNat : Int) 1 = ((b ^^^ 1).toNat : Int) := by
  have h := u8_xor_nat b.toNat 1 b.toNat_lt (by decide)
  rw [UInt8.toNat_xor]; exact h
def Do33R (R V : M × Nat × Int × C) (bl bm : Nat) (w : World) (en : Ending) (w' : World) : Prop :=
  ∃ ma mc, en = .returned (.tuple #[rmV R.1 ma mc, .bool (okL R V)]) ∧ RList w' (.slice ma R.1.u.cells.length mc) R.1.u.cells ∧ LogAt (fun k => k = bl ∨ k = bm) w' bl bm V.1 ∧ Fr (fun k => k = bl ∨ k = bm) w w'

set_option maxHeartbeats 8000000 in
theorem do33_any (x : A13) (l m : M) (ma : Option Addr) (mc : Nat) (bl bm : Nat) (w : World) (hl : LogAt (fun k => k = bl ∨ k = bm) w bl bm l) (hm : RList w (.slice ma m.u.cells.length mc) m.u.cells) (hx : A13.In w x) (hdl : x.c.d.length ≤ 100)
    (hmc : m.u.cells.length ≤ 1000000) (hlc : l.u.cells.length ≤ 1000000) (hmt : 0 ≤ m.t ∧ m.t ≤ 4611686018427387904) :
    Calls Try.prog 29 #[.pointer (some ⟨bl, 0, none⟩), rmV m ma mc, .agg #[.int .i64 x.k, .int .i64 x.un, .int .i64 x.a, .int .i64 x.c.k, .slice x.da x.c.d.length x.dc, .slice x.ka x.kl x.kc, .slice x.sa x.sl x.sc]] w (Do33R (rlS (kindL x.k) m x.a x.c) (lS (kindL x.k) l x.a x.c) bl bm w) := by
  unfold rmV kindL
  have H := Lib.hid' hl
  have HM := Lib.hid' hm
  have HD := Lib.hid' hx
  have HMC := Lib.hid' (show m.u.cells.length ≤ 4194304 by omega)
  have HLC := Lib.hid' hlc
  have HMT := Lib.hid' hmt
  clear hl hm hx hmc hlc hmt
  go_enter Try.func29, Try.ntmps29
  go_upto_region 1 with fail
  have HB0 := Lib.hid' (show BoxW (w.heap.size) [.int .i64 m.u.e, .int .i64 m.u.l, .slice ma m.u.cells.length mc, .int .i64 m.t] 63 (((w.alloc (.cells #[.int .i64 m.u.e, .int .i64 m.u.l, .slice ma m.u.cells.length mc, .int .i64 m.t] 63)).alloc (.cells #[.int .i64 x.k, .int .i64 x.un, .int .i64 x.a, .int .i64 x.c.k, .slice x.da x.c.d.length x.dc, .slice x.ka x.kl x.kc, .slice x.sa x.sl x.sc] 66)).alloc (.cells #[.int .i64 0, .int .i64 0, .slice none 0 0, .int .i64 0] 63)) from by
    have h := (BoxW.start w [.int .i64 m.u.e, .int .i64 m.u.l, .slice ma m.u.cells.length mc, .int .i64 m.t] 63).below (Nat.le_refl _) (show Below (w.alloc (.cells #[.int .i64 m.u.e, .int .i64 m.u.l, .slice ma m.u.cells.length mc, .int .i64 m.t] 63)).heap.size (w.alloc (.cells #[.int .i64 m.u.e, .int .i64 m.u.l, .slice ma m.u.cells.length mc, .int .i64 m.t] 63)) (((w.alloc (.cells #[.int .i64 m.u.e, .int .i64 m.u.l, .slice ma m.u.cells.length mc, .int .i64 m.t] 63)).alloc (.cells #[.int .i64 x.k, .int .i64 x.un, .int .i64 x.a, .int .i64 x.c.k, .slice x.da x.c.d.length x.dc, .slice x.ka x.kl x.kc, .slice x.sa x.sl x.sc] 66)).alloc (.cells #[.int .i64 0, .int .i64 0, .slice none 0 0, .int .i64 0] 63)) by go_grown)
    simpa using h)
  have HB1 := Lib.hid' (show BoxW (w.heap.size + 1) [.int .i64 x.k, .int .i64 x.un, .int .i64 x.a, .int .i64 x.c.k, .slice x.da x.c.d.length x.dc, .slice x.ka x.kl x.kc, .slice x.sa x.sl x.sc] 66 (((w.alloc (.cells #[.int .i64 m.u.e, .int .i64 m.u.l, .slice ma m.u.cells.length mc, .int .i64 m.t] 63)).alloc (.cells #[.int .i64 x.k, .int .i64 x.un, .int .i64 x.a, .int .i64 x.c.k, .slice x.da x.c.d.length x.dc, .slice x.ka x.kl x.kc, .slice x.sa x.sl x.sc] 66)).alloc (.cells #[.int .i64 0, .int .i64 0, .slice none 0 0, .int .i64 0] 63)) from by
    have h := (BoxW.start (w.alloc (.cells #[.int .i64 m.u.e, .int .i64 m.u.l, .slice ma m.u.cells.length mc, .int .i64 m.t] 63)) [.int .i64 x.k, .int .i64 x.un, .int .i64 x.a, .int .i64 x.c.k, .slice x.da x.c.d.length x.dc, .slice x.ka x.kl x.kc, .slice x.sa x.sl x.sc] 66).below (Nat.le_refl _) (show Below ((w.alloc (.cells #[.int .i64 m.u.e, .int .i64 m.u.l, .slice ma m.u.cells.length mc, .int .i64 m.t] 63)).alloc (.cells #[.int .i64 x.k, .int .i64 x.un, .int .i64 x.a, .int .i64 x.c.k, .slice x.da x.c.d.length x.dc, .slice x.ka x.kl x.kc, .slice x.sa x.sl x.sc] 66)).heap.size ((w.alloc (.cells #[.int .i64 m.u.e, .int .i64 m.u.l, .slice ma m.u.cells.length mc, .int .i64 m.t] 63)).alloc (.cells #[.int .i64 x.k, .int .i64 x.un, .int .i64 x.a, .int .i64 x.c.k, .slice x.da x.c.d.length x.dc, .slice x.ka x.kl x.kc, .slice x.sa x.sl x.sc] 66)) (((w.alloc (.cells #[.int .i64 m.u.e, .int .i64 m.u.l, .slice ma m.u.cells.length mc, .int .i64 m.t] 63)).alloc (.cells #[.int .i64 x.k, .int .i64 x.un, .int .i64 x.a, .int .i64 x.c.k, .slice x.da x.c.d.length x.dc, .slice x.ka x.kl x.kc, .slice x.sa x.sl x.sc] 66)).alloc (.cells #[.int .i64 0, .int .i64 0, .slice none 0 0, .int .i64 0] 63)) by go_grown)
    simpa using h)
  have HB2 := Lib.hid' (show BoxW (w.heap.size + 2) [.int .i64 0, .int .i64 0, .slice none 0 0, .int .i64 0] 63 (((w.alloc (.cells #[.int .i64 m.u.e, .int .i64 m.u.l, .slice ma m.u.cells.length mc, .int .i64 m.t] 63)).alloc (.cells #[.int .i64 x.k, .int .i64 x.un, .int .i64 x.a, .int .i64 x.c.k, .slice x.da x.c.d.length x.dc, .slice x.ka x.kl x.kc, .slice x.sa x.sl x.sc] 66)).alloc (.cells #[.int .i64 0, .int .i64 0, .slice none 0 0, .int .i64 0] 63)) from by
    have h := (BoxW.start ((w.alloc (.cells #[.int .i64 m.u.e, .int .i64 m.u.l, .slice ma m.u.cells.length mc, .int .i64 m.t] 63)).alloc (.cells #[.int .i64 x.k, .int .i64 x.un, .int .i64 x.a, .int .i64 x.c.k, .slice x.da x.c.d.length x.dc, .slice x.ka x.kl x.kc, .slice x.sa x.sl x.sc] 66)) [.int .i64 0, .int .i64 0, .slice none 0 0, .int .i64 0] 63).below (Nat.le_refl _) (show Below (((w.alloc (.cells #[.int .i64 m.u.e, .int .i64 m.u.l, .slice ma m.u.cells.length mc, .int .i64 m.t] 63)).alloc (.cells #[.int .i64 x.k, .int .i64 x.un, .int .i64 x.a, .int .i64 x.c.k, .slice x.da x.c.d.length x.dc, .slice x.ka x.kl x.kc, .slice x.sa x.sl x.sc] 66)).alloc (.cells #[.int .i64 0, .int .i64 0, .slice none 0 0, .int .i64 0] 63)).heap.size (((w.alloc (.cells #[.int .i64 m.u.e, .int .i64 m.u.l, .slice ma m.u.cells.length mc, .int .i64 m.t] 63)).alloc (.cells #[.int .i64 x.k, .int .i64 x.un, .int .i64 x.a, .int .i64 x.c.k, .slice x.da x.c.d.length x.dc, .slice x.ka x.kl x.kc, .slice x.sa x.sl x.sc] 66)).alloc (.cells #[.int .i64 0, .int .i64 0, .slice none 0 0, .int .i64 0] 63)) (((w.alloc (.cells #[.int .i64 m.u.e, .int .i64 m.u.l, .slice ma m.u.cells.length mc, .int .i64 m.t] 63)).alloc (.cells #[.int .i64 x.k, .int .i64 x.un, .int .i64 x.a, .int .i64 x.c.k, .slice x.da x.c.d.length x.dc, .slice x.ka x.kl x.kc, .slice x.sa x.sl x.sc] 66)).alloc (.cells #[.int .i64 0, .int .i64 0, .slice none 0 0, .int .i64 0] 63)) by go_grown)
    simpa using h)
  have HG := Lib.hid' (show Below w.heap.size w (((w.alloc (.cells #[.int .i64 m.u.e, .int .i64 m.u.l, .slice ma m.u.cells.length mc, .int .i64 m.t] 63)).alloc (.cells #[.int .i64 x.k, .int .i64 x.un, .int .i64 x.a, .int .i64 x.c.k, .slice x.da x.c.d.length x.dc, .slice x.ka x.kl x.kc, .slice x.sa x.sl x.sc] 66)).alloc (.cells #[.int .i64 0, .int .i64 0, .slice none 0 0, .int .i64 0] 63)) by go_grown)
  have HZ2 := Lib.hid' (show (((w.alloc (.cells #[.int .i64 m.u.e, .int .i64 m.u.l, .slice ma m.u.cells.length mc, .int .i64 m.t] 63)).alloc (.cells #[.int .i64 x.k, .int .i64 x.un, .int .i64 x.a, .int .i64 x.c.k, .slice x.da x.c.d.length x.dc, .slice x.ka x.kl x.kc, .slice x.sa x.sl x.sc] 66)).alloc (.cells #[.int .i64 0, .int .i64 0, .slice none 0 0, .int .i64 0] 63)).heap.size = w.heap.size + 3 by simp)
  generalize (((w.alloc (.cells #[.int .i64 m.u.e, .int .i64 m.u.l, .slice ma m.u.cells.length mc, .int .i64 m.t] 63)).alloc (.cells #[.int .i64 x.k, .int .i64 x.un, .int .i64 x.a, .int .i64 x.c.k, .slice x.da x.c.d.length x.dc, .slice x.ka x.kl x.kc, .slice x.sa x.sl x.sc] 66)).alloc (.cells #[.int .i64 0, .int .i64 0, .slice none 0 0, .int .i64 0] 63)) = w2 at *
  have y0 := HB1.out.box.1 0 _ rfl; have y1 := HB1.out.box.1 1 _ rfl; have y2 := HB1.out.box.1 2 _ rfl; have y3 := HB1.out.box.1 3 _ rfl; have y4 := HB1.out.box.1 4 _ rfl; have y5 := HB1.out.box.1 5 _ rfl; have y6 := HB1.out.box.1 6 _ rfl
  have yf0 := HB1.out.box.2.1 0; have yf1 := HB1.out.box.2.1 1; have yf2 := HB1.out.box.2.1 2; have yf3 := HB1.out.box.2.1 3; have yf4 := HB1.out.box.2.1 4; have yf5 := HB1.out.box.2.1 5; have yf6 := HB1.out.box.2.1 6
  have yl := HB1.out.lt
  go_wp2_with fail
  refine (copy_any _ x.c _ ⟨x.da, x.dc, rfl, SlV.below HD.out.d (Nat.le_refl _) HG.out⟩ (by omega)).mono ?_
  rintro en w3 ⟨oa, oc, rfl, ho, hb3⟩
  clear y0 y1 y2 y3 y4 y5 y6 yf0 yf1 yf2 yf3 yf4 yf5 yf6 yl
  have HO := Lib.hid' ho
  have HB3 := Lib.hid' hb3
  clear ho hb3
  go_upto_region 2 with fail
  have HJ := Lib.hid' (show LIn w.heap.size w3.heap.size w x oa oc bl bm l m ma mc (w3.alloc (.cells #[.int .i64 x.c.k, .slice oa x.c.d.length oc] 48)) from by
    have hz := HZ2.out
    have hs3 := HB3.out.size
    have g4 : Below w3.heap.size w3 (w3.alloc (.cells #[.int .i64 x.c.k, .slice oa x.c.d.length oc] 48)) := by go_grown
    have gA : Below w.heap.size w (w3.alloc (.cells #[.int .i64 x.c.k, .slice oa x.c.d.length oc] 48)) := (HG.out.trans (HB3.out.mono HG.out.size)).trans (g4.mono (by omega))
    have hlt := H.out.lt
    refine ⟨(HB0.out.below (Nat.le_refl _) HB3.out).below (Nat.le_refl _) g4, (HB1.out.below (Nat.le_refl _) HB3.out).below (Nat.le_refl _) g4, (HB2.out.below (Nat.le_refl _) HB3.out).below (Nat.le_refl _) g4, BoxW.start w3 [.int .i64 x.c.k, .slice oa x.c.d.length oc] _,
      own_below (own_base HO.out (by omega)) (Nat.le_refl _) g4, ?_, HM.out.below (Nat.le_refl _) gA, Fr.of_below gA, ⟨SlV.below HD.out.d (Nat.le_refl _) gA, HD.out.k, HD.out.s⟩, hlt, rfl, by omega, by simp, fun b hb => ?_⟩
    · exact (H.out.weak (A' := LA w.heap.size w3.heap.size bl bm) (fun k hk => by
        rcases hk with h | h | h
        · exact .inl (.inl h)
        · exact .inl (.inr h)
        · exact .inr h.1) (.inl rfl) (.inr (.inl rfl))).below (Nat.le_refl _) gA
    · exact (own_blk HO.out hb).2)
  clear HB0 HB1 HB2 HG HZ2 HB3 HO
  generalize w3.alloc (.cells #[.int .i64 x.c.k, .slice oa x.c.d.length oc] 48) = w4 at *
  generalize w3.heap.size = X at *
  have y0 := HJ.out.ba.box.1 0 _ rfl
  go_upto_block 0 with fail
  have HKN := Lib.hid' (kind16 x.k)
  generalize (IntKind.u64.wrap x.k).tmod 16 = kn at *
  clear y0
  go_cut [9, 10, 11, 12] (fun v9 v10 v11 v12 wc => v9 = .int .i64 (lS kn l x.a x.c).2.2.1 ∧ v10 = .int .i64 (rlS kn m x.a x.c).2.2.1 ∧ v11 = .int .i64 (rlS kn m x.a x.c).2.1 ∧ v12 = errV (lS kn l x.a x.c).2.1 ∧
    ∃ ma' mc', LIn w.heap.size X w x oa oc bl bm (lS kn l x.a x.c).1 (rlS kn m x.a x.c).1 ma' mc' wc ∧ (rlS kn m x.a x.c).2.2.2 = (lS kn l x.a x.c).2.2.2)
  case first =>
    have hk16 := HKN.out
    have y0 := HJ.out.ba.box.1 0 _ rfl; have y1 := HJ.out.ba.box.1 1 _ rfl; have y2 := HJ.out.ba.box.1 2 _ rfl; have y3 := HJ.out.ba.box.1 3 _ rfl; have y4 := HJ.out.ba.box.1 4 _ rfl
    have p0 := HJ.out.bm'.box.1 0 _ rfl; have p1 := HJ.out.bm'.box.1 1 _ rfl; have p2 := HJ.out.bm'.box.1 2 _ rfl; have p3 := HJ.out.bm'.box.1 3 _ rfl
    have pf0 := HJ.out.bm'.box.2.1 0; have pf1 := HJ.out.bm'.box.2.1 1; have pf2 := HJ.out.bm'.box.2.1 2; have pf3 := HJ.out.bm'.box.2.1 3
    have o0 := HJ.out.bo.box.1 0 _ rfl; have o1 := HJ.out.bo.box.1 1 _ rfl
    have s1 := HJ.out.ba.lt; have s2 := HJ.out.bm'.lt; have s3 := HJ.out.hx
    obtain rfl | rfl | rfl | rfl | rfl | rfl | rfl | rfl | hk8 : kn = 0 ∨ kn = 1 ∨ kn = 2 ∨ kn = 3 ∨ kn = 4 ∨ kn = 5 ∨ kn = 6 ∨ kn = 7 ∨ 8 ≤ kn := by omega
    all_goals clear hk16 HKN
    · as_aux_lemma =>
      have hs := run_string_of (P := Try.prog) 46 5 9 Try.underlying46 Try.underlying5 Try.underlying9 HJ.out.din.d
      go_wp2_with fail
      refine (rmApp_any m ma mc x.c.d _ HJ.out.rl HMC.out HMT.out (by omega)).mono ?_
      rintro en w5 ⟨ma', mc', rfl, hr, hb5⟩
      have H5 := Lib.hid' (HJ.out.below hb5)
      have HR5 := Lib.hid' hr
      generalize hm' : (m.rApp x.c.d).2.1 = m' at *
      have HMM := Lib.hid' hm'
      clear hr hm'
      clear y0 y1 y2 y3 y4 p0 p1 p2 p3 pf0 pf1 pf2 pf3 o0 o1 s1 s2 s3
      unfold rmV
      have p0 := H5.out.bm'.box.1 0 _ rfl; have p1 := H5.out.bm'.box.1 1 _ rfl; have p2 := H5.out.bm'.box.1 2 _ rfl; have p3 := H5.out.bm'.box.1 3 _ rfl
      have pf0 := H5.out.bm'.box.2.1 0; have pf1 := H5.out.bm'.box.2.1 1; have pf2 := H5.out.bm'.box.2.1 2; have pf3 := H5.out.bm'.box.2.1 3
      have y2 := H5.out.ba.box.1 2 _ rfl; have o0 := H5.out.bo.box.1 0 _ rfl; have o1 := H5.out.bo.box.1 1 _ rfl; have s3 := H5.out.hx; have s4 := H5.out.hX
      go_wp2_with fail
      have H6 := Lib.hid' (H5.out.setM HR5.out)
      generalize ((((w5.setCell ⟨w.heap.size, 0, none⟩ (.int .i64 m'.u.e)).setCell ⟨w.heap.size, 1, none⟩ (.int .i64 m'.u.l)).setCell ⟨w.heap.size, 2, none⟩ (.slice ma' m'.u.cells.length mc')).setCell ⟨w.heap.size, 3, none⟩ (.int .i64 m'.t)) = w6 at *
      refine (mapp_any oa oc x.c.d _ H6.out.log H6.out.room H6.out.byt).mono ?_
      rintro en w7 ⟨rfl, hl7, hf7⟩
      have H7 := Lib.hid' (H6.out.step hl7 hf7)
      clear hl7 hf7 p0 p1 p2 p3 pf0 pf1 pf2 pf3 y2 o0 o1 s3 s4
      go_wp2_with fail
      go_meet
      have h9 := H7.out
      rw [← HMM.out] at h9
      exact ⟨rfl, rfl, rfl, rfl, ma', mc', h9, rfl⟩
    · as_aux_lemma =>
      have hs := run_string_of (P := Try.prog) 46 5 9 Try.underlying46 Try.underlying5 Try.underlying9 HJ.out.din.d
      go_wp2_with fail
      refine (rmApp_any m ma mc x.c.d _ HJ.out.rl HMC.out HMT.out (by omega)).mono ?_
      rintro en w5 ⟨ma', mc', rfl, hr, hb5⟩
      have H5 := Lib.hid' (HJ.out.below hb5)
      have HR5 := Lib.hid' hr
      generalize hm' : (m.rApp x.c.d).2.1 = m' at *
      have HMM := Lib.hid' hm'
      clear hr hm'
      clear y0 y1 y2 y3 y4 p0 p1 p2 p3 pf0 pf1 pf2 pf3 o0 o1 s1 s2 s3
      unfold rmV
      have p0 := H5.out.bm'.box.1 0 _ rfl; have p1 := H5.out.bm'.box.1 1 _ rfl; have p2 := H5.out.bm'.box.1 2 _ rfl; have p3 := H5.out.bm'.box.1 3 _ rfl
      have pf0 := H5.out.bm'.box.2.1 0; have pf1 := H5.out.bm'.box.2.1 1; have pf2 := H5.out.bm'.box.2.1 2; have pf3 := H5.out.bm'.box.2.1 3
      have y2 := H5.out.ba.box.1 2 _ rfl; have o0 := H5.out.bo.box.1 0 _ rfl; have o1 := H5.out.bo.box.1 1 _ rfl; have s3 := H5.out.hx; have s4 := H5.out.hX
      go_wp2_with fail
      have H6 := Lib.hid' (H5.out.setM HR5.out)
      generalize ((((w5.setCell ⟨w.heap.size, 0, none⟩ (.int .i64 m'.u.e)).setCell ⟨w.heap.size, 1, none⟩ (.int .i64 m'.u.l)).setCell ⟨w.heap.size, 2, none⟩ (.slice ma' m'.u.cells.length mc')).setCell ⟨w.heap.size, 3, none⟩ (.int .i64 m'.t)) = w6 at *
      refine (mapp_any oa oc x.c.d _ H6.out.log H6.out.room H6.out.byt).mono ?_
      rintro en w7 ⟨rfl, hl7, hf7⟩
      have H7 := Lib.hid' (H6.out.step hl7 hf7)
      clear hl7 hf7 p0 p1 p2 p3 pf0 pf1 pf2 pf3 y2 o0 o1 s3 s4
      go_wp2_with fail
      go_meet
      have h9 := H7.out
      rw [← HMM.out] at h9
      exact ⟨rfl, rfl, rfl, rfl, ma', mc', h9, rfl⟩
    · as_aux_lemma =>
      go_wp2_with fail
      refine (mread_any x.a _ HJ.out.log).mono ?_
      rintro en w5 ⟨ra, rcap, rfl, ho5, hb5⟩
      have H5 := Lib.hid' (HJ.out.below hb5)
      have HO5 := Lib.hid' (SlV.of_own ho5)
      clear ho5 hb5 y0 y1 y2 y3 y4 p0 p1 p2 p3 pf0 pf1 pf2 pf3 o0 o1 s1 s2 s3
      have p0 := H5.out.bm'.box.1 0 _ rfl; have p1 := H5.out.bm'.box.1 1 _ rfl; have p2 := H5.out.bm'.box.1 2 _ rfl; have p3 := H5.out.bm'.box.1 3 _ rfl; have y2 := H5.out.ba.box.1 2 _ rfl; have s1 := H5.out.bm'.lt; have s2 := H5.out.ba.lt
      go_wp2_with fail
      have G7 := Lib.hid' (show Below w5.heap.size w5 ((w5.alloc (.cells #[.int .i64 (l.rd x.a).2.k, .slice ra (l.rd x.a).2.d.length rcap] 48)).alloc (.cells #[.int .i64 0, .string ⟨#[]⟩] 125)) by go_grown)
      have HC7 := Lib.hid' (show BoxW w5.heap.size [.int .i64 (l.rd x.a).2.k, .slice ra (l.rd x.a).2.d.length rcap] 48 ((w5.alloc (.cells #[.int .i64 (l.rd x.a).2.k, .slice ra (l.rd x.a).2.d.length rcap] 48)).alloc (.cells #[.int .i64 0, .string ⟨#[]⟩] 125)) from heap_alloc2_old w5 _ _)
      have HZ7 := Lib.hid' (show BoxW (w5.heap.size + 1) [.int .i64 0, .string ⟨#[]⟩] 125 ((w5.alloc (.cells #[.int .i64 (l.rd x.a).2.k, .slice ra (l.rd x.a).2.d.length rcap] 48)).alloc (.cells #[.int .i64 0, .string ⟨#[]⟩] 125)) from heap_alloc2_new w5 _ _)
      generalize (w5.alloc (.cells #[.int .i64 (l.rd x.a).2.k, .slice ra (l.rd x.a).2.d.length rcap] 48)).alloc (.cells #[.int .i64 0, .string ⟨#[]⟩] 125) = w7 at *
      have H7 := Lib.hid' (H5.out.below G7.out)
      refine (rRead_any m.u ma mc 0 x.a _ H7.out.rl HMC.out).mono ?_
      rintro en w8 ⟨rfl, hb8⟩
      have H8 := Lib.hid' (H7.out.below hb8)
      have HC8 := Lib.hid' (HC7.out.below (Nat.le_refl _) hb8)
      have HZ8 := Lib.hid' (HZ7.out.below (Nat.le_refl _) hb8)
      have HO8 := Lib.hid' (SlV.below (SlV.below HO5.out (Nat.le_refl _) G7.out) (Nat.le_refl _) hb8)
      have H8f := Lib.hid' (Fr.of_below (F := fun _ => False) (G7.out.trans (hb8.mono G7.out.size)))
      clear hb8 HC7 HZ7 H7 G7 p0 p1 p2 p3 y2 s1 s2
      generalize hrr : (m.u.rRead 0 x.a).1 = rr at *
      generalize hcc : (l.rd x.a).2 = cc at *
      have HRR := Lib.hid' hrr
      have HCC := Lib.hid' hcc
      clear hrr hcc
      unfold rcellV
      have z0 := HZ8.out.box.1 0 _ rfl; have z1 := HZ8.out.box.1 1 _ rfl; have zf0 := HZ8.out.box.2.1 0; have zf1 := HZ8.out.box.2.1 1; have zl := HZ8.out.lt
      go_upto_region 13 with fail
      have G9 := Lib.hid' (show Fr (fun k => k = w5.heap.size + 1) w8 ((w8.setCell ⟨w5.heap.size + 1, 0, none⟩ (.int .i64 rr.k)).setCell ⟨w5.heap.size + 1, 1, none⟩ (.string (strOf rr.d))) from Fr.setCell (F := fun k => k = w5.heap.size + 1) (Fr.setCell (F := fun k => k = w5.heap.size + 1) (Fr.refl _ _) (.inl rfl) _) (.inl rfl) _)
      have HZ9 := Lib.hid' (show BoxW (w5.heap.size + 1) [.int .i64 rr.k, .string (strOf rr.d)] 125 ((w8.setCell ⟨w5.heap.size + 1, 0, none⟩ (.int .i64 rr.k)).setCell ⟨w5.heap.size + 1, 1, none⟩ (.string (strOf rr.d))) from BoxW.set2 HZ8.out)
      have HC9 := Lib.hid' (HC8.out.fr G9.out (by simp))
      have H9 := Lib.hid' (H5.out.past (show Fr (fun _ => False) w5 w8 from H8f.out) G9.out (Nat.le_succ _))
      have HO9 := Lib.hid' (HZ8.out.bytes (by simp [byteV]) HO8.out G9.out)
      generalize (w8.setCell ⟨w5.heap.size + 1, 0, none⟩ (.int .i64 rr.k)).setCell ⟨w5.heap.size + 1, 1, none⟩ (.string (strOf rr.d)) = w9 at *
      clear z0 z1 zf0 zf1 zl
      have c0 := HC9.out.box.1 0 _ rfl; have c1 := HC9.out.box.1 1 _ rfl; have z0 := HZ9.out.box.1 0 _ rfl; have z1 := HZ9.out.box.1 1 _ rfl; have cl := HC9.out.lt; have zl := HZ9.out.lt
      by_cases hq : rr = cc
      · subst hq
        refine wp_region_held_drew (S := (fun w' => w'.cell? ⟨w5.heap.size, 0, none⟩ = some (.int .i64 rr.k) ∧ w'.cell? ⟨w5.heap.size, 1, none⟩ = some (.slice ra rr.d.length rcap) ∧ w'.cell? ⟨w5.heap.size + 1, 0, none⟩ = some (.int .i64 rr.k) ∧ w'.cell? ⟨w5.heap.size + 1, 1, none⟩ = some (.string (strOf rr.d)))) (by kernel_rfl) ⟨by simpa using c0, by simpa using c1, by simpa using z0, by simpa using z1⟩ (fun hH0 => ?_)
        refine wpAnyH_take (i := 0) (oi := _) (v := .agg #[.int .i64 rr.k, .slice ra rr.d.length rcap]) rfl (by kernel_rfl) (by kernel_rfl) (by kernel_rfl) (fun _ _ _ h => h) (Or.inl ⟨by rfl, ?_⟩) hH0 ?_
        · intro w hSw; go_simp
        simp only [Act.put, List.getElem_toArray, List.getElem_cons_zero, List.getElem_cons_succ, List.setIfInBounds_toArray, List.set_cons_zero, List.set_cons_succ]
        refine wpAnyH_take (i := 2) (oi := _) (v := .agg #[.int .i64 rr.k, .string (strOf rr.d)]) rfl (by kernel_rfl) (by kernel_rfl) (by kernel_rfl) (fun _ _ _ h => h) (Or.inl ⟨by rfl, ?_⟩) hH0 ?_
        · intro w hSw; go_simp
        simp only [Act.put, List.getElem_toArray, List.getElem_cons_zero, List.getElem_cons_succ, List.setIfInBounds_toArray, List.set_cons_zero, List.set_cons_succ]
        refine wpAnyH_ready (rs := [1]) (by kernel_rfl) (by simp) (AllReadyH.cons (o := _) rfl (fun K hK => ?_) AllReadyH.nil)
        go_simp
        refine (docCell_at rr.k rr.d ra rcap _ (SlV.below HO9.out (Nat.le_refl _) (by go_grown))).mono ?_
        rintro en w10 ⟨rfl, hb10⟩
        have HB10 := Lib.hid' (show Below w9.heap.size w9 w10 from (Below.drew (Below.refl _ _)).trans hb10)
        have d0 := (HB10.out.cell (p := ⟨w5.heap.size, 0, none⟩) cl).trans c0; have d1 := (HB10.out.cell (p := ⟨w5.heap.size, 1, none⟩) cl).trans c1; have d2 := (HB10.out.cell (p := ⟨w5.heap.size + 1, 0, none⟩) zl).trans z0; have d3 := (HB10.out.cell (p := ⟨w5.heap.size + 1, 1, none⟩) zl).trans z1
        clear hb10
        refine hK.out _ _ ?_ (fun hH1 => ?_)
        · exact ⟨d0, d1, d2, d3⟩
        clear hK K
        refine wpAnyH_take (i := 3) (oi := _) (v := .bool false) rfl (by kernel_rfl) (by kernel_rfl) (by kernel_rfl) (fun _ _ _ h => h) (Or.inl ⟨by rfl, ?_⟩) hH1 ?_
        · intro w hSw; go_simp
        simp only [Act.put, List.getElem_toArray, List.getElem_cons_zero, List.getElem_cons_succ, List.setIfInBounds_toArray, List.set_cons_zero, List.set_cons_succ]
        refine wpAnyH_done (by kernel_rfl) ?_ _
        go_wp2_with fail
        go_meet
        have HE := H9.out.below HB10.out
        exact ⟨rfl, rfl, rfl, rfl, ma, mc, HE, by show (m.u.rRead 0 x.a).1 = (l.rd x.a).2; rw [HRR.out, HCC.out]⟩
      have HNE := Lib.hid' hq
      by_cases hk : cc.k = rr.k
      · have hd : ((strOf cc.d).toList == (strOf rr.d).toList) = false := by
          rw [beq_eq_false_iff_ne, strOf_toList, strOf_toList]; intro h; exact hq (C.ext' hk.symm h.symm)
        have hk' : (cc.k == rr.k) = true := by simpa using hk
        clear hq hk
        refine wp_region_held_drew (S := (fun w' => w'.cell? ⟨w5.heap.size, 0, none⟩ = some (.int .i64 cc.k) ∧ w'.cell? ⟨w5.heap.size, 1, none⟩ = some (.slice ra cc.d.length rcap) ∧ w'.cell? ⟨w5.heap.size + 1, 0, none⟩ = some (.int .i64 rr.k) ∧ w'.cell? ⟨w5.heap.size + 1, 1, none⟩ = some (.string (strOf rr.d)))) (by kernel_rfl) ⟨by simpa using c0, by simpa using c1, by simpa using z0, by simpa using z1⟩ (fun hH0 => ?_)
        refine wpAnyH_take (i := 0) (oi := _) (v := .agg #[.int .i64 cc.k, .slice ra cc.d.length rcap]) rfl (by kernel_rfl) (by kernel_rfl) (by kernel_rfl) (fun _ _ _ h => h) (Or.inl ⟨by rfl, ?_⟩) hH0 ?_
        · intro w hSw; go_simp
        simp only [Act.put, List.getElem_toArray, List.getElem_cons_zero, List.getElem_cons_succ, List.setIfInBounds_toArray, List.set_cons_zero, List.set_cons_succ]
        refine wpAnyH_take (i := 2) (oi := _) (v := .agg #[.int .i64 rr.k, .string (strOf rr.d)]) rfl (by kernel_rfl) (by kernel_rfl) (by kernel_rfl) (fun _ _ _ h => h) (Or.inl ⟨by rfl, ?_⟩) hH0 ?_
        · intro w hSw; go_simp
        simp only [Act.put, List.getElem_toArray, List.getElem_cons_zero, List.getElem_cons_succ, List.setIfInBounds_toArray, List.set_cons_zero, List.set_cons_succ]
        refine wpAnyH_ready (rs := [1]) (by kernel_rfl) (by simp) (AllReadyH.cons (o := _) rfl (fun K hK => ?_) AllReadyH.nil)
        go_simp
        refine (docCell_at cc.k cc.d ra rcap _ (SlV.below HO9.out (Nat.le_refl _) (by go_grown))).mono ?_
        rintro en w10 ⟨rfl, hb10⟩
        have HB10 := Lib.hid' (show Below w9.heap.size w9 w10 from (Below.drew (Below.refl _ _)).trans hb10)
        have d0 := (HB10.out.cell (p := ⟨w5.heap.size, 0, none⟩) cl).trans c0; have d1 := (HB10.out.cell (p := ⟨w5.heap.size, 1, none⟩) cl).trans c1; have d2 := (HB10.out.cell (p := ⟨w5.heap.size + 1, 0, none⟩) zl).trans z0; have d3 := (HB10.out.cell (p := ⟨w5.heap.size + 1, 1, none⟩) zl).trans z1
        clear hb10
        refine hK.out _ _ ?_ (fun hH1 => ?_)
        · exact ⟨d0, d1, d2, d3⟩
        clear hK K
        refine wpAnyH_take (i := 3) (oi := _) (v := .bool true) rfl (by kernel_rfl) (by kernel_rfl) (by kernel_rfl) (fun _ _ _ h => h) (Or.inl ⟨by rfl, ?_⟩) hH1 ?_
        · intro w hSw; go_simp
        simp only [Act.put, List.getElem_toArray, List.getElem_cons_zero, List.getElem_cons_succ, List.setIfInBounds_toArray, List.set_cons_zero, List.set_cons_succ]
        refine wpAnyH_done (by kernel_rfl) ?_ _
        have HE := Lib.hid' (H9.out.below HB10.out)
        clear d0 d1 d2 d3 c0 c1 z0 z1 cl zl
        have p0 := HE.out.bm'.box.1 0 _ rfl; have p1 := HE.out.bm'.box.1 1 _ rfl; have p2 := HE.out.bm'.box.1 2 _ rfl; have p3 := HE.out.bm'.box.1 3 _ rfl
        have r0 := HE.out.br.box.1 0 _ rfl; have r1 := HE.out.br.box.1 1 _ rfl; have r2 := HE.out.br.box.1 2 _ rfl; have r3 := HE.out.br.box.1 3 _ rfl
        have f0 := HE.out.br.box.2.1 0; have f1 := HE.out.br.box.2.1 1; have f2 := HE.out.br.box.2.1 2; have f3 := HE.out.br.box.2.1 3; have rl := HE.out.br.lt
        go_wp2
        refine bodyPost_ret (v := .tuple #[rmV m ma mc, .bool false]) (by simp [results, Try.results29, go_sem, rmV, p0, p1, p2, p3, r0, r1, r2, r3, rl]) rfl ?_
        refine ⟨ma, mc, ?_, (HE.out.fin2 ?_).1, (HE.out.fin2 ?_).2.1, (HE.out.fin2 ?_).2.2⟩
        rotate_left
        · (repeat' first | exact Fr.refl _ _ | refine Fr.setCell ?_ (by first | (left; simp; done) | (right; simp; done) | (right; simp; omega)) _ | refine Fr.alloc ?_ _ | refine Fr.drew ?_)
        · (repeat' first | exact Fr.refl _ _ | refine Fr.setCell ?_ (by first | (left; simp; done) | (right; simp; done) | (right; simp; omega)) _ | refine Fr.alloc ?_ _ | refine Fr.drew ?_)
        · (repeat' first | exact Fr.refl _ _ | refine Fr.setCell ?_ (by first | (left; simp; done) | (right; simp; done) | (right; simp; omega)) _ | refine Fr.alloc ?_ _ | refine Fr.drew ?_)
        show Ending.returned _ = Ending.returned (.tuple #[rmV m ma mc, .bool (okL (rlS 2 m x.a x.c) (lS 2 l x.a x.c))])
        rw [show okL (rlS 2 m x.a x.c) (lS 2 l x.a x.c) = false from by simp only [okL]; rw [show decide ((lS 2 l x.a x.c).2.2.2 = (rlS 2 m x.a x.c).2.2.2) = false from by show decide ((l.rd x.a).2 = (m.u.rRead 0 x.a).1) = false; rw [HRR.out, HCC.out]; simpa using fun h => HNE.out h.symm]; rfl]
      · have hk' : (cc.k == rr.k) = false := by simpa using hk
        clear hq hk
        refine wp_region_held_drew (S := (fun w' => w'.cell? ⟨w5.heap.size, 0, none⟩ = some (.int .i64 cc.k) ∧ w'.cell? ⟨w5.heap.size, 1, none⟩ = some (.slice ra cc.d.length rcap) ∧ w'.cell? ⟨w5.heap.size + 1, 0, none⟩ = some (.int .i64 rr.k) ∧ w'.cell? ⟨w5.heap.size + 1, 1, none⟩ = some (.string (strOf rr.d)))) (by kernel_rfl) ⟨by simpa using c0, by simpa using c1, by simpa using z0, by simpa using z1⟩ (fun hH0 => ?_)
        refine wpAnyH_take (i := 0) (oi := _) (v := .agg #[.int .i64 cc.k, .slice ra cc.d.length rcap]) rfl (by kernel_rfl) (by kernel_rfl) (by kernel_rfl) (fun _ _ _ h => h) (Or.inl ⟨by rfl, ?_⟩) hH0 ?_
        · intro w hSw; go_simp
        simp only [Act.put, List.getElem_toArray, List.getElem_cons_zero, List.getElem_cons_succ, List.setIfInBounds_toArray, List.set_cons_zero, List.set_cons_succ]
        refine wpAnyH_take (i := 2) (oi := _) (v := .agg #[.int .i64 rr.k, .string (strOf rr.d)]) rfl (by kernel_rfl) (by kernel_rfl) (by kernel_rfl) (fun _ _ _ h => h) (Or.inl ⟨by rfl, ?_⟩) hH0 ?_
        · intro w hSw; go_simp
        simp only [Act.put, List.getElem_toArray, List.getElem_cons_zero, List.getElem_cons_succ, List.setIfInBounds_toArray, List.set_cons_zero, List.set_cons_succ]
        refine wpAnyH_ready (rs := [1]) (by kernel_rfl) (by simp) (AllReadyH.cons (o := _) rfl (fun K hK => ?_) AllReadyH.nil)
        go_simp
        refine (docCell_at cc.k cc.d ra rcap _ (SlV.below HO9.out (Nat.le_refl _) (by go_grown))).mono ?_
        rintro en w10 ⟨rfl, hb10⟩
        have HB10 := Lib.hid' (show Below w9.heap.size w9 w10 from (Below.drew (Below.refl _ _)).trans hb10)
        have d0 := (HB10.out.cell (p := ⟨w5.heap.size, 0, none⟩) cl).trans c0; have d1 := (HB10.out.cell (p := ⟨w5.heap.size, 1, none⟩) cl).trans c1; have d2 := (HB10.out.cell (p := ⟨w5.heap.size + 1, 0, none⟩) zl).trans z0; have d3 := (HB10.out.cell (p := ⟨w5.heap.size + 1, 1, none⟩) zl).trans z1
        clear hb10
        refine hK.out _ _ ?_ (fun hH1 => ?_)
        · exact ⟨d0, d1, d2, d3⟩
        clear hK K
        refine wpAnyH_take (i := 3) (oi := _) (v := .bool true) rfl (by kernel_rfl) (by kernel_rfl) (by kernel_rfl) (fun _ _ _ h => h) (Or.inl ⟨by rfl, ?_⟩) hH1 ?_
        · intro w hSw; go_simp
        simp only [Act.put, List.getElem_toArray, List.getElem_cons_zero, List.getElem_cons_succ, List.setIfInBounds_toArray, List.set_cons_zero, List.set_cons_succ]
        refine wpAnyH_done (by kernel_rfl) ?_ _
        have HE := Lib.hid' (H9.out.below HB10.out)
        clear d0 d1 d2 d3 c0 c1 z0 z1 cl zl
        have p0 := HE.out.bm'.box.1 0 _ rfl; have p1 := HE.out.bm'.box.1 1 _ rfl; have p2 := HE.out.bm'.box.1 2 _ rfl; have p3 := HE.out.bm'.box.1 3 _ rfl
        have r0 := HE.out.br.box.1 0 _ rfl; have r1 := HE.out.br.box.1 1 _ rfl; have r2 := HE.out.br.box.1 2 _ rfl; have r3 := HE.out.br.box.1 3 _ rfl
        have f0 := HE.out.br.box.2.1 0; have f1 := HE.out.br.box.2.1 1; have f2 := HE.out.br.box.2.1 2; have f3 := HE.out.br.box.2.1 3; have rl := HE.out.br.lt
        go_wp2
        refine bodyPost_ret (v := .tuple #[rmV m ma mc, .bool false]) (by simp [results, Try.results29, go_sem, rmV, p0, p1, p2, p3, r0, r1, r2, r3, rl]) rfl ?_
        refine ⟨ma, mc, ?_, (HE.out.fin2 ?_).1, (HE.out.fin2 ?_).2.1, (HE.out.fin2 ?_).2.2⟩
        rotate_left
        · (repeat' first | exact Fr.refl _ _ | refine Fr.setCell ?_ (by first | (left; simp; done) | (right; simp; done) | (right; simp; omega)) _ | refine Fr.alloc ?_ _ | refine Fr.drew ?_)
        · (repeat' first | exact Fr.refl _ _ | refine Fr.setCell ?_ (by first | (left; simp; done) | (right; simp; done) | (right; simp; omega)) _ | refine Fr.alloc ?_ _ | refine Fr.drew ?_)
        · (repeat' first | exact Fr.refl _ _ | refine Fr.setCell ?_ (by first | (left; simp; done) | (right; simp; done) | (right; simp; omega)) _ | refine Fr.alloc ?_ _ | refine Fr.drew ?_)
        show Ending.returned _ = Ending.returned (.tuple #[rmV m ma mc, .bool (okL (rlS 2 m x.a x.c) (lS 2 l x.a x.c))])
        rw [show okL (rlS 2 m x.a x.c) (lS 2 l x.a x.c) = false from by simp only [okL]; rw [show decide ((lS 2 l x.a x.c).2.2.2 = (rlS 2 m x.a x.c).2.2.2) = false from by show decide ((l.rd x.a).2 = (m.u.rRead 0 x.a).1) = false; rw [HRR.out, HCC.out]; simpa using fun h => HNE.out h.symm]; rfl]
    · as_aux_lemma =>
      go_wp2_with fail
      refine (rmFill_any m ma mc x.a _ HJ.out.rl HMC.out HMT.out).mono ?_
      rintro en w5 ⟨ma', mc', rfl, hr, hb5⟩
      have H5 := Lib.hid' (HJ.out.below hb5)
      have HR5 := Lib.hid' hr
      generalize hm' : (m.rFil x.a).1 = m' at *
      have HMM := Lib.hid' hm'
      clear hr hm'
      clear y0 y1 y2 y3 y4 p0 p1 p2 p3 pf0 pf1 pf2 pf3 o0 o1 s1 s2 s3
      unfold rmV
      have p0 := H5.out.bm'.box.1 0 _ rfl; have p1 := H5.out.bm'.box.1 1 _ rfl; have p2 := H5.out.bm'.box.1 2 _ rfl; have p3 := H5.out.bm'.box.1 3 _ rfl
      have pf0 := H5.out.bm'.box.2.1 0; have pf1 := H5.out.bm'.box.2.1 1; have pf2 := H5.out.bm'.box.2.1 2; have pf3 := H5.out.bm'.box.2.1 3
      have y2 := H5.out.ba.box.1 2 _ rfl; have o0 := H5.out.bo.box.1 0 _ rfl; have o1 := H5.out.bo.box.1 1 _ rfl; have s3 := H5.out.hx; have s4 := H5.out.hX
      go_wp2_with fail
      have H6 := Lib.hid' (H5.out.setM HR5.out)
      generalize ((((w5.setCell ⟨w.heap.size, 0, none⟩ (.int .i64 m'.u.e)).setCell ⟨w.heap.size, 1, none⟩ (.int .i64 m'.u.l)).setCell ⟨w.heap.size, 2, none⟩ (.slice ma' m'.u.cells.length mc')).setCell ⟨w.heap.size, 3, none⟩ (.int .i64 m'.t)) = w6 at *
      refine (mfill_any x.a _ H6.out.log H6.out.room).mono ?_
      rintro en w7 ⟨rfl, hl7, hf7⟩
      have H7 := Lib.hid' (H6.out.step hl7 hf7)
      clear hl7 hf7 p0 p1 p2 p3 pf0 pf1 pf2 pf3 y2 o0 o1 s3 s4
      go_wp2_with fail
      go_meet
      have h9 := H7.out
      rw [← HMM.out] at h9
      exact ⟨rfl, rfl, rfl, rfl, ma', mc', h9, rfl⟩
    · as_aux_lemma =>
      go_upto_region 21 with fail
      refine wp_region_held_drew (S := (fun w' => w'.cell? ⟨w.heap.size + 1, 2, none⟩ = some (.int .i64 x.a) ∧ w'.cell? ⟨w.heap.size + 1, 3, none⟩ = some (.int .i64 x.c.k) ∧ w'.cell? ⟨w.heap.size + 1, 4, none⟩ = some (.slice x.da x.c.d.length x.dc))) (by kernel_rfl) ⟨by simpa using y2, by simpa using y3, by simpa using y4⟩ (fun hH0 => ?_)
      refine wpAnyH_take (i := 1) (oi := _) (v := .pointer (some ⟨w.heap.size + 1, 2, none⟩)) rfl (by kernel_rfl) (by kernel_rfl) (by kernel_rfl) (fun _ _ _ h => h) (Or.inl ⟨by rfl, ?_⟩) hH0 ?_
      · intro w hSw; go_simp
      simp only [Act.put, List.getElem_toArray, List.getElem_cons_zero, List.getElem_cons_succ, List.setIfInBounds_toArray, List.set_cons_zero, List.set_cons_succ]
      refine wpAnyH_take (i := 2) (oi := _) (v := .int .i64 x.a) rfl (by kernel_rfl) (by kernel_rfl) (by kernel_rfl) (fun _ _ _ h => h) (Or.inl ⟨by rfl, ?_⟩) hH0 ?_
      · intro w hSw; go_simp
      simp only [Act.put, List.getElem_toArray, List.getElem_cons_zero, List.getElem_cons_succ, List.setIfInBounds_toArray, List.set_cons_zero, List.set_cons_succ]
      refine wpAnyH_take (i := 3) (oi := _) (v := .pointer (some ⟨w.heap.size + 1, 3, none⟩)) rfl (by kernel_rfl) (by kernel_rfl) (by kernel_rfl) (fun _ _ _ h => h) (Or.inl ⟨by rfl, ?_⟩) hH0 ?_
      · intro w hSw; go_simp
      simp only [Act.put, List.getElem_toArray, List.getElem_cons_zero, List.getElem_cons_succ, List.setIfInBounds_toArray, List.set_cons_zero, List.set_cons_succ]
      refine wpAnyH_take (i := 4) (oi := _) (v := .agg #[.int .i64 x.c.k, .slice x.da x.c.d.length x.dc]) rfl (by kernel_rfl) (by kernel_rfl) (by kernel_rfl) (fun _ _ _ h => h) (Or.inl ⟨by rfl, ?_⟩) hH0 ?_
      · intro w hSw; go_simp
      simp only [Act.put, List.getElem_toArray, List.getElem_cons_zero, List.getElem_cons_succ, List.setIfInBounds_toArray, List.set_cons_zero, List.set_cons_succ]
      refine wpAnyH_ready (rs := [0, 5]) (by kernel_rfl) (by simp) (AllReadyH.cons (o := _) rfl (fun K hK => ?_) (AllReadyH.cons (o := _) rfl (fun K hK => ?_) AllReadyH.nil))
      · skip
        go_simp
        refine hK.out _ _ ?_ (fun hH1 => ?_)
        · exact hH0
        clear hK K
        refine wpAnyH_ready (rs := [5]) (by kernel_rfl) (by simp) (AllReadyH.cons (o := _) rfl (fun K hK => ?_) AllReadyH.nil)
        go_simp
        refine (docCell_at x.c.k x.c.d x.da x.dc _ (SlV.below HJ.out.din.d (Nat.le_refl _) (by go_grown))).mono ?_
        rintro en w5 ⟨rfl, hb5⟩
        have H5 := Lib.hid' (HJ.out.below (show Below w4.heap.size w4 w5 from (Below.drew (Below.refl _ _)).trans hb5))
        have q0 := H5.out.bm'.box.1 0 _ rfl; have q1 := H5.out.bm'.box.1 1 _ rfl; have q2 := H5.out.bm'.box.1 2 _ rfl; have q3 := H5.out.bm'.box.1 3 _ rfl
        have r2 := H5.out.ba.box.1 2 _ rfl; have r3 := H5.out.ba.box.1 3 _ rfl; have r4 := H5.out.ba.box.1 4 _ rfl
        clear hb5
        refine hK.out _ _ ?_ (fun hH2 => ?_)
        · exact ⟨r2, r3, r4⟩
        clear hK K
        refine wpAnyH_ready (rs := [6]) (by kernel_rfl) (by simp) (AllReadyH.cons (o := _) rfl (fun K hK => ?_) AllReadyH.nil)
        go_simp
        refine (rmPut_any m ma mc x.a x.c _ H5.out.rl HMC.out HMT.out (by omega)).mono ?_
        rintro en w6 ⟨ma', mc', rfl, hr, hb6⟩
        unfold rmV
        have H6 := Lib.hid' (H5.out.below hb6)
        have HR6 := Lib.hid' hr
        have u0 := H6.out.bm'.box.1 0 _ rfl; have u1 := H6.out.bm'.box.1 1 _ rfl; have u2 := H6.out.bm'.box.1 2 _ rfl; have u3 := H6.out.bm'.box.1 3 _ rfl
        have uf0 := H6.out.bm'.box.2.1 0; have uf1 := H6.out.bm'.box.2.1 1; have uf2 := H6.out.bm'.box.2.1 2; have uf3 := H6.out.bm'.box.2.1 3
        have v2 := H6.out.ba.box.1 2 _ rfl; have v3 := H6.out.ba.box.1 3 _ rfl; have v4 := H6.out.ba.box.1 4 _ rfl; have ul := H6.out.bm'.lt; have vl := H6.out.ba.lt
        clear hr hb6
        refine hK.out _ _ ?_ (fun hH3 => ?_)
        · exact ⟨v2, v3, v4⟩
        clear hK K
        refine wpAnyH_take (i := 7) (oi := _) (v := .tuple #[.agg #[.int .i64 (m.rPut x.a x.c).1.u.e, .int .i64 (m.rPut x.a x.c).1.u.l, .slice ma' (m.rPut x.a x.c).1.u.cells.length mc', .int .i64 (m.rPut x.a x.c).1.t], .int .i64 (m.rPut x.a x.c).2]) rfl (by kernel_rfl) (by kernel_rfl) (by kernel_rfl) (fun _ _ _ h => h) (Or.inl ⟨by rfl, ?_⟩) hH3 ?_
        · intro w hSw; go_simp
        simp only [Act.put, List.getElem_toArray, List.getElem_cons_zero, List.getElem_cons_succ, List.setIfInBounds_toArray, List.set_cons_zero, List.set_cons_succ]
        refine wpAnyH_take (i := 8) (oi := _) (v := .agg #[.int .i64 (m.rPut x.a x.c).1.u.e, .int .i64 (m.rPut x.a x.c).1.u.l, .slice ma' (m.rPut x.a x.c).1.u.cells.length mc', .int .i64 (m.rPut x.a x.c).1.t]) rfl (by kernel_rfl) (by kernel_rfl) (by kernel_rfl) (fun _ _ _ h => h) (Or.inl ⟨by rfl, ?_⟩) hH3 ?_
        · intro w hSw; go_simp
        simp only [Act.put, List.getElem_toArray, List.getElem_cons_zero, List.getElem_cons_succ, List.setIfInBounds_toArray, List.set_cons_zero, List.set_cons_succ]
        refine wpAnyH_take (i := 9) (oi := _) (v := .int .i64 (m.rPut x.a x.c).2) rfl (by kernel_rfl) (by kernel_rfl) (by kernel_rfl) (fun _ _ _ h => h) (Or.inl ⟨by rfl, ?_⟩) hH3 ?_
        · intro w hSw; go_simp
        simp only [Act.put, List.getElem_toArray, List.getElem_cons_zero, List.getElem_cons_succ, List.setIfInBounds_toArray, List.set_cons_zero, List.set_cons_succ]
        refine wpAnyH_ready (rs := [10]) (by kernel_rfl) (by simp) (AllReadyH.cons (o := _) rfl (fun K hK => ?_) AllReadyH.nil)
        go_simp
        refine hK.out _ _ ?_ (fun hH4 => ?_)
        · refine ⟨?_, ?_, ?_⟩ <;> simp [go_sem, v2, v3, v4]
        clear hK K
        refine wpAnyH_take (i := 11) (oi := _) (v := .int .i64 (m.rPut x.a x.c).2) rfl (by kernel_rfl) (by kernel_rfl) (by kernel_rfl) (fun _ _ _ h => h) (Or.inl ⟨by rfl, ?_⟩) hH4 ?_
        · intro w hSw; go_simp
        simp only [Act.put, List.getElem_toArray, List.getElem_cons_zero, List.getElem_cons_succ, List.setIfInBounds_toArray, List.set_cons_zero, List.set_cons_succ]
        refine wpAnyH_done (by kernel_rfl) ?_ _
        have H7 := Lib.hid' (H6.out.setM HR6.out)
        generalize ((((w6.setCell ⟨w.heap.size, 0, none⟩ (.int .i64 (m.rPut x.a x.c).1.u.e)).setCell ⟨w.heap.size, 1, none⟩ (.int .i64 (m.rPut x.a x.c).1.u.l)).setCell ⟨w.heap.size, 2, none⟩ (.slice ma' (m.rPut x.a x.c).1.u.cells.length mc')).setCell ⟨w.heap.size, 3, none⟩ (.int .i64 (m.rPut x.a x.c).1.t)) = w7 at *
        clear u0 u1 u2 u3 uf0 uf1 uf2 uf3 v2 v3 v4 ul vl q0 q1 q2 q3 r2 r3 r4 p0 p1 p2 p3 pf0 pf1 pf2 pf3 y0 y1 y2 y3 y4 o0 o1 s1 s2 s3
        have y2 := H7.out.ba.box.1 2 _ rfl; have o0 := H7.out.bo.box.1 0 _ rfl; have o1 := H7.out.bo.box.1 1 _ rfl
        go_wp2_with fail
        refine (mput_any x.a x.c oa oc _ H7.out.log H7.out.room H7.out.byt).mono ?_
        rintro en w8 ⟨rfl, hl8, hf8⟩
        have H8 := Lib.hid' (H7.out.step hl8 hf8)
        clear hl8 hf8 y2 o0 o1
        go_wp2_with fail
        go_meet
        exact ⟨rfl, rfl, rfl, rfl, ma', mc', H8.out, rfl⟩
      · skip
        go_simp
        refine (docCell_at x.c.k x.c.d x.da x.dc _ (SlV.below HJ.out.din.d (Nat.le_refl _) (by go_grown))).mono ?_
        rintro en w5 ⟨rfl, hb5⟩
        have H5 := Lib.hid' (HJ.out.below (show Below w4.heap.size w4 w5 from (Below.drew (Below.refl _ _)).trans hb5))
        have q0 := H5.out.bm'.box.1 0 _ rfl; have q1 := H5.out.bm'.box.1 1 _ rfl; have q2 := H5.out.bm'.box.1 2 _ rfl; have q3 := H5.out.bm'.box.1 3 _ rfl
        have r2 := H5.out.ba.box.1 2 _ rfl; have r3 := H5.out.ba.box.1 3 _ rfl; have r4 := H5.out.ba.box.1 4 _ rfl
        clear hb5
        refine hK.out _ _ ?_ (fun hH1 => ?_)
        · exact ⟨r2, r3, r4⟩
        clear hK K
        refine wpAnyH_ready (rs := [0]) (by kernel_rfl) (by simp) (AllReadyH.cons (o := _) rfl (fun K hK => ?_) AllReadyH.nil)
        go_simp
        refine hK.out _ _ ?_ (fun hH2 => ?_)
        · exact hH1
        clear hK K
        refine wpAnyH_ready (rs := [6]) (by kernel_rfl) (by simp) (AllReadyH.cons (o := _) rfl (fun K hK => ?_) AllReadyH.nil)
        go_simp
        refine (rmPut_any m ma mc x.a x.c _ H5.out.rl HMC.out HMT.out (by omega)).mono ?_
        rintro en w6 ⟨ma', mc', rfl, hr, hb6⟩
        unfold rmV
        have H6 := Lib.hid' (H5.out.below hb6)
        have HR6 := Lib.hid' hr
        have u0 := H6.out.bm'.box.1 0 _ rfl; have u1 := H6.out.bm'.box.1 1 _ rfl; have u2 := H6.out.bm'.box.1 2 _ rfl; have u3 := H6.out.bm'.box.1 3 _ rfl
        have uf0 := H6.out.bm'.box.2.1 0; have uf1 := H6.out.bm'.box.2.1 1; have uf2 := H6.out.bm'.box.2.1 2; have uf3 := H6.out.bm'.box.2.1 3
        have v2 := H6.out.ba.box.1 2 _ rfl; have v3 := H6.out.ba.box.1 3 _ rfl; have v4 := H6.out.ba.box.1 4 _ rfl; have ul := H6.out.bm'.lt; have vl := H6.out.ba.lt
        clear hr hb6
        refine hK.out _ _ ?_ (fun hH3 => ?_)
        · exact ⟨v2, v3, v4⟩
        clear hK K
        refine wpAnyH_take (i := 7) (oi := _) (v := .tuple #[.agg #[.int .i64 (m.rPut x.a x.c).1.u.e, .int .i64 (m.rPut x.a x.c).1.u.l, .slice ma' (m.rPut x.a x.c).1.u.cells.length mc', .int .i64 (m.rPut x.a x.c).1.t], .int .i64 (m.rPut x.a x.c).2]) rfl (by kernel_rfl) (by kernel_rfl) (by kernel_rfl) (fun _ _ _ h => h) (Or.inl ⟨by rfl, ?_⟩) hH3 ?_
        · intro w hSw; go_simp
        simp only [Act.put, List.getElem_toArray, List.getElem_cons_zero, List.getElem_cons_succ, List.setIfInBounds_toArray, List.set_cons_zero, List.set_cons_succ]
        refine wpAnyH_take (i := 8) (oi := _) (v := .agg #[.int .i64 (m.rPut x.a x.c).1.u.e, .int .i64 (m.rPut x.a x.c).1.u.l, .slice ma' (m.rPut x.a x.c).1.u.cells.length mc', .int .i64 (m.rPut x.a x.c).1.t]) rfl (by kernel_rfl) (by kernel_rfl) (by kernel_rfl) (fun _ _ _ h => h) (Or.inl ⟨by rfl, ?_⟩) hH3 ?_
        · intro w hSw; go_simp
        simp only [Act.put, List.getElem_toArray, List.getElem_cons_zero, List.getElem_cons_succ, List.setIfInBounds_toArray, List.set_cons_zero, List.set_cons_succ]
        refine wpAnyH_take (i := 9) (oi := _) (v := .int .i64 (m.rPut x.a x.c).2) rfl (by kernel_rfl) (by kernel_rfl) (by kernel_rfl) (fun _ _ _ h => h) (Or.inl ⟨by rfl, ?_⟩) hH3 ?_
        · intro w hSw; go_simp
        simp only [Act.put, List.getElem_toArray, List.getElem_cons_zero, List.getElem_cons_succ, List.setIfInBounds_toArray, List.set_cons_zero, List.set_cons_succ]
        refine wpAnyH_ready (rs := [10]) (by kernel_rfl) (by simp) (AllReadyH.cons (o := _) rfl (fun K hK => ?_) AllReadyH.nil)
        go_simp
        refine hK.out _ _ ?_ (fun hH4 => ?_)
        · refine ⟨?_, ?_, ?_⟩ <;> simp [go_sem, v2, v3, v4]
        clear hK K
        refine wpAnyH_take (i := 11) (oi := _) (v := .int .i64 (m.rPut x.a x.c).2) rfl (by kernel_rfl) (by kernel_rfl) (by kernel_rfl) (fun _ _ _ h => h) (Or.inl ⟨by rfl, ?_⟩) hH4 ?_
        · intro w hSw; go_simp
        simp only [Act.put, List.getElem_toArray, List.getElem_cons_zero, List.getElem_cons_succ, List.setIfInBounds_toArray, List.set_cons_zero, List.set_cons_succ]
        refine wpAnyH_done (by kernel_rfl) ?_ _
        have H7 := Lib.hid' (H6.out.setM HR6.out)
        generalize ((((w6.setCell ⟨w.heap.size, 0, none⟩ (.int .i64 (m.rPut x.a x.c).1.u.e)).setCell ⟨w.heap.size, 1, none⟩ (.int .i64 (m.rPut x.a x.c).1.u.l)).setCell ⟨w.heap.size, 2, none⟩ (.slice ma' (m.rPut x.a x.c).1.u.cells.length mc')).setCell ⟨w.heap.size, 3, none⟩ (.int .i64 (m.rPut x.a x.c).1.t)) = w7 at *
        clear u0 u1 u2 u3 uf0 uf1 uf2 uf3 v2 v3 v4 ul vl q0 q1 q2 q3 r2 r3 r4 p0 p1 p2 p3 pf0 pf1 pf2 pf3 y0 y1 y2 y3 y4 o0 o1 s1 s2 s3
        have y2 := H7.out.ba.box.1 2 _ rfl; have o0 := H7.out.bo.box.1 0 _ rfl; have o1 := H7.out.bo.box.1 1 _ rfl
        go_wp2_with fail
        refine (mput_any x.a x.c oa oc _ H7.out.log H7.out.room H7.out.byt).mono ?_
        rintro en w8 ⟨rfl, hl8, hf8⟩
        have H8 := Lib.hid' (H7.out.step hl8 hf8)
        clear hl8 hf8 y2 o0 o1
        go_wp2_with fail
        go_meet
        exact ⟨rfl, rfl, rfl, rfl, ma', mc', H8.out, rfl⟩
    · as_aux_lemma =>
      go_upto_region 21 with fail
      refine wp_region_held_drew (S := (fun w' => w'.cell? ⟨w.heap.size + 1, 2, none⟩ = some (.int .i64 x.a) ∧ w'.cell? ⟨w.heap.size + 1, 3, none⟩ = some (.int .i64 x.c.k) ∧ w'.cell? ⟨w.heap.size + 1, 4, none⟩ = some (.slice x.da x.c.d.length x.dc))) (by kernel_rfl) ⟨by simpa using y2, by simpa using y3, by simpa using y4⟩ (fun hH0 => ?_)
      refine wpAnyH_take (i := 1) (oi := _) (v := .pointer (some ⟨w.heap.size + 1, 2, none⟩)) rfl (by kernel_rfl) (by kernel_rfl) (by kernel_rfl) (fun _ _ _ h => h) (Or.inl ⟨by rfl, ?_⟩) hH0 ?_
      · intro w hSw; go_simp
      simp only [Act.put, List.getElem_toArray, List.getElem_cons_zero, List.getElem_cons_succ, List.setIfInBounds_toArray, List.set_cons_zero, List.set_cons_succ]
      refine wpAnyH_take (i := 2) (oi := _) (v := .int .i64 x.a) rfl (by kernel_rfl) (by kernel_rfl) (by kernel_rfl) (fun _ _ _ h => h) (Or.inl ⟨by rfl, ?_⟩) hH0 ?_
      · intro w hSw; go_simp
      simp only [Act.put, List.getElem_toArray, List.getElem_cons_zero, List.getElem_cons_succ, List.setIfInBounds_toArray, List.set_cons_zero, List.set_cons_succ]
      refine wpAnyH_take (i := 3) (oi := _) (v := .pointer (some ⟨w.heap.size + 1, 3, none⟩)) rfl (by kernel_rfl) (by kernel_rfl) (by kernel_rfl) (fun _ _ _ h => h) (Or.inl ⟨by rfl, ?_⟩) hH0 ?_
      · intro w hSw; go_simp
      simp only [Act.put, List.getElem_toArray, List.getElem_cons_zero, List.getElem_cons_succ, List.setIfInBounds_toArray, List.set_cons_zero, List.set_cons_succ]
      refine wpAnyH_take (i := 4) (oi := _) (v := .agg #[.int .i64 x.c.k, .slice x.da x.c.d.length x.dc]) rfl (by kernel_rfl) (by kernel_rfl) (by kernel_rfl) (fun _ _ _ h => h) (Or.inl ⟨by rfl, ?_⟩) hH0 ?_
      · intro w hSw; go_simp
      simp only [Act.put, List.getElem_toArray, List.getElem_cons_zero, List.getElem_cons_succ, List.setIfInBounds_toArray, List.set_cons_zero, List.set_cons_succ]
      refine wpAnyH_ready (rs := [0, 5]) (by kernel_rfl) (by simp) (AllReadyH.cons (o := _) rfl (fun K hK => ?_) (AllReadyH.cons (o := _) rfl (fun K hK => ?_) AllReadyH.nil))
      · skip
        go_simp
        refine hK.out _ _ ?_ (fun hH1 => ?_)
        · exact hH0
        clear hK K
        refine wpAnyH_ready (rs := [5]) (by kernel_rfl) (by simp) (AllReadyH.cons (o := _) rfl (fun K hK => ?_) AllReadyH.nil)
        go_simp
        refine (docCell_at x.c.k x.c.d x.da x.dc _ (SlV.below HJ.out.din.d (Nat.le_refl _) (by go_grown))).mono ?_
        rintro en w5 ⟨rfl, hb5⟩
        have H5 := Lib.hid' (HJ.out.below (show Below w4.heap.size w4 w5 from (Below.drew (Below.refl _ _)).trans hb5))
        have q0 := H5.out.bm'.box.1 0 _ rfl; have q1 := H5.out.bm'.box.1 1 _ rfl; have q2 := H5.out.bm'.box.1 2 _ rfl; have q3 := H5.out.bm'.box.1 3 _ rfl
        have r2 := H5.out.ba.box.1 2 _ rfl; have r3 := H5.out.ba.box.1 3 _ rfl; have r4 := H5.out.ba.box.1 4 _ rfl
        clear hb5
        refine hK.out _ _ ?_ (fun hH2 => ?_)
        · exact ⟨r2, r3, r4⟩
        clear hK K
        refine wpAnyH_ready (rs := [6]) (by kernel_rfl) (by simp) (AllReadyH.cons (o := _) rfl (fun K hK => ?_) AllReadyH.nil)
        go_simp
        refine (rmPut_any m ma mc x.a x.c _ H5.out.rl HMC.out HMT.out (by omega)).mono ?_
        rintro en w6 ⟨ma', mc', rfl, hr, hb6⟩
        unfold rmV
        have H6 := Lib.hid' (H5.out.below hb6)
        have HR6 := Lib.hid' hr
        have u0 := H6.out.bm'.box.1 0 _ rfl; have u1 := H6.out.bm'.box.1 1 _ rfl; have u2 := H6.out.bm'.box.1 2 _ rfl; have u3 := H6.out.bm'.box.1 3 _ rfl
        have uf0 := H6.out.bm'.box.2.1 0; have uf1 := H6.out.bm'.box.2.1 1; have uf2 := H6.out.bm'.box.2.1 2; have uf3 := H6.out.bm'.box.2.1 3
        have v2 := H6.out.ba.box.1 2 _ rfl; have v3 := H6.out.ba.box.1 3 _ rfl; have v4 := H6.out.ba.box.1 4 _ rfl; have ul := H6.out.bm'.lt; have vl := H6.out.ba.lt
        clear hr hb6
        refine hK.out _ _ ?_ (fun hH3 => ?_)
        · exact ⟨v2, v3, v4⟩
        clear hK K
        refine wpAnyH_take (i := 7) (oi := _) (v := .tuple #[.agg #[.int .i64 (m.rPut x.a x.c).1.u.e, .int .i64 (m.rPut x.a x.c).1.u.l, .slice ma' (m.rPut x.a x.c).1.u.cells.length mc', .int .i64 (m.rPut x.a x.c).1.t], .int .i64 (m.rPut x.a x.c).2]) rfl (by kernel_rfl) (by kernel_rfl) (by kernel_rfl) (fun _ _ _ h => h) (Or.inl ⟨by rfl, ?_⟩) hH3 ?_
        · intro w hSw; go_simp
        simp only [Act.put, List.getElem_toArray, List.getElem_cons_zero, List.getElem_cons_succ, List.setIfInBounds_toArray, List.set_cons_zero, List.set_cons_succ]
        refine wpAnyH_take (i := 8) (oi := _) (v := .agg #[.int .i64 (m.rPut x.a x.c).1.u.e, .int .i64 (m.rPut x.a x.c).1.u.l, .slice ma' (m.rPut x.a x.c).1.u.cells.length mc', .int .i64 (m.rPut x.a x.c).1.t]) rfl (by kernel_rfl) (by kernel_rfl) (by kernel_rfl) (fun _ _ _ h => h) (Or.inl ⟨by rfl, ?_⟩) hH3 ?_
        · intro w hSw; go_simp
        simp only [Act.put, List.getElem_toArray, List.getElem_cons_zero, List.getElem_cons_succ, List.setIfInBounds_toArray, List.set_cons_zero, List.set_cons_succ]
        refine wpAnyH_take (i := 9) (oi := _) (v := .int .i64 (m.rPut x.a x.c).2) rfl (by kernel_rfl) (by kernel_rfl) (by kernel_rfl) (fun _ _ _ h => h) (Or.inl ⟨by rfl, ?_⟩) hH3 ?_
        · intro w hSw; go_simp
        simp only [Act.put, List.getElem_toArray, List.getElem_cons_zero, List.getElem_cons_succ, List.setIfInBounds_toArray, List.set_cons_zero, List.set_cons_succ]
        refine wpAnyH_ready (rs := [10]) (by kernel_rfl) (by simp) (AllReadyH.cons (o := _) rfl (fun K hK => ?_) AllReadyH.nil)
        go_simp
        refine hK.out _ _ ?_ (fun hH4 => ?_)
        · refine ⟨?_, ?_, ?_⟩ <;> simp [go_sem, v2, v3, v4]
        clear hK K
        refine wpAnyH_take (i := 11) (oi := _) (v := .int .i64 (m.rPut x.a x.c).2) rfl (by kernel_rfl) (by kernel_rfl) (by kernel_rfl) (fun _ _ _ h => h) (Or.inl ⟨by rfl, ?_⟩) hH4 ?_
        · intro w hSw; go_simp
        simp only [Act.put, List.getElem_toArray, List.getElem_cons_zero, List.getElem_cons_succ, List.setIfInBounds_toArray, List.set_cons_zero, List.set_cons_succ]
        refine wpAnyH_done (by kernel_rfl) ?_ _
        have H7 := Lib.hid' (H6.out.setM HR6.out)
        generalize ((((w6.setCell ⟨w.heap.size, 0, none⟩ (.int .i64 (m.rPut x.a x.c).1.u.e)).setCell ⟨w.heap.size, 1, none⟩ (.int .i64 (m.rPut x.a x.c).1.u.l)).setCell ⟨w.heap.size, 2, none⟩ (.slice ma' (m.rPut x.a x.c).1.u.cells.length mc')).setCell ⟨w.heap.size, 3, none⟩ (.int .i64 (m.rPut x.a x.c).1.t)) = w7 at *
        clear u0 u1 u2 u3 uf0 uf1 uf2 uf3 v2 v3 v4 ul vl q0 q1 q2 q3 r2 r3 r4 p0 p1 p2 p3 pf0 pf1 pf2 pf3 y0 y1 y2 y3 y4 o0 o1 s1 s2 s3
        have y2 := H7.out.ba.box.1 2 _ rfl; have o0 := H7.out.bo.box.1 0 _ rfl; have o1 := H7.out.bo.box.1 1 _ rfl
        go_wp2_with fail
        refine (mput_any x.a x.c oa oc _ H7.out.log H7.out.room H7.out.byt).mono ?_
        rintro en w8 ⟨rfl, hl8, hf8⟩
        have H8 := Lib.hid' (H7.out.step hl8 hf8)
        clear hl8 hf8 y2 o0 o1
        go_wp2_with fail
        go_meet
        exact ⟨rfl, rfl, rfl, rfl, ma', mc', H8.out, rfl⟩
      · skip
        go_simp
        refine (docCell_at x.c.k x.c.d x.da x.dc _ (SlV.below HJ.out.din.d (Nat.le_refl _) (by go_grown))).mono ?_
        rintro en w5 ⟨rfl, hb5⟩
        have H5 := Lib.hid' (HJ.out.below (show Below w4.heap.size w4 w5 from (Below.drew (Below.refl _ _)).trans hb5))
        have q0 := H5.out.bm'.box.1 0 _ rfl; have q1 := H5.out.bm'.box.1 1 _ rfl; have q2 := H5.out.bm'.box.1 2 _ rfl; have q3 := H5.out.bm'.box.1 3 _ rfl
        have r2 := H5.out.ba.box.1 2 _ rfl; have r3 := H5.out.ba.box.1 3 _ rfl; have r4 := H5.out.ba.box.1 4 _ rfl
        clear hb5
        refine hK.out _ _ ?_ (fun hH1 => ?_)
        · exact ⟨r2, r3, r4⟩
        clear hK K
        refine wpAnyH_ready (rs := [0]) (by kernel_rfl) (by simp) (AllReadyH.cons (o := _) rfl (fun K hK => ?_) AllReadyH.nil)
        go_simp
        refine hK.out _ _ ?_ (fun hH2 => ?_)
        · exact hH1
        clear hK K
        refine wpAnyH_ready (rs := [6]) (by kernel_rfl) (by simp) (AllReadyH.cons (o := _) rfl (fun K hK => ?_) AllReadyH.nil)
        go_simp
        refine (rmPut_any m ma mc x.a x.c _ H5.out.rl HMC.out HMT.out (by omega)).mono ?_
        rintro en w6 ⟨ma', mc', rfl, hr, hb6⟩
        unfold rmV
        have H6 := Lib.hid' (H5.out.below hb6)
        have HR6 := Lib.hid' hr
        have u0 := H6.out.bm'.box.1 0 _ rfl; have u1 := H6.out.bm'.box.1 1 _ rfl; have u2 := H6.out.bm'.box.1 2 _ rfl; have u3 := H6.out.bm'.box.1 3 _ rfl
        have uf0 := H6.out.bm'.box.2.1 0; have uf1 := H6.out.bm'.box.2.1 1; have uf2 := H6.out.bm'.box.2.1 2; have uf3 := H6.out.bm'.box.2.1 3
        have v2 := H6.out.ba.box.1 2 _ rfl; have v3 := H6.out.ba.box.1 3 _ rfl; have v4 := H6.out.ba.box.1 4 _ rfl; have ul := H6.out.bm'.lt; have vl := H6.out.ba.lt
        clear hr hb6
        refine hK.out _ _ ?_ (fun hH3 => ?_)
        · exact ⟨v2, v3, v4⟩
        clear hK K
        refine wpAnyH_take (i := 7) (oi := _) (v := .tuple #[.agg #[.int .i64 (m.rPut x.a x.c).1.u.e, .int .i64 (m.rPut x.a x.c).1.u.l, .slice ma' (m.rPut x.a x.c).1.u.cells.length mc', .int .i64 (m.rPut x.a x.c).1.t], .int .i64 (m.rPut x.a x.c).2]) rfl (by kernel_rfl) (by kernel_rfl) (by kernel_rfl) (fun _ _ _ h => h) (Or.inl ⟨by rfl, ?_⟩) hH3 ?_
        · intro w hSw; go_simp
        simp only [Act.put, List.getElem_toArray, List.getElem_cons_zero, List.getElem_cons_succ, List.setIfInBounds_toArray, List.set_cons_zero, List.set_cons_succ]
        refine wpAnyH_take (i := 8) (oi := _) (v := .agg #[.int .i64 (m.rPut x.a x.c).1.u.e, .int .i64 (m.rPut x.a x.c).1.u.l, .slice ma' (m.rPut x.a x.c).1.u.cells.length mc', .int .i64 (m.rPut x.a x.c).1.t]) rfl (by kernel_rfl) (by kernel_rfl) (by kernel_rfl) (fun _ _ _ h => h) (Or.inl ⟨by rfl, ?_⟩) hH3 ?_
        · intro w hSw; go_simp
        simp only [Act.put, List.getElem_toArray, List.getElem_cons_zero, List.getElem_cons_succ, List.setIfInBounds_toArray, List.set_cons_zero, List.set_cons_succ]
        refine wpAnyH_take (i := 9) (oi := _) (v := .int .i64 (m.rPut x.a x.c).2) rfl (by kernel_rfl) (by kernel_rfl) (by kernel_rfl) (fun _ _ _ h => h) (Or.inl ⟨by rfl, ?_⟩) hH3 ?_
        · intro w hSw; go_simp
        simp only [Act.put, List.getElem_toArray, List.getElem_cons_zero, List.getElem_cons_succ, List.setIfInBounds_toArray, List.set_cons_zero, List.set_cons_succ]
        refine wpAnyH_ready (rs := [10]) (by kernel_rfl) (by simp) (AllReadyH.cons (o := _) rfl (fun K hK => ?_) AllReadyH.nil)
        go_simp
        refine hK.out _ _ ?_ (fun hH4 => ?_)
        · refine ⟨?_, ?_, ?_⟩ <;> simp [go_sem, v2, v3, v4]
        clear hK K
        refine wpAnyH_take (i := 11) (oi := _) (v := .int .i64 (m.rPut x.a x.c).2) rfl (by kernel_rfl) (by kernel_rfl) (by kernel_rfl) (fun _ _ _ h => h) (Or.inl ⟨by rfl, ?_⟩) hH4 ?_
        · intro w hSw; go_simp
        simp only [Act.put, List.getElem_toArray, List.getElem_cons_zero, List.getElem_cons_succ, List.setIfInBounds_toArray, List.set_cons_zero, List.set_cons_succ]
        refine wpAnyH_done (by kernel_rfl) ?_ _
        have H7 := Lib.hid' (H6.out.setM HR6.out)
        generalize ((((w6.setCell ⟨w.heap.size, 0, none⟩ (.int .i64 (m.rPut x.a x.c).1.u.e)).setCell ⟨w.heap.size, 1, none⟩ (.int .i64 (m.rPut x.a x.c).1.u.l)).setCell ⟨w.heap.size, 2, none⟩ (.slice ma' (m.rPut x.a x.c).1.u.cells.length mc')).setCell ⟨w.heap.size, 3, none⟩ (.int .i64 (m.rPut x.a x.c).1.t)) = w7 at *
        clear u0 u1 u2 u3 uf0 uf1 uf2 uf3 v2 v3 v4 ul vl q0 q1 q2 q3 r2 r3 r4 p0 p1 p2 p3 pf0 pf1 pf2 pf3 y0 y1 y2 y3 y4 o0 o1 s1 s2 s3
        have y2 := H7.out.ba.box.1 2 _ rfl; have o0 := H7.out.bo.box.1 0 _ rfl; have o1 := H7.out.bo.box.1 1 _ rfl
        go_wp2_with fail
        refine (mput_any x.a x.c oa oc _ H7.out.log H7.out.room H7.out.byt).mono ?_
        rintro en w8 ⟨rfl, hl8, hf8⟩
        have H8 := Lib.hid' (H7.out.step hl8 hf8)
        clear hl8 hf8 y2 o0 o1
        go_wp2_with fail
        go_meet
        exact ⟨rfl, rfl, rfl, rfl, ma', mc', H8.out, rfl⟩
    · as_aux_lemma =>
      go_wp2_with fail
      refine (rmTrim_any m ma mc x.a _ HJ.out.rl HMC.out HMT.out).mono ?_
      rintro en w5 ⟨ma', mc', rfl, hr, hb5⟩
      have H5 := Lib.hid' (HJ.out.below hb5)
      have HR5 := Lib.hid' hr
      generalize hm' : (m.rTrim x.a).1 = m' at *
      have HMM := Lib.hid' hm'
      clear hr hm'
      clear y0 y1 y2 y3 y4 p0 p1 p2 p3 pf0 pf1 pf2 pf3 o0 o1 s1 s2 s3
      unfold rmV
      have p0 := H5.out.bm'.box.1 0 _ rfl; have p1 := H5.out.bm'.box.1 1 _ rfl; have p2 := H5.out.bm'.box.1 2 _ rfl; have p3 := H5.out.bm'.box.1 3 _ rfl
      have pf0 := H5.out.bm'.box.2.1 0; have pf1 := H5.out.bm'.box.2.1 1; have pf2 := H5.out.bm'.box.2.1 2; have pf3 := H5.out.bm'.box.2.1 3
      have y2 := H5.out.ba.box.1 2 _ rfl; have o0 := H5.out.bo.box.1 0 _ rfl; have o1 := H5.out.bo.box.1 1 _ rfl; have s3 := H5.out.hx; have s4 := H5.out.hX
      go_wp2_with fail
      have H6 := Lib.hid' (H5.out.setM HR5.out)
      generalize ((((w5.setCell ⟨w.heap.size, 0, none⟩ (.int .i64 m'.u.e)).setCell ⟨w.heap.size, 1, none⟩ (.int .i64 m'.u.l)).setCell ⟨w.heap.size, 2, none⟩ (.slice ma' m'.u.cells.length mc')).setCell ⟨w.heap.size, 3, none⟩ (.int .i64 m'.t)) = w6 at *
      refine (mTrim_any x.a _ H6.out.log H6.out.room).mono ?_
      rintro en w7 ⟨rfl, hl7, hf7⟩
      have H7 := Lib.hid' (H6.out.step hl7 hf7)
      clear hl7 hf7 p0 p1 p2 p3 pf0 pf1 pf2 pf3 y2 o0 o1 s3 s4
      go_wp2_with fail
      go_meet
      have h9 := H7.out
      rw [← HMM.out] at h9
      exact ⟨rfl, rfl, rfl, rfl, ma', mc', h9, rfl⟩
    · as_aux_lemma =>
      go_wp2_with fail
      refine (rmCut_any m ma mc x.a _ HJ.out.rl HMC.out HMT.out).mono ?_
      rintro en w5 ⟨ma', mc', rfl, hr, hb5⟩
      have H5 := Lib.hid' (HJ.out.below hb5)
      have HR5 := Lib.hid' hr
      generalize hm' : (m.rCut x.a).1 = m' at *
      have HMM := Lib.hid' hm'
      clear hr hm'
      clear y0 y1 y2 y3 y4 p0 p1 p2 p3 pf0 pf1 pf2 pf3 o0 o1 s1 s2 s3
      unfold rmV
      have p0 := H5.out.bm'.box.1 0 _ rfl; have p1 := H5.out.bm'.box.1 1 _ rfl; have p2 := H5.out.bm'.box.1 2 _ rfl; have p3 := H5.out.bm'.box.1 3 _ rfl
      have pf0 := H5.out.bm'.box.2.1 0; have pf1 := H5.out.bm'.box.2.1 1; have pf2 := H5.out.bm'.box.2.1 2; have pf3 := H5.out.bm'.box.2.1 3
      have y2 := H5.out.ba.box.1 2 _ rfl; have o0 := H5.out.bo.box.1 0 _ rfl; have o1 := H5.out.bo.box.1 1 _ rfl; have s3 := H5.out.hx; have s4 := H5.out.hX
      go_wp2_with fail
      have H6 := Lib.hid' (H5.out.setM HR5.out)
      generalize ((((w5.setCell ⟨w.heap.size, 0, none⟩ (.int .i64 m'.u.e)).setCell ⟨w.heap.size, 1, none⟩ (.int .i64 m'.u.l)).setCell ⟨w.heap.size, 2, none⟩ (.slice ma' m'.u.cells.length mc')).setCell ⟨w.heap.size, 3, none⟩ (.int .i64 m'.t)) = w6 at *
      refine (mCut_any x.a _ H6.out.log H6.out.room).mono ?_
      rintro en w7 ⟨rfl, hl7, hf7⟩
      have H7 := Lib.hid' (H6.out.step hl7 hf7)
      clear hl7 hf7 p0 p1 p2 p3 pf0 pf1 pf2 pf3 y2 o0 o1 s3 s4
      go_wp2_with fail
      go_meet
      have h9 := H7.out
      rw [← HMM.out] at h9
      exact ⟨rfl, rfl, rfl, rfl, ma', mc', h9, rfl⟩
    · as_aux_lemma =>
      have e0 : (kn == 0) = false := by rw [beq_eq_false_iff_ne]; omega
      have e1 : (kn == 1) = false := by rw [beq_eq_false_iff_ne]; omega
      have e2 : (kn == 2) = false := by rw [beq_eq_false_iff_ne]; omega
      have e3 : (kn == 3) = false := by rw [beq_eq_false_iff_ne]; omega
      have e4 : (kn == 4) = false := by rw [beq_eq_false_iff_ne]; omega
      have e5 : (kn == 5) = false := by rw [beq_eq_false_iff_ne]; omega
      have e6 : (kn == 6) = false := by rw [beq_eq_false_iff_ne]; omega
      have e7 : (kn == 7) = false := by rw [beq_eq_false_iff_ne]; omega
      have hL := Lib.hid' (show lS kn l x.a x.c = (l, 0, 0, zC) by unfold lS; simp only [show ¬ kn = 0 by omega, show ¬ kn = 1 by omega, show ¬ kn = 2 by omega, show ¬ kn = 3 by omega, show ¬ kn = 4 by omega, show ¬ kn = 5 by omega, show ¬ kn = 6 by omega, show ¬ kn = 7 by omega, or_self, if_false])
      have hR := Lib.hid' (show rlS kn m x.a x.c = (m, 0, 0, zC) by unfold rlS; simp only [show ¬ kn = 0 by omega, show ¬ kn = 1 by omega, show ¬ kn = 2 by omega, show ¬ kn = 3 by omega, show ¬ kn = 4 by omega, show ¬ kn = 5 by omega, show ¬ kn = 6 by omega, show ¬ kn = 7 by omega, or_self, if_false])
      clear hk8
      go_wp2_with fail
      go_meet
      rw [hL.out, hR.out]
      exact ⟨rfl, rfl, rfl, rfl, ma, mc, HJ.out, rfl⟩

  case rest =>
    have hul := lS_len l kn x.a x.c
    have HUL := Lib.hid' (show (lS kn l x.a x.c).1.u.cells.length ≤ 1048576 by have := HLC.out; omega)
    clear HJ HKN hul HLC HMC HMT HM H HD
    generalize rlS kn m x.a x.c = R at *
    generalize lS kn l x.a x.c = V at *
    obtain ⟨rfl, rfl, rfl, rfl, ma', mc', hj, hrx⟩ := hcut
    obtain ⟨m', bad, want, rx⟩ := R
    obtain ⟨l', er, n, vx⟩ := V
    dsimp only at *
    have HRX := Lib.hid' hrx
    have HJ := Lib.hid' hj
    clear hj hrx
    have o1 := HJ.out.bo.box.1 1 _ rfl
    have hX := HJ.out.hx
    have HOB := Lib.hid' (OwnB.of_own HJ.out.own rfl)
    go_wp2_with fail
    go_loopw [128] (fun vi wr => ∃ (k : Nat), vi = .int .i64 k ∧ k ≤ x.c.d.length ∧ OwnB oa x.c.d.length wr ∧ Fr (fun q => (Value.slice oa x.c.d.length oc).ownBlock = some q) wc wr ∧ KeepB wc wr) (fun vi _ => x.c.d.length - (intOf vi).toNat)
    case atStart => exact ⟨0, rfl, Nat.zero_le _, HOB.out, Fr.refl _ _, KeepB.refl _⟩
    case round =>
      obtain ⟨i, rfl, hi, hob, hfr, hkb⟩ := hrel
      have HOr := Lib.hid' hob
      have HFr := Lib.hid' hfr
      have HKb := Lib.hid' hkb
      have z1 := hkb _ _ o1 (by intro b hb; cases hb)
      have hXr : X < wr.heap.size := Nat.lt_of_lt_of_le hX hfr.size
      clear hob hfr hkb o1
      by_cases hlt : i < x.c.d.length
      · obtain ⟨g, rfl, hg, ⟨b, hcell⟩, hfz⟩ := HOr.out.get hlt
        have Hlt := Lib.hid' hlt
        have HCL := Lib.hid' hcell
        have hcel2 : wr.cell? ⟨g, i, none⟩ = some (.int .u8 b.toNat) := hcell
        clear hcell
        go_wp2
        have hst : Value.int .u8 ((b ^^^ 1).toNat : Int) = byteV (b ^^^ 1) := rfl
        rw [xor_one, hst]
        refine ⟨⟨i + 1, ?_, ?_, ?_, ?_, ?_⟩, ?_⟩
        · go_num
        · have := Hlt.out; omega
        · exact HOr.out.set i (b ^^^ 1)
        · exact HFr.out.trans (fr_set _ _ _ _) (fun q hq => .inl (by subst hq; rfl))
        · exact HKb.out.trans (KeepB.set HCL.out _)
        · have := Hlt.out; simp [intOf]; omega
      · have HE := Lib.hid' (HJ.out.over HFr.out HKb.out)
        go_upto_region 34 with fail
        clear HJ HFr HOB HOr HKb z1 hlt hi
        have p0 := HE.out.bm'.box.1 0 _ rfl; have p1 := HE.out.bm'.box.1 1 _ rfl; have p2 := HE.out.bm'.box.1 2 _ rfl; have p3 := HE.out.bm'.box.1 3 _ rfl
        have r0 := HE.out.br.box.1 0 _ rfl; have r1 := HE.out.br.box.1 1 _ rfl; have r2 := HE.out.br.box.1 2 _ rfl; have r3 := HE.out.br.box.1 3 _ rfl
        have f0 := HE.out.br.box.2.1 0; have f1 := HE.out.br.box.2.1 1; have f2 := HE.out.br.box.2.1 2; have f3 := HE.out.br.box.2.1 3
        have rl := HE.out.br.lt
        have HEd := Lib.hid' (HE.out.below (Below.drew (Below.refl wr.heap.size wr)))
        by_cases hn : n = want
        rotate_left
        · have hnb : (n == want) = false := by simpa using hn
          have HOK := Lib.hid' (show okL (m', bad, want, rx) (l', er, n, vx) = false by simp only [okL]; rw [show decide (n = want) = false from by simpa using hn]; simp)
          clear hn
          rename_i A0
          refine wp_region_held_drew (S := (fun w' => w'.cell? ⟨w.heap.size, 0, none⟩ = some (.int .i64 m'.u.e) ∧ w'.cell? ⟨w.heap.size, 1, none⟩ = some (.int .i64 m'.u.l) ∧ w'.cell? ⟨w.heap.size, 2, none⟩ = some (.slice ma' m'.u.cells.length mc') ∧ w'.cell? ⟨w.heap.size, 3, none⟩ = some (.int .i64 m'.t))) (by kernel_rfl) ⟨by simpa using p0, by simpa using p1, by simpa using p2, by simpa using p3⟩ (fun hH0 => ?_)
          refine wpAnyH_take (i := 0) (oi := _) (v := .agg #[.int .i64 m'.u.e, .int .i64 m'.u.l, .slice ma' m'.u.cells.length mc', .int .i64 m'.t]) rfl (by kernel_rfl) (by kernel_rfl) (by kernel_rfl) (fun _ _ _ h => h) (Or.inl ⟨by rfl, ?_⟩) hH0 ?_
          · intro w hSw; go_simp
          simp only [Act.put, List.getElem_toArray, List.getElem_cons_zero, List.getElem_cons_succ, List.setIfInBounds_toArray, List.set_cons_zero, List.set_cons_succ]
          refine wpAnyH_take (i := 1) (oi := _) (v := .int .i64 n) rfl (by kernel_rfl) (by kernel_rfl) (by kernel_rfl) (fun _ _ _ h => h) (Or.inl ⟨by rfl, ?_⟩) hH0 ?_
          · intro w hSw; go_simp
          simp only [Act.put, List.getElem_toArray, List.getElem_cons_zero, List.getElem_cons_succ, List.setIfInBounds_toArray, List.set_cons_zero, List.set_cons_succ]
          refine wpAnyH_take (i := 2) (oi := _) (v := .int .i64 want) rfl (by kernel_rfl) (by kernel_rfl) (by kernel_rfl) (fun _ _ _ h => h) (Or.inl ⟨by rfl, ?_⟩) hH0 ?_
          · intro w hSw; go_simp
          simp only [Act.put, List.getElem_toArray, List.getElem_cons_zero, List.getElem_cons_succ, List.setIfInBounds_toArray, List.set_cons_zero, List.set_cons_succ]
          refine wpAnyH_take (i := 3) (oi := _) (v := .bool false) rfl (by kernel_rfl) (by kernel_rfl) (by kernel_rfl) (fun _ _ _ h => h) (Or.inl ⟨by rfl, ?_⟩) hH0 ?_
          · intro w hSw; go_simp
          simp only [Act.put, List.getElem_toArray, List.getElem_cons_zero, List.getElem_cons_succ, List.setIfInBounds_toArray, List.set_cons_zero, List.set_cons_succ]
          refine wpAnyH_take (i := 4) (oi := _) (v := .bool false) rfl (by kernel_rfl) (by kernel_rfl) (by kernel_rfl) (fun _ _ _ h => h) (Or.inl ⟨by rfl, ?_⟩) hH0 ?_
          · intro w hSw; go_simp
          simp only [Act.put, List.getElem_toArray, List.getElem_cons_zero, List.getElem_cons_succ, List.setIfInBounds_toArray, List.set_cons_zero, List.set_cons_succ]
          refine wpAnyH_take (i := 5) (oi := _) (v := undef) rfl (by kernel_rfl) (by kernel_rfl) (by kernel_rfl) (fun _ _ _ h => h) (Or.inr ⟨by kernel_rfl, rfl⟩) hH0 ?_
          simp only [Act.put, List.getElem_toArray, List.getElem_cons_zero, List.getElem_cons_succ, List.setIfInBounds_toArray, List.set_cons_zero, List.set_cons_succ]
          refine wpAnyH_take (i := 6) (oi := _) (v := undef) rfl (by kernel_rfl) (by kernel_rfl) (by kernel_rfl) (fun _ _ _ h => h) (Or.inr ⟨by kernel_rfl, rfl⟩) hH0 ?_
          simp only [Act.put, List.getElem_toArray, List.getElem_cons_zero, List.getElem_cons_succ, List.setIfInBounds_toArray, List.set_cons_zero, List.set_cons_succ]
          refine wpAnyH_take (i := 7) (oi := _) (v := undef) rfl (by kernel_rfl) (by kernel_rfl) (by kernel_rfl) (fun _ _ _ h => h) (Or.inr ⟨by kernel_rfl, rfl⟩) hH0 ?_
          simp only [Act.put, List.getElem_toArray, List.getElem_cons_zero, List.getElem_cons_succ, List.setIfInBounds_toArray, List.set_cons_zero, List.set_cons_succ]
          refine wpAnyH_take (i := 8) (oi := _) (v := undef) rfl (by kernel_rfl) (by kernel_rfl) (by kernel_rfl) (fun _ _ _ h => h) (Or.inr ⟨by kernel_rfl, rfl⟩) hH0 ?_
          simp only [Act.put, List.getElem_toArray, List.getElem_cons_zero, List.getElem_cons_succ, List.setIfInBounds_toArray, List.set_cons_zero, List.set_cons_succ]
          refine wpAnyH_take (i := 9) (oi := _) (v := .bool false) rfl (by kernel_rfl) (by kernel_rfl) (by kernel_rfl) (fun _ _ _ h => h) (Or.inl ⟨by rfl, ?_⟩) hH0 ?_
          · intro w hSw; go_simp
          simp only [Act.put, List.getElem_toArray, List.getElem_cons_zero, List.getElem_cons_succ, List.setIfInBounds_toArray, List.set_cons_zero, List.set_cons_succ]
          refine wpAnyH_take (i := 10) (oi := _) (v := .bool false) rfl (by kernel_rfl) (by kernel_rfl) (by kernel_rfl) (fun _ _ _ h => h) (Or.inl ⟨by rfl, ?_⟩) hH0 ?_
          · intro w hSw; go_simp
          simp only [Act.put, List.getElem_toArray, List.getElem_cons_zero, List.getElem_cons_succ, List.setIfInBounds_toArray, List.set_cons_zero, List.set_cons_succ]
          refine wpAnyH_take (i := 11) (oi := _) (v := undef) rfl (by kernel_rfl) (by kernel_rfl) (by kernel_rfl) (fun _ _ _ h => h) (Or.inr ⟨by kernel_rfl, rfl⟩) hH0 ?_
          simp only [Act.put, List.getElem_toArray, List.getElem_cons_zero, List.getElem_cons_succ, List.setIfInBounds_toArray, List.set_cons_zero, List.set_cons_succ]
          refine wpAnyH_take (i := 12) (oi := _) (v := undef) rfl (by kernel_rfl) (by kernel_rfl) (by kernel_rfl) (fun _ _ _ h => h) (Or.inr ⟨by kernel_rfl, rfl⟩) hH0 ?_
          simp only [Act.put, List.getElem_toArray, List.getElem_cons_zero, List.getElem_cons_succ, List.setIfInBounds_toArray, List.set_cons_zero, List.set_cons_succ]
          refine wpAnyH_take (i := 13) (oi := _) (v := undef) rfl (by kernel_rfl) (by kernel_rfl) (by kernel_rfl) (fun _ _ _ h => h) (Or.inr ⟨by kernel_rfl, rfl⟩) hH0 ?_
          simp only [Act.put, List.getElem_toArray, List.getElem_cons_zero, List.getElem_cons_succ, List.setIfInBounds_toArray, List.set_cons_zero, List.set_cons_succ]
          refine wpAnyH_take (i := 14) (oi := _) (v := .bool false) rfl (by kernel_rfl) (by kernel_rfl) (by kernel_rfl) (fun _ _ _ h => h) (Or.inl ⟨by rfl, ?_⟩) hH0 ?_
          · intro w hSw; go_simp
          simp only [Act.put, List.getElem_toArray, List.getElem_cons_zero, List.getElem_cons_succ, List.setIfInBounds_toArray, List.set_cons_zero, List.set_cons_succ]
          refine wpAnyH_ready (rs := [15]) (by kernel_rfl) (by simp) (AllReadyH.cons (o := _) rfl (fun K hK => ?_) AllReadyH.nil)
          go_simp
          refine hK.out _ _ ?_ (fun hH1 => ?_)
          · refine ⟨?_, ?_, ?_, ?_⟩ <;> simp [go_sem, p0, p1, p2, p3]
          clear hK K
          refine wpAnyH_take (i := 16) (oi := _) (v := .bool false) rfl (by kernel_rfl) (by kernel_rfl) (by kernel_rfl) (fun _ _ _ h => h) (Or.inl ⟨by rfl, ?_⟩) hH1 ?_
          · intro w hSw; go_simp
          simp only [Act.put, List.getElem_toArray, List.getElem_cons_zero, List.getElem_cons_succ, List.setIfInBounds_toArray, List.set_cons_zero, List.set_cons_succ]
          refine wpAnyH_done (by kernel_rfl) ?_ _
          obtain ⟨e1, e2, e3⟩ := HE.out.fin (show Fr (fun k => k = w.heap.size + 2) wr ((((wr.setCell ⟨w.heap.size + 2, 0, none⟩ (.int .i64 m'.u.e)).setCell ⟨w.heap.size + 2, 1, none⟩ (.int .i64 m'.u.l)).setCell ⟨w.heap.size + 2, 2, none⟩ (.slice ma' m'.u.cells.length mc')).setCell ⟨w.heap.size + 2, 3, none⟩ (.int .i64 m'.t)).drew by (repeat' first | exact Fr.refl _ _ | refine Fr.setCell ?_ (by first | (left; simp; done) | (right; simp; done) | (right; simp; omega)) _ | refine Fr.alloc ?_ _ | refine Fr.drew ?_))
          have E1 := Lib.hid' e1; have E2 := Lib.hid' e2; have E3 := Lib.hid' e3
          have z := (BoxW.box (show BoxW (w.heap.size + 2) [.int .i64 m'.u.e, .int .i64 m'.u.l, .slice ma' m'.u.cells.length mc', .int .i64 m'.t] 63 (((((wr.setCell ⟨w.heap.size + 2, 0, none⟩ (.int .i64 m'.u.e)).setCell ⟨w.heap.size + 2, 1, none⟩ (.int .i64 m'.u.l)).setCell ⟨w.heap.size + 2, 2, none⟩ (.slice ma' m'.u.cells.length mc')).setCell ⟨w.heap.size + 2, 3, none⟩ (.int .i64 m'.t)).drew) from BoxW.set4 HE.out.br)).1
          have z0 := z 0 _ rfl; have z1 := z 1 _ rfl; have z2 := z 2 _ rfl; have z3 := z 3 _ rfl
          clear z e1 e2 e3
          generalize ((((wr.setCell ⟨w.heap.size + 2, 0, none⟩ (.int .i64 m'.u.e)).setCell ⟨w.heap.size + 2, 1, none⟩ (.int .i64 m'.u.l)).setCell ⟨w.heap.size + 2, 2, none⟩ (.slice ma' m'.u.cells.length mc')).setCell ⟨w.heap.size + 2, 3, none⟩ (.int .i64 m'.t)).drew = wz at *
          refine A0 _ _ ?_
          apply wp_ret
          refine bodyPost_ret (v := .tuple #[rmV m' ma' mc', .bool false]) (by simp [results, Try.results29, go_sem, rmV, z0, z1, z2, z3]) rfl ?_
          exact ⟨ma', mc', by rw [HOK.out], E1.out, E2.out, E3.out⟩
        subst hn
        by_cases he : er = bad
        rotate_left
        · have heb : ((er : Int) == (bad : Int)) = false := by rw [beq_eq_false_iff_ne]; omega
          have HOK := Lib.hid' (show okL (m', bad, n, rx) (l', er, n, vx) = false by simp only [okL]; rw [show decide (er = bad) = false from by simpa using he]; simp)
          clear he
          rename_i A0
          refine wp_region_held_drew (S := (fun w' => w'.cell? ⟨w.heap.size, 0, none⟩ = some (.int .i64 m'.u.e) ∧ w'.cell? ⟨w.heap.size, 1, none⟩ = some (.int .i64 m'.u.l) ∧ w'.cell? ⟨w.heap.size, 2, none⟩ = some (.slice ma' m'.u.cells.length mc') ∧ w'.cell? ⟨w.heap.size, 3, none⟩ = some (.int .i64 m'.t))) (by kernel_rfl) ⟨by simpa using p0, by simpa using p1, by simpa using p2, by simpa using p3⟩ (fun hH0 => ?_)
          refine wpAnyH_take (i := 0) (oi := _) (v := .agg #[.int .i64 m'.u.e, .int .i64 m'.u.l, .slice ma' m'.u.cells.length mc', .int .i64 m'.t]) rfl (by kernel_rfl) (by kernel_rfl) (by kernel_rfl) (fun _ _ _ h => h) (Or.inl ⟨by rfl, ?_⟩) hH0 ?_
          · intro w hSw; go_simp
          simp only [Act.put, List.getElem_toArray, List.getElem_cons_zero, List.getElem_cons_succ, List.setIfInBounds_toArray, List.set_cons_zero, List.set_cons_succ]
          refine wpAnyH_take (i := 1) (oi := _) (v := .int .i64 n) rfl (by kernel_rfl) (by kernel_rfl) (by kernel_rfl) (fun _ _ _ h => h) (Or.inl ⟨by rfl, ?_⟩) hH0 ?_
          · intro w hSw; go_simp
          simp only [Act.put, List.getElem_toArray, List.getElem_cons_zero, List.getElem_cons_succ, List.setIfInBounds_toArray, List.set_cons_zero, List.set_cons_succ]
          refine wpAnyH_take (i := 2) (oi := _) (v := .int .i64 n) rfl (by kernel_rfl) (by kernel_rfl) (by kernel_rfl) (fun _ _ _ h => h) (Or.inl ⟨by rfl, ?_⟩) hH0 ?_
          · intro w hSw; go_simp
          simp only [Act.put, List.getElem_toArray, List.getElem_cons_zero, List.getElem_cons_succ, List.setIfInBounds_toArray, List.set_cons_zero, List.set_cons_succ]
          refine wpAnyH_take (i := 3) (oi := _) (v := .bool true) rfl (by kernel_rfl) (by kernel_rfl) (by kernel_rfl) (fun _ _ _ h => h) (Or.inl ⟨by rfl, ?_⟩) hH0 ?_
          · intro w hSw; go_simp
          simp only [Act.put, List.getElem_toArray, List.getElem_cons_zero, List.getElem_cons_succ, List.setIfInBounds_toArray, List.set_cons_zero, List.set_cons_succ]
          refine wpAnyH_take (i := 4) (oi := _) (v := .bool true) rfl (by kernel_rfl) (by kernel_rfl) (by kernel_rfl) (fun _ _ _ h => h) (Or.inl ⟨by rfl, ?_⟩) hH0 ?_
          · intro w hSw; go_simp
          simp only [Act.put, List.getElem_toArray, List.getElem_cons_zero, List.getElem_cons_succ, List.setIfInBounds_toArray, List.set_cons_zero, List.set_cons_succ]
          refine wpAnyH_take (i := 5) (oi := _) (v := errV er) rfl (by kernel_rfl) (by kernel_rfl) (by kernel_rfl) (fun _ _ _ h => h) (Or.inl ⟨by rfl, ?_⟩) hH0 ?_
          · intro w hSw; go_simp
          simp only [Act.put, List.getElem_toArray, List.getElem_cons_zero, List.getElem_cons_succ, List.setIfInBounds_toArray, List.set_cons_zero, List.set_cons_succ]
          refine wpAnyH_take (i := 7) (oi := _) (v := .int .i64 (bad : Int)) rfl (by kernel_rfl) (by kernel_rfl) (by kernel_rfl) (fun _ _ _ h => h) (Or.inl ⟨by rfl, ?_⟩) hH0 ?_
          · intro w hSw; go_simp
          simp only [Act.put, List.getElem_toArray, List.getElem_cons_zero, List.getElem_cons_succ, List.setIfInBounds_toArray, List.set_cons_zero, List.set_cons_succ]
          refine wpAnyH_ready (rs := [6]) (by kernel_rfl) (by simp) (AllReadyH.cons (o := _) rfl (fun K hK => ?_) AllReadyH.nil)
          go_simp
          refine (num_any er _).mono ?_
          rintro en w' ⟨rfl, rfl⟩
          refine hK.out _ _ ?_ (fun hH1 => ?_)
          · exact hH0
          clear hK K
          refine wpAnyH_take (i := 8) (oi := _) (v := .bool false) rfl (by kernel_rfl) (by kernel_rfl) (by kernel_rfl) (fun _ _ _ h => h) (Or.inl ⟨by rfl, ?_⟩) hH1 ?_
          · intro w hSw; go_simp
          simp only [Act.put, List.getElem_toArray, List.getElem_cons_zero, List.getElem_cons_succ, List.setIfInBounds_toArray, List.set_cons_zero, List.set_cons_succ]
          refine wpAnyH_take (i := 9) (oi := _) (v := .bool false) rfl (by kernel_rfl) (by kernel_rfl) (by kernel_rfl) (fun _ _ _ h => h) (Or.inl ⟨by rfl, ?_⟩) hH1 ?_
          · intro w hSw; go_simp
          simp only [Act.put, List.getElem_toArray, List.getElem_cons_zero, List.getElem_cons_succ, List.setIfInBounds_toArray, List.set_cons_zero, List.set_cons_succ]
          refine wpAnyH_take (i := 10) (oi := _) (v := .bool false) rfl (by kernel_rfl) (by kernel_rfl) (by kernel_rfl) (fun _ _ _ h => h) (Or.inl ⟨by rfl, ?_⟩) hH1 ?_
          · intro w hSw; go_simp
          simp only [Act.put, List.getElem_toArray, List.getElem_cons_zero, List.getElem_cons_succ, List.setIfInBounds_toArray, List.set_cons_zero, List.set_cons_succ]
          refine wpAnyH_take (i := 11) (oi := _) (v := undef) rfl (by kernel_rfl) (by kernel_rfl) (by kernel_rfl) (fun _ _ _ h => h) (Or.inr ⟨by kernel_rfl, rfl⟩) hH1 ?_
          simp only [Act.put, List.getElem_toArray, List.getElem_cons_zero, List.getElem_cons_succ, List.setIfInBounds_toArray, List.set_cons_zero, List.set_cons_succ]
          refine wpAnyH_take (i := 12) (oi := _) (v := undef) rfl (by kernel_rfl) (by kernel_rfl) (by kernel_rfl) (fun _ _ _ h => h) (Or.inr ⟨by kernel_rfl, rfl⟩) hH1 ?_
          simp only [Act.put, List.getElem_toArray, List.getElem_cons_zero, List.getElem_cons_succ, List.setIfInBounds_toArray, List.set_cons_zero, List.set_cons_succ]
          refine wpAnyH_take (i := 13) (oi := _) (v := undef) rfl (by kernel_rfl) (by kernel_rfl) (by kernel_rfl) (fun _ _ _ h => h) (Or.inr ⟨by kernel_rfl, rfl⟩) hH1 ?_
          simp only [Act.put, List.getElem_toArray, List.getElem_cons_zero, List.getElem_cons_succ, List.setIfInBounds_toArray, List.set_cons_zero, List.set_cons_succ]
          refine wpAnyH_take (i := 14) (oi := _) (v := .bool false) rfl (by kernel_rfl) (by kernel_rfl) (by kernel_rfl) (fun _ _ _ h => h) (Or.inl ⟨by rfl, ?_⟩) hH1 ?_
          · intro w hSw; go_simp
          simp only [Act.put, List.getElem_toArray, List.getElem_cons_zero, List.getElem_cons_succ, List.setIfInBounds_toArray, List.set_cons_zero, List.set_cons_succ]
          refine wpAnyH_ready (rs := [15]) (by kernel_rfl) (by simp) (AllReadyH.cons (o := _) rfl (fun K hK => ?_) AllReadyH.nil)
          go_simp
          refine hK.out _ _ ?_ (fun hH2 => ?_)
          · refine ⟨?_, ?_, ?_, ?_⟩ <;> simp [go_sem, p0, p1, p2, p3]
          clear hK K
          refine wpAnyH_take (i := 16) (oi := _) (v := .bool false) rfl (by kernel_rfl) (by kernel_rfl) (by kernel_rfl) (fun _ _ _ h => h) (Or.inl ⟨by rfl, ?_⟩) hH2 ?_
          · intro w hSw; go_simp
          simp only [Act.put, List.getElem_toArray, List.getElem_cons_zero, List.getElem_cons_succ, List.setIfInBounds_toArray, List.set_cons_zero, List.set_cons_succ]
          refine wpAnyH_done (by kernel_rfl) ?_ _
          obtain ⟨e1, e2, e3⟩ := HE.out.fin (show Fr (fun k => k = w.heap.size + 2) wr ((((wr.setCell ⟨w.heap.size + 2, 0, none⟩ (.int .i64 m'.u.e)).setCell ⟨w.heap.size + 2, 1, none⟩ (.int .i64 m'.u.l)).setCell ⟨w.heap.size + 2, 2, none⟩ (.slice ma' m'.u.cells.length mc')).setCell ⟨w.heap.size + 2, 3, none⟩ (.int .i64 m'.t)).drew by (repeat' first | exact Fr.refl _ _ | refine Fr.setCell ?_ (by first | (left; simp; done) | (right; simp; done) | (right; simp; omega)) _ | refine Fr.alloc ?_ _ | refine Fr.drew ?_))
          have E1 := Lib.hid' e1; have E2 := Lib.hid' e2; have E3 := Lib.hid' e3
          have z := (BoxW.box (show BoxW (w.heap.size + 2) [.int .i64 m'.u.e, .int .i64 m'.u.l, .slice ma' m'.u.cells.length mc', .int .i64 m'.t] 63 (((((wr.setCell ⟨w.heap.size + 2, 0, none⟩ (.int .i64 m'.u.e)).setCell ⟨w.heap.size + 2, 1, none⟩ (.int .i64 m'.u.l)).setCell ⟨w.heap.size + 2, 2, none⟩ (.slice ma' m'.u.cells.length mc')).setCell ⟨w.heap.size + 2, 3, none⟩ (.int .i64 m'.t)).drew) from BoxW.set4 HE.out.br)).1
          have z0 := z 0 _ rfl; have z1 := z 1 _ rfl; have z2 := z 2 _ rfl; have z3 := z 3 _ rfl
          clear z e1 e2 e3
          generalize ((((wr.setCell ⟨w.heap.size + 2, 0, none⟩ (.int .i64 m'.u.e)).setCell ⟨w.heap.size + 2, 1, none⟩ (.int .i64 m'.u.l)).setCell ⟨w.heap.size + 2, 2, none⟩ (.slice ma' m'.u.cells.length mc')).setCell ⟨w.heap.size + 2, 3, none⟩ (.int .i64 m'.t)).drew = wz at *
          refine A0 _ _ ?_
          apply wp_ret
          refine bodyPost_ret (v := .tuple #[rmV m' ma' mc', .bool false]) (by simp [results, Try.results29, go_sem, rmV, z0, z1, z2, z3]) rfl ?_
          exact ⟨ma', mc', by rw [HOK.out], E1.out, E2.out, E3.out⟩
        subst he
        have HOK := Lib.hid' (show okL (m', er, n, rx) (l', er, n, vx) = showM l' m' by simp only [okL]; rw [HRX.out]; simp)
        rename_i A0
        refine wp_region_held_drew (S := (fun w' => w'.cell? ⟨w.heap.size, 0, none⟩ = some (.int .i64 m'.u.e) ∧ w'.cell? ⟨w.heap.size, 1, none⟩ = some (.int .i64 m'.u.l) ∧ w'.cell? ⟨w.heap.size, 2, none⟩ = some (.slice ma' m'.u.cells.length mc') ∧ w'.cell? ⟨w.heap.size, 3, none⟩ = some (.int .i64 m'.t))) (by kernel_rfl) ⟨by simpa using p0, by simpa using p1, by simpa using p2, by simpa using p3⟩ (fun hH0 => ?_)
        refine wpAnyH_take (i := 0) (oi := _) (v := .agg #[.int .i64 m'.u.e, .int .i64 m'.u.l, .slice ma' m'.u.cells.length mc', .int .i64 m'.t]) rfl (by kernel_rfl) (by kernel_rfl) (by kernel_rfl) (fun _ _ _ h => h) (Or.inl ⟨by rfl, ?_⟩) hH0 ?_
        · intro w hSw; go_simp
        simp only [Act.put, List.getElem_toArray, List.getElem_cons_zero, List.getElem_cons_succ, List.setIfInBounds_toArray, List.set_cons_zero, List.set_cons_succ]
        refine wpAnyH_take (i := 1) (oi := _) (v := .int .i64 n) rfl (by kernel_rfl) (by kernel_rfl) (by kernel_rfl) (fun _ _ _ h => h) (Or.inl ⟨by rfl, ?_⟩) hH0 ?_
        · intro w hSw; go_simp
        simp only [Act.put, List.getElem_toArray, List.getElem_cons_zero, List.getElem_cons_succ, List.setIfInBounds_toArray, List.set_cons_zero, List.set_cons_succ]
        refine wpAnyH_take (i := 2) (oi := _) (v := .int .i64 n) rfl (by kernel_rfl) (by kernel_rfl) (by kernel_rfl) (fun _ _ _ h => h) (Or.inl ⟨by rfl, ?_⟩) hH0 ?_
        · intro w hSw; go_simp
        simp only [Act.put, List.getElem_toArray, List.getElem_cons_zero, List.getElem_cons_succ, List.setIfInBounds_toArray, List.set_cons_zero, List.set_cons_succ]
        refine wpAnyH_take (i := 3) (oi := _) (v := .bool true) rfl (by kernel_rfl) (by kernel_rfl) (by kernel_rfl) (fun _ _ _ h => h) (Or.inl ⟨by rfl, ?_⟩) hH0 ?_
        · intro w hSw; go_simp
        simp only [Act.put, List.getElem_toArray, List.getElem_cons_zero, List.getElem_cons_succ, List.setIfInBounds_toArray, List.set_cons_zero, List.set_cons_succ]
        refine wpAnyH_take (i := 4) (oi := _) (v := .bool true) rfl (by kernel_rfl) (by kernel_rfl) (by kernel_rfl) (fun _ _ _ h => h) (Or.inl ⟨by rfl, ?_⟩) hH0 ?_
        · intro w hSw; go_simp
        simp only [Act.put, List.getElem_toArray, List.getElem_cons_zero, List.getElem_cons_succ, List.setIfInBounds_toArray, List.set_cons_zero, List.set_cons_succ]
        refine wpAnyH_take (i := 5) (oi := _) (v := errV er) rfl (by kernel_rfl) (by kernel_rfl) (by kernel_rfl) (fun _ _ _ h => h) (Or.inl ⟨by rfl, ?_⟩) hH0 ?_
        · intro w hSw; go_simp
        simp only [Act.put, List.getElem_toArray, List.getElem_cons_zero, List.getElem_cons_succ, List.setIfInBounds_toArray, List.set_cons_zero, List.set_cons_succ]
        refine wpAnyH_take (i := 7) (oi := _) (v := .int .i64 (er : Int)) rfl (by kernel_rfl) (by kernel_rfl) (by kernel_rfl) (fun _ _ _ h => h) (Or.inl ⟨by rfl, ?_⟩) hH0 ?_
        · intro w hSw; go_simp
        simp only [Act.put, List.getElem_toArray, List.getElem_cons_zero, List.getElem_cons_succ, List.setIfInBounds_toArray, List.set_cons_zero, List.set_cons_succ]
        refine wpAnyH_ready (rs := [6]) (by kernel_rfl) (by simp) (AllReadyH.cons (o := _) rfl (fun K hK => ?_) AllReadyH.nil)
        go_simp
        refine (num_any er _).mono ?_
        rintro en w' ⟨rfl, rfl⟩
        refine hK.out _ _ ?_ (fun hH1 => ?_)
        · exact hH0
        clear hK K
        refine wpAnyH_take (i := 8) (oi := _) (v := .bool true) rfl (by kernel_rfl) (by kernel_rfl) (by kernel_rfl) (fun _ _ _ h => h) (Or.inl ⟨by rfl, ?_⟩) hH1 ?_
        · intro w hSw; go_simp
        simp only [Act.put, List.getElem_toArray, List.getElem_cons_zero, List.getElem_cons_succ, List.setIfInBounds_toArray, List.set_cons_zero, List.set_cons_succ]
        refine wpAnyH_take (i := 9) (oi := _) (v := .bool true) rfl (by kernel_rfl) (by kernel_rfl) (by kernel_rfl) (fun _ _ _ h => h) (Or.inl ⟨by rfl, ?_⟩) hH1 ?_
        · intro w hSw; go_simp
        simp only [Act.put, List.getElem_toArray, List.getElem_cons_zero, List.getElem_cons_succ, List.setIfInBounds_toArray, List.set_cons_zero, List.set_cons_succ]
        refine wpAnyH_take (i := 10) (oi := _) (v := .bool true) rfl (by kernel_rfl) (by kernel_rfl) (by kernel_rfl) (fun _ _ _ h => h) (Or.inl ⟨by rfl, ?_⟩) hH1 ?_
        · intro w hSw; go_simp
        simp only [Act.put, List.getElem_toArray, List.getElem_cons_zero, List.getElem_cons_succ, List.setIfInBounds_toArray, List.set_cons_zero, List.set_cons_succ]
        refine wpAnyH_take (i := 11) (oi := _) (v := .pointer (some ⟨bl, 0, none⟩)) rfl (by kernel_rfl) (by kernel_rfl) (by kernel_rfl) (fun _ _ _ h => h) (Or.inl ⟨by rfl, ?_⟩) hH1 ?_
        · intro w hSw; go_simp
        simp only [Act.put, List.getElem_toArray, List.getElem_cons_zero, List.getElem_cons_succ, List.setIfInBounds_toArray, List.set_cons_zero, List.set_cons_succ]
        refine wpAnyH_take (i := 12) (oi := _) (v := .agg #[.int .i64 m'.u.e, .int .i64 m'.u.l, .slice ma' m'.u.cells.length mc', .int .i64 m'.t]) rfl (by kernel_rfl) (by kernel_rfl) (by kernel_rfl) (fun _ _ _ h => h) (Or.inl ⟨by rfl, ?_⟩) hH1 ?_
        · intro w hSw; go_simp
        simp only [Act.put, List.getElem_toArray, List.getElem_cons_zero, List.getElem_cons_succ, List.setIfInBounds_toArray, List.set_cons_zero, List.set_cons_succ]
        refine wpAnyH_ready (rs := [13]) (by kernel_rfl) (by simp) (AllReadyH.cons (o := _) rfl (fun K hK => ?_) AllReadyH.nil)
        go_simp
        refine (shows_any (l := l') m' ma' mc' _ HEd.out.log HEd.out.rl HUL.out).mono ?_
        rintro en w6 ⟨rfl, hb6⟩
        have HB6 := Lib.hid' (show Below wr.heap.size wr w6 from (Below.drew (Below.refl _ _)).trans hb6)
        have H6 := Lib.hid' (HE.out.below HB6.out)
        have q0 := H6.out.bm'.box.1 0 _ rfl; have q1 := H6.out.bm'.box.1 1 _ rfl; have q2 := H6.out.bm'.box.1 2 _ rfl; have q3 := H6.out.bm'.box.1 3 _ rfl
        have t0 := H6.out.br.box.1 0 _ rfl; have t1 := H6.out.br.box.1 1 _ rfl; have t2 := H6.out.br.box.1 2 _ rfl; have t3 := H6.out.br.box.1 3 _ rfl
        have g0 := H6.out.br.box.2.1 0; have g1 := H6.out.br.box.2.1 1; have g2 := H6.out.br.box.2.1 2; have g3 := H6.out.br.box.2.1 3; have tl := H6.out.br.lt
        clear hb6
        refine hK.out _ _ ?_ (fun hH2 => ?_)
        · exact ⟨q0, q1, q2, q3⟩
        clear hK K
        refine wpAnyH_take (i := 14) (oi := _) (v := .bool (showM l' m')) rfl (by kernel_rfl) (by kernel_rfl) (by kernel_rfl) (fun _ _ _ h => h) (Or.inl ⟨by rfl, ?_⟩) hH2 ?_
        · intro w hSw; go_simp
        simp only [Act.put, List.getElem_toArray, List.getElem_cons_zero, List.getElem_cons_succ, List.setIfInBounds_toArray, List.set_cons_zero, List.set_cons_succ]
        refine wpAnyH_ready (rs := [15]) (by kernel_rfl) (by simp) (AllReadyH.cons (o := _) rfl (fun K hK => ?_) AllReadyH.nil)
        go_simp
        refine hK.out _ _ ?_ (fun hH3 => ?_)
        · refine ⟨?_, ?_, ?_, ?_⟩ <;> simp [go_sem, q0, q1, q2, q3]
        clear hK K
        refine wpAnyH_take (i := 16) (oi := _) (v := .bool (showM l' m')) rfl (by kernel_rfl) (by kernel_rfl) (by kernel_rfl) (fun _ _ _ h => h) (Or.inl ⟨by rfl, ?_⟩) hH3 ?_
        · intro w hSw; go_simp
        simp only [Act.put, List.getElem_toArray, List.getElem_cons_zero, List.getElem_cons_succ, List.setIfInBounds_toArray, List.set_cons_zero, List.set_cons_succ]
        refine wpAnyH_done (by kernel_rfl) ?_ _
        obtain ⟨e1, e2, e3⟩ := H6.out.fin (show Fr (fun k => k = w.heap.size + 2) w6 ((((w6.setCell ⟨w.heap.size + 2, 0, none⟩ (.int .i64 m'.u.e)).setCell ⟨w.heap.size + 2, 1, none⟩ (.int .i64 m'.u.l)).setCell ⟨w.heap.size + 2, 2, none⟩ (.slice ma' m'.u.cells.length mc')).setCell ⟨w.heap.size + 2, 3, none⟩ (.int .i64 m'.t)) by (repeat' first | exact Fr.refl _ _ | refine Fr.setCell ?_ (by first | (left; simp; done) | (right; simp; done) | (right; simp; omega)) _ | refine Fr.alloc ?_ _ | refine Fr.drew ?_))
        have E1 := Lib.hid' e1; have E2 := Lib.hid' e2; have E3 := Lib.hid' e3
        have z := (BoxW.box (show BoxW (w.heap.size + 2) [.int .i64 m'.u.e, .int .i64 m'.u.l, .slice ma' m'.u.cells.length mc', .int .i64 m'.t] 63 (((((w6.setCell ⟨w.heap.size + 2, 0, none⟩ (.int .i64 m'.u.e)).setCell ⟨w.heap.size + 2, 1, none⟩ (.int .i64 m'.u.l)).setCell ⟨w.heap.size + 2, 2, none⟩ (.slice ma' m'.u.cells.length mc')).setCell ⟨w.heap.size + 2, 3, none⟩ (.int .i64 m'.t))) from BoxW.set4 H6.out.br)).1
        have z0 := z 0 _ rfl; have z1 := z 1 _ rfl; have z2 := z 2 _ rfl; have z3 := z 3 _ rfl
        clear z e1 e2 e3
        generalize ((((w6.setCell ⟨w.heap.size + 2, 0, none⟩ (.int .i64 m'.u.e)).setCell ⟨w.heap.size + 2, 1, none⟩ (.int .i64 m'.u.l)).setCell ⟨w.heap.size + 2, 2, none⟩ (.slice ma' m'.u.cells.length mc')).setCell ⟨w.heap.size + 2, 3, none⟩ (.int .i64 m'.t)) = wz at *
        refine A0 _ _ ?_
        apply wp_ret
        refine bodyPost_ret (v := .tuple #[rmV m' ma' mc', .bool (showM l' m')]) (by simp [results, Try.results29, go_sem, rmV, z0, z1, z2, z3]) rfl ?_
        exact ⟨ma', mc', by rw [HOK.out], E1.out, E2.out, E3.out⟩

end Go.Proofs.Ytjkbcjliaacebaa
