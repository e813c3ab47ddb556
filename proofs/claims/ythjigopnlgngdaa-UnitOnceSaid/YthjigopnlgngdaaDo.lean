import Derived.Test.YthjigopnlgngdaaPlay
import Derived.Deep.DeepCutAuto
import Derived.Laws.BitsAllLaws
import Derived.Deep.CutBlock
import Derived.Deep.RegionHeld3
import Derived.BigQuiet
namespace Go.Proofs.Ythjigopnlgngdaa
open Go.RowKit
set_option linter.unusedSimpArgs false
set_option linter.unusedVariables false
set_option maxRecDepth 20000

theorem num_q (n : Nat) (w : World) : Calls Try.prog 14 #[errV n] w fun e w' => e = .returned (.int .i64 n) ∧ w' = w := (num_any n w).mono fun _ _ ⟨a, b⟩ => ⟨a, b.symm⟩
theorem C.eq' {c x : C} (h1 : c.k = x.k) (h2 : c.d = x.d) : c = x := by cases c; cases x; simp only at h1 h2; rw [h1, h2]
theorem xor_byte (b : UInt8) : bits .xor .u8 (b.toNat : Int) 255 = ((b ^^^ 255).toNat : Int) := by
  have h := u8_xor_nat b.toNat 255 b.toNat_lt (by decide)
  rw [UInt8.toNat_xor]; exact h
def kindN (kd : Int) : Int := (IntKind.u64.wrap kd).tmod 8
def okS (M U : U × Nat × Int × C) : Bool := decide (M.2.2.1 = U.2.2.1) && (decide (U.2.1 = M.2.1) && decide (U.2.2.2 = M.2.2.2))

def DoR (M V : U × Nat × Int × C) (bu bm : Nat) (w : World) (en : Ending) (w' : World) : Prop :=
  ∃ ma mc, en = .returned (.tuple #[ruV M.1 ma mc, .bool (okS M V && V.1.doc.rSame M.1)]) ∧ RList w' (.slice ma M.1.cells.length mc) M.1.cells ∧ UnitAt (fun k => k = bu ∨ k = bm) w' bu bm V.1 ∧ Fr (fun k => k = bu ∨ k = bm) w w'

theorem DoEnd.below {N : Nat} {w : World} {m : U} {ma : Option Addr} {mc : Nat} {bu bm : Nat} {u : U} {wc w2 : World} (h : DoEnd N w m ma mc bu bm u wc) (hb : Below wc.heap.size wc w2) : DoEnd N w m ma mc bu bm u w2 :=
  ⟨h.bm'.below (Nat.le_refl _) hb, h.br.below (Nat.le_refl _) hb, h.unit.below (Nat.le_refl _) hb, h.fr.trans_below hb, h.lu, h.lm, h.lw⟩
theorem same_doc (u m : U) (a1 : Option Addr) (c1 : Nat) (a2 : Option Addr) (c2 : Nat) (w : World) (h : SlV w (.slice a1 u.cells.length c1) u.cells.length (rents (sortC u.cells))) (h' : RList w (.slice a2 m.cells.length c2) m.cells) :
    Calls Try.prog 57 #[.agg #[.int .i64 u.e, .int .i64 u.l, .slice a1 u.cells.length c1], .agg #[.int .i64 m.e, .int .i64 m.l, .slice a2 m.cells.length c2]] w fun en w' => en = .returned (.bool (u.doc.rSame m)) ∧ Below w.heap.size w w' := by
  have := rSame_any u.doc m a1 c1 a2 c2 w (by unfold RList; simpa only [U.doc, sortC_len] using h) h'
  simpa only [ruV, U.doc, sortC_len] using this

set_option maxHeartbeats 4000000 in
theorem do_any (kd e ad : Int) (d : List UInt8) (da : Option Addr) (dc : Nat) (m u : U) (ma : Option Addr) (mc : Nat) (bu bm : Nat) (w : World)
    (hu : UnitAt (fun k => k = bu ∨ k = bm) w bu bm u) (hm : RList w (.slice ma m.cells.length mc) m.cells) (hd : Bytes w (.slice da d.length dc) d) (hdl : d.length ≤ 300) (hmb : ∀ p ∈ m.cells, 0 ≤ p.1 ∧ p.1 < 1048576) (hmc : m.cells.length ≤ 4194304) (huc : u.cells.length ≤ 1000000) :
    Calls Try.prog 46 #[.pointer (some ⟨bu, 0, none⟩), ruV m ma mc, .agg #[.int .i64 kd, .int .i64 e, .int .i64 ad, .slice da d.length dc]] w (DoR (mS (kindN kd) m e ad d) (uS (kindN kd) u e ad d) bu bm w) := by
  unfold kindN
  have HU := Lib.hid' hu
  have HM := Lib.hid' hm
  have HD := Lib.hid' hd
  have HMB := Lib.hid' hmb
  have HMC := Lib.hid' hmc
  clear hu hm hd hmb hmc
  unfold ruV
  have HOe := Lib.hid' (show ((((w.alloc (.cells #[.int .i64 m.e, .int .i64 m.l, .slice ma m.cells.length mc] 75)).alloc (.cells #[.int .i64 kd, .int .i64 e, .int .i64 ad, .slice da d.length dc] 95)).alloc (.cells #[.int .i64 0, .int .i64 0, .slice none 0 0] 75)).alloc (.cells #[] 5)).ownsRow (w.heap.size + 1 + 1 + 1) 5 1 (.slice (some ⟨w.heap.size + 1 + 1 + 1, 0, none⟩) 0 0) 0 [] by
    have h := own_empty (((w.alloc (.cells #[.int .i64 m.e, .int .i64 m.l, .slice ma m.cells.length mc] 75)).alloc (.cells #[.int .i64 kd, .int .i64 e, .int .i64 ad, .slice da d.length dc] 95)).alloc (.cells #[.int .i64 0, .int .i64 0, .slice none 0 0] 75)) 5 1
    have e : (((w.alloc (.cells #[.int .i64 m.e, .int .i64 m.l, .slice ma m.cells.length mc] 75)).alloc (.cells #[.int .i64 kd, .int .i64 e, .int .i64 ad, .slice da d.length dc] 95)).alloc (.cells #[.int .i64 0, .int .i64 0, .slice none 0 0] 75)).heap.size = w.heap.size + 1 + 1 + 1 := by simp
    rw [e] at h; exact h)
  go_enter Try.func46, Try.ntmps46
  go_wp2_with (at_builtin; go_loud (refine append_sl etBytes rfl (.tmp 18) (.tmp 20) rfl _ 0 [] _ rfl HOe.out d.length (byteVs d) _ rfl (SlV.below HD.out (Nat.le_refl _) (by go_grown)) (by simp [byteVs]) (byteVs_one d) (by omega) (by simp) ?_))
  intro a1 c1 w1 ho hf
  have HO := Lib.hid' (show w1.ownsRow (w.heap.size + 1 + 1 + 1) 5 1 (.slice a1 d.length c1) d.length (byteVs d) by simpa using ho)
  have gf : Fr (fun k => k = w.heap.size + 1 + 1 + 1) ((((w.alloc (.cells #[.int .i64 m.e, .int .i64 m.l, .slice ma m.cells.length mc] 75)).alloc (.cells #[.int .i64 kd, .int .i64 e, .int .i64 ad, .slice da d.length dc] 95)).alloc (.cells #[.int .i64 0, .int .i64 0, .slice none 0 0] 75)).alloc (.cells #[] 5)) w1 := hf.mono (fun k hk => by simp [Act.eval, Value.ownBlock] at hk; omega)
  have g4 : Below w.heap.size w ((((w.alloc (.cells #[.int .i64 m.e, .int .i64 m.l, .slice ma m.cells.length mc] 75)).alloc (.cells #[.int .i64 kd, .int .i64 e, .int .i64 ad, .slice da d.length dc] 95)).alloc (.cells #[.int .i64 0, .int .i64 0, .slice none 0 0] 75)).alloc (.cells #[] 5)) := by go_grown
  have hs4 : ((((w.alloc (.cells #[.int .i64 m.e, .int .i64 m.l, .slice ma m.cells.length mc] 75)).alloc (.cells #[.int .i64 kd, .int .i64 e, .int .i64 ad, .slice da d.length dc] 95)).alloc (.cells #[.int .i64 0, .int .i64 0, .slice none 0 0] 75)).alloc (.cells #[] 5)).heap.size = w.heap.size + 1 + 1 + 1 + 1 := by simp
  have hsz : w.heap.size + 1 + 1 + 1 + 1 ≤ w1.heap.size := by rw [← hs4]; exact gf.size
  have gB : Below (w.heap.size + 1 + 1 + 1) ((((w.alloc (.cells #[.int .i64 m.e, .int .i64 m.l, .slice ma m.cells.length mc] 75)).alloc (.cells #[.int .i64 kd, .int .i64 e, .int .i64 ad, .slice da d.length dc] 95)).alloc (.cells #[.int .i64 0, .int .i64 0, .slice none 0 0] 75)).alloc (.cells #[] 5)) w1 := gf.below (by rw [hs4]; omega) (fun k hk => by omega)
  have x1 := Lib.hid' (((BoxW.start w [.int .i64 m.e, .int .i64 m.l, .slice ma m.cells.length mc] 75).below (Nat.le_refl _) (show Below (w.alloc (.cells #[.int .i64 m.e, .int .i64 m.l, .slice ma m.cells.length mc] 75)).heap.size (w.alloc (.cells #[.int .i64 m.e, .int .i64 m.l, .slice ma m.cells.length mc] 75)) (((w.alloc (.cells #[.int .i64 m.e, .int .i64 m.l, .slice ma m.cells.length mc] 75)).alloc (.cells #[.int .i64 kd, .int .i64 e, .int .i64 ad, .slice da d.length dc] 95)).alloc (.cells #[.int .i64 0, .int .i64 0, .slice none 0 0] 75)) by go_grown)).below (B := w.heap.size + 1 + 1 + 1) (by simp) ((show Below (((w.alloc (.cells #[.int .i64 m.e, .int .i64 m.l, .slice ma m.cells.length mc] 75)).alloc (.cells #[.int .i64 kd, .int .i64 e, .int .i64 ad, .slice da d.length dc] 95)).alloc (.cells #[.int .i64 0, .int .i64 0, .slice none 0 0] 75)).heap.size (((w.alloc (.cells #[.int .i64 m.e, .int .i64 m.l, .slice ma m.cells.length mc] 75)).alloc (.cells #[.int .i64 kd, .int .i64 e, .int .i64 ad, .slice da d.length dc] 95)).alloc (.cells #[.int .i64 0, .int .i64 0, .slice none 0 0] 75)) ((((w.alloc (.cells #[.int .i64 m.e, .int .i64 m.l, .slice ma m.cells.length mc] 75)).alloc (.cells #[.int .i64 kd, .int .i64 e, .int .i64 ad, .slice da d.length dc] 95)).alloc (.cells #[.int .i64 0, .int .i64 0, .slice none 0 0] 75)).alloc (.cells #[] 5)) by go_grown).mono (by simp) |>.trans gB))
  have x2 := Lib.hid' (((BoxW.start (w.alloc (.cells #[.int .i64 m.e, .int .i64 m.l, .slice ma m.cells.length mc] 75)) [.int .i64 kd, .int .i64 e, .int .i64 ad, .slice da d.length dc] 95).below (Nat.le_refl _) (show Below ((w.alloc (.cells #[.int .i64 m.e, .int .i64 m.l, .slice ma m.cells.length mc] 75)).alloc (.cells #[.int .i64 kd, .int .i64 e, .int .i64 ad, .slice da d.length dc] 95)).heap.size ((w.alloc (.cells #[.int .i64 m.e, .int .i64 m.l, .slice ma m.cells.length mc] 75)).alloc (.cells #[.int .i64 kd, .int .i64 e, .int .i64 ad, .slice da d.length dc] 95)) (((w.alloc (.cells #[.int .i64 m.e, .int .i64 m.l, .slice ma m.cells.length mc] 75)).alloc (.cells #[.int .i64 kd, .int .i64 e, .int .i64 ad, .slice da d.length dc] 95)).alloc (.cells #[.int .i64 0, .int .i64 0, .slice none 0 0] 75)) by go_grown)).below (B := w.heap.size + 1 + 1 + 1) (by simp) ((show Below (((w.alloc (.cells #[.int .i64 m.e, .int .i64 m.l, .slice ma m.cells.length mc] 75)).alloc (.cells #[.int .i64 kd, .int .i64 e, .int .i64 ad, .slice da d.length dc] 95)).alloc (.cells #[.int .i64 0, .int .i64 0, .slice none 0 0] 75)).heap.size (((w.alloc (.cells #[.int .i64 m.e, .int .i64 m.l, .slice ma m.cells.length mc] 75)).alloc (.cells #[.int .i64 kd, .int .i64 e, .int .i64 ad, .slice da d.length dc] 95)).alloc (.cells #[.int .i64 0, .int .i64 0, .slice none 0 0] 75)) ((((w.alloc (.cells #[.int .i64 m.e, .int .i64 m.l, .slice ma m.cells.length mc] 75)).alloc (.cells #[.int .i64 kd, .int .i64 e, .int .i64 ad, .slice da d.length dc] 95)).alloc (.cells #[.int .i64 0, .int .i64 0, .slice none 0 0] 75)).alloc (.cells #[] 5)) by go_grown).mono (by simp) |>.trans gB))
  have x3 := Lib.hid' ((BoxW.start ((w.alloc (.cells #[.int .i64 m.e, .int .i64 m.l, .slice ma m.cells.length mc] 75)).alloc (.cells #[.int .i64 kd, .int .i64 e, .int .i64 ad, .slice da d.length dc] 95)) zU 75).below (B := w.heap.size + 1 + 1 + 1) (by simp) ((show Below (((w.alloc (.cells #[.int .i64 m.e, .int .i64 m.l, .slice ma m.cells.length mc] 75)).alloc (.cells #[.int .i64 kd, .int .i64 e, .int .i64 ad, .slice da d.length dc] 95)).alloc (.cells #[.int .i64 0, .int .i64 0, .slice none 0 0] 75)).heap.size (((w.alloc (.cells #[.int .i64 m.e, .int .i64 m.l, .slice ma m.cells.length mc] 75)).alloc (.cells #[.int .i64 kd, .int .i64 e, .int .i64 ad, .slice da d.length dc] 95)).alloc (.cells #[.int .i64 0, .int .i64 0, .slice none 0 0] 75)) ((((w.alloc (.cells #[.int .i64 m.e, .int .i64 m.l, .slice ma m.cells.length mc] 75)).alloc (.cells #[.int .i64 kd, .int .i64 e, .int .i64 ad, .slice da d.length dc] 95)).alloc (.cells #[.int .i64 0, .int .i64 0, .slice none 0 0] 75)).alloc (.cells #[] 5)) by go_grown).mono (by simp) |>.trans gB))
  have gW := Lib.hid' (g4.trans (gB.mono (by omega)))
  have Hsz := Lib.hid' hsz
  clear gf g4 hs4 gB ho hf HOe hsz
  go_upto_region 6 with fail
  have hj : DoIn w.heap.size w1.heap.size w m ma mc kd e ad da d dc bu bm u a1 c1 ⟨0, []⟩ ⟨0, []⟩ none 0 ((w1.alloc (.cells #[.int .i64 0, .string ⟨#[]⟩] 156)).alloc (.cells #[.int .i64 0, .slice none 0 0] 62)) := by
    have hlt := HU.out.lt
    have hsz := Hsz.out
    have g6 : Below w1.heap.size w1 ((w1.alloc (.cells #[.int .i64 0, .string ⟨#[]⟩] 156)).alloc (.cells #[.int .i64 0, .slice none 0 0] 62)) := by go_grown
    have hs6 : ((w1.alloc (.cells #[.int .i64 0, .string ⟨#[]⟩] 156)).alloc (.cells #[.int .i64 0, .slice none 0 0] 62)).heap.size = w1.heap.size + 2 := by simp
    have gA : Below w.heap.size w ((w1.alloc (.cells #[.int .i64 0, .string ⟨#[]⟩] 156)).alloc (.cells #[.int .i64 0, .slice none 0 0] 62)) := gW.out.trans (g6.mono (by omega))
    refine ⟨x1.out.below (Nat.le_refl _) g6, by simpa using x2.out.below (Nat.le_refl _) g6, by simpa using x3.out.below (Nat.le_refl _) g6, (BoxW.start w1 [.int .i64 0, .string ⟨#[]⟩] 156).below (Nat.le_refl _) (show Below (w1.alloc (.cells #[.int .i64 0, .string ⟨#[]⟩] 156)).heap.size (w1.alloc (.cells #[.int .i64 0, .string ⟨#[]⟩] 156)) ((w1.alloc (.cells #[.int .i64 0, .string ⟨#[]⟩] 156)).alloc (.cells #[.int .i64 0, .slice none 0 0] 62)) by go_grown), by simpa using BoxW.start (w1.alloc (.cells #[.int .i64 0, .string ⟨#[]⟩] 156)) [.int .i64 0, .slice none 0 0] 62, by omega, own_below HO.out (Nat.le_refl _) g6, ?_, own_nil _ _ _ _, ?_, Fr.of_below gA, by omega, ?_, hlt.1, hlt.2, Nat.le_refl _⟩
    · intro b hb
      have := own_blk HO.out hb
      omega
    · exact (HU.out.weak (A' := DoA w.heap.size w1.heap.size bu bm (.slice none 0 0)) (fun k hk => by
        rcases hk with h | h | h | h
        · exact .inl (.inl h)
        · exact .inl (.inr h)
        · exact .inr h.1
        · simp [Value.ownBlock] at h) (.inl rfl) (.inr (.inl rfl))).below (Nat.le_refl _) gA
    · intro w' hf
      exact HU.out.bytes HD.out hf
  have HJ := Lib.hid' hj
  clear hj x1 x2 x3 gW HO
  generalize ((w1.alloc (.cells #[.int .i64 0, .string ⟨#[]⟩] 156)).alloc (.cells #[.int .i64 0, .slice none 0 0] 62)) = w6 at *
  have b0 := HJ.out.ba.box.1 0 _ rfl; have b1 := HJ.out.ba.box.1 1 _ rfl; have b2 := HJ.out.ba.box.1 2 _ rfl; have b3 := HJ.out.ba.box.1 3 _ rfl
  have m0 := HJ.out.bm'.box.1 0 _ rfl; have m1 := HJ.out.bm'.box.1 1 _ rfl; have m2 := HJ.out.bm'.box.1 2 _ rfl
  go_upto_block 0 with fail
  generalize w1.heap.size = X at *
  generalize hN : w.heap.size = N at *
  have HKN := Lib.hid' (kind8 kd)
  generalize (IntKind.u64.wrap kd).tmod 8 = kn at *
  go_cut [9, 10, 11, 13] (fun v9 v10 v11 v13 wc => v9 = .int .i64 (mS kn m e ad d).2.2.1 ∧ v10 = .int .i64 (mS kn m e ad d).2.1 ∧ v11 = .int .i64 (uS kn u e ad d).2.2.1 ∧ v13 = errV (uS kn u e ad d).2.1 ∧
    ∃ ma' mc' ca cc, DoIn N X w (mS kn m e ad d).1 ma' mc' kd e ad da d dc bu bm (uS kn u e ad d).1 a1 c1 (mS kn m e ad d).2.2.2 (uS kn u e ad d).2.2.2 ca cc wc ∧ RList wc (.slice ma' (mS kn m e ad d).1.cells.length mc') (mS kn m e ad d).1.cells)
  case first =>
    have HRL := Lib.hid' (HU.out.rlist HM.out HJ.out.fr)
    have hk8 := HKN.out
    obtain rfl | rfl | rfl | rfl | rfl | rfl | rfl | rfl : kn = 0 ∨ kn = 1 ∨ kn = 2 ∨ kn = 3 ∨ kn = 4 ∨ kn = 5 ∨ kn = 6 ∨ kn = 7 := by omega
    all_goals clear hk8 HKN
    -- ARMS
    · as_aux_lemma =>
      go_wp2_with fail
      refine (rSeal_any m ma mc e _ HRL.out HMB.out).mono ?_
      rintro en w7 ⟨ma', mc', rfl, hr, hb⟩
      have H7 := Lib.hid' (HJ.out.below hb)
      have HR8 := Lib.hid' (H7.out.keepM (.int .i64 (m.rSeal e).2.1.e) (.int .i64 (m.rSeal e).2.1.l) (.slice ma' (m.rSeal e).2.1.cells.length mc') hr)
      have H8 := Lib.hid' (H7.out.setM (m.rSeal e).2.1 ma' mc')
      have n0 := H7.out.bm'.box.1 0 _ rfl; have n1 := H7.out.bm'.box.1 1 _ rfl; have n2 := H7.out.bm'.box.1 2 _ rfl
      have f0 := H7.out.bm'.box.2.1 0; have f1 := H7.out.bm'.box.2.1 1; have f2 := H7.out.bm'.box.2.1 2
      have x1 := H7.out.ba.box.1 1 _ rfl; have x2 := H7.out.ba.box.1 2 _ rfl; have x3 := H7.out.ba.box.1 3 _ rfl
      clear hr hb b0 b1 b2 b3 m0 m1 m2
      unfold ruV
      go_wp2_with fail
      generalize (((w7.setCell ⟨N, 0, none⟩ (.int .i64 (m.rSeal e).2.1.e)).setCell ⟨N, 1, none⟩ (.int .i64 (m.rSeal e).2.1.l)).setCell ⟨N, 2, none⟩ (.slice ma' (m.rSeal e).2.1.cells.length mc')) = w8 at *
      refine (seal_any e _ H8.out.unit).mono ?_
      rintro en w9 ⟨rfl, hu, hf⟩
      have H9 := Lib.hid' (H8.out.step hu hf)
      have HR9 := Lib.hid' (H8.out.unit.rlist HR8.out hf)
      clear hu hf
      go_wp2_with fail
      go_meet
      exact ⟨rfl, rfl, rfl, rfl, ma', mc', none, 0, H9.out, HR9.out⟩
    · as_aux_lemma =>
      have hs := run_string_of (P := Try.prog) 22 5 9 Try.underlying22 Try.underlying5 Try.underlying9 HJ.out.dat
      go_wp2_with fail
      refine (rWrite_any m ma mc e ad d _ HRL.out HMC.out (by omega)).mono ?_
      rintro en w7 ⟨ma', mc', rfl, hr, hb⟩
      have H7 := Lib.hid' (HJ.out.below hb)
      have HR8 := Lib.hid' (H7.out.keepM (.int .i64 (m.rWrite e ad d).1.e) (.int .i64 (m.rWrite e ad d).1.l) (.slice ma' (m.rWrite e ad d).1.cells.length mc') hr)
      have H8 := Lib.hid' (H7.out.setM (m.rWrite e ad d).1 ma' mc')
      have n0 := H7.out.bm'.box.1 0 _ rfl; have n1 := H7.out.bm'.box.1 1 _ rfl; have n2 := H7.out.bm'.box.1 2 _ rfl
      have f0 := H7.out.bm'.box.2.1 0; have f1 := H7.out.bm'.box.2.1 1; have f2 := H7.out.bm'.box.2.1 2
      have x1 := H7.out.ba.box.1 1 _ rfl; have x2 := H7.out.ba.box.1 2 _ rfl; have x3 := H7.out.ba.box.1 3 _ rfl
      clear hr hb b0 b1 b2 b3 m0 m1 m2
      unfold ruV
      go_wp2_with fail
      generalize (((w7.setCell ⟨N, 0, none⟩ (.int .i64 (m.rWrite e ad d).1.e)).setCell ⟨N, 1, none⟩ (.int .i64 (m.rWrite e ad d).1.l)).setCell ⟨N, 2, none⟩ (.slice ma' (m.rWrite e ad d).1.cells.length mc')) = w8 at *
      refine (write_any e ad _ d _ H8.out.unit H8.out.room (SlV.of_own H8.out.own)).mono ?_
      rintro en w9 ⟨rfl, hu, hf⟩
      have H9 := Lib.hid' (H8.out.step hu hf)
      have HR9 := Lib.hid' (H8.out.unit.rlist HR8.out hf)
      clear hu hf
      go_wp2_with fail
      go_meet
      exact ⟨rfl, rfl, rfl, rfl, ma', mc', none, 0, H9.out, HR9.out⟩
    · as_aux_lemma =>
      have hs := run_string_of (P := Try.prog) 22 5 9 Try.underlying22 Try.underlying5 Try.underlying9 HJ.out.dat
      go_wp2_with fail
      refine (rWrite_any m ma mc e ad d _ HRL.out HMC.out (by omega)).mono ?_
      rintro en w7 ⟨ma', mc', rfl, hr, hb⟩
      have H7 := Lib.hid' (HJ.out.below hb)
      have HR8 := Lib.hid' (H7.out.keepM (.int .i64 (m.rWrite e ad d).1.e) (.int .i64 (m.rWrite e ad d).1.l) (.slice ma' (m.rWrite e ad d).1.cells.length mc') hr)
      have H8 := Lib.hid' (H7.out.setM (m.rWrite e ad d).1 ma' mc')
      have n0 := H7.out.bm'.box.1 0 _ rfl; have n1 := H7.out.bm'.box.1 1 _ rfl; have n2 := H7.out.bm'.box.1 2 _ rfl
      have f0 := H7.out.bm'.box.2.1 0; have f1 := H7.out.bm'.box.2.1 1; have f2 := H7.out.bm'.box.2.1 2
      have x1 := H7.out.ba.box.1 1 _ rfl; have x2 := H7.out.ba.box.1 2 _ rfl; have x3 := H7.out.ba.box.1 3 _ rfl
      clear hr hb b0 b1 b2 b3 m0 m1 m2
      unfold ruV
      go_wp2_with fail
      generalize (((w7.setCell ⟨N, 0, none⟩ (.int .i64 (m.rWrite e ad d).1.e)).setCell ⟨N, 1, none⟩ (.int .i64 (m.rWrite e ad d).1.l)).setCell ⟨N, 2, none⟩ (.slice ma' (m.rWrite e ad d).1.cells.length mc')) = w8 at *
      refine (write_any e ad _ d _ H8.out.unit H8.out.room (SlV.of_own H8.out.own)).mono ?_
      rintro en w9 ⟨rfl, hu, hf⟩
      have H9 := Lib.hid' (H8.out.step hu hf)
      have HR9 := Lib.hid' (H8.out.unit.rlist HR8.out hf)
      clear hu hf
      go_wp2_with fail
      go_meet
      exact ⟨rfl, rfl, rfl, rfl, ma', mc', none, 0, H9.out, HR9.out⟩
    · as_aux_lemma =>
      go_wp2_with fail
      refine (rFill_any m ma mc e ad _ HRL.out HMC.out).mono ?_
      rintro en w7 ⟨ma', mc', rfl, hr, hb⟩
      have H7 := Lib.hid' (HJ.out.below hb)
      have HR8 := Lib.hid' (H7.out.keepM (.int .i64 (m.rFill e ad).1.e) (.int .i64 (m.rFill e ad).1.l) (.slice ma' (m.rFill e ad).1.cells.length mc') hr)
      have H8 := Lib.hid' (H7.out.setM (m.rFill e ad).1 ma' mc')
      have n0 := H7.out.bm'.box.1 0 _ rfl; have n1 := H7.out.bm'.box.1 1 _ rfl; have n2 := H7.out.bm'.box.1 2 _ rfl
      have f0 := H7.out.bm'.box.2.1 0; have f1 := H7.out.bm'.box.2.1 1; have f2 := H7.out.bm'.box.2.1 2
      have x1 := H7.out.ba.box.1 1 _ rfl; have x2 := H7.out.ba.box.1 2 _ rfl; have x3 := H7.out.ba.box.1 3 _ rfl
      clear hr hb b0 b1 b2 b3 m0 m1 m2
      unfold ruV
      go_wp2_with fail
      generalize (((w7.setCell ⟨N, 0, none⟩ (.int .i64 (m.rFill e ad).1.e)).setCell ⟨N, 1, none⟩ (.int .i64 (m.rFill e ad).1.l)).setCell ⟨N, 2, none⟩ (.slice ma' (m.rFill e ad).1.cells.length mc')) = w8 at *
      refine (fill_any e ad _ H8.out.unit H8.out.room).mono ?_
      rintro en w9 ⟨rfl, hu, hf⟩
      have H9 := Lib.hid' (H8.out.step hu hf)
      have HR9 := Lib.hid' (H8.out.unit.rlist HR8.out hf)
      clear hu hf
      go_wp2_with fail
      go_meet
      exact ⟨rfl, rfl, rfl, rfl, ma', mc', none, 0, H9.out, HR9.out⟩
    · as_aux_lemma =>
      go_wp2_with fail
      refine (rRead_any m ma mc e ad _ HRL.out HMC.out).mono ?_
      rintro en w7 ⟨rfl, hb⟩
      have H7 := Lib.hid' (HJ.out.below hb)
      have H8 := Lib.hid' (H7.out.setX (m.rRead e ad).1)
      have n0 := H7.out.bx.box.1 0 _ rfl; have n1 := H7.out.bx.box.1 1 _ rfl
      have f0 := H7.out.bx.box.2.1 0; have f1 := H7.out.bx.box.2.1 1
      have x1 := H7.out.ba.box.1 1 _ rfl; have x2 := H7.out.ba.box.1 2 _ rfl
      have hne : N + 1 ≠ X := by have := Hsz.out; omega
      have hne2 : X ≠ N + 1 := by omega
      clear hb b0 b1 b2 b3 m0 m1 m2
      unfold rcellV
      go_wp2_with fail
      generalize ((w7.setCell ⟨X, 0, none⟩ (.int .i64 (m.rRead e ad).1.k)).setCell ⟨X, 1, none⟩ (.string (strOf (m.rRead e ad).1.d))) = w8 at *
      refine (read_any e ad _ H8.out.unit).mono ?_
      rintro en w9 ⟨ca', cc', rfl, ho, hb⟩
      have H9 := Lib.hid' (H8.out.setC hb (u.read e ad).2 ca' cc' ho)
      have H8b := H8.out.below hb
      have z0 := H8b.bc.box.1 0 _ rfl; have z1 := H8b.bc.box.1 1 _ rfl
      have g0 := H8b.bc.box.2.1 0; have g1 := H8b.bc.box.2.1 1
      clear ho hb H8b n0 n1 f0 f1 x1 x2
      go_wp2_with fail
      go_meet
      exact ⟨rfl, rfl, rfl, rfl, ma, mc, ca', cc', H9.out, HU.out.rlist HM.out H9.out.fr⟩
    · as_aux_lemma =>
      go_wp2_with fail
      refine (rTrim_any m ma mc e ad _ HRL.out HMC.out).mono ?_
      rintro en w7 ⟨ma', mc', rfl, hr, hb⟩
      have H7 := Lib.hid' (HJ.out.below hb)
      have HR8 := Lib.hid' (H7.out.keepM (.int .i64 (m.rTrim e ad).1.e) (.int .i64 (m.rTrim e ad).1.l) (.slice ma' (m.rTrim e ad).1.cells.length mc') hr)
      have H8 := Lib.hid' (H7.out.setM (m.rTrim e ad).1 ma' mc')
      have n0 := H7.out.bm'.box.1 0 _ rfl; have n1 := H7.out.bm'.box.1 1 _ rfl; have n2 := H7.out.bm'.box.1 2 _ rfl
      have f0 := H7.out.bm'.box.2.1 0; have f1 := H7.out.bm'.box.2.1 1; have f2 := H7.out.bm'.box.2.1 2
      have x1 := H7.out.ba.box.1 1 _ rfl; have x2 := H7.out.ba.box.1 2 _ rfl; have x3 := H7.out.ba.box.1 3 _ rfl
      clear hr hb b0 b1 b2 b3 m0 m1 m2
      unfold ruV
      go_wp2_with fail
      generalize (((w7.setCell ⟨N, 0, none⟩ (.int .i64 (m.rTrim e ad).1.e)).setCell ⟨N, 1, none⟩ (.int .i64 (m.rTrim e ad).1.l)).setCell ⟨N, 2, none⟩ (.slice ma' (m.rTrim e ad).1.cells.length mc')) = w8 at *
      refine (trim_any e ad _ H8.out.unit H8.out.room).mono ?_
      rintro en w9 ⟨rfl, hu, hf⟩
      have H9 := Lib.hid' (H8.out.step hu hf)
      have HR9 := Lib.hid' (H8.out.unit.rlist HR8.out hf)
      clear hu hf
      go_wp2_with fail
      go_meet
      exact ⟨rfl, rfl, rfl, rfl, ma', mc', none, 0, H9.out, HR9.out⟩
    · as_aux_lemma =>
      go_wp2_with fail
      refine (rCut_any m ma mc e ad _ HRL.out HMC.out).mono ?_
      rintro en w7 ⟨ma', mc', rfl, hr, hb⟩
      have H7 := Lib.hid' (HJ.out.below hb)
      have HR8 := Lib.hid' (H7.out.keepM (.int .i64 (m.rCut e ad).2.1.e) (.int .i64 (m.rCut e ad).2.1.l) (.slice ma' (m.rCut e ad).2.1.cells.length mc') hr)
      have H8 := Lib.hid' (H7.out.setM (m.rCut e ad).2.1 ma' mc')
      have n0 := H7.out.bm'.box.1 0 _ rfl; have n1 := H7.out.bm'.box.1 1 _ rfl; have n2 := H7.out.bm'.box.1 2 _ rfl
      have f0 := H7.out.bm'.box.2.1 0; have f1 := H7.out.bm'.box.2.1 1; have f2 := H7.out.bm'.box.2.1 2
      have x1 := H7.out.ba.box.1 1 _ rfl; have x2 := H7.out.ba.box.1 2 _ rfl; have x3 := H7.out.ba.box.1 3 _ rfl
      clear hr hb b0 b1 b2 b3 m0 m1 m2
      unfold ruV
      go_wp2_with fail
      generalize (((w7.setCell ⟨N, 0, none⟩ (.int .i64 (m.rCut e ad).2.1.e)).setCell ⟨N, 1, none⟩ (.int .i64 (m.rCut e ad).2.1.l)).setCell ⟨N, 2, none⟩ (.slice ma' (m.rCut e ad).2.1.cells.length mc')) = w8 at *
      refine (cut_any e ad _ H8.out.unit H8.out.room (by omega)).mono ?_
      rintro en w9 ⟨rfl, hu, hf⟩
      have H9 := Lib.hid' (H8.out.step hu hf)
      have HR9 := Lib.hid' (H8.out.unit.rlist HR8.out hf)
      clear hu hf
      go_wp2_with fail
      go_meet
      exact ⟨rfl, rfl, rfl, rfl, ma', mc', none, 0, H9.out, HR9.out⟩
    · as_aux_lemma =>
      by_cases hc0 : m.cur e = 0
      · have HC := Lib.hid' hc0
        clear hc0
        go_wp2_with fail
        refine (rCur_any m ma mc e _).mono ?_
        rintro en w7 ⟨rfl, hb⟩
        have H7 := Lib.hid' (HJ.out.below hb)
        have HR7 := Lib.hid' (HRL.out.below (Nat.le_refl _) hb)
        have n0 := H7.out.bm'.box.1 0 _ rfl; have n1 := H7.out.bm'.box.1 1 _ rfl; have n2 := H7.out.bm'.box.1 2 _ rfl
        have x1 := H7.out.ba.box.1 1 _ rfl
        clear hb b0 b1 b2 b3 m0 m1 m2
        rw [show ((m.cur e : Nat) : Int) = 0 by rw [HC.out]; rfl]
        go_wp2_with fail
        refine (rTail_any m ma mc _ HR7.out HMB.out).mono ?_
        rintro en w8 ⟨rfl, hb⟩
        have H8 := Lib.hid' (H7.out.below hb)
        have HR8 := Lib.hid' (HR7.out.below (Nat.le_refl _) hb)
        have x1 := H8.out.ba.box.1 1 _ rfl
        clear hb n0 n1 n2
        go_wp2_with fail
        refine (Tail_any e _ H8.out.unit).mono ?_
        rintro en w9 ⟨rfl, hb9⟩
        have H9 := Lib.hid' (H8.out.below hb9)
        have HR9 := Lib.hid' (HR8.out.below (Nat.le_refl _) hb9)
        clear hb9
        go_wp2_with fail
        go_meet
        exact ⟨by rw [show (mS 7 m e ad d).2.2.1 = m.rTail from by simp [mS, HC.out]], by rw [show (mS 7 m e ad d).2.1 = m.cur e from rfl, HC.out]; rfl, rfl, rfl, ma, mc, none, 0, H9.out, HR9.out⟩
      · have HC := Lib.hid' hc0
        have hc1 : (((m.cur e : Nat) : Int) == 0) = false := by simpa using hc0
        have hc2 : ¬ ((m.cur e : Nat) : Int) = 0 := by omega
        go_wp2_with fail
        refine (rCur_any m ma mc e _).mono ?_
        rintro en w7 ⟨rfl, hb⟩
        have H7 := Lib.hid' (HJ.out.below hb)
        have HR7 := Lib.hid' (HRL.out.below (Nat.le_refl _) hb)
        have n0 := H7.out.bm'.box.1 0 _ rfl; have n1 := H7.out.bm'.box.1 1 _ rfl; have n2 := H7.out.bm'.box.1 2 _ rfl
        have x1 := H7.out.ba.box.1 1 _ rfl
        clear hb b0 b1 b2 b3 m0 m1 m2
        go_wp2_with fail
        have H8 := H7; have HR8 := HR7
        refine (Tail_any e _ H8.out.unit).mono ?_
        rintro en w9 ⟨rfl, hb9⟩
        have H9 := Lib.hid' (H8.out.below hb9)
        have HR9 := Lib.hid' (HR8.out.below (Nat.le_refl _) hb9)
        clear hb9
        go_wp2_with fail
        go_meet
        exact ⟨by rw [show (mS 7 m e ad d).2.2.1 = 0 from by simp [mS, HC.out]], by rw [show (mS 7 m e ad d).2.1 = m.cur e from rfl], rfl, rfl, ma, mc, none, 0, H9.out, HR9.out⟩
  case rest =>
    have hul := uS_len u kn e ad d
    have HUL := Lib.hid' (show (uS kn u e ad d).1.cells.length ≤ 1048576 by omega)
    clear b0 b1 b2 b3 m0 m1 m2 HJ huc HMB HMC HM HKN hul
    generalize mS kn m e ad d = M at *
    generalize uS kn u e ad d = V at *
    obtain ⟨rfl, rfl, rfl, rfl, ma', mc', ca, cc, hj, hr⟩ := hcut
    obtain ⟨m', bad, n, x⟩ := M
    obtain ⟨u', er, k, c⟩ := V
    dsimp only at *
    have HJ := Lib.hid' hj
    have HR := Lib.hid' hr
    clear hj hr
    have b3 := HJ.out.ba.box.1 3 _ rfl
    have c0 := HJ.out.bc.box.1 0 _ rfl; have c1' := HJ.out.bc.box.1 1 _ rfl
    have x0 := HJ.out.bx.box.1 0 _ rfl; have x1 := HJ.out.bx.box.1 1 _ rfl
    have HCB := Lib.hid' (show Bytes wc (.slice ca c.d.length cc) c.d from SlV.of_own HJ.out.cown)
    have s1 : N + 1 < wc.heap.size := HJ.out.ba.lt
    have s2 : X + 1 < wc.heap.size := HJ.out.bc.lt
    have s3 : X < wc.heap.size := HJ.out.bx.lt
    go_upto_region 30 with fail
    go_cut [15] (fun v15 wx => v15 = .bool (okS (m', bad, n, x) (u', er, k, c)) ∧ Below wc.heap.size wc wx)
    case first =>
     as_aux_lemma =>
      by_cases hnk : n = k
      rotate_left
      · have hnb : (n == k) = false := by simpa using hnk
        have HK := Lib.hid' (show okS (m', bad, n, x) (u', er, k, c) = false by simp [okS, hnk])
        clear hnk
        refine wp_region_held_drew (S := (fun w' => w'.cell? ⟨N + 1, 3, none⟩ = some (.slice da d.length dc) ∧ w'.cell? ⟨X + 1, 0, none⟩ = some (.int .i64 c.k) ∧ w'.cell? ⟨X + 1, 1, none⟩ = some (.slice ca c.d.length cc) ∧ w'.cell? ⟨X, 0, none⟩ = some (.int .i64 x.k) ∧ w'.cell? ⟨X, 1, none⟩ = some (.string (strOf x.d)))) (by kernel_rfl) ⟨by simpa using b3, by simpa using c0, by simpa using c1', by simpa using x0, by simpa using x1⟩ (fun hH0 => ?_)
        refine wpAnyH_take (i := 0) (oi := _) (v := .int .i64 n) rfl (by kernel_rfl) (by kernel_rfl) (by kernel_rfl) (fun _ _ _ h => h) (Or.inl ⟨by rfl, ?_⟩) hH0 ?_
        · intro w hSw; go_simp
        simp only [Act.put, List.getElem_toArray, List.getElem_cons_zero, List.getElem_cons_succ, List.setIfInBounds_toArray, List.set_cons_zero, List.set_cons_succ]
        refine wpAnyH_take (i := 1) (oi := _) (v := .int .i64 k) rfl (by kernel_rfl) (by kernel_rfl) (by kernel_rfl) (fun _ _ _ h => h) (Or.inl ⟨by rfl, ?_⟩) hH0 ?_
        · intro w hSw; go_simp
        simp only [Act.put, List.getElem_toArray, List.getElem_cons_zero, List.getElem_cons_succ, List.setIfInBounds_toArray, List.set_cons_zero, List.set_cons_succ]
        refine wpAnyH_take (i := 2) (oi := _) (v := .bool false) rfl (by kernel_rfl) (by kernel_rfl) (by kernel_rfl) (fun _ _ _ h => h) (Or.inl ⟨by rfl, ?_⟩) hH0 ?_
        · intro w hSw; go_simp
        simp only [Act.put, List.getElem_toArray, List.getElem_cons_zero, List.getElem_cons_succ, List.setIfInBounds_toArray, List.set_cons_zero, List.set_cons_succ]
        refine wpAnyH_take (i := 3) (oi := _) (v := .bool false) rfl (by kernel_rfl) (by kernel_rfl) (by kernel_rfl) (fun _ _ _ h => h) (Or.inl ⟨by rfl, ?_⟩) hH0 ?_
        · intro w hSw; go_simp
        simp only [Act.put, List.getElem_toArray, List.getElem_cons_zero, List.getElem_cons_succ, List.setIfInBounds_toArray, List.set_cons_zero, List.set_cons_succ]
        refine wpAnyH_take (i := 4) (oi := _) (v := undef) rfl (by kernel_rfl) (by kernel_rfl) (by kernel_rfl) (fun _ _ _ h => h) (Or.inr ⟨by kernel_rfl, rfl⟩) hH0 ?_
        simp only [Act.put, List.getElem_toArray, List.getElem_cons_zero, List.getElem_cons_succ, List.setIfInBounds_toArray, List.set_cons_zero, List.set_cons_succ]
        refine wpAnyH_take (i := 5) (oi := _) (v := undef) rfl (by kernel_rfl) (by kernel_rfl) (by kernel_rfl) (fun _ _ _ h => h) (Or.inr ⟨by kernel_rfl, rfl⟩) hH0 ?_
        simp only [Act.put, List.getElem_toArray, List.getElem_cons_zero, List.getElem_cons_succ, List.setIfInBounds_toArray, List.set_cons_zero, List.set_cons_succ]
        refine wpAnyH_take (i := 6) (oi := _) (v := undef) rfl (by kernel_rfl) (by kernel_rfl) (by kernel_rfl) (fun _ _ _ h => h) (Or.inr ⟨by kernel_rfl, rfl⟩) hH0 ?_
        simp only [Act.put, List.getElem_toArray, List.getElem_cons_zero, List.getElem_cons_succ, List.setIfInBounds_toArray, List.set_cons_zero, List.set_cons_succ]
        refine wpAnyH_take (i := 7) (oi := _) (v := undef) rfl (by kernel_rfl) (by kernel_rfl) (by kernel_rfl) (fun _ _ _ h => h) (Or.inr ⟨by kernel_rfl, rfl⟩) hH0 ?_
        simp only [Act.put, List.getElem_toArray, List.getElem_cons_zero, List.getElem_cons_succ, List.setIfInBounds_toArray, List.set_cons_zero, List.set_cons_succ]
        refine wpAnyH_take (i := 8) (oi := _) (v := .bool false) rfl (by kernel_rfl) (by kernel_rfl) (by kernel_rfl) (fun _ _ _ h => h) (Or.inl ⟨by rfl, ?_⟩) hH0 ?_
        · intro w hSw; go_simp
        simp only [Act.put, List.getElem_toArray, List.getElem_cons_zero, List.getElem_cons_succ, List.setIfInBounds_toArray, List.set_cons_zero, List.set_cons_succ]
        refine wpAnyH_take (i := 9) (oi := _) (v := .bool false) rfl (by kernel_rfl) (by kernel_rfl) (by kernel_rfl) (fun _ _ _ h => h) (Or.inl ⟨by rfl, ?_⟩) hH0 ?_
        · intro w hSw; go_simp
        simp only [Act.put, List.getElem_toArray, List.getElem_cons_zero, List.getElem_cons_succ, List.setIfInBounds_toArray, List.set_cons_zero, List.set_cons_succ]
        refine wpAnyH_take (i := 10) (oi := _) (v := undef) rfl (by kernel_rfl) (by kernel_rfl) (by kernel_rfl) (fun _ _ _ h => h) (Or.inr ⟨by kernel_rfl, rfl⟩) hH0 ?_
        simp only [Act.put, List.getElem_toArray, List.getElem_cons_zero, List.getElem_cons_succ, List.setIfInBounds_toArray, List.set_cons_zero, List.set_cons_succ]
        refine wpAnyH_take (i := 11) (oi := _) (v := undef) rfl (by kernel_rfl) (by kernel_rfl) (by kernel_rfl) (fun _ _ _ h => h) (Or.inr ⟨by kernel_rfl, rfl⟩) hH0 ?_
        simp only [Act.put, List.getElem_toArray, List.getElem_cons_zero, List.getElem_cons_succ, List.setIfInBounds_toArray, List.set_cons_zero, List.set_cons_succ]
        refine wpAnyH_take (i := 12) (oi := _) (v := undef) rfl (by kernel_rfl) (by kernel_rfl) (by kernel_rfl) (fun _ _ _ h => h) (Or.inr ⟨by kernel_rfl, rfl⟩) hH0 ?_
        simp only [Act.put, List.getElem_toArray, List.getElem_cons_zero, List.getElem_cons_succ, List.setIfInBounds_toArray, List.set_cons_zero, List.set_cons_succ]
        refine wpAnyH_take (i := 13) (oi := _) (v := undef) rfl (by kernel_rfl) (by kernel_rfl) (by kernel_rfl) (fun _ _ _ h => h) (Or.inr ⟨by kernel_rfl, rfl⟩) hH0 ?_
        simp only [Act.put, List.getElem_toArray, List.getElem_cons_zero, List.getElem_cons_succ, List.setIfInBounds_toArray, List.set_cons_zero, List.set_cons_succ]
        refine wpAnyH_take (i := 14) (oi := _) (v := .bool false) rfl (by kernel_rfl) (by kernel_rfl) (by kernel_rfl) (fun _ _ _ h => h) (Or.inl ⟨by rfl, ?_⟩) hH0 ?_
        · intro w hSw; go_simp
        simp only [Act.put, List.getElem_toArray, List.getElem_cons_zero, List.getElem_cons_succ, List.setIfInBounds_toArray, List.set_cons_zero, List.set_cons_succ]
        refine wpAnyH_take (i := 15) (oi := _) (v := .bool false) rfl (by kernel_rfl) (by kernel_rfl) (by kernel_rfl) (fun _ _ _ h => h) (Or.inl ⟨by rfl, ?_⟩) hH0 ?_
        · intro w hSw; go_simp
        simp only [Act.put, List.getElem_toArray, List.getElem_cons_zero, List.getElem_cons_succ, List.setIfInBounds_toArray, List.set_cons_zero, List.set_cons_succ]
        refine wpAnyH_take (i := 16) (oi := _) (v := undef) rfl (by kernel_rfl) (by kernel_rfl) (by kernel_rfl) (fun _ _ _ h => h) (Or.inr ⟨by kernel_rfl, rfl⟩) hH0 ?_
        simp only [Act.put, List.getElem_toArray, List.getElem_cons_zero, List.getElem_cons_succ, List.setIfInBounds_toArray, List.set_cons_zero, List.set_cons_succ]
        refine wpAnyH_take (i := 17) (oi := _) (v := undef) rfl (by kernel_rfl) (by kernel_rfl) (by kernel_rfl) (fun _ _ _ h => h) (Or.inr ⟨by kernel_rfl, rfl⟩) hH0 ?_
        simp only [Act.put, List.getElem_toArray, List.getElem_cons_zero, List.getElem_cons_succ, List.setIfInBounds_toArray, List.set_cons_zero, List.set_cons_succ]
        refine wpAnyH_take (i := 18) (oi := _) (v := undef) rfl (by kernel_rfl) (by kernel_rfl) (by kernel_rfl) (fun _ _ _ h => h) (Or.inr ⟨by kernel_rfl, rfl⟩) hH0 ?_
        simp only [Act.put, List.getElem_toArray, List.getElem_cons_zero, List.getElem_cons_succ, List.setIfInBounds_toArray, List.set_cons_zero, List.set_cons_succ]
        refine wpAnyH_take (i := 19) (oi := _) (v := undef) rfl (by kernel_rfl) (by kernel_rfl) (by kernel_rfl) (fun _ _ _ h => h) (Or.inr ⟨by kernel_rfl, rfl⟩) hH0 ?_
        simp only [Act.put, List.getElem_toArray, List.getElem_cons_zero, List.getElem_cons_succ, List.setIfInBounds_toArray, List.set_cons_zero, List.set_cons_succ]
        refine wpAnyH_take (i := 20) (oi := _) (v := .bool false) rfl (by kernel_rfl) (by kernel_rfl) (by kernel_rfl) (fun _ _ _ h => h) (Or.inl ⟨by rfl, ?_⟩) hH0 ?_
        · intro w hSw; go_simp
        simp only [Act.put, List.getElem_toArray, List.getElem_cons_zero, List.getElem_cons_succ, List.setIfInBounds_toArray, List.set_cons_zero, List.set_cons_succ]
        refine wpAnyH_take (i := 21) (oi := _) (v := .bool false) rfl (by kernel_rfl) (by kernel_rfl) (by kernel_rfl) (fun _ _ _ h => h) (Or.inl ⟨by rfl, ?_⟩) hH0 ?_
        · intro w hSw; go_simp
        simp only [Act.put, List.getElem_toArray, List.getElem_cons_zero, List.getElem_cons_succ, List.setIfInBounds_toArray, List.set_cons_zero, List.set_cons_succ]
        refine wpAnyH_done (by kernel_rfl) ?_ _
        go_wp2_with fail
        go_meet
        exact ⟨by rw [HK.out], Below.drew (Below.refl _ _)⟩
      subst hnk
      by_cases heb : er = bad
      rotate_left
      · have heb1 : ((er : Int) == (bad : Int)) = false := by simp; omega
        have HK := Lib.hid' (show okS (m', bad, n, x) (u', er, n, c) = false by simp [okS, heb])
        clear heb
        refine wp_region_held_drew (S := (fun w' => w'.cell? ⟨N + 1, 3, none⟩ = some (.slice da d.length dc) ∧ w'.cell? ⟨X + 1, 0, none⟩ = some (.int .i64 c.k) ∧ w'.cell? ⟨X + 1, 1, none⟩ = some (.slice ca c.d.length cc) ∧ w'.cell? ⟨X, 0, none⟩ = some (.int .i64 x.k) ∧ w'.cell? ⟨X, 1, none⟩ = some (.string (strOf x.d)))) (by kernel_rfl) ⟨by simpa using b3, by simpa using c0, by simpa using c1', by simpa using x0, by simpa using x1⟩ (fun hH0 => ?_)
        refine wpAnyH_take (i := 0) (oi := _) (v := .int .i64 n) rfl (by kernel_rfl) (by kernel_rfl) (by kernel_rfl) (fun _ _ _ h => h) (Or.inl ⟨by rfl, ?_⟩) hH0 ?_
        · intro w hSw; go_simp
        simp only [Act.put, List.getElem_toArray, List.getElem_cons_zero, List.getElem_cons_succ, List.setIfInBounds_toArray, List.set_cons_zero, List.set_cons_succ]
        refine wpAnyH_take (i := 1) (oi := _) (v := .int .i64 n) rfl (by kernel_rfl) (by kernel_rfl) (by kernel_rfl) (fun _ _ _ h => h) (Or.inl ⟨by rfl, ?_⟩) hH0 ?_
        · intro w hSw; go_simp
        simp only [Act.put, List.getElem_toArray, List.getElem_cons_zero, List.getElem_cons_succ, List.setIfInBounds_toArray, List.set_cons_zero, List.set_cons_succ]
        refine wpAnyH_take (i := 2) (oi := _) (v := .bool true) rfl (by kernel_rfl) (by kernel_rfl) (by kernel_rfl) (fun _ _ _ h => h) (Or.inl ⟨by rfl, ?_⟩) hH0 ?_
        · intro w hSw; go_simp
        simp only [Act.put, List.getElem_toArray, List.getElem_cons_zero, List.getElem_cons_succ, List.setIfInBounds_toArray, List.set_cons_zero, List.set_cons_succ]
        refine wpAnyH_take (i := 3) (oi := _) (v := .bool true) rfl (by kernel_rfl) (by kernel_rfl) (by kernel_rfl) (fun _ _ _ h => h) (Or.inl ⟨by rfl, ?_⟩) hH0 ?_
        · intro w hSw; go_simp
        simp only [Act.put, List.getElem_toArray, List.getElem_cons_zero, List.getElem_cons_succ, List.setIfInBounds_toArray, List.set_cons_zero, List.set_cons_succ]
        refine wpAnyH_take (i := 4) (oi := _) (v := errV er) rfl (by kernel_rfl) (by kernel_rfl) (by kernel_rfl) (fun _ _ _ h => h) (Or.inl ⟨by rfl, ?_⟩) hH0 ?_
        · intro w hSw; go_simp
        simp only [Act.put, List.getElem_toArray, List.getElem_cons_zero, List.getElem_cons_succ, List.setIfInBounds_toArray, List.set_cons_zero, List.set_cons_succ]
        refine wpAnyH_take (i := 6) (oi := _) (v := .int .i64 (bad : Int)) rfl (by kernel_rfl) (by kernel_rfl) (by kernel_rfl) (fun _ _ _ h => h) (Or.inl ⟨by rfl, ?_⟩) hH0 ?_
        · intro w hSw; go_simp
        simp only [Act.put, List.getElem_toArray, List.getElem_cons_zero, List.getElem_cons_succ, List.setIfInBounds_toArray, List.set_cons_zero, List.set_cons_succ]
        refine wpAnyH_ready (rs := [5]) (by kernel_rfl) (by simp) (AllReadyH.cons (o := _) rfl (fun K hK => ?_) AllReadyH.nil)
        go_simp
        refine (num_any er _).mono ?_
        rintro en w' ⟨rfl, rfl⟩
        refine hK.out _ _ ?_ (fun hH1 => ?_)
        · exact hH0
        clear hK K
        refine wpAnyH_take (i := 7) (oi := _) (v := .bool false) rfl (by kernel_rfl) (by kernel_rfl) (by kernel_rfl) (fun _ _ _ h => h) (Or.inl ⟨by rfl, ?_⟩) hH1 ?_
        · intro w hSw; go_simp
        simp only [Act.put, List.getElem_toArray, List.getElem_cons_zero, List.getElem_cons_succ, List.setIfInBounds_toArray, List.set_cons_zero, List.set_cons_succ]
        refine wpAnyH_take (i := 8) (oi := _) (v := .bool false) rfl (by kernel_rfl) (by kernel_rfl) (by kernel_rfl) (fun _ _ _ h => h) (Or.inl ⟨by rfl, ?_⟩) hH1 ?_
        · intro w hSw; go_simp
        simp only [Act.put, List.getElem_toArray, List.getElem_cons_zero, List.getElem_cons_succ, List.setIfInBounds_toArray, List.set_cons_zero, List.set_cons_succ]
        refine wpAnyH_take (i := 9) (oi := _) (v := .bool false) rfl (by kernel_rfl) (by kernel_rfl) (by kernel_rfl) (fun _ _ _ h => h) (Or.inl ⟨by rfl, ?_⟩) hH1 ?_
        · intro w hSw; go_simp
        simp only [Act.put, List.getElem_toArray, List.getElem_cons_zero, List.getElem_cons_succ, List.setIfInBounds_toArray, List.set_cons_zero, List.set_cons_succ]
        refine wpAnyH_take (i := 10) (oi := _) (v := undef) rfl (by kernel_rfl) (by kernel_rfl) (by kernel_rfl) (fun _ _ _ h => h) (Or.inr ⟨by kernel_rfl, rfl⟩) hH1 ?_
        simp only [Act.put, List.getElem_toArray, List.getElem_cons_zero, List.getElem_cons_succ, List.setIfInBounds_toArray, List.set_cons_zero, List.set_cons_succ]
        refine wpAnyH_take (i := 11) (oi := _) (v := undef) rfl (by kernel_rfl) (by kernel_rfl) (by kernel_rfl) (fun _ _ _ h => h) (Or.inr ⟨by kernel_rfl, rfl⟩) hH1 ?_
        simp only [Act.put, List.getElem_toArray, List.getElem_cons_zero, List.getElem_cons_succ, List.setIfInBounds_toArray, List.set_cons_zero, List.set_cons_succ]
        refine wpAnyH_take (i := 12) (oi := _) (v := undef) rfl (by kernel_rfl) (by kernel_rfl) (by kernel_rfl) (fun _ _ _ h => h) (Or.inr ⟨by kernel_rfl, rfl⟩) hH1 ?_
        simp only [Act.put, List.getElem_toArray, List.getElem_cons_zero, List.getElem_cons_succ, List.setIfInBounds_toArray, List.set_cons_zero, List.set_cons_succ]
        refine wpAnyH_take (i := 13) (oi := _) (v := undef) rfl (by kernel_rfl) (by kernel_rfl) (by kernel_rfl) (fun _ _ _ h => h) (Or.inr ⟨by kernel_rfl, rfl⟩) hH1 ?_
        simp only [Act.put, List.getElem_toArray, List.getElem_cons_zero, List.getElem_cons_succ, List.setIfInBounds_toArray, List.set_cons_zero, List.set_cons_succ]
        refine wpAnyH_take (i := 14) (oi := _) (v := .bool false) rfl (by kernel_rfl) (by kernel_rfl) (by kernel_rfl) (fun _ _ _ h => h) (Or.inl ⟨by rfl, ?_⟩) hH1 ?_
        · intro w hSw; go_simp
        simp only [Act.put, List.getElem_toArray, List.getElem_cons_zero, List.getElem_cons_succ, List.setIfInBounds_toArray, List.set_cons_zero, List.set_cons_succ]
        refine wpAnyH_take (i := 15) (oi := _) (v := .bool false) rfl (by kernel_rfl) (by kernel_rfl) (by kernel_rfl) (fun _ _ _ h => h) (Or.inl ⟨by rfl, ?_⟩) hH1 ?_
        · intro w hSw; go_simp
        simp only [Act.put, List.getElem_toArray, List.getElem_cons_zero, List.getElem_cons_succ, List.setIfInBounds_toArray, List.set_cons_zero, List.set_cons_succ]
        refine wpAnyH_take (i := 16) (oi := _) (v := undef) rfl (by kernel_rfl) (by kernel_rfl) (by kernel_rfl) (fun _ _ _ h => h) (Or.inr ⟨by kernel_rfl, rfl⟩) hH1 ?_
        simp only [Act.put, List.getElem_toArray, List.getElem_cons_zero, List.getElem_cons_succ, List.setIfInBounds_toArray, List.set_cons_zero, List.set_cons_succ]
        refine wpAnyH_take (i := 17) (oi := _) (v := undef) rfl (by kernel_rfl) (by kernel_rfl) (by kernel_rfl) (fun _ _ _ h => h) (Or.inr ⟨by kernel_rfl, rfl⟩) hH1 ?_
        simp only [Act.put, List.getElem_toArray, List.getElem_cons_zero, List.getElem_cons_succ, List.setIfInBounds_toArray, List.set_cons_zero, List.set_cons_succ]
        refine wpAnyH_take (i := 18) (oi := _) (v := undef) rfl (by kernel_rfl) (by kernel_rfl) (by kernel_rfl) (fun _ _ _ h => h) (Or.inr ⟨by kernel_rfl, rfl⟩) hH1 ?_
        simp only [Act.put, List.getElem_toArray, List.getElem_cons_zero, List.getElem_cons_succ, List.setIfInBounds_toArray, List.set_cons_zero, List.set_cons_succ]
        refine wpAnyH_take (i := 19) (oi := _) (v := undef) rfl (by kernel_rfl) (by kernel_rfl) (by kernel_rfl) (fun _ _ _ h => h) (Or.inr ⟨by kernel_rfl, rfl⟩) hH1 ?_
        simp only [Act.put, List.getElem_toArray, List.getElem_cons_zero, List.getElem_cons_succ, List.setIfInBounds_toArray, List.set_cons_zero, List.set_cons_succ]
        refine wpAnyH_take (i := 20) (oi := _) (v := .bool false) rfl (by kernel_rfl) (by kernel_rfl) (by kernel_rfl) (fun _ _ _ h => h) (Or.inl ⟨by rfl, ?_⟩) hH1 ?_
        · intro w hSw; go_simp
        simp only [Act.put, List.getElem_toArray, List.getElem_cons_zero, List.getElem_cons_succ, List.setIfInBounds_toArray, List.set_cons_zero, List.set_cons_succ]
        refine wpAnyH_take (i := 21) (oi := _) (v := .bool false) rfl (by kernel_rfl) (by kernel_rfl) (by kernel_rfl) (fun _ _ _ h => h) (Or.inl ⟨by rfl, ?_⟩) hH1 ?_
        · intro w hSw; go_simp
        simp only [Act.put, List.getElem_toArray, List.getElem_cons_zero, List.getElem_cons_succ, List.setIfInBounds_toArray, List.set_cons_zero, List.set_cons_succ]
        refine wpAnyH_done (by kernel_rfl) ?_ _
        go_wp2_with fail
        go_meet
        exact ⟨by rw [HK.out], Below.drew (Below.refl _ _)⟩
      subst heb
      cases hcx : (c.k == x.k && (strOf c.d).toList == (strOf x.d).toList)
      · have HK := Lib.hid' (show okS (m', er, n, x) (u', er, n, c) = false by
          simp only [okS]; simp; intro h; subst h; simp at hcx)
        refine wp_region_held_drew (S := (fun w' => w'.cell? ⟨N + 1, 3, none⟩ = some (.slice da d.length dc) ∧ w'.cell? ⟨X + 1, 0, none⟩ = some (.int .i64 c.k) ∧ w'.cell? ⟨X + 1, 1, none⟩ = some (.slice ca c.d.length cc) ∧ w'.cell? ⟨X, 0, none⟩ = some (.int .i64 x.k) ∧ w'.cell? ⟨X, 1, none⟩ = some (.string (strOf x.d)))) (by kernel_rfl) ⟨by simpa using b3, by simpa using c0, by simpa using c1', by simpa using x0, by simpa using x1⟩ (fun hH0 => ?_)
        refine wpAnyH_take (i := 0) (oi := _) (v := .int .i64 n) rfl (by kernel_rfl) (by kernel_rfl) (by kernel_rfl) (fun _ _ _ h => h) (Or.inl ⟨by rfl, ?_⟩) hH0 ?_
        · intro w hSw; go_simp
        simp only [Act.put, List.getElem_toArray, List.getElem_cons_zero, List.getElem_cons_succ, List.setIfInBounds_toArray, List.set_cons_zero, List.set_cons_succ]
        refine wpAnyH_take (i := 1) (oi := _) (v := .int .i64 n) rfl (by kernel_rfl) (by kernel_rfl) (by kernel_rfl) (fun _ _ _ h => h) (Or.inl ⟨by rfl, ?_⟩) hH0 ?_
        · intro w hSw; go_simp
        simp only [Act.put, List.getElem_toArray, List.getElem_cons_zero, List.getElem_cons_succ, List.setIfInBounds_toArray, List.set_cons_zero, List.set_cons_succ]
        refine wpAnyH_take (i := 2) (oi := _) (v := .bool true) rfl (by kernel_rfl) (by kernel_rfl) (by kernel_rfl) (fun _ _ _ h => h) (Or.inl ⟨by rfl, ?_⟩) hH0 ?_
        · intro w hSw; go_simp
        simp only [Act.put, List.getElem_toArray, List.getElem_cons_zero, List.getElem_cons_succ, List.setIfInBounds_toArray, List.set_cons_zero, List.set_cons_succ]
        refine wpAnyH_take (i := 3) (oi := _) (v := .bool true) rfl (by kernel_rfl) (by kernel_rfl) (by kernel_rfl) (fun _ _ _ h => h) (Or.inl ⟨by rfl, ?_⟩) hH0 ?_
        · intro w hSw; go_simp
        simp only [Act.put, List.getElem_toArray, List.getElem_cons_zero, List.getElem_cons_succ, List.setIfInBounds_toArray, List.set_cons_zero, List.set_cons_succ]
        refine wpAnyH_take (i := 4) (oi := _) (v := errV er) rfl (by kernel_rfl) (by kernel_rfl) (by kernel_rfl) (fun _ _ _ h => h) (Or.inl ⟨by rfl, ?_⟩) hH0 ?_
        · intro w hSw; go_simp
        simp only [Act.put, List.getElem_toArray, List.getElem_cons_zero, List.getElem_cons_succ, List.setIfInBounds_toArray, List.set_cons_zero, List.set_cons_succ]
        refine wpAnyH_take (i := 6) (oi := _) (v := .int .i64 (er : Int)) rfl (by kernel_rfl) (by kernel_rfl) (by kernel_rfl) (fun _ _ _ h => h) (Or.inl ⟨by rfl, ?_⟩) hH0 ?_
        · intro w hSw; go_simp
        simp only [Act.put, List.getElem_toArray, List.getElem_cons_zero, List.getElem_cons_succ, List.setIfInBounds_toArray, List.set_cons_zero, List.set_cons_succ]
        refine wpAnyH_ready (rs := [5]) (by kernel_rfl) (by simp) (AllReadyH.cons (o := _) rfl (fun K hK => ?_) AllReadyH.nil)
        go_simp
        refine (num_any er _).mono ?_
        rintro en w' ⟨rfl, rfl⟩
        refine hK.out _ _ ?_ (fun hH1 => ?_)
        · exact hH0
        clear hK K
        refine wpAnyH_take (i := 7) (oi := _) (v := .bool true) rfl (by kernel_rfl) (by kernel_rfl) (by kernel_rfl) (fun _ _ _ h => h) (Or.inl ⟨by rfl, ?_⟩) hH1 ?_
        · intro w hSw; go_simp
        simp only [Act.put, List.getElem_toArray, List.getElem_cons_zero, List.getElem_cons_succ, List.setIfInBounds_toArray, List.set_cons_zero, List.set_cons_succ]
        refine wpAnyH_take (i := 8) (oi := _) (v := .bool true) rfl (by kernel_rfl) (by kernel_rfl) (by kernel_rfl) (fun _ _ _ h => h) (Or.inl ⟨by rfl, ?_⟩) hH1 ?_
        · intro w hSw; go_simp
        simp only [Act.put, List.getElem_toArray, List.getElem_cons_zero, List.getElem_cons_succ, List.setIfInBounds_toArray, List.set_cons_zero, List.set_cons_succ]
        refine wpAnyH_take (i := 9) (oi := _) (v := .bool true) rfl (by kernel_rfl) (by kernel_rfl) (by kernel_rfl) (fun _ _ _ h => h) (Or.inl ⟨by rfl, ?_⟩) hH1 ?_
        · intro w hSw; go_simp
        simp only [Act.put, List.getElem_toArray, List.getElem_cons_zero, List.getElem_cons_succ, List.setIfInBounds_toArray, List.set_cons_zero, List.set_cons_succ]
        refine wpAnyH_take (i := 10) (oi := _) (v := .agg #[.int .i64 c.k, .slice ca c.d.length cc]) rfl (by kernel_rfl) (by kernel_rfl) (by kernel_rfl) (fun _ _ _ h => h) (Or.inl ⟨by rfl, ?_⟩) hH1 ?_
        · intro w hSw; go_simp
        simp only [Act.put, List.getElem_toArray, List.getElem_cons_zero, List.getElem_cons_succ, List.setIfInBounds_toArray, List.set_cons_zero, List.set_cons_succ]
        refine wpAnyH_take (i := 12) (oi := _) (v := .agg #[.int .i64 x.k, .string (strOf x.d)]) rfl (by kernel_rfl) (by kernel_rfl) (by kernel_rfl) (fun _ _ _ h => h) (Or.inl ⟨by rfl, ?_⟩) hH1 ?_
        · intro w hSw; go_simp
        simp only [Act.put, List.getElem_toArray, List.getElem_cons_zero, List.getElem_cons_succ, List.setIfInBounds_toArray, List.set_cons_zero, List.set_cons_succ]
        refine wpAnyH_ready (rs := [11]) (by kernel_rfl) (by simp) (AllReadyH.cons (o := _) rfl (fun K hK => ?_) AllReadyH.nil)
        go_simp
        refine (docCell_at c.k c.d _ _ wc.drew (show Bytes wc.drew _ _ from HCB.out)).mono ?_
        rintro en w5 ⟨rfl, hb5⟩
        have z0 : w5.cell? ⟨N + 1, 3, none⟩ = some (.slice da d.length dc) := ((bcell hb5).1 _ _ s1).trans b3
        have z1 : w5.cell? ⟨X + 1, 0, none⟩ = some (.int .i64 c.k) := ((bcell hb5).1 _ _ s2).trans c0
        have z2 : w5.cell? ⟨X + 1, 1, none⟩ = some (.slice ca c.d.length cc) := ((bcell hb5).1 _ _ s2).trans c1'
        have z3 : w5.cell? ⟨X, 0, none⟩ = some (.int .i64 x.k) := ((bcell hb5).1 _ _ s3).trans x0
        have z4 : w5.cell? ⟨X, 1, none⟩ = some (.string (strOf x.d)) := ((bcell hb5).1 _ _ s3).trans x1
        have HB5 := Lib.hid' (below_call (Below.drew (Below.refl wc.heap.size wc)) (Nat.le_refl _) hb5)
        clear hb5
        refine hK.out _ _ ?_ (fun hH2 => ?_)
        · exact ⟨z0, z1, z2, z3, z4⟩
        clear hK K
        refine wpAnyH_take (i := 13) (oi := _) (v := .bool false) rfl (by kernel_rfl) (by kernel_rfl) (by kernel_rfl) (fun _ _ _ h => h) (Or.inl ⟨by rfl, ?_⟩) hH2 ?_
        · intro w hSw; go_simp; intro h1 h2; simp [h1, h2] at hcx
        simp only [Act.put, List.getElem_toArray, List.getElem_cons_zero, List.getElem_cons_succ, List.setIfInBounds_toArray, List.set_cons_zero, List.set_cons_succ]
        refine wpAnyH_take (i := 14) (oi := _) (v := .bool false) rfl (by kernel_rfl) (by kernel_rfl) (by kernel_rfl) (fun _ _ _ h => h) (Or.inl ⟨by rfl, ?_⟩) hH2 ?_
        · intro w hSw; go_simp
        simp only [Act.put, List.getElem_toArray, List.getElem_cons_zero, List.getElem_cons_succ, List.setIfInBounds_toArray, List.set_cons_zero, List.set_cons_succ]
        refine wpAnyH_take (i := 15) (oi := _) (v := .bool false) rfl (by kernel_rfl) (by kernel_rfl) (by kernel_rfl) (fun _ _ _ h => h) (Or.inl ⟨by rfl, ?_⟩) hH2 ?_
        · intro w hSw; go_simp
        simp only [Act.put, List.getElem_toArray, List.getElem_cons_zero, List.getElem_cons_succ, List.setIfInBounds_toArray, List.set_cons_zero, List.set_cons_succ]
        refine wpAnyH_take (i := 16) (oi := _) (v := undef) rfl (by kernel_rfl) (by kernel_rfl) (by kernel_rfl) (fun _ _ _ h => h) (Or.inr ⟨by kernel_rfl, rfl⟩) hH2 ?_
        simp only [Act.put, List.getElem_toArray, List.getElem_cons_zero, List.getElem_cons_succ, List.setIfInBounds_toArray, List.set_cons_zero, List.set_cons_succ]
        refine wpAnyH_take (i := 17) (oi := _) (v := undef) rfl (by kernel_rfl) (by kernel_rfl) (by kernel_rfl) (fun _ _ _ h => h) (Or.inr ⟨by kernel_rfl, rfl⟩) hH2 ?_
        simp only [Act.put, List.getElem_toArray, List.getElem_cons_zero, List.getElem_cons_succ, List.setIfInBounds_toArray, List.set_cons_zero, List.set_cons_succ]
        refine wpAnyH_take (i := 18) (oi := _) (v := undef) rfl (by kernel_rfl) (by kernel_rfl) (by kernel_rfl) (fun _ _ _ h => h) (Or.inr ⟨by kernel_rfl, rfl⟩) hH2 ?_
        simp only [Act.put, List.getElem_toArray, List.getElem_cons_zero, List.getElem_cons_succ, List.setIfInBounds_toArray, List.set_cons_zero, List.set_cons_succ]
        refine wpAnyH_take (i := 19) (oi := _) (v := undef) rfl (by kernel_rfl) (by kernel_rfl) (by kernel_rfl) (fun _ _ _ h => h) (Or.inr ⟨by kernel_rfl, rfl⟩) hH2 ?_
        simp only [Act.put, List.getElem_toArray, List.getElem_cons_zero, List.getElem_cons_succ, List.setIfInBounds_toArray, List.set_cons_zero, List.set_cons_succ]
        refine wpAnyH_take (i := 20) (oi := _) (v := .bool false) rfl (by kernel_rfl) (by kernel_rfl) (by kernel_rfl) (fun _ _ _ h => h) (Or.inl ⟨by rfl, ?_⟩) hH2 ?_
        · intro w hSw; go_simp
        simp only [Act.put, List.getElem_toArray, List.getElem_cons_zero, List.getElem_cons_succ, List.setIfInBounds_toArray, List.set_cons_zero, List.set_cons_succ]
        refine wpAnyH_take (i := 21) (oi := _) (v := .bool false) rfl (by kernel_rfl) (by kernel_rfl) (by kernel_rfl) (fun _ _ _ h => h) (Or.inl ⟨by rfl, ?_⟩) hH2 ?_
        · intro w hSw; go_simp
        simp only [Act.put, List.getElem_toArray, List.getElem_cons_zero, List.getElem_cons_succ, List.setIfInBounds_toArray, List.set_cons_zero, List.set_cons_succ]
        refine wpAnyH_done (by kernel_rfl) ?_ _
        go_wp2_with fail
        go_meet
        exact ⟨by rw [HK.out], HB5.out⟩
      · have HK := Lib.hid' (show okS (m', er, n, x) (u', er, n, c) = true by
          simp only [Bool.and_eq_true, beq_iff_eq, strOf_toList] at hcx
          rw [show c = x from C.eq' hcx.1 hcx.2]; simp [okS])
        refine wp_region_held_drew (S := (fun w' => w'.cell? ⟨N + 1, 3, none⟩ = some (.slice da d.length dc) ∧ w'.cell? ⟨X + 1, 0, none⟩ = some (.int .i64 c.k) ∧ w'.cell? ⟨X + 1, 1, none⟩ = some (.slice ca c.d.length cc) ∧ w'.cell? ⟨X, 0, none⟩ = some (.int .i64 x.k) ∧ w'.cell? ⟨X, 1, none⟩ = some (.string (strOf x.d)))) (by kernel_rfl) ⟨by simpa using b3, by simpa using c0, by simpa using c1', by simpa using x0, by simpa using x1⟩ (fun hH0 => ?_)
        refine wpAnyH_take (i := 0) (oi := _) (v := .int .i64 n) rfl (by kernel_rfl) (by kernel_rfl) (by kernel_rfl) (fun _ _ _ h => h) (Or.inl ⟨by rfl, ?_⟩) hH0 ?_
        · intro w hSw; go_simp
        simp only [Act.put, List.getElem_toArray, List.getElem_cons_zero, List.getElem_cons_succ, List.setIfInBounds_toArray, List.set_cons_zero, List.set_cons_succ]
        refine wpAnyH_take (i := 1) (oi := _) (v := .int .i64 n) rfl (by kernel_rfl) (by kernel_rfl) (by kernel_rfl) (fun _ _ _ h => h) (Or.inl ⟨by rfl, ?_⟩) hH0 ?_
        · intro w hSw; go_simp
        simp only [Act.put, List.getElem_toArray, List.getElem_cons_zero, List.getElem_cons_succ, List.setIfInBounds_toArray, List.set_cons_zero, List.set_cons_succ]
        refine wpAnyH_take (i := 2) (oi := _) (v := .bool true) rfl (by kernel_rfl) (by kernel_rfl) (by kernel_rfl) (fun _ _ _ h => h) (Or.inl ⟨by rfl, ?_⟩) hH0 ?_
        · intro w hSw; go_simp
        simp only [Act.put, List.getElem_toArray, List.getElem_cons_zero, List.getElem_cons_succ, List.setIfInBounds_toArray, List.set_cons_zero, List.set_cons_succ]
        refine wpAnyH_take (i := 3) (oi := _) (v := .bool true) rfl (by kernel_rfl) (by kernel_rfl) (by kernel_rfl) (fun _ _ _ h => h) (Or.inl ⟨by rfl, ?_⟩) hH0 ?_
        · intro w hSw; go_simp
        simp only [Act.put, List.getElem_toArray, List.getElem_cons_zero, List.getElem_cons_succ, List.setIfInBounds_toArray, List.set_cons_zero, List.set_cons_succ]
        refine wpAnyH_take (i := 4) (oi := _) (v := errV er) rfl (by kernel_rfl) (by kernel_rfl) (by kernel_rfl) (fun _ _ _ h => h) (Or.inl ⟨by rfl, ?_⟩) hH0 ?_
        · intro w hSw; go_simp
        simp only [Act.put, List.getElem_toArray, List.getElem_cons_zero, List.getElem_cons_succ, List.setIfInBounds_toArray, List.set_cons_zero, List.set_cons_succ]
        refine wpAnyH_take (i := 6) (oi := _) (v := .int .i64 (er : Int)) rfl (by kernel_rfl) (by kernel_rfl) (by kernel_rfl) (fun _ _ _ h => h) (Or.inl ⟨by rfl, ?_⟩) hH0 ?_
        · intro w hSw; go_simp
        simp only [Act.put, List.getElem_toArray, List.getElem_cons_zero, List.getElem_cons_succ, List.setIfInBounds_toArray, List.set_cons_zero, List.set_cons_succ]
        refine wpAnyH_ready (rs := [5]) (by kernel_rfl) (by simp) (AllReadyH.cons (o := _) rfl (fun K hK => ?_) AllReadyH.nil)
        go_simp
        refine (num_any er _).mono ?_
        rintro en w' ⟨rfl, rfl⟩
        refine hK.out _ _ ?_ (fun hH1 => ?_)
        · exact hH0
        clear hK K
        refine wpAnyH_take (i := 7) (oi := _) (v := .bool true) rfl (by kernel_rfl) (by kernel_rfl) (by kernel_rfl) (fun _ _ _ h => h) (Or.inl ⟨by rfl, ?_⟩) hH1 ?_
        · intro w hSw; go_simp
        simp only [Act.put, List.getElem_toArray, List.getElem_cons_zero, List.getElem_cons_succ, List.setIfInBounds_toArray, List.set_cons_zero, List.set_cons_succ]
        refine wpAnyH_take (i := 8) (oi := _) (v := .bool true) rfl (by kernel_rfl) (by kernel_rfl) (by kernel_rfl) (fun _ _ _ h => h) (Or.inl ⟨by rfl, ?_⟩) hH1 ?_
        · intro w hSw; go_simp
        simp only [Act.put, List.getElem_toArray, List.getElem_cons_zero, List.getElem_cons_succ, List.setIfInBounds_toArray, List.set_cons_zero, List.set_cons_succ]
        refine wpAnyH_take (i := 9) (oi := _) (v := .bool true) rfl (by kernel_rfl) (by kernel_rfl) (by kernel_rfl) (fun _ _ _ h => h) (Or.inl ⟨by rfl, ?_⟩) hH1 ?_
        · intro w hSw; go_simp
        simp only [Act.put, List.getElem_toArray, List.getElem_cons_zero, List.getElem_cons_succ, List.setIfInBounds_toArray, List.set_cons_zero, List.set_cons_succ]
        refine wpAnyH_take (i := 10) (oi := _) (v := .agg #[.int .i64 c.k, .slice ca c.d.length cc]) rfl (by kernel_rfl) (by kernel_rfl) (by kernel_rfl) (fun _ _ _ h => h) (Or.inl ⟨by rfl, ?_⟩) hH1 ?_
        · intro w hSw; go_simp
        simp only [Act.put, List.getElem_toArray, List.getElem_cons_zero, List.getElem_cons_succ, List.setIfInBounds_toArray, List.set_cons_zero, List.set_cons_succ]
        refine wpAnyH_take (i := 12) (oi := _) (v := .agg #[.int .i64 x.k, .string (strOf x.d)]) rfl (by kernel_rfl) (by kernel_rfl) (by kernel_rfl) (fun _ _ _ h => h) (Or.inl ⟨by rfl, ?_⟩) hH1 ?_
        · intro w hSw; go_simp
        simp only [Act.put, List.getElem_toArray, List.getElem_cons_zero, List.getElem_cons_succ, List.setIfInBounds_toArray, List.set_cons_zero, List.set_cons_succ]
        refine wpAnyH_ready (rs := [11]) (by kernel_rfl) (by simp) (AllReadyH.cons (o := _) rfl (fun K hK => ?_) AllReadyH.nil)
        go_simp
        refine (docCell_at c.k c.d _ _ wc.drew (show Bytes wc.drew _ _ from HCB.out)).mono ?_
        rintro en w5 ⟨rfl, hb5⟩
        have z0 : w5.cell? ⟨N + 1, 3, none⟩ = some (.slice da d.length dc) := ((bcell hb5).1 _ _ s1).trans b3
        have z1 : w5.cell? ⟨X + 1, 0, none⟩ = some (.int .i64 c.k) := ((bcell hb5).1 _ _ s2).trans c0
        have z2 : w5.cell? ⟨X + 1, 1, none⟩ = some (.slice ca c.d.length cc) := ((bcell hb5).1 _ _ s2).trans c1'
        have z3 : w5.cell? ⟨X, 0, none⟩ = some (.int .i64 x.k) := ((bcell hb5).1 _ _ s3).trans x0
        have z4 : w5.cell? ⟨X, 1, none⟩ = some (.string (strOf x.d)) := ((bcell hb5).1 _ _ s3).trans x1
        have HB5 := Lib.hid' (below_call (Below.drew (Below.refl wc.heap.size wc)) (Nat.le_refl _) hb5)
        clear hb5
        refine hK.out _ _ ?_ (fun hH2 => ?_)
        · exact ⟨z0, z1, z2, z3, z4⟩
        clear hK K
        refine wpAnyH_take (i := 13) (oi := _) (v := .bool true) rfl (by kernel_rfl) (by kernel_rfl) (by kernel_rfl) (fun _ _ _ h => h) (Or.inl ⟨by rfl, ?_⟩) hH2 ?_
        · intro w hSw; go_simp; simp only [Bool.and_eq_true, beq_iff_eq] at hcx; rw [if_pos hcx.1, if_pos hcx.2]
        simp only [Act.put, List.getElem_toArray, List.getElem_cons_zero, List.getElem_cons_succ, List.setIfInBounds_toArray, List.set_cons_zero, List.set_cons_succ]
        refine wpAnyH_take (i := 14) (oi := _) (v := .bool true) rfl (by kernel_rfl) (by kernel_rfl) (by kernel_rfl) (fun _ _ _ h => h) (Or.inl ⟨by rfl, ?_⟩) hH2 ?_
        · intro w hSw; go_simp
        simp only [Act.put, List.getElem_toArray, List.getElem_cons_zero, List.getElem_cons_succ, List.setIfInBounds_toArray, List.set_cons_zero, List.set_cons_succ]
        refine wpAnyH_take (i := 15) (oi := _) (v := .bool true) rfl (by kernel_rfl) (by kernel_rfl) (by kernel_rfl) (fun _ _ _ h => h) (Or.inl ⟨by rfl, ?_⟩) hH2 ?_
        · intro w hSw; go_simp
        simp only [Act.put, List.getElem_toArray, List.getElem_cons_zero, List.getElem_cons_succ, List.setIfInBounds_toArray, List.set_cons_zero, List.set_cons_succ]
        refine wpAnyH_take (i := 16) (oi := _) (v := .slice a1 d.length c1) rfl (by kernel_rfl) (by kernel_rfl) (by kernel_rfl) (fun _ _ _ h => h) (Or.inl ⟨by rfl, ?_⟩) hH2 ?_
        · intro w hSw; go_simp
        simp only [Act.put, List.getElem_toArray, List.getElem_cons_zero, List.getElem_cons_succ, List.setIfInBounds_toArray, List.set_cons_zero, List.set_cons_succ]
        refine wpAnyH_take (i := 17) (oi := _) (v := .pointer (some ⟨N + 1, 3, none⟩)) rfl (by kernel_rfl) (by kernel_rfl) (by kernel_rfl) (fun _ _ _ h => h) (Or.inl ⟨by rfl, ?_⟩) hH2 ?_
        · intro w hSw; go_simp
        simp only [Act.put, List.getElem_toArray, List.getElem_cons_zero, List.getElem_cons_succ, List.setIfInBounds_toArray, List.set_cons_zero, List.set_cons_succ]
        refine wpAnyH_take (i := 18) (oi := _) (v := .slice da d.length dc) rfl (by kernel_rfl) (by kernel_rfl) (by kernel_rfl) (fun _ _ _ h => h) (Or.inl ⟨by rfl, ?_⟩) hH2 ?_
        · intro w hSw; go_simp
        simp only [Act.put, List.getElem_toArray, List.getElem_cons_zero, List.getElem_cons_succ, List.setIfInBounds_toArray, List.set_cons_zero, List.set_cons_succ]
        refine wpAnyH_ready (rs := [19]) (by kernel_rfl) (by simp) (AllReadyH.cons (o := _) rfl (fun K hK => ?_) AllReadyH.nil)
        go_simp
        refine (numBytes_any _ _ d d _ (SlV.below (SlV.of_own HJ.out.own) (Nat.le_refl _) HB5.out) (SlV.below HJ.out.dat (Nat.le_refl _) HB5.out)).mono ?_
        rintro en w' ⟨rfl, rfl⟩
        rw [show (d == d) = true by simp]
        refine hK.out _ _ ?_ (fun hH3 => ?_)
        · exact hH2
        clear hK K
        refine wpAnyH_take (i := 20) (oi := _) (v := .bool true) rfl (by kernel_rfl) (by kernel_rfl) (by kernel_rfl) (fun _ _ _ h => h) (Or.inl ⟨by rfl, ?_⟩) hH3 ?_
        · intro w hSw; go_simp
        simp only [Act.put, List.getElem_toArray, List.getElem_cons_zero, List.getElem_cons_succ, List.setIfInBounds_toArray, List.set_cons_zero, List.set_cons_succ]
        refine wpAnyH_take (i := 21) (oi := _) (v := .bool true) rfl (by kernel_rfl) (by kernel_rfl) (by kernel_rfl) (fun _ _ _ h => h) (Or.inl ⟨by rfl, ?_⟩) hH3 ?_
        · intro w hSw; go_simp
        simp only [Act.put, List.getElem_toArray, List.getElem_cons_zero, List.getElem_cons_succ, List.setIfInBounds_toArray, List.set_cons_zero, List.set_cons_succ]
        refine wpAnyH_done (by kernel_rfl) ?_ _
        go_wp2_with fail
        go_meet
        exact ⟨by rw [HK.out], HB5.out⟩
    case rest =>
     as_aux_lemma =>
      obtain ⟨rfl, hbx⟩ := hcut
      obtain ⟨ok, hok⟩ : ∃ ok, okS (m', bad, n, x) (u', er, k, c) = ok := ⟨_, rfl⟩
      rw [hok]
      have HOK := Lib.hid' hok
      clear hok
      have HJ2 := Lib.hid' (HJ.out.below hbx)
      have HR2 := Lib.hid' (HR.out.below (Nat.le_refl _) hbx)
      have HOB := Lib.hid' (OwnB.of_own HJ2.out.own rfl)
      clear HJ HR HCB b3 c0 c1' x0 x1 s1 s2 s3 hbx
      go_wp2_with fail
      go_loopw [179] (fun vi wr => ∃ (k : Nat), vi = .int .i64 k ∧ k ≤ d.length ∧ OwnB a1 d.length wr ∧ Fr (fun q => (Value.slice a1 d.length c1).ownBlock = some q) wc wr ∧ KeepB wc wr) (fun vi _ => d.length - (intOf vi).toNat)
      case atStart => exact ⟨0, rfl, Nat.zero_le _, HOB.out, Fr.refl _ _, KeepB.refl _⟩
      case round =>
        obtain ⟨i, rfl, hi, hob, hfr, hkb⟩ := hrel
        have HOr := Lib.hid' hob
        have HFr := Lib.hid' hfr
        have HKb := Lib.hid' hkb
        clear hob hfr hkb
        by_cases hlt : i < d.length
        · obtain ⟨g, rfl, hg, ⟨b, hcell⟩, hfz⟩ := HOr.out.get hlt
          have Hlt := Lib.hid' hlt
          have HCL := Lib.hid' hcell
          have hcel2 : wr.cell? ⟨g, i, none⟩ = some (.int .u8 b.toNat) := hcell
          clear hcell
          go_wp2
          have hst : Value.int .u8 ((b ^^^ 255).toNat : Int) = byteV (b ^^^ 255) := rfl
          rw [xor_byte, hst]
          refine ⟨⟨i + 1, ?_, ?_, ?_, ?_, ?_⟩, ?_⟩
          · go_num
          · have := Hlt.out; omega
          · exact HOr.out.set i (b ^^^ 255)
          · exact HFr.out.trans (fr_set _ _ _ _) (fun q hq => .inl (by subst hq; rfl))
          · exact HKb.out.trans (KeepB.set HCL.out _)
          · have := Hlt.out; simp [intOf]; omega
        · have z1 := HKb.out _ _ (HJ2.out.bc.box.1 1 _ rfl) (by intro b hb; cases hb)
          have hcl : c.d.length ≤ 9223372036854775807 := by
            obtain ⟨_, _, he, q1, q2, _⟩ := SlV.of_own HJ2.out.cown
            cases he; unfold maxLen at q2; omega
          have HOC := Lib.hid' ((OwnB.of_own HJ2.out.cown rfl).other HFr.out (fun g hg hq => by
            subst hg
            have h1 := HJ2.out.ownIn g hq
            have h2 := own_blk HJ2.out.cown (b := g) rfl
            omega))
          go_wp2_with fail
          obtain ⟨wo, rfl⟩ : ∃ wo : World, wo = wr := ⟨_, rfl⟩
          go_loopw [192] (fun vi wl => ∃ (j : Nat), vi = .int .i64 j ∧ j ≤ c.d.length ∧ OwnB ca c.d.length wl ∧ Fr (fun q => (Value.slice ca c.d.length cc).ownBlock = some q) wo wl ∧ KeepB wo wl) (fun vi _ => c.d.length - (intOf vi).toNat)
          case atStart => exact ⟨0, rfl, Nat.zero_le _, HOC.out, Fr.refl _ _, KeepB.refl _⟩
          case round =>
            obtain ⟨j, rfl, hj, hob, hfr, hkb⟩ := hrel
            have HOl := Lib.hid' hob
            have HFl := Lib.hid' hfr
            have HKl := Lib.hid' hkb
            have y1 := hkb _ _ z1 (by intro b hb; cases hb)
            clear hob hfr hkb z1
            by_cases hlt2 : j < c.d.length
            · obtain ⟨g, rfl, hg, ⟨b, hcell⟩, hfz⟩ := HOl.out.get hlt2
              have HCL := Lib.hid' hcell
              have hcel2 : wr.cell? ⟨g, j, none⟩ = some (.int .u8 b.toNat) := hcell
              have Hlt2 := Lib.hid' hlt2
              clear hcell
              go_wp2
              have hst2 : Value.int .u8 ((b ^^^ 255).toNat : Int) = byteV (b ^^^ 255) := rfl
              rw [xor_byte, hst2]
              refine ⟨⟨j + 1, ?_, ?_, ?_, ?_, ?_⟩, ?_⟩
              · go_num
              · have := Hlt2.out; omega
              · exact HOl.out.set j (b ^^^ 255)
              · exact HFl.out.trans (fr_set _ _ _ _) (fun q hq => .inl (by subst hq; rfl))
              · exact HKl.out.trans (KeepB.set HCL.out _)
              · have := Hlt2.out; simp [intOf]; omega
            · have HG := Lib.hid' (HJ2.out.over HFr.out HFl.out)
              have HRl := Lib.hid' (HKl.out.rlist (HKb.out.rlist HR2.out))
              clear HJ2 HFr HFl HR2 HOB HOr HKb HOC HOl HKl y1 hcl hi hlt
              have d0 := HG.out.bm'.box.1 0 _ rfl; have d1 := HG.out.bm'.box.1 1 _ rfl; have d2 := HG.out.bm'.box.1 2 _ rfl
              have r0 := HG.out.br.box.1 0 _ rfl; have r1 := HG.out.br.box.1 1 _ rfl; have r2 := HG.out.br.box.1 2 _ rfl
              have f0 := HG.out.br.box.2.1 0; have f1 := HG.out.br.box.2.1 1; have f2 := HG.out.br.box.2.1 2
              go_wp2_with fail
              rename_i Qx Kx Ax Ky Qy Kz Az K0 A0
              clear Ax Az
              clear Qx Qy
              have HB0 := Lib.hid' (Below.refl wr.heap.size wr)
              have hls := HG.out.br.lt
              have hn1 : ¬ N + 1 + 1 = N := by omega
              have hn2 : ¬ N = N + 1 + 1 := by omega
              cases ok with
              | false =>
                refine wp_region_held_drew (S := (fun w' => w'.cell? ⟨N, 0, none⟩ = some (.int .i64 m'.e) ∧ w'.cell? ⟨N, 1, none⟩ = some (.int .i64 m'.l) ∧ w'.cell? ⟨N, 2, none⟩ = some (.slice ma' m'.cells.length mc'))) (by kernel_rfl) ⟨by simpa using d0, by simpa using d1, by simpa using d2⟩ (fun hH0 => ?_)
                refine wpAnyH_take (i := 0) (oi := _) (v := .agg #[.int .i64 m'.e, .int .i64 m'.l, .slice ma' m'.cells.length mc']) rfl (by kernel_rfl) (by kernel_rfl) (by kernel_rfl) (fun _ _ _ h => h) (Or.inl ⟨by rfl, ?_⟩) hH0 ?_
                · intro w hSw; go_simp
                simp only [Act.put, List.getElem_toArray, List.getElem_cons_zero, List.getElem_cons_succ, List.setIfInBounds_toArray, List.set_cons_zero, List.set_cons_succ]
                refine wpAnyH_take (i := 1) (oi := _) (v := .bool false) rfl (by kernel_rfl) (by kernel_rfl) (by kernel_rfl) (fun _ _ _ h => h) (Or.inl ⟨by rfl, ?_⟩) hH0 ?_
                · intro w hSw; go_simp
                simp only [Act.put, List.getElem_toArray, List.getElem_cons_zero, List.getElem_cons_succ, List.setIfInBounds_toArray, List.set_cons_zero, List.set_cons_succ]
                refine wpAnyH_take (i := 2) (oi := _) (v := .bool false) rfl (by kernel_rfl) (by kernel_rfl) (by kernel_rfl) (fun _ _ _ h => h) (Or.inl ⟨by rfl, ?_⟩) hH0 ?_
                · intro w hSw; go_simp
                simp only [Act.put, List.getElem_toArray, List.getElem_cons_zero, List.getElem_cons_succ, List.setIfInBounds_toArray, List.set_cons_zero, List.set_cons_succ]
                refine wpAnyH_take (i := 3) (oi := _) (v := undef) rfl (by kernel_rfl) (by kernel_rfl) (by kernel_rfl) (fun _ _ _ h => h) (Or.inr ⟨by kernel_rfl, rfl⟩) hH0 ?_
                simp only [Act.put, List.getElem_toArray, List.getElem_cons_zero, List.getElem_cons_succ, List.setIfInBounds_toArray, List.set_cons_zero, List.set_cons_succ]
                refine wpAnyH_take (i := 4) (oi := _) (v := undef) rfl (by kernel_rfl) (by kernel_rfl) (by kernel_rfl) (fun _ _ _ h => h) (Or.inr ⟨by kernel_rfl, rfl⟩) hH0 ?_
                simp only [Act.put, List.getElem_toArray, List.getElem_cons_zero, List.getElem_cons_succ, List.setIfInBounds_toArray, List.set_cons_zero, List.set_cons_succ]
                refine wpAnyH_take (i := 5) (oi := _) (v := undef) rfl (by kernel_rfl) (by kernel_rfl) (by kernel_rfl) (fun _ _ _ h => h) (Or.inr ⟨by kernel_rfl, rfl⟩) hH0 ?_
                simp only [Act.put, List.getElem_toArray, List.getElem_cons_zero, List.getElem_cons_succ, List.setIfInBounds_toArray, List.set_cons_zero, List.set_cons_succ]
                refine wpAnyH_take (i := 6) (oi := _) (v := undef) rfl (by kernel_rfl) (by kernel_rfl) (by kernel_rfl) (fun _ _ _ h => h) (Or.inr ⟨by kernel_rfl, rfl⟩) hH0 ?_
                simp only [Act.put, List.getElem_toArray, List.getElem_cons_zero, List.getElem_cons_succ, List.setIfInBounds_toArray, List.set_cons_zero, List.set_cons_succ]
                refine wpAnyH_take (i := 7) (oi := _) (v := .bool false) rfl (by kernel_rfl) (by kernel_rfl) (by kernel_rfl) (fun _ _ _ h => h) (Or.inl ⟨by rfl, ?_⟩) hH0 ?_
                · intro w hSw; go_simp
                simp only [Act.put, List.getElem_toArray, List.getElem_cons_zero, List.getElem_cons_succ, List.setIfInBounds_toArray, List.set_cons_zero, List.set_cons_succ]
                refine wpAnyH_ready (rs := [8]) (by kernel_rfl) (by simp) (AllReadyH.cons (o := _) rfl (fun K hK => ?_) AllReadyH.nil)
                go_simp
                refine hK.out _ _ ?_ (fun hH1 => ?_)
                · simp [go_sem, d0, d1, d2, hn1, hn2]
                clear hK K
                refine wpAnyH_take (i := 9) (oi := _) (v := .bool false) rfl (by kernel_rfl) (by kernel_rfl) (by kernel_rfl) (fun _ _ _ h => h) (Or.inl ⟨by rfl, ?_⟩) hH1 ?_
                · intro w hSw; go_simp
                simp only [Act.put, List.getElem_toArray, List.getElem_cons_zero, List.getElem_cons_succ, List.setIfInBounds_toArray, List.set_cons_zero, List.set_cons_succ]
                refine wpAnyH_done (by kernel_rfl) ?_ _
                obtain ⟨hF, z0, z1, z2⟩ := HG.out.fin2 HRl.out (Below.refl _ _) (.int .i64 m'.e) (.int .i64 m'.l) (.slice ma' m'.cells.length mc') (w4 := (((wr.setCell ⟨N + 1 + 1, 0, none⟩ (.int .i64 m'.e)).setCell ⟨N + 1 + 1, 1, none⟩ (.int .i64 m'.l)).setCell ⟨N + 1 + 1, 2, none⟩ (.slice ma' m'.cells.length mc')).drew) ⟨_, rfl, .inr rfl⟩
                have HF := Lib.hid' hF
                clear hF hH0 hH1 d0 d1 d2 r0 r1 r2 f0 f1 f2 hls hn1 hn2 HB0
                generalize (((wr.setCell ⟨N + 1 + 1, 0, none⟩ (.int .i64 m'.e)).setCell ⟨N + 1 + 1, 1, none⟩ (.int .i64 m'.l)).setCell ⟨N + 1 + 1, 2, none⟩ (.slice ma' m'.cells.length mc')).drew = wz at *
                refine A0 _ _ ?_
                apply wp_ret
                refine bodyPost_ret (v := .tuple #[.agg #[.int .i64 m'.e, .int .i64 m'.l, .slice ma' m'.cells.length mc'], .bool false]) (by simp [results, Try.results46, go_sem, z0, z1, z2]) rfl ?_
                exact ⟨ma', mc', by rw [HOK.out]; rfl, HF.out.1, HF.out.2.1, HF.out.2.2⟩
              | true =>
                have HUd := Lib.hid' (HG.out.unit.below (Nat.le_refl _) (Below.drew (Below.refl wr.heap.size wr)))
                refine wp_region_held_drew (S := (fun w' => w'.cell? ⟨N, 0, none⟩ = some (.int .i64 m'.e) ∧ w'.cell? ⟨N, 1, none⟩ = some (.int .i64 m'.l) ∧ w'.cell? ⟨N, 2, none⟩ = some (.slice ma' m'.cells.length mc'))) (by kernel_rfl) ⟨by simpa using d0, by simpa using d1, by simpa using d2⟩ (fun hH0 => ?_)
                refine wpAnyH_take (i := 0) (oi := _) (v := .agg #[.int .i64 m'.e, .int .i64 m'.l, .slice ma' m'.cells.length mc']) rfl (by kernel_rfl) (by kernel_rfl) (by kernel_rfl) (fun _ _ _ h => h) (Or.inl ⟨by rfl, ?_⟩) hH0 ?_
                · intro w hSw; go_simp
                simp only [Act.put, List.getElem_toArray, List.getElem_cons_zero, List.getElem_cons_succ, List.setIfInBounds_toArray, List.set_cons_zero, List.set_cons_succ]
                refine wpAnyH_take (i := 1) (oi := _) (v := .bool true) rfl (by kernel_rfl) (by kernel_rfl) (by kernel_rfl) (fun _ _ _ h => h) (Or.inl ⟨by rfl, ?_⟩) hH0 ?_
                · intro w hSw; go_simp
                simp only [Act.put, List.getElem_toArray, List.getElem_cons_zero, List.getElem_cons_succ, List.setIfInBounds_toArray, List.set_cons_zero, List.set_cons_succ]
                refine wpAnyH_take (i := 2) (oi := _) (v := .bool true) rfl (by kernel_rfl) (by kernel_rfl) (by kernel_rfl) (fun _ _ _ h => h) (Or.inl ⟨by rfl, ?_⟩) hH0 ?_
                · intro w hSw; go_simp
                simp only [Act.put, List.getElem_toArray, List.getElem_cons_zero, List.getElem_cons_succ, List.setIfInBounds_toArray, List.set_cons_zero, List.set_cons_succ]
                refine wpAnyH_take (i := 3) (oi := _) (v := .pointer (some ⟨bu, 0, none⟩)) rfl (by kernel_rfl) (by kernel_rfl) (by kernel_rfl) (fun _ _ _ h => h) (Or.inl ⟨by rfl, ?_⟩) hH0 ?_
                · intro w hSw; go_simp
                simp only [Act.put, List.getElem_toArray, List.getElem_cons_zero, List.getElem_cons_succ, List.setIfInBounds_toArray, List.set_cons_zero, List.set_cons_succ]
                refine wpAnyH_take (i := 5) (oi := _) (v := .agg #[.int .i64 m'.e, .int .i64 m'.l, .slice ma' m'.cells.length mc']) rfl (by kernel_rfl) (by kernel_rfl) (by kernel_rfl) (fun _ _ _ h => h) (Or.inl ⟨by rfl, ?_⟩) hH0 ?_
                · intro w hSw; go_simp
                simp only [Act.put, List.getElem_toArray, List.getElem_cons_zero, List.getElem_cons_succ, List.setIfInBounds_toArray, List.set_cons_zero, List.set_cons_succ]
                refine wpAnyH_ready (rs := [4]) (by kernel_rfl) (by simp) (AllReadyH.cons (o := _) rfl (fun K hK => ?_) AllReadyH.nil)
                go_simp
                refine (doc_any _ HUd.out HUL.out).mono ?_
                rintro en w5 ⟨a5, c5, rfl, ho5, hb5⟩
                have HO5 := Lib.hid' (SlV.of_own ho5)
                have HB5 := Lib.hid' (show Below wr.heap.size wr w5 from below_call (Below.drew (Below.refl wr.heap.size wr)) (Nat.le_refl _) hb5)
                clear ho5 hb5
                have Hp := Lib.hid' (HG.out.below HB5.out)
                have p0 := Hp.out.bm'.box.1 0 _ rfl
                have p1 := Hp.out.bm'.box.1 1 _ rfl
                have p2 := Hp.out.bm'.box.1 2 _ rfl
                have p3 := Hp.out.br.box.1 0 _ rfl; have p6 := Hp.out.br.box.2.1 0
                have p4 := Hp.out.br.box.1 1 _ rfl; have p7 := Hp.out.br.box.2.1 1
                have p5 := Hp.out.br.box.1 2 _ rfl; have p8 := Hp.out.br.box.2.1 2
                have p9 := Hp.out.br.lt
                refine hK.out _ _ ?_ (fun hH1 => ?_)
                · exact ⟨p0, p1, p2⟩
                clear hK K
                clear d0 d1 d2 r0 r1 r2 f0 f1 f2 hls hH0
                refine wpAnyH_ready (rs := [6]) (by kernel_rfl) (by simp) (AllReadyH.cons (o := _) rfl (fun K hK => ?_) AllReadyH.nil)
                go_simp
                refine (same_doc u' m' a5 c5 ma' mc' _ HO5.out (SlV.below HRl.out (Nat.le_refl _) HB5.out)).mono ?_
                rintro en w6 ⟨rfl, hb6⟩
                have HB6 := Lib.hid' (show Below wr.heap.size wr w6 from below_call HB5.out HB5.out.size hb6)
                clear hb6
                have Hq := Lib.hid' (HG.out.below HB6.out)
                have q0 := Hq.out.bm'.box.1 0 _ rfl
                have q1 := Hq.out.bm'.box.1 1 _ rfl
                have q2 := Hq.out.bm'.box.1 2 _ rfl
                have q3 := Hq.out.br.box.1 0 _ rfl; have q6 := Hq.out.br.box.2.1 0
                have q4 := Hq.out.br.box.1 1 _ rfl; have q7 := Hq.out.br.box.2.1 1
                have q5 := Hq.out.br.box.1 2 _ rfl; have q8 := Hq.out.br.box.2.1 2
                have q9 := Hq.out.br.lt
                refine hK.out _ _ ?_ (fun hH2 => ?_)
                · exact ⟨q0, q1, q2⟩
                clear hK K
                clear p0 p1 p2 p3 p4 p5 p6 p7 p8 p9 hH1
                refine wpAnyH_take (i := 7) (oi := _) (v := .bool (u'.doc.rSame m')) rfl (by kernel_rfl) (by kernel_rfl) (by kernel_rfl) (fun _ _ _ h => h) (Or.inl ⟨by rfl, ?_⟩) hH2 ?_
                · intro w hSw; go_simp
                simp only [Act.put, List.getElem_toArray, List.getElem_cons_zero, List.getElem_cons_succ, List.setIfInBounds_toArray, List.set_cons_zero, List.set_cons_succ]
                refine wpAnyH_ready (rs := [8]) (by kernel_rfl) (by simp) (AllReadyH.cons (o := _) rfl (fun K hK => ?_) AllReadyH.nil)
                go_simp
                refine hK.out _ _ ?_ (fun hH3 => ?_)
                · simp [go_sem, q0, q1, q2, hn1, hn2]
                clear hK K
                refine wpAnyH_take (i := 9) (oi := _) (v := .bool (u'.doc.rSame m')) rfl (by kernel_rfl) (by kernel_rfl) (by kernel_rfl) (fun _ _ _ h => h) (Or.inl ⟨by rfl, ?_⟩) hH3 ?_
                · intro w hSw; go_simp
                simp only [Act.put, List.getElem_toArray, List.getElem_cons_zero, List.getElem_cons_succ, List.setIfInBounds_toArray, List.set_cons_zero, List.set_cons_succ]
                refine wpAnyH_done (by kernel_rfl) ?_ _
                obtain ⟨hF, z0, z1, z2⟩ := HG.out.fin2 HRl.out HB6.out (.int .i64 m'.e) (.int .i64 m'.l) (.slice ma' m'.cells.length mc') (w4 := (((w6.setCell ⟨N + 1 + 1, 0, none⟩ (.int .i64 m'.e)).setCell ⟨N + 1 + 1, 1, none⟩ (.int .i64 m'.l)).setCell ⟨N + 1 + 1, 2, none⟩ (.slice ma' m'.cells.length mc'))) ⟨_, rfl, .inl rfl⟩
                have HF := Lib.hid' hF
                clear hF hH2 hH3 q0 q1 q2 q3 q4 q5 q6 q7 q8 q9 hn1 hn2 HB0
                generalize (((w6.setCell ⟨N + 1 + 1, 0, none⟩ (.int .i64 m'.e)).setCell ⟨N + 1 + 1, 1, none⟩ (.int .i64 m'.l)).setCell ⟨N + 1 + 1, 2, none⟩ (.slice ma' m'.cells.length mc')) = wz at *
                refine A0 _ _ ?_
                apply wp_ret
                refine bodyPost_ret (v := .tuple #[.agg #[.int .i64 m'.e, .int .i64 m'.l, .slice ma' m'.cells.length mc'], .bool (u'.doc.rSame m')]) (by simp [results, Try.results46, go_sem, z0, z1, z2]) rfl ?_
                exact ⟨ma', mc', by rw [HOK.out]; rfl, HF.out.1, HF.out.2.1, HF.out.2.2⟩
end Go.Proofs.Ythjigopnlgngdaa
