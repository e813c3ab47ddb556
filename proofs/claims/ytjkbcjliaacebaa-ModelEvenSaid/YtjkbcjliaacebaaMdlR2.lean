/- Layer 33 (model): the document's model (holdfastref33): Append, Put. -/
import Derived.Test.YtjkbcjliaacebaaMdlR
import Derived.RegionTactic
namespace Go.Proofs.Ytjkbcjliaacebaa
open Go.RowKit
set_option linter.unusedSimpArgs false
set_option linter.unusedVariables false
set_option maxRecDepth 20000

set_option maxHeartbeats 4000000 in
theorem rmApp_any (m : M) (ad : Option Addr) (cap : Nat) (d : List UInt8) (w : World) (h : RList w (.slice ad m.u.cells.length cap) m.u.cells) (hc : m.u.cells.length ≤ 4194304) (hb : 0 ≤ m.t ∧ m.t ≤ 4611686018427387904) (hd : d.length ≤ 1099511627776) :
    Calls Try.prog 69 #[rmV m ad cap, .string (strOf d)] w (RAMN (m.rApp d).1 (m.rApp d).2.1 (m.rApp d).2.2 w) := by
  have H := Lib.hid' h; have HC := Lib.hid' hc; have HL := Lib.hid' hd; clear h hc hd; unfold rmV
  have hs := strOf_size d
  by_cases hq3 : 64 < d.length
  · have Hf := Lib.hid' (show m.rApp d = (0, m, 3) by simp [M.rApp, hq3])
    have hq' : (64 : Int) < (d.length : Int) := by omega
    go_enter Try.func69, Try.ntmps69
    go_upto_region 1 with fail
    have HB0 := Lib.hid' (show BoxW (w.heap.size) [.int .i64 m.u.e, .int .i64 m.u.l, .slice ad m.u.cells.length cap, .int .i64 m.t] 63 ((w.alloc (.cells #[.int .i64 m.u.e, .int .i64 m.u.l, .slice ad m.u.cells.length cap, .int .i64 m.t] 63)).alloc (.cells #[.int .i64 0, .int .i64 0, .slice none 0 0, .int .i64 0] 63)) from by
      have h := (BoxW.start w [.int .i64 m.u.e, .int .i64 m.u.l, .slice ad m.u.cells.length cap, .int .i64 m.t] 63).below (Nat.le_refl _) (show Below (w.alloc (.cells #[.int .i64 m.u.e, .int .i64 m.u.l, .slice ad m.u.cells.length cap, .int .i64 m.t] 63)).heap.size (w.alloc (.cells #[.int .i64 m.u.e, .int .i64 m.u.l, .slice ad m.u.cells.length cap, .int .i64 m.t] 63)) ((w.alloc (.cells #[.int .i64 m.u.e, .int .i64 m.u.l, .slice ad m.u.cells.length cap, .int .i64 m.t] 63)).alloc (.cells #[.int .i64 0, .int .i64 0, .slice none 0 0, .int .i64 0] 63)) by go_grown)
      simpa using h)
    have HB1 := Lib.hid' (show BoxW (w.heap.size + 1) [.int .i64 0, .int .i64 0, .slice none 0 0, .int .i64 0] 63 ((w.alloc (.cells #[.int .i64 m.u.e, .int .i64 m.u.l, .slice ad m.u.cells.length cap, .int .i64 m.t] 63)).alloc (.cells #[.int .i64 0, .int .i64 0, .slice none 0 0, .int .i64 0] 63)) from by
      have h := (BoxW.start (w.alloc (.cells #[.int .i64 m.u.e, .int .i64 m.u.l, .slice ad m.u.cells.length cap, .int .i64 m.t] 63)) [.int .i64 0, .int .i64 0, .slice none 0 0, .int .i64 0] 63).below (Nat.le_refl _) (show Below ((w.alloc (.cells #[.int .i64 m.u.e, .int .i64 m.u.l, .slice ad m.u.cells.length cap, .int .i64 m.t] 63)).alloc (.cells #[.int .i64 0, .int .i64 0, .slice none 0 0, .int .i64 0] 63)).heap.size ((w.alloc (.cells #[.int .i64 m.u.e, .int .i64 m.u.l, .slice ad m.u.cells.length cap, .int .i64 m.t] 63)).alloc (.cells #[.int .i64 0, .int .i64 0, .slice none 0 0, .int .i64 0] 63)) ((w.alloc (.cells #[.int .i64 m.u.e, .int .i64 m.u.l, .slice ad m.u.cells.length cap, .int .i64 m.t] 63)).alloc (.cells #[.int .i64 0, .int .i64 0, .slice none 0 0, .int .i64 0] 63)) by go_grown)
      simpa using h)
    have HG := Lib.hid' (show Below w.heap.size w ((w.alloc (.cells #[.int .i64 m.u.e, .int .i64 m.u.l, .slice ad m.u.cells.length cap, .int .i64 m.t] 63)).alloc (.cells #[.int .i64 0, .int .i64 0, .slice none 0 0, .int .i64 0] 63)) by go_grown)
    generalize ((w.alloc (.cells #[.int .i64 m.u.e, .int .i64 m.u.l, .slice ad m.u.cells.length cap, .int .i64 m.t] 63)).alloc (.cells #[.int .i64 0, .int .i64 0, .slice none 0 0, .int .i64 0] 63)) = w2 at *
    have HR := Lib.hid' (H.out.below (Nat.le_refl _) HG.out)
    have hG := HG.out
    have p0 := HB0.out.box.1 0 _ rfl; have p1 := HB0.out.box.1 1 _ rfl; have p2 := HB0.out.box.1 2 _ rfl; have p3 := HB0.out.box.1 3 _ rfl
    have pf0 := HB0.out.box.2.1 0; have pf1 := HB0.out.box.2.1 1; have pf2 := HB0.out.box.2.1 2; have pf3 := HB0.out.box.2.1 3
    have pl := HB0.out.lt
    have z0 := HB1.out.box.1 0 _ rfl; have z1 := HB1.out.box.1 1 _ rfl; have z2 := HB1.out.box.1 2 _ rfl; have z3 := HB1.out.box.1 3 _ rfl
    have zf0 := HB1.out.box.2.1 0; have zf1 := HB1.out.box.2.1 1; have zf2 := HB1.out.box.2.1 2; have zf3 := HB1.out.box.2.1 3
    have zl := HB1.out.lt
    have hNl : w.heap.size < w2.heap.size := by omega
    go_upto_region 2 with fail
    go_region
    go_wp2
    refine bodyPost_ret (v := .tuple #[.int .i64 0, rmV m ad cap, .int .i64 3]) (by simp [results, Try.results69, go_sem, rmV, p0, p1, p2, p3, z0, z1, z2, z3, pl, zl]) rfl ?_
    rw [Hf.out]
    refine ⟨ad, cap, rfl, RList.keep (F := fun k => k = w.heap.size + 1) HR.out ?_ (fun k hk => by subst hk; exact ⟨_, _, HB1.out, by simp⟩), ?_⟩
    · (repeat' first | exact Fr.refl _ _ | refine Fr.setCell ?_ (by first | (left; simp; done) | (right; simp; done) | (right; simp; omega)) _ | refine Fr.alloc ?_ _ | refine Fr.drew ?_)
    · go_grown
  by_cases hq5 : 1048576 ≤ m.t
  · have Hf := Lib.hid' (show m.rApp d = (0, m, 5) by simp [M.rApp, hq3, hq5])
    have hq' : m.t ≥ 1048576 := by exact hq5
    go_enter Try.func69, Try.ntmps69
    go_upto_region 1 with fail
    have HB0 := Lib.hid' (show BoxW (w.heap.size) [.int .i64 m.u.e, .int .i64 m.u.l, .slice ad m.u.cells.length cap, .int .i64 m.t] 63 ((w.alloc (.cells #[.int .i64 m.u.e, .int .i64 m.u.l, .slice ad m.u.cells.length cap, .int .i64 m.t] 63)).alloc (.cells #[.int .i64 0, .int .i64 0, .slice none 0 0, .int .i64 0] 63)) from by
      have h := (BoxW.start w [.int .i64 m.u.e, .int .i64 m.u.l, .slice ad m.u.cells.length cap, .int .i64 m.t] 63).below (Nat.le_refl _) (show Below (w.alloc (.cells #[.int .i64 m.u.e, .int .i64 m.u.l, .slice ad m.u.cells.length cap, .int .i64 m.t] 63)).heap.size (w.alloc (.cells #[.int .i64 m.u.e, .int .i64 m.u.l, .slice ad m.u.cells.length cap, .int .i64 m.t] 63)) ((w.alloc (.cells #[.int .i64 m.u.e, .int .i64 m.u.l, .slice ad m.u.cells.length cap, .int .i64 m.t] 63)).alloc (.cells #[.int .i64 0, .int .i64 0, .slice none 0 0, .int .i64 0] 63)) by go_grown)
      simpa using h)
    have HB1 := Lib.hid' (show BoxW (w.heap.size + 1) [.int .i64 0, .int .i64 0, .slice none 0 0, .int .i64 0] 63 ((w.alloc (.cells #[.int .i64 m.u.e, .int .i64 m.u.l, .slice ad m.u.cells.length cap, .int .i64 m.t] 63)).alloc (.cells #[.int .i64 0, .int .i64 0, .slice none 0 0, .int .i64 0] 63)) from by
      have h := (BoxW.start (w.alloc (.cells #[.int .i64 m.u.e, .int .i64 m.u.l, .slice ad m.u.cells.length cap, .int .i64 m.t] 63)) [.int .i64 0, .int .i64 0, .slice none 0 0, .int .i64 0] 63).below (Nat.le_refl _) (show Below ((w.alloc (.cells #[.int .i64 m.u.e, .int .i64 m.u.l, .slice ad m.u.cells.length cap, .int .i64 m.t] 63)).alloc (.cells #[.int .i64 0, .int .i64 0, .slice none 0 0, .int .i64 0] 63)).heap.size ((w.alloc (.cells #[.int .i64 m.u.e, .int .i64 m.u.l, .slice ad m.u.cells.length cap, .int .i64 m.t] 63)).alloc (.cells #[.int .i64 0, .int .i64 0, .slice none 0 0, .int .i64 0] 63)) ((w.alloc (.cells #[.int .i64 m.u.e, .int .i64 m.u.l, .slice ad m.u.cells.length cap, .int .i64 m.t] 63)).alloc (.cells #[.int .i64 0, .int .i64 0, .slice none 0 0, .int .i64 0] 63)) by go_grown)
      simpa using h)
    have HG := Lib.hid' (show Below w.heap.size w ((w.alloc (.cells #[.int .i64 m.u.e, .int .i64 m.u.l, .slice ad m.u.cells.length cap, .int .i64 m.t] 63)).alloc (.cells #[.int .i64 0, .int .i64 0, .slice none 0 0, .int .i64 0] 63)) by go_grown)
    generalize ((w.alloc (.cells #[.int .i64 m.u.e, .int .i64 m.u.l, .slice ad m.u.cells.length cap, .int .i64 m.t] 63)).alloc (.cells #[.int .i64 0, .int .i64 0, .slice none 0 0, .int .i64 0] 63)) = w2 at *
    have HR := Lib.hid' (H.out.below (Nat.le_refl _) HG.out)
    have hG := HG.out
    have p0 := HB0.out.box.1 0 _ rfl; have p1 := HB0.out.box.1 1 _ rfl; have p2 := HB0.out.box.1 2 _ rfl; have p3 := HB0.out.box.1 3 _ rfl
    have pf0 := HB0.out.box.2.1 0; have pf1 := HB0.out.box.2.1 1; have pf2 := HB0.out.box.2.1 2; have pf3 := HB0.out.box.2.1 3
    have pl := HB0.out.lt
    have z0 := HB1.out.box.1 0 _ rfl; have z1 := HB1.out.box.1 1 _ rfl; have z2 := HB1.out.box.1 2 _ rfl; have z3 := HB1.out.box.1 3 _ rfl
    have zf0 := HB1.out.box.2.1 0; have zf1 := HB1.out.box.2.1 1; have zf2 := HB1.out.box.2.1 2; have zf3 := HB1.out.box.2.1 3
    have zl := HB1.out.lt
    have hNl : w.heap.size < w2.heap.size := by omega
    go_upto_region 4 with fail
    go_region
    go_wp2
    refine bodyPost_ret (v := .tuple #[.int .i64 0, rmV m ad cap, .int .i64 5]) (by simp [results, Try.results69, go_sem, rmV, p0, p1, p2, p3, z0, z1, z2, z3, pl, zl]) rfl ?_
    rw [Hf.out]
    refine ⟨ad, cap, rfl, RList.keep (F := fun k => k = w.heap.size + 1) HR.out ?_ (fun k hk => by subst hk; exact ⟨_, _, HB1.out, by simp⟩), ?_⟩
    · (repeat' first | exact Fr.refl _ _ | refine Fr.setCell ?_ (by first | (left; simp; done) | (right; simp; done) | (right; simp; omega)) _ | refine Fr.alloc ?_ _ | refine Fr.drew ?_)
    · go_grown
  have Hf := Lib.hid' (show m.rApp d = (m.t, ⟨(m.u.rWrite 0 m.t d).1, m.t + 1⟩, 0) by simp [M.rApp, hq3, hq5])
  go_enter Try.func69, Try.ntmps69
  go_upto_region 1 with fail
  have HB0 := Lib.hid' (show BoxW (w.heap.size) [.int .i64 m.u.e, .int .i64 m.u.l, .slice ad m.u.cells.length cap, .int .i64 m.t] 63 ((w.alloc (.cells #[.int .i64 m.u.e, .int .i64 m.u.l, .slice ad m.u.cells.length cap, .int .i64 m.t] 63)).alloc (.cells #[.int .i64 0, .int .i64 0, .slice none 0 0, .int .i64 0] 63)) from by
    have h := (BoxW.start w [.int .i64 m.u.e, .int .i64 m.u.l, .slice ad m.u.cells.length cap, .int .i64 m.t] 63).below (Nat.le_refl _) (show Below (w.alloc (.cells #[.int .i64 m.u.e, .int .i64 m.u.l, .slice ad m.u.cells.length cap, .int .i64 m.t] 63)).heap.size (w.alloc (.cells #[.int .i64 m.u.e, .int .i64 m.u.l, .slice ad m.u.cells.length cap, .int .i64 m.t] 63)) ((w.alloc (.cells #[.int .i64 m.u.e, .int .i64 m.u.l, .slice ad m.u.cells.length cap, .int .i64 m.t] 63)).alloc (.cells #[.int .i64 0, .int .i64 0, .slice none 0 0, .int .i64 0] 63)) by go_grown)
    simpa using h)
  have HB1 := Lib.hid' (show BoxW (w.heap.size + 1) [.int .i64 0, .int .i64 0, .slice none 0 0, .int .i64 0] 63 ((w.alloc (.cells #[.int .i64 m.u.e, .int .i64 m.u.l, .slice ad m.u.cells.length cap, .int .i64 m.t] 63)).alloc (.cells #[.int .i64 0, .int .i64 0, .slice none 0 0, .int .i64 0] 63)) from by
    have h := (BoxW.start (w.alloc (.cells #[.int .i64 m.u.e, .int .i64 m.u.l, .slice ad m.u.cells.length cap, .int .i64 m.t] 63)) [.int .i64 0, .int .i64 0, .slice none 0 0, .int .i64 0] 63).below (Nat.le_refl _) (show Below ((w.alloc (.cells #[.int .i64 m.u.e, .int .i64 m.u.l, .slice ad m.u.cells.length cap, .int .i64 m.t] 63)).alloc (.cells #[.int .i64 0, .int .i64 0, .slice none 0 0, .int .i64 0] 63)).heap.size ((w.alloc (.cells #[.int .i64 m.u.e, .int .i64 m.u.l, .slice ad m.u.cells.length cap, .int .i64 m.t] 63)).alloc (.cells #[.int .i64 0, .int .i64 0, .slice none 0 0, .int .i64 0] 63)) ((w.alloc (.cells #[.int .i64 m.u.e, .int .i64 m.u.l, .slice ad m.u.cells.length cap, .int .i64 m.t] 63)).alloc (.cells #[.int .i64 0, .int .i64 0, .slice none 0 0, .int .i64 0] 63)) by go_grown)
    simpa using h)
  have HG := Lib.hid' (show Below w.heap.size w ((w.alloc (.cells #[.int .i64 m.u.e, .int .i64 m.u.l, .slice ad m.u.cells.length cap, .int .i64 m.t] 63)).alloc (.cells #[.int .i64 0, .int .i64 0, .slice none 0 0, .int .i64 0] 63)) by go_grown)
  generalize ((w.alloc (.cells #[.int .i64 m.u.e, .int .i64 m.u.l, .slice ad m.u.cells.length cap, .int .i64 m.t] 63)).alloc (.cells #[.int .i64 0, .int .i64 0, .slice none 0 0, .int .i64 0] 63)) = w2 at *
  have HR := Lib.hid' (H.out.below (Nat.le_refl _) HG.out)
  have hG := HG.out
  have p0 := HB0.out.box.1 0 _ rfl; have p1 := HB0.out.box.1 1 _ rfl; have p2 := HB0.out.box.1 2 _ rfl; have p3 := HB0.out.box.1 3 _ rfl
  have pf0 := HB0.out.box.2.1 0; have pf1 := HB0.out.box.2.1 1; have pf2 := HB0.out.box.2.1 2; have pf3 := HB0.out.box.2.1 3
  have pl := HB0.out.lt
  have z0 := HB1.out.box.1 0 _ rfl; have z1 := HB1.out.box.1 1 _ rfl; have z2 := HB1.out.box.1 2 _ rfl; have z3 := HB1.out.box.1 3 _ rfl
  have zf0 := HB1.out.box.2.1 0; have zf1 := HB1.out.box.2.1 1; have zf2 := HB1.out.box.2.1 2; have zf3 := HB1.out.box.2.1 3
  have zl := HB1.out.lt
  have hNl : w.heap.size < w2.heap.size := by omega
  go_upto_region 6 with fail
  go_wp2_with fail
  refine (rWrite_any m.u ad cap 0 m.t d _ HR.out HC.out HL.out).mono ?_
  rintro en w3 ⟨ad', cap', rfl, hr, hb3⟩
  have HR3 := Lib.hid' hr
  have HD0 := Lib.hid' (HB0.out.below (Nat.le_refl _) hb3)
  have HD1 := Lib.hid' (HB1.out.below (Nat.le_refl _) hb3)
  have HG3 := Lib.hid' (HG.out.trans (hb3.mono HG.out.size))
  have hG3 := HG3.out
  clear p0 pf0 p1 pf1 p2 pf2 p3 pf3 z0 zf0 z1 zf1 z2 zf2 z3 zf3 pl zl
  clear hr hb3 hNl hG
  generalize hu' : (m.u.rWrite 0 m.t d).1 = u' at *
  have HU := Lib.hid' hu'
  clear hu'
  generalize (m.u.rWrite 0 m.t d).2 = n' at *
  unfold ruV
  have p0 := HD0.out.box.1 0 _ rfl; have p1 := HD0.out.box.1 1 _ rfl; have p2 := HD0.out.box.1 2 _ rfl; have p3 := HD0.out.box.1 3 _ rfl
  have pf0 := HD0.out.box.2.1 0; have pf1 := HD0.out.box.2.1 1; have pf2 := HD0.out.box.2.1 2; have pf3 := HD0.out.box.2.1 3
  have pl := HD0.out.lt
  have z0 := HD1.out.box.1 0 _ rfl; have z1 := HD1.out.box.1 1 _ rfl; have z2 := HD1.out.box.1 2 _ rfl; have z3 := HD1.out.box.1 3 _ rfl
  have zf0 := HD1.out.box.2.1 0; have zf1 := HD1.out.box.2.1 1; have zf2 := HD1.out.box.2.1 2; have zf3 := HD1.out.box.2.1 3
  have zl := HD1.out.lt
  have hNl : w.heap.size < w3.heap.size := by omega
  go_upto_region 8 with fail
  have HE0 := Lib.hid' (show BoxW w.heap.size [.int .i64 u'.e, .int .i64 u'.l, .slice ad' u'.cells.length cap', .int .i64 (m.t + 1)] 63 ((((w3.setCell ⟨w.heap.size, 0, none⟩ (.int .i64 u'.e)).setCell ⟨w.heap.size, 1, none⟩ (.int .i64 u'.l)).setCell ⟨w.heap.size, 2, none⟩ (.slice ad' u'.cells.length cap')).setCell ⟨w.heap.size, 3, none⟩ (.int .i64 (m.t + 1))) from BoxW.set4 HD0.out)
  have HF := Lib.hid' (show Fr (fun k => k = w.heap.size) w3 ((((w3.setCell ⟨w.heap.size, 0, none⟩ (.int .i64 u'.e)).setCell ⟨w.heap.size, 1, none⟩ (.int .i64 u'.l)).setCell ⟨w.heap.size, 2, none⟩ (.slice ad' u'.cells.length cap')).setCell ⟨w.heap.size, 3, none⟩ (.int .i64 (m.t + 1))) by (repeat' first | exact Fr.refl _ _ | refine Fr.setCell ?_ (by first | (left; simp; done) | (right; simp; done) | (right; simp; omega)) _ | refine Fr.alloc ?_ _ | refine Fr.drew ?_))
  have HE1 := Lib.hid' (HD1.out.fr HF.out (by first | omega | (simp; done) | (simp; omega)))
  have hG5 : Below w.heap.size w ((((w3.setCell ⟨w.heap.size, 0, none⟩ (.int .i64 u'.e)).setCell ⟨w.heap.size, 1, none⟩ (.int .i64 u'.l)).setCell ⟨w.heap.size, 2, none⟩ (.slice ad' u'.cells.length cap')).setCell ⟨w.heap.size, 3, none⟩ (.int .i64 (m.t + 1))) := by go_grown
  generalize ((((w3.setCell ⟨w.heap.size, 0, none⟩ (.int .i64 u'.e)).setCell ⟨w.heap.size, 1, none⟩ (.int .i64 u'.l)).setCell ⟨w.heap.size, 2, none⟩ (.slice ad' u'.cells.length cap')).setCell ⟨w.heap.size, 3, none⟩ (.int .i64 (m.t + 1))) = w5 at *
  clear p0 pf0 p1 pf1 p2 pf2 p3 pf3 z0 zf0 z1 zf1 z2 zf2 z3 zf3 pl zl
  have p0 := HE0.out.box.1 0 _ rfl; have p1 := HE0.out.box.1 1 _ rfl; have p2 := HE0.out.box.1 2 _ rfl; have p3 := HE0.out.box.1 3 _ rfl
  have pf0 := HE0.out.box.2.1 0; have pf1 := HE0.out.box.2.1 1; have pf2 := HE0.out.box.2.1 2; have pf3 := HE0.out.box.2.1 3
  have pl := HE0.out.lt
  have z0 := HE1.out.box.1 0 _ rfl; have z1 := HE1.out.box.1 1 _ rfl; have z2 := HE1.out.box.1 2 _ rfl; have z3 := HE1.out.box.1 3 _ rfl
  have zf0 := HE1.out.box.2.1 0; have zf1 := HE1.out.box.2.1 1; have zf2 := HE1.out.box.2.1 2; have zf3 := HE1.out.box.2.1 3
  have zl := HE1.out.lt
  have HR5 := Lib.hid' (RList.keep HR3.out HF.out (fun k hk => by subst hk; exact ⟨_, _, HD0.out, by simp⟩))
  go_region
  go_wp2
  refine bodyPost_ret (v := .tuple #[.int .i64 m.t, rmV ⟨u', m.t + 1⟩ ad' cap', .int .i64 0]) (by simp [results, Try.results69, go_sem, rmV, p0, p1, p2, p3, z0, z1, z2, z3, pl, zl]) rfl ?_
  rw [Hf.out]
  refine ⟨ad', cap', rfl, RList.keep (F := fun k => k = w.heap.size + 1) HR5.out ?_ (fun k hk => by subst hk; exact ⟨_, _, HE1.out, by simp⟩), ?_⟩
  · (repeat' first | exact Fr.refl _ _ | refine Fr.setCell ?_ (by first | (left; simp; done) | (right; simp; done) | (right; simp; omega)) _ | refine Fr.alloc ?_ _ | refine Fr.drew ?_)
  · go_grown
set_option maxHeartbeats 8000000 in
theorem rmPut_any (m : M) (ad : Option Addr) (cap : Nat) (a : Int) (x : C) (w : World) (h : RList w (.slice ad m.u.cells.length cap) m.u.cells) (hc : m.u.cells.length ≤ 4194304) (hb : 0 ≤ m.t ∧ m.t ≤ 4611686018427387904) (hd : x.d.length ≤ 1099511627776) :
    Calls Try.prog 73 #[rmV m ad cap, .int .i64 a, rcellV x] w (RMN (m.rPut a x).1 (m.rPut a x).2 w) := by
  have H := Lib.hid' h; have HC := Lib.hid' hc; have HL := Lib.hid' hd; clear h hc hd; unfold rmV rcellV
  by_cases h1 : a < 0 ∨ 1048575 < a
  · have Hf := Lib.hid' (show m.rPut a x = (m, 1) by simp [M.rPut, h1])
    rcases h1 with h1 | h1
    · skip
      go_enter Try.func73, Try.ntmps73
      go_upto_region 1 with fail
      have HB0 := Lib.hid' (show BoxW (w.heap.size) [.int .i64 m.u.e, .int .i64 m.u.l, .slice ad m.u.cells.length cap, .int .i64 m.t] 63 (((w.alloc (.cells #[.int .i64 m.u.e, .int .i64 m.u.l, .slice ad m.u.cells.length cap, .int .i64 m.t] 63)).alloc (.cells #[.int .i64 x.k, .string (strOf x.d)] 125)).alloc (.cells #[.int .i64 0, .int .i64 0, .slice none 0 0, .int .i64 0] 63)) from by
        have h := (BoxW.start w [.int .i64 m.u.e, .int .i64 m.u.l, .slice ad m.u.cells.length cap, .int .i64 m.t] 63).below (Nat.le_refl _) (show Below (w.alloc (.cells #[.int .i64 m.u.e, .int .i64 m.u.l, .slice ad m.u.cells.length cap, .int .i64 m.t] 63)).heap.size (w.alloc (.cells #[.int .i64 m.u.e, .int .i64 m.u.l, .slice ad m.u.cells.length cap, .int .i64 m.t] 63)) (((w.alloc (.cells #[.int .i64 m.u.e, .int .i64 m.u.l, .slice ad m.u.cells.length cap, .int .i64 m.t] 63)).alloc (.cells #[.int .i64 x.k, .string (strOf x.d)] 125)).alloc (.cells #[.int .i64 0, .int .i64 0, .slice none 0 0, .int .i64 0] 63)) by go_grown)
        simpa using h)
      have HB1 := Lib.hid' (show BoxW (w.heap.size + 1) [.int .i64 x.k, .string (strOf x.d)] 125 (((w.alloc (.cells #[.int .i64 m.u.e, .int .i64 m.u.l, .slice ad m.u.cells.length cap, .int .i64 m.t] 63)).alloc (.cells #[.int .i64 x.k, .string (strOf x.d)] 125)).alloc (.cells #[.int .i64 0, .int .i64 0, .slice none 0 0, .int .i64 0] 63)) from by
        have h := (BoxW.start (w.alloc (.cells #[.int .i64 m.u.e, .int .i64 m.u.l, .slice ad m.u.cells.length cap, .int .i64 m.t] 63)) [.int .i64 x.k, .string (strOf x.d)] 125).below (Nat.le_refl _) (show Below ((w.alloc (.cells #[.int .i64 m.u.e, .int .i64 m.u.l, .slice ad m.u.cells.length cap, .int .i64 m.t] 63)).alloc (.cells #[.int .i64 x.k, .string (strOf x.d)] 125)).heap.size ((w.alloc (.cells #[.int .i64 m.u.e, .int .i64 m.u.l, .slice ad m.u.cells.length cap, .int .i64 m.t] 63)).alloc (.cells #[.int .i64 x.k, .string (strOf x.d)] 125)) (((w.alloc (.cells #[.int .i64 m.u.e, .int .i64 m.u.l, .slice ad m.u.cells.length cap, .int .i64 m.t] 63)).alloc (.cells #[.int .i64 x.k, .string (strOf x.d)] 125)).alloc (.cells #[.int .i64 0, .int .i64 0, .slice none 0 0, .int .i64 0] 63)) by go_grown)
        simpa using h)
      have HB2 := Lib.hid' (show BoxW (w.heap.size + 2) [.int .i64 0, .int .i64 0, .slice none 0 0, .int .i64 0] 63 (((w.alloc (.cells #[.int .i64 m.u.e, .int .i64 m.u.l, .slice ad m.u.cells.length cap, .int .i64 m.t] 63)).alloc (.cells #[.int .i64 x.k, .string (strOf x.d)] 125)).alloc (.cells #[.int .i64 0, .int .i64 0, .slice none 0 0, .int .i64 0] 63)) from by
        have h := (BoxW.start ((w.alloc (.cells #[.int .i64 m.u.e, .int .i64 m.u.l, .slice ad m.u.cells.length cap, .int .i64 m.t] 63)).alloc (.cells #[.int .i64 x.k, .string (strOf x.d)] 125)) [.int .i64 0, .int .i64 0, .slice none 0 0, .int .i64 0] 63).below (Nat.le_refl _) (show Below (((w.alloc (.cells #[.int .i64 m.u.e, .int .i64 m.u.l, .slice ad m.u.cells.length cap, .int .i64 m.t] 63)).alloc (.cells #[.int .i64 x.k, .string (strOf x.d)] 125)).alloc (.cells #[.int .i64 0, .int .i64 0, .slice none 0 0, .int .i64 0] 63)).heap.size (((w.alloc (.cells #[.int .i64 m.u.e, .int .i64 m.u.l, .slice ad m.u.cells.length cap, .int .i64 m.t] 63)).alloc (.cells #[.int .i64 x.k, .string (strOf x.d)] 125)).alloc (.cells #[.int .i64 0, .int .i64 0, .slice none 0 0, .int .i64 0] 63)) (((w.alloc (.cells #[.int .i64 m.u.e, .int .i64 m.u.l, .slice ad m.u.cells.length cap, .int .i64 m.t] 63)).alloc (.cells #[.int .i64 x.k, .string (strOf x.d)] 125)).alloc (.cells #[.int .i64 0, .int .i64 0, .slice none 0 0, .int .i64 0] 63)) by go_grown)
        simpa using h)
      have HG := Lib.hid' (show Below w.heap.size w (((w.alloc (.cells #[.int .i64 m.u.e, .int .i64 m.u.l, .slice ad m.u.cells.length cap, .int .i64 m.t] 63)).alloc (.cells #[.int .i64 x.k, .string (strOf x.d)] 125)).alloc (.cells #[.int .i64 0, .int .i64 0, .slice none 0 0, .int .i64 0] 63)) by go_grown)
      generalize (((w.alloc (.cells #[.int .i64 m.u.e, .int .i64 m.u.l, .slice ad m.u.cells.length cap, .int .i64 m.t] 63)).alloc (.cells #[.int .i64 x.k, .string (strOf x.d)] 125)).alloc (.cells #[.int .i64 0, .int .i64 0, .slice none 0 0, .int .i64 0] 63)) = w2 at *
      have HR := Lib.hid' (H.out.below (Nat.le_refl _) HG.out)
      have hG := HG.out
      have p0 := HB0.out.box.1 0 _ rfl; have p1 := HB0.out.box.1 1 _ rfl; have p2 := HB0.out.box.1 2 _ rfl; have p3 := HB0.out.box.1 3 _ rfl
      have pf0 := HB0.out.box.2.1 0; have pf1 := HB0.out.box.2.1 1; have pf2 := HB0.out.box.2.1 2; have pf3 := HB0.out.box.2.1 3
      have pl := HB0.out.lt
      have x0 := HB1.out.box.1 0 _ rfl; have x1 := HB1.out.box.1 1 _ rfl
      have xf0 := HB1.out.box.2.1 0; have xf1 := HB1.out.box.2.1 1
      have xl := HB1.out.lt
      have z0 := HB2.out.box.1 0 _ rfl; have z1 := HB2.out.box.1 1 _ rfl; have z2 := HB2.out.box.1 2 _ rfl; have z3 := HB2.out.box.1 3 _ rfl
      have zf0 := HB2.out.box.2.1 0; have zf1 := HB2.out.box.2.1 1; have zf2 := HB2.out.box.2.1 2; have zf3 := HB2.out.box.2.1 3
      have zl := HB2.out.lt
      have hNl : w.heap.size < w2.heap.size := by omega
      go_wp2
      refine bodyPost_ret (v := .tuple #[rmV m ad cap, .int .i64 1]) (by simp [results, Try.results73, go_sem, rmV, p0, p1, p2, p3, z0, z1, z2, z3, pl, zl, xl]) rfl ?_
      rw [Hf.out]
      refine ⟨ad, cap, rfl, RList.keep (F := fun k => k = w.heap.size + 2) HR.out ?_ (fun k hk => by subst hk; exact ⟨_, _, HB2.out, by simp⟩), ?_⟩
      · (repeat' first | exact Fr.refl _ _ | refine Fr.setCell ?_ (by first | (left; simp; done) | (right; simp; done) | (right; simp; omega)) _ | refine Fr.alloc ?_ _ | refine Fr.drew ?_)
      · go_grown
    · have h1b : ¬ a < 0 := by omega
      go_enter Try.func73, Try.ntmps73
      go_upto_region 1 with fail
      have HB0 := Lib.hid' (show BoxW (w.heap.size) [.int .i64 m.u.e, .int .i64 m.u.l, .slice ad m.u.cells.length cap, .int .i64 m.t] 63 (((w.alloc (.cells #[.int .i64 m.u.e, .int .i64 m.u.l, .slice ad m.u.cells.length cap, .int .i64 m.t] 63)).alloc (.cells #[.int .i64 x.k, .string (strOf x.d)] 125)).alloc (.cells #[.int .i64 0, .int .i64 0, .slice none 0 0, .int .i64 0] 63)) from by
        have h := (BoxW.start w [.int .i64 m.u.e, .int .i64 m.u.l, .slice ad m.u.cells.length cap, .int .i64 m.t] 63).below (Nat.le_refl _) (show Below (w.alloc (.cells #[.int .i64 m.u.e, .int .i64 m.u.l, .slice ad m.u.cells.length cap, .int .i64 m.t] 63)).heap.size (w.alloc (.cells #[.int .i64 m.u.e, .int .i64 m.u.l, .slice ad m.u.cells.length cap, .int .i64 m.t] 63)) (((w.alloc (.cells #[.int .i64 m.u.e, .int .i64 m.u.l, .slice ad m.u.cells.length cap, .int .i64 m.t] 63)).alloc (.cells #[.int .i64 x.k, .string (strOf x.d)] 125)).alloc (.cells #[.int .i64 0, .int .i64 0, .slice none 0 0, .int .i64 0] 63)) by go_grown)
        simpa using h)
      have HB1 := Lib.hid' (show BoxW (w.heap.size + 1) [.int .i64 x.k, .string (strOf x.d)] 125 (((w.alloc (.cells #[.int .i64 m.u.e, .int .i64 m.u.l, .slice ad m.u.cells.length cap, .int .i64 m.t] 63)).alloc (.cells #[.int .i64 x.k, .string (strOf x.d)] 125)).alloc (.cells #[.int .i64 0, .int .i64 0, .slice none 0 0, .int .i64 0] 63)) from by
        have h := (BoxW.start (w.alloc (.cells #[.int .i64 m.u.e, .int .i64 m.u.l, .slice ad m.u.cells.length cap, .int .i64 m.t] 63)) [.int .i64 x.k, .string (strOf x.d)] 125).below (Nat.le_refl _) (show Below ((w.alloc (.cells #[.int .i64 m.u.e, .int .i64 m.u.l, .slice ad m.u.cells.length cap, .int .i64 m.t] 63)).alloc (.cells #[.int .i64 x.k, .string (strOf x.d)] 125)).heap.size ((w.alloc (.cells #[.int .i64 m.u.e, .int .i64 m.u.l, .slice ad m.u.cells.length cap, .int .i64 m.t] 63)).alloc (.cells #[.int .i64 x.k, .string (strOf x.d)] 125)) (((w.alloc (.cells #[.int .i64 m.u.e, .int .i64 m.u.l, .slice ad m.u.cells.length cap, .int .i64 m.t] 63)).alloc (.cells #[.int .i64 x.k, .string (strOf x.d)] 125)).alloc (.cells #[.int .i64 0, .int .i64 0, .slice none 0 0, .int .i64 0] 63)) by go_grown)
        simpa using h)
      have HB2 := Lib.hid' (show BoxW (w.heap.size + 2) [.int .i64 0, .int .i64 0, .slice none 0 0, .int .i64 0] 63 (((w.alloc (.cells #[.int .i64 m.u.e, .int .i64 m.u.l, .slice ad m.u.cells.length cap, .int .i64 m.t] 63)).alloc (.cells #[.int .i64 x.k, .string (strOf x.d)] 125)).alloc (.cells #[.int .i64 0, .int .i64 0, .slice none 0 0, .int .i64 0] 63)) from by
        have h := (BoxW.start ((w.alloc (.cells #[.int .i64 m.u.e, .int .i64 m.u.l, .slice ad m.u.cells.length cap, .int .i64 m.t] 63)).alloc (.cells #[.int .i64 x.k, .string (strOf x.d)] 125)) [.int .i64 0, .int .i64 0, .slice none 0 0, .int .i64 0] 63).below (Nat.le_refl _) (show Below (((w.alloc (.cells #[.int .i64 m.u.e, .int .i64 m.u.l, .slice ad m.u.cells.length cap, .int .i64 m.t] 63)).alloc (.cells #[.int .i64 x.k, .string (strOf x.d)] 125)).alloc (.cells #[.int .i64 0, .int .i64 0, .slice none 0 0, .int .i64 0] 63)).heap.size (((w.alloc (.cells #[.int .i64 m.u.e, .int .i64 m.u.l, .slice ad m.u.cells.length cap, .int .i64 m.t] 63)).alloc (.cells #[.int .i64 x.k, .string (strOf x.d)] 125)).alloc (.cells #[.int .i64 0, .int .i64 0, .slice none 0 0, .int .i64 0] 63)) (((w.alloc (.cells #[.int .i64 m.u.e, .int .i64 m.u.l, .slice ad m.u.cells.length cap, .int .i64 m.t] 63)).alloc (.cells #[.int .i64 x.k, .string (strOf x.d)] 125)).alloc (.cells #[.int .i64 0, .int .i64 0, .slice none 0 0, .int .i64 0] 63)) by go_grown)
        simpa using h)
      have HG := Lib.hid' (show Below w.heap.size w (((w.alloc (.cells #[.int .i64 m.u.e, .int .i64 m.u.l, .slice ad m.u.cells.length cap, .int .i64 m.t] 63)).alloc (.cells #[.int .i64 x.k, .string (strOf x.d)] 125)).alloc (.cells #[.int .i64 0, .int .i64 0, .slice none 0 0, .int .i64 0] 63)) by go_grown)
      generalize (((w.alloc (.cells #[.int .i64 m.u.e, .int .i64 m.u.l, .slice ad m.u.cells.length cap, .int .i64 m.t] 63)).alloc (.cells #[.int .i64 x.k, .string (strOf x.d)] 125)).alloc (.cells #[.int .i64 0, .int .i64 0, .slice none 0 0, .int .i64 0] 63)) = w2 at *
      have HR := Lib.hid' (H.out.below (Nat.le_refl _) HG.out)
      have hG := HG.out
      have p0 := HB0.out.box.1 0 _ rfl; have p1 := HB0.out.box.1 1 _ rfl; have p2 := HB0.out.box.1 2 _ rfl; have p3 := HB0.out.box.1 3 _ rfl
      have pf0 := HB0.out.box.2.1 0; have pf1 := HB0.out.box.2.1 1; have pf2 := HB0.out.box.2.1 2; have pf3 := HB0.out.box.2.1 3
      have pl := HB0.out.lt
      have x0 := HB1.out.box.1 0 _ rfl; have x1 := HB1.out.box.1 1 _ rfl
      have xf0 := HB1.out.box.2.1 0; have xf1 := HB1.out.box.2.1 1
      have xl := HB1.out.lt
      have z0 := HB2.out.box.1 0 _ rfl; have z1 := HB2.out.box.1 1 _ rfl; have z2 := HB2.out.box.1 2 _ rfl; have z3 := HB2.out.box.1 3 _ rfl
      have zf0 := HB2.out.box.2.1 0; have zf1 := HB2.out.box.2.1 1; have zf2 := HB2.out.box.2.1 2; have zf3 := HB2.out.box.2.1 3
      have zl := HB2.out.lt
      have hNl : w.heap.size < w2.heap.size := by omega
      go_wp2
      refine bodyPost_ret (v := .tuple #[rmV m ad cap, .int .i64 1]) (by simp [results, Try.results73, go_sem, rmV, p0, p1, p2, p3, z0, z1, z2, z3, pl, zl, xl]) rfl ?_
      rw [Hf.out]
      refine ⟨ad, cap, rfl, RList.keep (F := fun k => k = w.heap.size + 2) HR.out ?_ (fun k hk => by subst hk; exact ⟨_, _, HB2.out, by simp⟩), ?_⟩
      · (repeat' first | exact Fr.refl _ _ | refine Fr.setCell ?_ (by first | (left; simp; done) | (right; simp; done) | (right; simp; omega)) _ | refine Fr.alloc ?_ _ | refine Fr.drew ?_)
      · go_grown
  have h1a : ¬ a < 0 := by omega
  have h1b : ¬ 1048575 < a := by omega
  go_enter Try.func73, Try.ntmps73
  go_upto_region 1 with fail
  have HB0 := Lib.hid' (show BoxW (w.heap.size) [.int .i64 m.u.e, .int .i64 m.u.l, .slice ad m.u.cells.length cap, .int .i64 m.t] 63 (((w.alloc (.cells #[.int .i64 m.u.e, .int .i64 m.u.l, .slice ad m.u.cells.length cap, .int .i64 m.t] 63)).alloc (.cells #[.int .i64 x.k, .string (strOf x.d)] 125)).alloc (.cells #[.int .i64 0, .int .i64 0, .slice none 0 0, .int .i64 0] 63)) from by
    have h := (BoxW.start w [.int .i64 m.u.e, .int .i64 m.u.l, .slice ad m.u.cells.length cap, .int .i64 m.t] 63).below (Nat.le_refl _) (show Below (w.alloc (.cells #[.int .i64 m.u.e, .int .i64 m.u.l, .slice ad m.u.cells.length cap, .int .i64 m.t] 63)).heap.size (w.alloc (.cells #[.int .i64 m.u.e, .int .i64 m.u.l, .slice ad m.u.cells.length cap, .int .i64 m.t] 63)) (((w.alloc (.cells #[.int .i64 m.u.e, .int .i64 m.u.l, .slice ad m.u.cells.length cap, .int .i64 m.t] 63)).alloc (.cells #[.int .i64 x.k, .string (strOf x.d)] 125)).alloc (.cells #[.int .i64 0, .int .i64 0, .slice none 0 0, .int .i64 0] 63)) by go_grown)
    simpa using h)
  have HB1 := Lib.hid' (show BoxW (w.heap.size + 1) [.int .i64 x.k, .string (strOf x.d)] 125 (((w.alloc (.cells #[.int .i64 m.u.e, .int .i64 m.u.l, .slice ad m.u.cells.length cap, .int .i64 m.t] 63)).alloc (.cells #[.int .i64 x.k, .string (strOf x.d)] 125)).alloc (.cells #[.int .i64 0, .int .i64 0, .slice none 0 0, .int .i64 0] 63)) from by
    have h := (BoxW.start (w.alloc (.cells #[.int .i64 m.u.e, .int .i64 m.u.l, .slice ad m.u.cells.length cap, .int .i64 m.t] 63)) [.int .i64 x.k, .string (strOf x.d)] 125).below (Nat.le_refl _) (show Below ((w.alloc (.cells #[.int .i64 m.u.e, .int .i64 m.u.l, .slice ad m.u.cells.length cap, .int .i64 m.t] 63)).alloc (.cells #[.int .i64 x.k, .string (strOf x.d)] 125)).heap.size ((w.alloc (.cells #[.int .i64 m.u.e, .int .i64 m.u.l, .slice ad m.u.cells.length cap, .int .i64 m.t] 63)).alloc (.cells #[.int .i64 x.k, .string (strOf x.d)] 125)) (((w.alloc (.cells #[.int .i64 m.u.e, .int .i64 m.u.l, .slice ad m.u.cells.length cap, .int .i64 m.t] 63)).alloc (.cells #[.int .i64 x.k, .string (strOf x.d)] 125)).alloc (.cells #[.int .i64 0, .int .i64 0, .slice none 0 0, .int .i64 0] 63)) by go_grown)
    simpa using h)
  have HB2 := Lib.hid' (show BoxW (w.heap.size + 2) [.int .i64 0, .int .i64 0, .slice none 0 0, .int .i64 0] 63 (((w.alloc (.cells #[.int .i64 m.u.e, .int .i64 m.u.l, .slice ad m.u.cells.length cap, .int .i64 m.t] 63)).alloc (.cells #[.int .i64 x.k, .string (strOf x.d)] 125)).alloc (.cells #[.int .i64 0, .int .i64 0, .slice none 0 0, .int .i64 0] 63)) from by
    have h := (BoxW.start ((w.alloc (.cells #[.int .i64 m.u.e, .int .i64 m.u.l, .slice ad m.u.cells.length cap, .int .i64 m.t] 63)).alloc (.cells #[.int .i64 x.k, .string (strOf x.d)] 125)) [.int .i64 0, .int .i64 0, .slice none 0 0, .int .i64 0] 63).below (Nat.le_refl _) (show Below (((w.alloc (.cells #[.int .i64 m.u.e, .int .i64 m.u.l, .slice ad m.u.cells.length cap, .int .i64 m.t] 63)).alloc (.cells #[.int .i64 x.k, .string (strOf x.d)] 125)).alloc (.cells #[.int .i64 0, .int .i64 0, .slice none 0 0, .int .i64 0] 63)).heap.size (((w.alloc (.cells #[.int .i64 m.u.e, .int .i64 m.u.l, .slice ad m.u.cells.length cap, .int .i64 m.t] 63)).alloc (.cells #[.int .i64 x.k, .string (strOf x.d)] 125)).alloc (.cells #[.int .i64 0, .int .i64 0, .slice none 0 0, .int .i64 0] 63)) (((w.alloc (.cells #[.int .i64 m.u.e, .int .i64 m.u.l, .slice ad m.u.cells.length cap, .int .i64 m.t] 63)).alloc (.cells #[.int .i64 x.k, .string (strOf x.d)] 125)).alloc (.cells #[.int .i64 0, .int .i64 0, .slice none 0 0, .int .i64 0] 63)) by go_grown)
    simpa using h)
  have HG := Lib.hid' (show Below w.heap.size w (((w.alloc (.cells #[.int .i64 m.u.e, .int .i64 m.u.l, .slice ad m.u.cells.length cap, .int .i64 m.t] 63)).alloc (.cells #[.int .i64 x.k, .string (strOf x.d)] 125)).alloc (.cells #[.int .i64 0, .int .i64 0, .slice none 0 0, .int .i64 0] 63)) by go_grown)
  generalize (((w.alloc (.cells #[.int .i64 m.u.e, .int .i64 m.u.l, .slice ad m.u.cells.length cap, .int .i64 m.t] 63)).alloc (.cells #[.int .i64 x.k, .string (strOf x.d)] 125)).alloc (.cells #[.int .i64 0, .int .i64 0, .slice none 0 0, .int .i64 0] 63)) = w2 at *
  have HR := Lib.hid' (H.out.below (Nat.le_refl _) HG.out)
  have hG := HG.out
  have p0 := HB0.out.box.1 0 _ rfl; have p1 := HB0.out.box.1 1 _ rfl; have p2 := HB0.out.box.1 2 _ rfl; have p3 := HB0.out.box.1 3 _ rfl
  have pf0 := HB0.out.box.2.1 0; have pf1 := HB0.out.box.2.1 1; have pf2 := HB0.out.box.2.1 2; have pf3 := HB0.out.box.2.1 3
  have pl := HB0.out.lt
  have x0 := HB1.out.box.1 0 _ rfl; have x1 := HB1.out.box.1 1 _ rfl
  have xf0 := HB1.out.box.2.1 0; have xf1 := HB1.out.box.2.1 1
  have xl := HB1.out.lt
  have z0 := HB2.out.box.1 0 _ rfl; have z1 := HB2.out.box.1 1 _ rfl; have z2 := HB2.out.box.1 2 _ rfl; have z3 := HB2.out.box.1 3 _ rfl
  have zf0 := HB2.out.box.2.1 0; have zf1 := HB2.out.box.2.1 1; have zf2 := HB2.out.box.2.1 2; have zf3 := HB2.out.box.2.1 3
  have zl := HB2.out.lt
  have hNl : w.heap.size < w2.heap.size := by omega
  go_wp2_with fail
  refine (rcheck_any x _ HL.out).mono ?_
  rintro en w3 ⟨rfl, hb3⟩
  have HD0 := Lib.hid' (HB0.out.below (Nat.le_refl _) hb3)
  have HD1 := Lib.hid' (HB1.out.below (Nat.le_refl _) hb3)
  have HD2 := Lib.hid' (HB2.out.below (Nat.le_refl _) hb3)
  have HG3 := Lib.hid' (HG.out.trans (hb3.mono HG.out.size))
  have HR3 := Lib.hid' (HR.out.below (Nat.le_refl _) hb3)
  clear p0 pf0 p1 pf1 p2 pf2 p3 pf3 x0 xf0 x1 xf1 z0 zf0 z1 zf1 z2 zf2 z3 zf3 pl xl zl
  clear hb3 hNl hG HR HB0 HB1 HB2 HG
  have hG := HG3.out
  have p0 := HD0.out.box.1 0 _ rfl; have p1 := HD0.out.box.1 1 _ rfl; have p2 := HD0.out.box.1 2 _ rfl; have p3 := HD0.out.box.1 3 _ rfl
  have pf0 := HD0.out.box.2.1 0; have pf1 := HD0.out.box.2.1 1; have pf2 := HD0.out.box.2.1 2; have pf3 := HD0.out.box.2.1 3
  have pl := HD0.out.lt
  have x0 := HD1.out.box.1 0 _ rfl; have x1 := HD1.out.box.1 1 _ rfl
  have xf0 := HD1.out.box.2.1 0; have xf1 := HD1.out.box.2.1 1
  have xl := HD1.out.lt
  have z0 := HD2.out.box.1 0 _ rfl; have z1 := HD2.out.box.1 1 _ rfl; have z2 := HD2.out.box.1 2 _ rfl; have z3 := HD2.out.box.1 3 _ rfl
  have zf0 := HD2.out.box.2.1 0; have zf1 := HD2.out.box.2.1 1; have zf2 := HD2.out.box.2.1 2; have zf3 := HD2.out.box.2.1 3
  have zl := HD2.out.lt
  have hNl : w.heap.size < w3.heap.size := by omega
  by_cases hc : x.check ≠ 0
  · have Hf := Lib.hid' (show m.rPut a x = (m, x.check) by simp [M.rPut, h1, hc])
    have hc1 : (((x.check : Nat) : Int) != 0) = true := by rw [bne_iff_ne]; omega
    clear hc
    go_wp2
    refine bodyPost_ret (v := .tuple #[rmV m ad cap, .int .i64 (x.check : Nat)]) (by simp [results, Try.results73, go_sem, rmV, p0, p1, p2, p3, z0, z1, z2, z3, pl, zl, xl]) rfl ?_
    rw [Hf.out]
    refine ⟨ad, cap, rfl, RList.keep (F := fun k => k = w.heap.size + 2) HR3.out ?_ (fun k hk => by subst hk; exact ⟨_, _, HD2.out, by simp⟩), ?_⟩
    · (repeat' first | exact Fr.refl _ _ | refine Fr.setCell ?_ (by first | (left; simp; done) | (right; simp; done) | (right; simp; omega)) _ | refine Fr.alloc ?_ _ | refine Fr.drew ?_)
    · go_grown
  have hc0 : x.check = 0 := by simpa using hc
  have HC0 := Lib.hid' hc0
  rw [show ((x.check : Nat) : Int) = 0 from by rw [hc0]; rfl]
  clear hc hc0
  by_cases hk : x.k ≠ 1 ∧ x.k ≠ 2
  · have Hf := Lib.hid' (show m.rPut a x = (m, 2) by simp [M.rPut, h1, HC0.out, hk])
    have k1 : (x.k != 1) = true := by simpa using hk.1
    have k2 : (x.k != 2) = true := by simpa using hk.2
    clear hk
    go_wp2
    refine bodyPost_ret (v := .tuple #[rmV m ad cap, .int .i64 2]) (by simp [results, Try.results73, go_sem, rmV, p0, p1, p2, p3, z0, z1, z2, z3, pl, zl, xl]) rfl ?_
    rw [Hf.out]
    refine ⟨ad, cap, rfl, RList.keep (F := fun k => k = w.heap.size + 2) HR3.out ?_ (fun k hk => by subst hk; exact ⟨_, _, HD2.out, by simp⟩), ?_⟩
    · (repeat' first | exact Fr.refl _ _ | refine Fr.setCell ?_ (by first | (left; simp; done) | (right; simp; done) | (right; simp; omega)) _ | refine Fr.alloc ?_ _ | refine Fr.drew ?_)
    · go_grown
  have HK := Lib.hid' hk
  have hk12 : x.k = 1 ∨ x.k = 2 := by omega
  clear hk
  rcases hk12 with hk | hk
  · have HKK := Lib.hid' hk
    have k1 : (x.k != 1) = false := by simp [hk]
    have k3 : (x.k == 1) = true := by simp [hk]
    clear hk
    go_wp2_with fail
    refine (rAt_any m.u ad cap a _ HR3.out).mono ?_
    rintro en w4 ⟨rfl, hb4⟩
    unfold rcellV
    have HE0 := Lib.hid' (HD0.out.below (Nat.le_refl _) hb4)
    have HE1 := Lib.hid' (HD1.out.below (Nat.le_refl _) hb4)
    have HE2 := Lib.hid' (HD2.out.below (Nat.le_refl _) hb4)
    have HG4 := Lib.hid' (HG3.out.trans (hb4.mono HG3.out.size))
    have HR4 := Lib.hid' (HR3.out.below (Nat.le_refl _) hb4)
    clear p0 pf0 p1 pf1 p2 pf2 p3 pf3 x0 xf0 x1 xf1 z0 zf0 z1 zf1 z2 zf2 z3 zf3 pl xl zl
    clear hb4 hNl hG
    have hG := HG4.out
    have p0 := HE0.out.box.1 0 _ rfl; have p1 := HE0.out.box.1 1 _ rfl; have p2 := HE0.out.box.1 2 _ rfl; have p3 := HE0.out.box.1 3 _ rfl
    have pf0 := HE0.out.box.2.1 0; have pf1 := HE0.out.box.2.1 1; have pf2 := HE0.out.box.2.1 2; have pf3 := HE0.out.box.2.1 3
    have pl := HE0.out.lt
    have x0 := HE1.out.box.1 0 _ rfl; have x1 := HE1.out.box.1 1 _ rfl
    have xf0 := HE1.out.box.2.1 0; have xf1 := HE1.out.box.2.1 1
    have xl := HE1.out.lt
    have z0 := HE2.out.box.1 0 _ rfl; have z1 := HE2.out.box.1 1 _ rfl; have z2 := HE2.out.box.1 2 _ rfl; have z3 := HE2.out.box.1 3 _ rfl
    have zf0 := HE2.out.box.2.1 0; have zf1 := HE2.out.box.2.1 1; have zf2 := HE2.out.box.2.1 2; have zf3 := HE2.out.box.2.1 3
    have zl := HE2.out.lt
    have hNl : w.heap.size < w4.heap.size := by omega
    by_cases h3 : (m.u.at a).k = 3
    · have Hf := Lib.hid' (show m.rPut a x = (m, 9) by simp [M.rPut, h1, HC0.out, HK.out, h3])
      have h3' : ((m.u.at a).k == 3) = true := by simpa using h3
      clear h3
      go_wp2
      refine bodyPost_ret (v := .tuple #[rmV m ad cap, .int .i64 9]) (by simp [results, Try.results73, go_sem, rmV, p0, p1, p2, p3, z0, z1, z2, z3, pl, zl, xl]) rfl ?_
      rw [Hf.out]
      refine ⟨ad, cap, rfl, RList.keep (F := fun k => k = w.heap.size + 2) HR4.out ?_ (fun k hk => by subst hk; exact ⟨_, _, HE2.out, by simp⟩), ?_⟩
      · (repeat' first | exact Fr.refl _ _ | refine Fr.setCell ?_ (by first | (left; simp; done) | (right; simp; done) | (right; simp; omega)) _ | refine Fr.alloc ?_ _ | refine Fr.drew ?_)
      · go_grown
    have H3 := Lib.hid' h3
    have h3' : ((m.u.at a).k == 3) = false := by simpa using h3
    clear h3
    by_cases h0 : (m.u.at a).k = 0
    · have h0' : ((m.u.at a).k != 0) = false := by simp [h0]
      have H8 := Lib.hid' (show ¬ ((m.u.at a).k ≠ 0 ∧ m.u.at a ≠ x) by simp [h0])
      clear h0
      have Hf := Lib.hid' (show m.rPut a x = (⟨(m.u.rWrite 0 a x.d).1, max m.t (a + 1)⟩, 0) by simp [M.rPut, h1, HC0.out, HK.out, H3.out, H8.out, HKK.out])
      go_wp2_with fail
      have hb5 : Below w4.heap.size w4 (w4.alloc (.cells #[.int .i64 (m.u.at a).k, .string (strOf (m.u.at a).d)] 125)) := by go_grown
      have HI0 := Lib.hid' (HE0.out.below (Nat.le_refl _) hb5)
      have HI1 := Lib.hid' (HE1.out.below (Nat.le_refl _) hb5)
      have HI2 := Lib.hid' (HE2.out.below (Nat.le_refl _) hb5)
      have HG5 := Lib.hid' (HG4.out.trans (hb5.mono HG4.out.size))
      have HR5 := Lib.hid' (HR4.out.below (Nat.le_refl _) hb5)
      clear p0 pf0 p1 pf1 p2 pf2 p3 pf3 x0 xf0 x1 xf1 z0 zf0 z1 zf1 z2 zf2 z3 zf3 pl xl zl
      clear hb5 hNl hG
      generalize (w4.alloc (.cells #[.int .i64 (m.u.at a).k, .string (strOf (m.u.at a).d)] 125)) = w5 at *
      refine (rWrite_any m.u ad cap 0 a x.d _ HR5.out HC.out HL.out).mono ?_
      rintro en w6 ⟨ad', cap', rfl, hr, hb6⟩
      have HR6 := Lib.hid' hr
      have HJ0 := Lib.hid' (HI0.out.below (Nat.le_refl _) hb6)
      have HJ1 := Lib.hid' (HI1.out.below (Nat.le_refl _) hb6)
      have HJ2 := Lib.hid' (HI2.out.below (Nat.le_refl _) hb6)
      have HG6 := Lib.hid' (HG5.out.trans (hb6.mono HG5.out.size))
      have hG6 := HG6.out
      clear hr hb6
      generalize (m.u.rWrite 0 a x.d).1 = u' at *
      generalize (m.u.rWrite 0 a x.d).2 = n' at *
      unfold ruV
      have p0 := HJ0.out.box.1 0 _ rfl; have p1 := HJ0.out.box.1 1 _ rfl; have p2 := HJ0.out.box.1 2 _ rfl; have p3 := HJ0.out.box.1 3 _ rfl
      have pf0 := HJ0.out.box.2.1 0; have pf1 := HJ0.out.box.2.1 1; have pf2 := HJ0.out.box.2.1 2; have pf3 := HJ0.out.box.2.1 3
      have pl := HJ0.out.lt
      have x0 := HJ1.out.box.1 0 _ rfl; have x1 := HJ1.out.box.1 1 _ rfl
      have xf0 := HJ1.out.box.2.1 0; have xf1 := HJ1.out.box.2.1 1
      have xl := HJ1.out.lt
      have z0 := HJ2.out.box.1 0 _ rfl; have z1 := HJ2.out.box.1 1 _ rfl; have z2 := HJ2.out.box.1 2 _ rfl; have z3 := HJ2.out.box.1 3 _ rfl
      have zf0 := HJ2.out.box.2.1 0; have zf1 := HJ2.out.box.2.1 1; have zf2 := HJ2.out.box.2.1 2; have zf3 := HJ2.out.box.2.1 3
      have zl := HJ2.out.lt
      have hNl : w.heap.size < w6.heap.size := by omega
      go_upto_region 17 with fail
      have HE0 := Lib.hid' (show BoxW w.heap.size [.int .i64 u'.e, .int .i64 u'.l, .slice ad' u'.cells.length cap', .int .i64 (max m.t (a + 1))] 63 ((((w6.setCell ⟨w.heap.size, 0, none⟩ (.int .i64 u'.e)).setCell ⟨w.heap.size, 1, none⟩ (.int .i64 u'.l)).setCell ⟨w.heap.size, 2, none⟩ (.slice ad' u'.cells.length cap')).setCell ⟨w.heap.size, 3, none⟩ (.int .i64 (max m.t (a + 1)))) from BoxW.set4 HJ0.out)
      have HF := Lib.hid' (show Fr (fun k => k = w.heap.size) w6 ((((w6.setCell ⟨w.heap.size, 0, none⟩ (.int .i64 u'.e)).setCell ⟨w.heap.size, 1, none⟩ (.int .i64 u'.l)).setCell ⟨w.heap.size, 2, none⟩ (.slice ad' u'.cells.length cap')).setCell ⟨w.heap.size, 3, none⟩ (.int .i64 (max m.t (a + 1)))) by (repeat' first | exact Fr.refl _ _ | refine Fr.setCell ?_ (by first | (left; simp; done) | (right; simp; done) | (right; simp; omega)) _ | refine Fr.alloc ?_ _ | refine Fr.drew ?_))
      have HE1 := Lib.hid' (HJ1.out.fr HF.out (by first | omega | (simp; done) | (simp; omega)))
      have HE2 := Lib.hid' (HJ2.out.fr HF.out (by first | omega | (simp; done) | (simp; omega)))
      have hG5 : Below w.heap.size w ((((w6.setCell ⟨w.heap.size, 0, none⟩ (.int .i64 u'.e)).setCell ⟨w.heap.size, 1, none⟩ (.int .i64 u'.l)).setCell ⟨w.heap.size, 2, none⟩ (.slice ad' u'.cells.length cap')).setCell ⟨w.heap.size, 3, none⟩ (.int .i64 (max m.t (a + 1)))) := by go_grown
      generalize ((((w6.setCell ⟨w.heap.size, 0, none⟩ (.int .i64 u'.e)).setCell ⟨w.heap.size, 1, none⟩ (.int .i64 u'.l)).setCell ⟨w.heap.size, 2, none⟩ (.slice ad' u'.cells.length cap')).setCell ⟨w.heap.size, 3, none⟩ (.int .i64 (max m.t (a + 1)))) = w7 at *
      clear p0 pf0 p1 pf1 p2 pf2 p3 pf3 x0 xf0 x1 xf1 z0 zf0 z1 zf1 z2 zf2 z3 zf3 pl xl zl
      have HQ0 := HE0; have HQ2 := HE2
      have p0 := HE0.out.box.1 0 _ rfl; have p1 := HE0.out.box.1 1 _ rfl; have p2 := HE0.out.box.1 2 _ rfl; have p3 := HE0.out.box.1 3 _ rfl
      have pf0 := HE0.out.box.2.1 0; have pf1 := HE0.out.box.2.1 1; have pf2 := HE0.out.box.2.1 2; have pf3 := HE0.out.box.2.1 3
      have pl := HE0.out.lt
      have z0 := HE2.out.box.1 0 _ rfl; have z1 := HE2.out.box.1 1 _ rfl; have z2 := HE2.out.box.1 2 _ rfl; have z3 := HE2.out.box.1 3 _ rfl
      have zf0 := HE2.out.box.2.1 0; have zf1 := HE2.out.box.2.1 1; have zf2 := HE2.out.box.2.1 2; have zf3 := HE2.out.box.2.1 3
      have zl := HE2.out.lt
      have HR7 := Lib.hid' (RList.keep HR6.out HF.out (fun k hk => by subst hk; exact ⟨_, _, HJ0.out, by simp⟩))
      go_wp2
      refine bodyPost_ret (v := .tuple #[rmV ⟨u', max m.t (a + 1)⟩ ad' cap', .int .i64 0]) (by simp [results, Try.results73, go_sem, rmV, p0, p1, p2, p3, z0, z1, z2, z3, pl, zl]) rfl ?_
      rw [Hf.out]
      refine ⟨ad', cap', rfl, RList.keep (F := fun k => k = w.heap.size + 2) HR7.out ?_ (fun k hk => by subst hk; exact ⟨_, _, HE2.out, by simp⟩), ?_⟩
      · (repeat' first | exact Fr.refl _ _ | refine Fr.setCell ?_ (by first | (left; simp; done) | (right; simp; done) | (right; simp; omega)) _ | refine Fr.alloc ?_ _ | refine Fr.drew ?_)
      · go_grown
    have h0' : ((m.u.at a).k != 0) = true := by simpa using h0
    by_cases hx : m.u.at a = x
    · have H8 := Lib.hid' (show ¬ ((m.u.at a).k ≠ 0 ∧ m.u.at a ≠ x) by simp [hx])
      have e1 : ((m.u.at a).k == x.k) = true := by simp [hx]
      have e2 : ((strOf (m.u.at a).d).toList == (strOf x.d).toList) = true := by simp [hx]
      clear h0 hx
      have Hf := Lib.hid' (show m.rPut a x = (⟨(m.u.rWrite 0 a x.d).1, max m.t (a + 1)⟩, 0) by simp [M.rPut, h1, HC0.out, HK.out, H3.out, H8.out, HKK.out])
      go_wp2_with fail
      have hb5 : Below w4.heap.size w4 (w4.alloc (.cells #[.int .i64 (m.u.at a).k, .string (strOf (m.u.at a).d)] 125)) := by go_grown
      have HI0 := Lib.hid' (HE0.out.below (Nat.le_refl _) hb5)
      have HI1 := Lib.hid' (HE1.out.below (Nat.le_refl _) hb5)
      have HI2 := Lib.hid' (HE2.out.below (Nat.le_refl _) hb5)
      have HG5 := Lib.hid' (HG4.out.trans (hb5.mono HG4.out.size))
      have HR5 := Lib.hid' (HR4.out.below (Nat.le_refl _) hb5)
      clear p0 pf0 p1 pf1 p2 pf2 p3 pf3 x0 xf0 x1 xf1 z0 zf0 z1 zf1 z2 zf2 z3 zf3 pl xl zl
      clear hb5 hNl hG
      generalize (w4.alloc (.cells #[.int .i64 (m.u.at a).k, .string (strOf (m.u.at a).d)] 125)) = w5 at *
      refine (rWrite_any m.u ad cap 0 a x.d _ HR5.out HC.out HL.out).mono ?_
      rintro en w6 ⟨ad', cap', rfl, hr, hb6⟩
      have HR6 := Lib.hid' hr
      have HJ0 := Lib.hid' (HI0.out.below (Nat.le_refl _) hb6)
      have HJ1 := Lib.hid' (HI1.out.below (Nat.le_refl _) hb6)
      have HJ2 := Lib.hid' (HI2.out.below (Nat.le_refl _) hb6)
      have HG6 := Lib.hid' (HG5.out.trans (hb6.mono HG5.out.size))
      have hG6 := HG6.out
      clear hr hb6
      generalize (m.u.rWrite 0 a x.d).1 = u' at *
      generalize (m.u.rWrite 0 a x.d).2 = n' at *
      unfold ruV
      have p0 := HJ0.out.box.1 0 _ rfl; have p1 := HJ0.out.box.1 1 _ rfl; have p2 := HJ0.out.box.1 2 _ rfl; have p3 := HJ0.out.box.1 3 _ rfl
      have pf0 := HJ0.out.box.2.1 0; have pf1 := HJ0.out.box.2.1 1; have pf2 := HJ0.out.box.2.1 2; have pf3 := HJ0.out.box.2.1 3
      have pl := HJ0.out.lt
      have x0 := HJ1.out.box.1 0 _ rfl; have x1 := HJ1.out.box.1 1 _ rfl
      have xf0 := HJ1.out.box.2.1 0; have xf1 := HJ1.out.box.2.1 1
      have xl := HJ1.out.lt
      have z0 := HJ2.out.box.1 0 _ rfl; have z1 := HJ2.out.box.1 1 _ rfl; have z2 := HJ2.out.box.1 2 _ rfl; have z3 := HJ2.out.box.1 3 _ rfl
      have zf0 := HJ2.out.box.2.1 0; have zf1 := HJ2.out.box.2.1 1; have zf2 := HJ2.out.box.2.1 2; have zf3 := HJ2.out.box.2.1 3
      have zl := HJ2.out.lt
      have hNl : w.heap.size < w6.heap.size := by omega
      go_upto_region 17 with fail
      have HE0 := Lib.hid' (show BoxW w.heap.size [.int .i64 u'.e, .int .i64 u'.l, .slice ad' u'.cells.length cap', .int .i64 (max m.t (a + 1))] 63 ((((w6.setCell ⟨w.heap.size, 0, none⟩ (.int .i64 u'.e)).setCell ⟨w.heap.size, 1, none⟩ (.int .i64 u'.l)).setCell ⟨w.heap.size, 2, none⟩ (.slice ad' u'.cells.length cap')).setCell ⟨w.heap.size, 3, none⟩ (.int .i64 (max m.t (a + 1)))) from BoxW.set4 HJ0.out)
      have HF := Lib.hid' (show Fr (fun k => k = w.heap.size) w6 ((((w6.setCell ⟨w.heap.size, 0, none⟩ (.int .i64 u'.e)).setCell ⟨w.heap.size, 1, none⟩ (.int .i64 u'.l)).setCell ⟨w.heap.size, 2, none⟩ (.slice ad' u'.cells.length cap')).setCell ⟨w.heap.size, 3, none⟩ (.int .i64 (max m.t (a + 1)))) by (repeat' first | exact Fr.refl _ _ | refine Fr.setCell ?_ (by first | (left; simp; done) | (right; simp; done) | (right; simp; omega)) _ | refine Fr.alloc ?_ _ | refine Fr.drew ?_))
      have HE1 := Lib.hid' (HJ1.out.fr HF.out (by first | omega | (simp; done) | (simp; omega)))
      have HE2 := Lib.hid' (HJ2.out.fr HF.out (by first | omega | (simp; done) | (simp; omega)))
      have hG5 : Below w.heap.size w ((((w6.setCell ⟨w.heap.size, 0, none⟩ (.int .i64 u'.e)).setCell ⟨w.heap.size, 1, none⟩ (.int .i64 u'.l)).setCell ⟨w.heap.size, 2, none⟩ (.slice ad' u'.cells.length cap')).setCell ⟨w.heap.size, 3, none⟩ (.int .i64 (max m.t (a + 1)))) := by go_grown
      generalize ((((w6.setCell ⟨w.heap.size, 0, none⟩ (.int .i64 u'.e)).setCell ⟨w.heap.size, 1, none⟩ (.int .i64 u'.l)).setCell ⟨w.heap.size, 2, none⟩ (.slice ad' u'.cells.length cap')).setCell ⟨w.heap.size, 3, none⟩ (.int .i64 (max m.t (a + 1)))) = w7 at *
      clear p0 pf0 p1 pf1 p2 pf2 p3 pf3 x0 xf0 x1 xf1 z0 zf0 z1 zf1 z2 zf2 z3 zf3 pl xl zl
      have HQ0 := HE0; have HQ2 := HE2
      have p0 := HE0.out.box.1 0 _ rfl; have p1 := HE0.out.box.1 1 _ rfl; have p2 := HE0.out.box.1 2 _ rfl; have p3 := HE0.out.box.1 3 _ rfl
      have pf0 := HE0.out.box.2.1 0; have pf1 := HE0.out.box.2.1 1; have pf2 := HE0.out.box.2.1 2; have pf3 := HE0.out.box.2.1 3
      have pl := HE0.out.lt
      have z0 := HE2.out.box.1 0 _ rfl; have z1 := HE2.out.box.1 1 _ rfl; have z2 := HE2.out.box.1 2 _ rfl; have z3 := HE2.out.box.1 3 _ rfl
      have zf0 := HE2.out.box.2.1 0; have zf1 := HE2.out.box.2.1 1; have zf2 := HE2.out.box.2.1 2; have zf3 := HE2.out.box.2.1 3
      have zl := HE2.out.lt
      have HR7 := Lib.hid' (RList.keep HR6.out HF.out (fun k hk => by subst hk; exact ⟨_, _, HJ0.out, by simp⟩))
      go_wp2
      refine bodyPost_ret (v := .tuple #[rmV ⟨u', max m.t (a + 1)⟩ ad' cap', .int .i64 0]) (by simp [results, Try.results73, go_sem, rmV, p0, p1, p2, p3, z0, z1, z2, z3, pl, zl]) rfl ?_
      rw [Hf.out]
      refine ⟨ad', cap', rfl, RList.keep (F := fun k => k = w.heap.size + 2) HR7.out ?_ (fun k hk => by subst hk; exact ⟨_, _, HE2.out, by simp⟩), ?_⟩
      · (repeat' first | exact Fr.refl _ _ | refine Fr.setCell ?_ (by first | (left; simp; done) | (right; simp; done) | (right; simp; omega)) _ | refine Fr.alloc ?_ _ | refine Fr.drew ?_)
      · go_grown
    have Hf := Lib.hid' (show m.rPut a x = (m, 8) by simp [M.rPut, h1, HC0.out, HK.out, H3.out, h0, hx])
    by_cases e1 : (m.u.at a).k = x.k
    · have e2 : ((strOf (m.u.at a).d).toList == (strOf x.d).toList) = false := by
        rw [beq_eq_false_iff_ne, strOf_toList, strOf_toList]; intro h; exact hx (C.ext' e1 h)
      have e3 : ((m.u.at a).k == x.k) = true := by simp [e1]
      clear e1 h0 hx
      go_wp2
      refine bodyPost_ret (v := .tuple #[rmV m ad cap, .int .i64 8]) (by simp [results, Try.results73, go_sem, rmV, p0, p1, p2, p3, z0, z1, z2, z3, pl, zl, xl]) rfl ?_
      rw [Hf.out]
      refine ⟨ad, cap, rfl, RList.keep (F := fun k => k = w.heap.size + 2) HR4.out ?_ (fun k hk => by subst hk; exact ⟨_, _, HE2.out, by simp⟩), ?_⟩
      · (repeat' first | exact Fr.refl _ _ | refine Fr.setCell ?_ (by first | (left; simp; done) | (right; simp; done) | (right; simp; omega)) _ | refine Fr.alloc ?_ _ | refine Fr.drew ?_)
      · go_grown
    · have e3 : ((m.u.at a).k == x.k) = false := by simpa using e1
      clear e1 h0 hx
      go_wp2
      refine bodyPost_ret (v := .tuple #[rmV m ad cap, .int .i64 8]) (by simp [results, Try.results73, go_sem, rmV, p0, p1, p2, p3, z0, z1, z2, z3, pl, zl, xl]) rfl ?_
      rw [Hf.out]
      refine ⟨ad, cap, rfl, RList.keep (F := fun k => k = w.heap.size + 2) HR4.out ?_ (fun k hk => by subst hk; exact ⟨_, _, HE2.out, by simp⟩), ?_⟩
      · (repeat' first | exact Fr.refl _ _ | refine Fr.setCell ?_ (by first | (left; simp; done) | (right; simp; done) | (right; simp; omega)) _ | refine Fr.alloc ?_ _ | refine Fr.drew ?_)
      · go_grown
  · have HKK := Lib.hid' hk
    have k1 : (x.k != 1) = true := by simp [hk]
    have k2 : (x.k != 2) = false := by simp [hk]
    have k3 : (x.k == 1) = false := by simp [hk]
    clear hk
    go_wp2_with fail
    refine (rAt_any m.u ad cap a _ HR3.out).mono ?_
    rintro en w4 ⟨rfl, hb4⟩
    unfold rcellV
    have HE0 := Lib.hid' (HD0.out.below (Nat.le_refl _) hb4)
    have HE1 := Lib.hid' (HD1.out.below (Nat.le_refl _) hb4)
    have HE2 := Lib.hid' (HD2.out.below (Nat.le_refl _) hb4)
    have HG4 := Lib.hid' (HG3.out.trans (hb4.mono HG3.out.size))
    have HR4 := Lib.hid' (HR3.out.below (Nat.le_refl _) hb4)
    clear p0 pf0 p1 pf1 p2 pf2 p3 pf3 x0 xf0 x1 xf1 z0 zf0 z1 zf1 z2 zf2 z3 zf3 pl xl zl
    clear hb4 hNl hG
    have hG := HG4.out
    have p0 := HE0.out.box.1 0 _ rfl; have p1 := HE0.out.box.1 1 _ rfl; have p2 := HE0.out.box.1 2 _ rfl; have p3 := HE0.out.box.1 3 _ rfl
    have pf0 := HE0.out.box.2.1 0; have pf1 := HE0.out.box.2.1 1; have pf2 := HE0.out.box.2.1 2; have pf3 := HE0.out.box.2.1 3
    have pl := HE0.out.lt
    have x0 := HE1.out.box.1 0 _ rfl; have x1 := HE1.out.box.1 1 _ rfl
    have xf0 := HE1.out.box.2.1 0; have xf1 := HE1.out.box.2.1 1
    have xl := HE1.out.lt
    have z0 := HE2.out.box.1 0 _ rfl; have z1 := HE2.out.box.1 1 _ rfl; have z2 := HE2.out.box.1 2 _ rfl; have z3 := HE2.out.box.1 3 _ rfl
    have zf0 := HE2.out.box.2.1 0; have zf1 := HE2.out.box.2.1 1; have zf2 := HE2.out.box.2.1 2; have zf3 := HE2.out.box.2.1 3
    have zl := HE2.out.lt
    have hNl : w.heap.size < w4.heap.size := by omega
    by_cases h3 : (m.u.at a).k = 3
    · have Hf := Lib.hid' (show m.rPut a x = (m, 9) by simp [M.rPut, h1, HC0.out, HK.out, h3])
      have h3' : ((m.u.at a).k == 3) = true := by simpa using h3
      clear h3
      go_wp2
      refine bodyPost_ret (v := .tuple #[rmV m ad cap, .int .i64 9]) (by simp [results, Try.results73, go_sem, rmV, p0, p1, p2, p3, z0, z1, z2, z3, pl, zl, xl]) rfl ?_
      rw [Hf.out]
      refine ⟨ad, cap, rfl, RList.keep (F := fun k => k = w.heap.size + 2) HR4.out ?_ (fun k hk => by subst hk; exact ⟨_, _, HE2.out, by simp⟩), ?_⟩
      · (repeat' first | exact Fr.refl _ _ | refine Fr.setCell ?_ (by first | (left; simp; done) | (right; simp; done) | (right; simp; omega)) _ | refine Fr.alloc ?_ _ | refine Fr.drew ?_)
      · go_grown
    have H3 := Lib.hid' h3
    have h3' : ((m.u.at a).k == 3) = false := by simpa using h3
    clear h3
    by_cases h0 : (m.u.at a).k = 0
    · have h0' : ((m.u.at a).k != 0) = false := by simp [h0]
      have H8 := Lib.hid' (show ¬ ((m.u.at a).k ≠ 0 ∧ m.u.at a ≠ x) by simp [h0])
      clear h0
      have Hf := Lib.hid' (show m.rPut a x = (⟨(m.u.rFill 0 a).1, max m.t (a + 1)⟩, 0) by simp [M.rPut, h1, HC0.out, HK.out, H3.out, H8.out, HKK.out])
      go_wp2_with fail
      have hb5 : Below w4.heap.size w4 (w4.alloc (.cells #[.int .i64 (m.u.at a).k, .string (strOf (m.u.at a).d)] 125)) := by go_grown
      have HI0 := Lib.hid' (HE0.out.below (Nat.le_refl _) hb5)
      have HI1 := Lib.hid' (HE1.out.below (Nat.le_refl _) hb5)
      have HI2 := Lib.hid' (HE2.out.below (Nat.le_refl _) hb5)
      have HG5 := Lib.hid' (HG4.out.trans (hb5.mono HG4.out.size))
      have HR5 := Lib.hid' (HR4.out.below (Nat.le_refl _) hb5)
      clear p0 pf0 p1 pf1 p2 pf2 p3 pf3 x0 xf0 x1 xf1 z0 zf0 z1 zf1 z2 zf2 z3 zf3 pl xl zl
      clear hb5 hNl hG
      generalize (w4.alloc (.cells #[.int .i64 (m.u.at a).k, .string (strOf (m.u.at a).d)] 125)) = w5 at *
      refine (rFill_any m.u ad cap 0 a _ HR5.out HC.out).mono ?_
      rintro en w6 ⟨ad', cap', rfl, hr, hb6⟩
      have HR6 := Lib.hid' hr
      have HJ0 := Lib.hid' (HI0.out.below (Nat.le_refl _) hb6)
      have HJ1 := Lib.hid' (HI1.out.below (Nat.le_refl _) hb6)
      have HJ2 := Lib.hid' (HI2.out.below (Nat.le_refl _) hb6)
      have HG6 := Lib.hid' (HG5.out.trans (hb6.mono HG5.out.size))
      have hG6 := HG6.out
      clear hr hb6
      generalize (m.u.rFill 0 a).1 = u' at *
      generalize (m.u.rFill 0 a).2 = n' at *
      unfold ruV
      have p0 := HJ0.out.box.1 0 _ rfl; have p1 := HJ0.out.box.1 1 _ rfl; have p2 := HJ0.out.box.1 2 _ rfl; have p3 := HJ0.out.box.1 3 _ rfl
      have pf0 := HJ0.out.box.2.1 0; have pf1 := HJ0.out.box.2.1 1; have pf2 := HJ0.out.box.2.1 2; have pf3 := HJ0.out.box.2.1 3
      have pl := HJ0.out.lt
      have x0 := HJ1.out.box.1 0 _ rfl; have x1 := HJ1.out.box.1 1 _ rfl
      have xf0 := HJ1.out.box.2.1 0; have xf1 := HJ1.out.box.2.1 1
      have xl := HJ1.out.lt
      have z0 := HJ2.out.box.1 0 _ rfl; have z1 := HJ2.out.box.1 1 _ rfl; have z2 := HJ2.out.box.1 2 _ rfl; have z3 := HJ2.out.box.1 3 _ rfl
      have zf0 := HJ2.out.box.2.1 0; have zf1 := HJ2.out.box.2.1 1; have zf2 := HJ2.out.box.2.1 2; have zf3 := HJ2.out.box.2.1 3
      have zl := HJ2.out.lt
      have hNl : w.heap.size < w6.heap.size := by omega
      go_upto_region 17 with fail
      have HE0 := Lib.hid' (show BoxW w.heap.size [.int .i64 u'.e, .int .i64 u'.l, .slice ad' u'.cells.length cap', .int .i64 (max m.t (a + 1))] 63 ((((w6.setCell ⟨w.heap.size, 0, none⟩ (.int .i64 u'.e)).setCell ⟨w.heap.size, 1, none⟩ (.int .i64 u'.l)).setCell ⟨w.heap.size, 2, none⟩ (.slice ad' u'.cells.length cap')).setCell ⟨w.heap.size, 3, none⟩ (.int .i64 (max m.t (a + 1)))) from BoxW.set4 HJ0.out)
      have HF := Lib.hid' (show Fr (fun k => k = w.heap.size) w6 ((((w6.setCell ⟨w.heap.size, 0, none⟩ (.int .i64 u'.e)).setCell ⟨w.heap.size, 1, none⟩ (.int .i64 u'.l)).setCell ⟨w.heap.size, 2, none⟩ (.slice ad' u'.cells.length cap')).setCell ⟨w.heap.size, 3, none⟩ (.int .i64 (max m.t (a + 1)))) by (repeat' first | exact Fr.refl _ _ | refine Fr.setCell ?_ (by first | (left; simp; done) | (right; simp; done) | (right; simp; omega)) _ | refine Fr.alloc ?_ _ | refine Fr.drew ?_))
      have HE1 := Lib.hid' (HJ1.out.fr HF.out (by first | omega | (simp; done) | (simp; omega)))
      have HE2 := Lib.hid' (HJ2.out.fr HF.out (by first | omega | (simp; done) | (simp; omega)))
      have hG5 : Below w.heap.size w ((((w6.setCell ⟨w.heap.size, 0, none⟩ (.int .i64 u'.e)).setCell ⟨w.heap.size, 1, none⟩ (.int .i64 u'.l)).setCell ⟨w.heap.size, 2, none⟩ (.slice ad' u'.cells.length cap')).setCell ⟨w.heap.size, 3, none⟩ (.int .i64 (max m.t (a + 1)))) := by go_grown
      generalize ((((w6.setCell ⟨w.heap.size, 0, none⟩ (.int .i64 u'.e)).setCell ⟨w.heap.size, 1, none⟩ (.int .i64 u'.l)).setCell ⟨w.heap.size, 2, none⟩ (.slice ad' u'.cells.length cap')).setCell ⟨w.heap.size, 3, none⟩ (.int .i64 (max m.t (a + 1)))) = w7 at *
      clear p0 pf0 p1 pf1 p2 pf2 p3 pf3 x0 xf0 x1 xf1 z0 zf0 z1 zf1 z2 zf2 z3 zf3 pl xl zl
      have HQ0 := HE0; have HQ2 := HE2
      have p0 := HE0.out.box.1 0 _ rfl; have p1 := HE0.out.box.1 1 _ rfl; have p2 := HE0.out.box.1 2 _ rfl; have p3 := HE0.out.box.1 3 _ rfl
      have pf0 := HE0.out.box.2.1 0; have pf1 := HE0.out.box.2.1 1; have pf2 := HE0.out.box.2.1 2; have pf3 := HE0.out.box.2.1 3
      have pl := HE0.out.lt
      have z0 := HE2.out.box.1 0 _ rfl; have z1 := HE2.out.box.1 1 _ rfl; have z2 := HE2.out.box.1 2 _ rfl; have z3 := HE2.out.box.1 3 _ rfl
      have zf0 := HE2.out.box.2.1 0; have zf1 := HE2.out.box.2.1 1; have zf2 := HE2.out.box.2.1 2; have zf3 := HE2.out.box.2.1 3
      have zl := HE2.out.lt
      have HR7 := Lib.hid' (RList.keep HR6.out HF.out (fun k hk => by subst hk; exact ⟨_, _, HJ0.out, by simp⟩))
      go_wp2
      refine bodyPost_ret (v := .tuple #[rmV ⟨u', max m.t (a + 1)⟩ ad' cap', .int .i64 0]) (by simp [results, Try.results73, go_sem, rmV, p0, p1, p2, p3, z0, z1, z2, z3, pl, zl]) rfl ?_
      rw [Hf.out]
      refine ⟨ad', cap', rfl, RList.keep (F := fun k => k = w.heap.size + 2) HR7.out ?_ (fun k hk => by subst hk; exact ⟨_, _, HE2.out, by simp⟩), ?_⟩
      · (repeat' first | exact Fr.refl _ _ | refine Fr.setCell ?_ (by first | (left; simp; done) | (right; simp; done) | (right; simp; omega)) _ | refine Fr.alloc ?_ _ | refine Fr.drew ?_)
      · go_grown
    have h0' : ((m.u.at a).k != 0) = true := by simpa using h0
    by_cases hx : m.u.at a = x
    · have H8 := Lib.hid' (show ¬ ((m.u.at a).k ≠ 0 ∧ m.u.at a ≠ x) by simp [hx])
      have e1 : ((m.u.at a).k == x.k) = true := by simp [hx]
      have e2 : ((strOf (m.u.at a).d).toList == (strOf x.d).toList) = true := by simp [hx]
      clear h0 hx
      have Hf := Lib.hid' (show m.rPut a x = (⟨(m.u.rFill 0 a).1, max m.t (a + 1)⟩, 0) by simp [M.rPut, h1, HC0.out, HK.out, H3.out, H8.out, HKK.out])
      go_wp2_with fail
      have hb5 : Below w4.heap.size w4 (w4.alloc (.cells #[.int .i64 (m.u.at a).k, .string (strOf (m.u.at a).d)] 125)) := by go_grown
      have HI0 := Lib.hid' (HE0.out.below (Nat.le_refl _) hb5)
      have HI1 := Lib.hid' (HE1.out.below (Nat.le_refl _) hb5)
      have HI2 := Lib.hid' (HE2.out.below (Nat.le_refl _) hb5)
      have HG5 := Lib.hid' (HG4.out.trans (hb5.mono HG4.out.size))
      have HR5 := Lib.hid' (HR4.out.below (Nat.le_refl _) hb5)
      clear p0 pf0 p1 pf1 p2 pf2 p3 pf3 x0 xf0 x1 xf1 z0 zf0 z1 zf1 z2 zf2 z3 zf3 pl xl zl
      clear hb5 hNl hG
      generalize (w4.alloc (.cells #[.int .i64 (m.u.at a).k, .string (strOf (m.u.at a).d)] 125)) = w5 at *
      refine (rFill_any m.u ad cap 0 a _ HR5.out HC.out).mono ?_
      rintro en w6 ⟨ad', cap', rfl, hr, hb6⟩
      have HR6 := Lib.hid' hr
      have HJ0 := Lib.hid' (HI0.out.below (Nat.le_refl _) hb6)
      have HJ1 := Lib.hid' (HI1.out.below (Nat.le_refl _) hb6)
      have HJ2 := Lib.hid' (HI2.out.below (Nat.le_refl _) hb6)
      have HG6 := Lib.hid' (HG5.out.trans (hb6.mono HG5.out.size))
      have hG6 := HG6.out
      clear hr hb6
      generalize (m.u.rFill 0 a).1 = u' at *
      generalize (m.u.rFill 0 a).2 = n' at *
      unfold ruV
      have p0 := HJ0.out.box.1 0 _ rfl; have p1 := HJ0.out.box.1 1 _ rfl; have p2 := HJ0.out.box.1 2 _ rfl; have p3 := HJ0.out.box.1 3 _ rfl
      have pf0 := HJ0.out.box.2.1 0; have pf1 := HJ0.out.box.2.1 1; have pf2 := HJ0.out.box.2.1 2; have pf3 := HJ0.out.box.2.1 3
      have pl := HJ0.out.lt
      have x0 := HJ1.out.box.1 0 _ rfl; have x1 := HJ1.out.box.1 1 _ rfl
      have xf0 := HJ1.out.box.2.1 0; have xf1 := HJ1.out.box.2.1 1
      have xl := HJ1.out.lt
      have z0 := HJ2.out.box.1 0 _ rfl; have z1 := HJ2.out.box.1 1 _ rfl; have z2 := HJ2.out.box.1 2 _ rfl; have z3 := HJ2.out.box.1 3 _ rfl
      have zf0 := HJ2.out.box.2.1 0; have zf1 := HJ2.out.box.2.1 1; have zf2 := HJ2.out.box.2.1 2; have zf3 := HJ2.out.box.2.1 3
      have zl := HJ2.out.lt
      have hNl : w.heap.size < w6.heap.size := by omega
      go_upto_region 17 with fail
      have HE0 := Lib.hid' (show BoxW w.heap.size [.int .i64 u'.e, .int .i64 u'.l, .slice ad' u'.cells.length cap', .int .i64 (max m.t (a + 1))] 63 ((((w6.setCell ⟨w.heap.size, 0, none⟩ (.int .i64 u'.e)).setCell ⟨w.heap.size, 1, none⟩ (.int .i64 u'.l)).setCell ⟨w.heap.size, 2, none⟩ (.slice ad' u'.cells.length cap')).setCell ⟨w.heap.size, 3, none⟩ (.int .i64 (max m.t (a + 1)))) from BoxW.set4 HJ0.out)
      have HF := Lib.hid' (show Fr (fun k => k = w.heap.size) w6 ((((w6.setCell ⟨w.heap.size, 0, none⟩ (.int .i64 u'.e)).setCell ⟨w.heap.size, 1, none⟩ (.int .i64 u'.l)).setCell ⟨w.heap.size, 2, none⟩ (.slice ad' u'.cells.length cap')).setCell ⟨w.heap.size, 3, none⟩ (.int .i64 (max m.t (a + 1)))) by (repeat' first | exact Fr.refl _ _ | refine Fr.setCell ?_ (by first | (left; simp; done) | (right; simp; done) | (right; simp; omega)) _ | refine Fr.alloc ?_ _ | refine Fr.drew ?_))
      have HE1 := Lib.hid' (HJ1.out.fr HF.out (by first | omega | (simp; done) | (simp; omega)))
      have HE2 := Lib.hid' (HJ2.out.fr HF.out (by first | omega | (simp; done) | (simp; omega)))
      have hG5 : Below w.heap.size w ((((w6.setCell ⟨w.heap.size, 0, none⟩ (.int .i64 u'.e)).setCell ⟨w.heap.size, 1, none⟩ (.int .i64 u'.l)).setCell ⟨w.heap.size, 2, none⟩ (.slice ad' u'.cells.length cap')).setCell ⟨w.heap.size, 3, none⟩ (.int .i64 (max m.t (a + 1)))) := by go_grown
      generalize ((((w6.setCell ⟨w.heap.size, 0, none⟩ (.int .i64 u'.e)).setCell ⟨w.heap.size, 1, none⟩ (.int .i64 u'.l)).setCell ⟨w.heap.size, 2, none⟩ (.slice ad' u'.cells.length cap')).setCell ⟨w.heap.size, 3, none⟩ (.int .i64 (max m.t (a + 1)))) = w7 at *
      clear p0 pf0 p1 pf1 p2 pf2 p3 pf3 x0 xf0 x1 xf1 z0 zf0 z1 zf1 z2 zf2 z3 zf3 pl xl zl
      have HQ0 := HE0; have HQ2 := HE2
      have p0 := HE0.out.box.1 0 _ rfl; have p1 := HE0.out.box.1 1 _ rfl; have p2 := HE0.out.box.1 2 _ rfl; have p3 := HE0.out.box.1 3 _ rfl
      have pf0 := HE0.out.box.2.1 0; have pf1 := HE0.out.box.2.1 1; have pf2 := HE0.out.box.2.1 2; have pf3 := HE0.out.box.2.1 3
      have pl := HE0.out.lt
      have z0 := HE2.out.box.1 0 _ rfl; have z1 := HE2.out.box.1 1 _ rfl; have z2 := HE2.out.box.1 2 _ rfl; have z3 := HE2.out.box.1 3 _ rfl
      have zf0 := HE2.out.box.2.1 0; have zf1 := HE2.out.box.2.1 1; have zf2 := HE2.out.box.2.1 2; have zf3 := HE2.out.box.2.1 3
      have zl := HE2.out.lt
      have HR7 := Lib.hid' (RList.keep HR6.out HF.out (fun k hk => by subst hk; exact ⟨_, _, HJ0.out, by simp⟩))
      go_wp2
      refine bodyPost_ret (v := .tuple #[rmV ⟨u', max m.t (a + 1)⟩ ad' cap', .int .i64 0]) (by simp [results, Try.results73, go_sem, rmV, p0, p1, p2, p3, z0, z1, z2, z3, pl, zl]) rfl ?_
      rw [Hf.out]
      refine ⟨ad', cap', rfl, RList.keep (F := fun k => k = w.heap.size + 2) HR7.out ?_ (fun k hk => by subst hk; exact ⟨_, _, HE2.out, by simp⟩), ?_⟩
      · (repeat' first | exact Fr.refl _ _ | refine Fr.setCell ?_ (by first | (left; simp; done) | (right; simp; done) | (right; simp; omega)) _ | refine Fr.alloc ?_ _ | refine Fr.drew ?_)
      · go_grown
    have Hf := Lib.hid' (show m.rPut a x = (m, 8) by simp [M.rPut, h1, HC0.out, HK.out, H3.out, h0, hx])
    by_cases e1 : (m.u.at a).k = x.k
    · have e2 : ((strOf (m.u.at a).d).toList == (strOf x.d).toList) = false := by
        rw [beq_eq_false_iff_ne, strOf_toList, strOf_toList]; intro h; exact hx (C.ext' e1 h)
      have e3 : ((m.u.at a).k == x.k) = true := by simp [e1]
      clear e1 h0 hx
      go_wp2
      refine bodyPost_ret (v := .tuple #[rmV m ad cap, .int .i64 8]) (by simp [results, Try.results73, go_sem, rmV, p0, p1, p2, p3, z0, z1, z2, z3, pl, zl, xl]) rfl ?_
      rw [Hf.out]
      refine ⟨ad, cap, rfl, RList.keep (F := fun k => k = w.heap.size + 2) HR4.out ?_ (fun k hk => by subst hk; exact ⟨_, _, HE2.out, by simp⟩), ?_⟩
      · (repeat' first | exact Fr.refl _ _ | refine Fr.setCell ?_ (by first | (left; simp; done) | (right; simp; done) | (right; simp; omega)) _ | refine Fr.alloc ?_ _ | refine Fr.drew ?_)
      · go_grown
    · have e3 : ((m.u.at a).k == x.k) = false := by simpa using e1
      clear e1 h0 hx
      go_wp2
      refine bodyPost_ret (v := .tuple #[rmV m ad cap, .int .i64 8]) (by simp [results, Try.results73, go_sem, rmV, p0, p1, p2, p3, z0, z1, z2, z3, pl, zl, xl]) rfl ?_
      rw [Hf.out]
      refine ⟨ad, cap, rfl, RList.keep (F := fun k => k = w.heap.size + 2) HR4.out ?_ (fun k hk => by subst hk; exact ⟨_, _, HE2.out, by simp⟩), ?_⟩
      · (repeat' first | exact Fr.refl _ _ | refine Fr.setCell ?_ (by first | (left; simp; done) | (right; simp; done) | (right; simp; omega)) _ | refine Fr.alloc ?_ _ | refine Fr.drew ?_)
      · go_grown
end Go.Proofs.Ytjkbcjliaacebaa
