/- Layer 33 (model): the document's model (holdfastref33): Append, Fill, Put, Trim, Cut. -/
import Derived.Test.YtjkbcjliaacebaaMdlEnt
import Derived.Test.YtjkbcjliaacebaaMdlS
import Derived.Test.YtjkbcjliaacebaaRefS
import Derived.Test.YtjkbcjliaacebaaDoM
import Derived.Deep.DeepCutAuto
import Derived.Deep.CutBlock
namespace Go.Proofs.Ytjkbcjliaacebaa
open Go.RowKit
set_option linter.unusedSimpArgs false
set_option linter.unusedVariables false
set_option maxRecDepth 20000

theorem Fr.setCell {F : Nat → Prop} {w w' : World} (h : Fr F w w') {b o : Nat} (hb : F b ∨ w.heap.size ≤ b) (v : Value) : Fr F w (w'.setCell ⟨b, o, none⟩ v) :=
  h.trans (fr_set w' b o v) (fun i hi => by subst hi; exact hb)
theorem Fr.alloc {F : Nat → Prop} {w w' : World} (h : Fr F w w') (o : Obj) : Fr F w (w'.alloc o) := h.trans_below (Below.alloc (Below.refl _ _) (Nat.le_refl _) o)
theorem Fr.drew {F : Nat → Prop} {w w' : World} (h : Fr F w w') : Fr F w w'.drew := h.trans_below (Below.drew (Below.refl _ _))
/-- a list of the document's stays where only boxes without strings, or with texts, are laid anew -/
theorem RList.keep {F : Nat → Prop} {w w' : World} {v : Value} {L : List (Int × C)} (hd : RList w v L) (hf : Fr F w w') (hF : ∀ k, F k → ∃ R t, BoxW k R t w ∧ ∀ b, Value.string b ∉ R) : RList w' v L := by
  obtain ⟨a, cap, rfl, h1, h2, h3, h4⟩ := hd
  refine ⟨a, cap, rfl, h1, h2, h3, fun j x hx => ?_⟩
  obtain ⟨p, rfl, hc⟩ := h4 j x hx
  refine ⟨p, rfl, hf.cell hc (fun hk => ?_)⟩
  cases L with
  | nil => simp [rents] at hx
  | cons y L =>
    obtain ⟨q, hq, hs⟩ := h4 2 (.string (strOf y.2.d)) (by simp [rents, rent])
    cases hq
    rw [add_block] at hk
    obtain ⟨R, t, hb, hR⟩ := hF _ hk
    have := hb.no_string hR hs
    rw [add_block] at this
    exact this rfl

theorem BoxW.set4 {N t : Nat} {a b c d a' b' c' d' : Value} {w : World} (h : BoxW N [a, b, c, d] t w) : BoxW N [a', b', c', d'] t ((((w.setCell ⟨N, 0, none⟩ a').setCell ⟨N, 1, none⟩ b').setCell ⟨N, 2, none⟩ c').setCell ⟨N, 3, none⟩ d') := by
  have h1 := heap_setCell_same w N 0 _ t a' h
  have h2 := heap_setCell_same _ N 1 _ t b' h1
  have h3 := heap_setCell_same _ N 2 _ t c' h2
  have h4 := heap_setCell_same _ N 3 _ t d' h3
  unfold BoxW
  rw [h4]; rfl
theorem BoxW.set3of4 {N t : Nat} {a b c d a' b' c' : Value} {w : World} (h : BoxW N [a, b, c, d] t w) : BoxW N [a', b', c', d] t (((w.setCell ⟨N, 0, none⟩ a').setCell ⟨N, 1, none⟩ b').setCell ⟨N, 2, none⟩ c') := by
  have h1 := heap_setCell_same w N 0 _ t a' h
  have h2 := heap_setCell_same _ N 1 _ t b' h1
  have h3 := heap_setCell_same _ N 2 _ t c' h2
  unfold BoxW
  rw [h3]; rfl

def rmV (m : M) (ad : Option Addr) (cap : Nat) : Value := .agg #[.int .i64 m.u.e, .int .i64 m.u.l, .slice ad m.u.cells.length cap, .int .i64 m.t]
def RMN (m : M) (n : Nat) (w : World) (en : Ending) (w' : World) : Prop := ∃ ad cap, en = .returned (.tuple #[rmV m ad cap, .int .i64 n]) ∧ RList w' (.slice ad m.u.cells.length cap) m.u.cells ∧ Below w.heap.size w w'
def RAMN (a : Int) (m : M) (n : Nat) (w : World) (en : Ending) (w' : World) : Prop := ∃ ad cap, en = .returned (.tuple #[.int .i64 a, rmV m ad cap, .int .i64 n]) ∧ RList w' (.slice ad m.u.cells.length cap) m.u.cells ∧ Below w.heap.size w w'
theorem rcheck_any (c : C) (w : World) (hl : c.d.length ≤ 1099511627776) : Calls Try.prog 112 #[rcellV c] w fun e w' => e = .returned (.int .i64 (c.check : Nat)) ∧ Below w.heap.size w w' := by
  unfold rcellV
  have hs := strOf_size c.d
  go_enter Try.func112, Try.ntmps112
  go_wp2
  all_goals go_ret
  all_goals (refine ⟨ret_eq ?_, by go_grown⟩)
  all_goals (unfold C.check; (repeat' split) <;> first | rfl | (exfalso; omega) | (exfalso; simp_all; done) | (exfalso; simp_all; omega))

set_option maxHeartbeats 4000000 in
theorem rmTrim_any (m : M) (ad : Option Addr) (cap : Nat) (b : Int) (w : World) (h : RList w (.slice ad m.u.cells.length cap) m.u.cells) (hc : m.u.cells.length ≤ 4194304) (hb : 0 ≤ m.t ∧ m.t ≤ 4611686018427387904) :
    Calls Try.prog 74 #[rmV m ad cap, .int .i64 b] w (RMN (m.rTrim b).1 (m.rTrim b).2 w) := by
  have H := Lib.hid' h; have HC := Lib.hid' hc; clear h hc; unfold rmV
  go_enter Try.func74, Try.ntmps74
  go_wp2_with fail
  have HB0 := Lib.hid' (show BoxW (w.heap.size) [.int .i64 m.u.e, .int .i64 m.u.l, .slice ad m.u.cells.length cap, .int .i64 m.t] 63 ((w.alloc (.cells #[.int .i64 m.u.e, .int .i64 m.u.l, .slice ad m.u.cells.length cap, .int .i64 m.t] 63)).alloc (.cells #[.int .i64 0, .int .i64 0, .slice none 0 0, .int .i64 0] 63)) from by
    have h := (BoxW.start w [.int .i64 m.u.e, .int .i64 m.u.l, .slice ad m.u.cells.length cap, .int .i64 m.t] 63).below (Nat.le_refl _) (show Below (w.alloc (.cells #[.int .i64 m.u.e, .int .i64 m.u.l, .slice ad m.u.cells.length cap, .int .i64 m.t] 63)).heap.size (w.alloc (.cells #[.int .i64 m.u.e, .int .i64 m.u.l, .slice ad m.u.cells.length cap, .int .i64 m.t] 63)) ((w.alloc (.cells #[.int .i64 m.u.e, .int .i64 m.u.l, .slice ad m.u.cells.length cap, .int .i64 m.t] 63)).alloc (.cells #[.int .i64 0, .int .i64 0, .slice none 0 0, .int .i64 0] 63)) by go_grown)
    simpa using h)
  have HB1 := Lib.hid' (show BoxW (w.heap.size + 1) [.int .i64 0, .int .i64 0, .slice none 0 0, .int .i64 0] 63 ((w.alloc (.cells #[.int .i64 m.u.e, .int .i64 m.u.l, .slice ad m.u.cells.length cap, .int .i64 m.t] 63)).alloc (.cells #[.int .i64 0, .int .i64 0, .slice none 0 0, .int .i64 0] 63)) from by
    have h := (BoxW.start (w.alloc (.cells #[.int .i64 m.u.e, .int .i64 m.u.l, .slice ad m.u.cells.length cap, .int .i64 m.t] 63)) [.int .i64 0, .int .i64 0, .slice none 0 0, .int .i64 0] 63).below (Nat.le_refl _) (show Below ((w.alloc (.cells #[.int .i64 m.u.e, .int .i64 m.u.l, .slice ad m.u.cells.length cap, .int .i64 m.t] 63)).alloc (.cells #[.int .i64 0, .int .i64 0, .slice none 0 0, .int .i64 0] 63)).heap.size ((w.alloc (.cells #[.int .i64 m.u.e, .int .i64 m.u.l, .slice ad m.u.cells.length cap, .int .i64 m.t] 63)).alloc (.cells #[.int .i64 0, .int .i64 0, .slice none 0 0, .int .i64 0] 63)) ((w.alloc (.cells #[.int .i64 m.u.e, .int .i64 m.u.l, .slice ad m.u.cells.length cap, .int .i64 m.t] 63)).alloc (.cells #[.int .i64 0, .int .i64 0, .slice none 0 0, .int .i64 0] 63)) by go_grown)
    simpa using h)
  have HG := Lib.hid' (show Below w.heap.size w ((w.alloc (.cells #[.int .i64 m.u.e, .int .i64 m.u.l, .slice ad m.u.cells.length cap, .int .i64 m.t] 63)).alloc (.cells #[.int .i64 0, .int .i64 0, .slice none 0 0, .int .i64 0] 63)) by go_grown)
  generalize ((w.alloc (.cells #[.int .i64 m.u.e, .int .i64 m.u.l, .slice ad m.u.cells.length cap, .int .i64 m.t] 63)).alloc (.cells #[.int .i64 0, .int .i64 0, .slice none 0 0, .int .i64 0] 63)) = w2 at *
  refine (rTrim_any m.u ad cap 0 b _ (H.out.below (Nat.le_refl _) HG.out) HC.out).mono ?_
  rintro en w3 ⟨ad', cap', rfl, hr, hb3⟩
  have HR := Lib.hid' hr
  have HD0 := Lib.hid' (HB0.out.below (Nat.le_refl _) hb3)
  have HD1 := Lib.hid' (HB1.out.below (Nat.le_refl _) hb3)
  have HDG := Lib.hid' (HG.out.trans (hb3.mono HG.out.size))
  have hG := HDG.out
  clear hr hb3 HB0 HB1 HG H HC
  have HQ := Lib.hid' (show m.rTrim b = (⟨(m.u.rTrim 0 b).1, if (m.u.rTrim 0 b).2 = 0 then max m.t b else m.t⟩, (m.u.rTrim 0 b).2) from rfl)
  generalize m.u.rTrim 0 b = q at *
  obtain ⟨u', n'⟩ := q
  dsimp only at *
  unfold ruV
  have p0 := HD0.out.box.1 0 _ rfl; have p1 := HD0.out.box.1 1 _ rfl; have p2 := HD0.out.box.1 2 _ rfl; have p3 := HD0.out.box.1 3 _ rfl
  have pf0 := HD0.out.box.2.1 0; have pf1 := HD0.out.box.2.1 1; have pf2 := HD0.out.box.2.1 2; have pf3 := HD0.out.box.2.1 3
  have pl := HD0.out.lt
  have z0 := HD1.out.box.1 0 _ rfl; have z1 := HD1.out.box.1 1 _ rfl; have z2 := HD1.out.box.1 2 _ rfl; have z3 := HD1.out.box.1 3 _ rfl
  have zf0 := HD1.out.box.2.1 0; have zf1 := HD1.out.box.2.1 1; have zf2 := HD1.out.box.2.1 2; have zf3 := HD1.out.box.2.1 3
  have zl := HD1.out.lt
  have hNl : w.heap.size < w3.heap.size := by omega
  by_cases hn : n' = 0
  · have hn' : ((n' : Int) == 0) = true := by simp [hn]
    have HN := Lib.hid' hn
    clear hn
    go_upto_region 5 with fail
    have HE0 := Lib.hid' (show BoxW w.heap.size [.int .i64 u'.e, .int .i64 u'.l, .slice ad' u'.cells.length cap', .int .i64 (max m.t b)] 63 (((((w3.setCell ⟨w.heap.size, 0, none⟩ (.int .i64 u'.e)).setCell ⟨w.heap.size, 1, none⟩ (.int .i64 u'.l)).setCell ⟨w.heap.size, 2, none⟩ (.slice ad' u'.cells.length cap')).setCell ⟨w.heap.size, 3, none⟩ (.int .i64 (max m.t b))).alloc (.cells #[.int .i64 u'.e, .int .i64 u'.l, .slice ad' u'.cells.length cap'] 61)) from BoxW.below (BoxW.set4 HD0.out) (Nat.le_refl _) (by go_grown))
    have HF := Lib.hid' (show Fr (fun k => k = w.heap.size) w3 (((((w3.setCell ⟨w.heap.size, 0, none⟩ (.int .i64 u'.e)).setCell ⟨w.heap.size, 1, none⟩ (.int .i64 u'.l)).setCell ⟨w.heap.size, 2, none⟩ (.slice ad' u'.cells.length cap')).setCell ⟨w.heap.size, 3, none⟩ (.int .i64 (max m.t b))).alloc (.cells #[.int .i64 u'.e, .int .i64 u'.l, .slice ad' u'.cells.length cap'] 61)) by (repeat' first | exact Fr.refl _ _ | refine Fr.setCell ?_ (by first | (left; simp; done) | (right; simp; done) | (right; simp; omega)) _ | refine Fr.alloc ?_ _ | refine Fr.drew ?_))
    have HE1 := Lib.hid' (HD1.out.fr HF.out (by first | omega | (simp; done) | (simp; omega)))
    have hG5 : Below w.heap.size w (((((w3.setCell ⟨w.heap.size, 0, none⟩ (.int .i64 u'.e)).setCell ⟨w.heap.size, 1, none⟩ (.int .i64 u'.l)).setCell ⟨w.heap.size, 2, none⟩ (.slice ad' u'.cells.length cap')).setCell ⟨w.heap.size, 3, none⟩ (.int .i64 (max m.t b))).alloc (.cells #[.int .i64 u'.e, .int .i64 u'.l, .slice ad' u'.cells.length cap'] 61)) := by go_grown
    generalize (((((w3.setCell ⟨w.heap.size, 0, none⟩ (.int .i64 u'.e)).setCell ⟨w.heap.size, 1, none⟩ (.int .i64 u'.l)).setCell ⟨w.heap.size, 2, none⟩ (.slice ad' u'.cells.length cap')).setCell ⟨w.heap.size, 3, none⟩ (.int .i64 (max m.t b))).alloc (.cells #[.int .i64 u'.e, .int .i64 u'.l, .slice ad' u'.cells.length cap'] 61)) = w5 at *
    clear p0 p1 p2 p3 pf0 pf1 pf2 pf3 z0 z1 z2 z3 zf0 zf1 zf2 zf3 pl zl hG hNl
    have p0 := HE0.out.box.1 0 _ rfl; have p1 := HE0.out.box.1 1 _ rfl; have p2 := HE0.out.box.1 2 _ rfl; have p3 := HE0.out.box.1 3 _ rfl
    have pf0 := HE0.out.box.2.1 0; have pf1 := HE0.out.box.2.1 1; have pf2 := HE0.out.box.2.1 2; have pf3 := HE0.out.box.2.1 3
    have pl := HE0.out.lt
    have z0 := HE1.out.box.1 0 _ rfl; have z1 := HE1.out.box.1 1 _ rfl; have z2 := HE1.out.box.1 2 _ rfl; have z3 := HE1.out.box.1 3 _ rfl
    have zf0 := HE1.out.box.2.1 0; have zf1 := HE1.out.box.2.1 1; have zf2 := HE1.out.box.2.1 2; have zf3 := HE1.out.box.2.1 3
    have zl := HE1.out.lt
    go_wp2
    refine bodyPost_ret (v := .tuple #[rmV ⟨u', max m.t b⟩ ad' cap', .int .i64 n']) (by simp [results, Try.results74, go_sem, rmV, p0, p1, p2, p3, z0, z1, z2, z3, pl, zl]) rfl ?_
    rw [HQ.out, if_pos HN.out]
    exact ⟨ad', cap', rfl, RList.keep (F := fun k => k = w.heap.size ∨ k = w.heap.size + 1) HR.out (by first | exact (HF.out.mono (fun k hk => .inl hk)) | (refine Fr.trans (F' := fun k => k = w.heap.size ∨ k = w.heap.size + 1) (HF.out.mono (fun k hk => .inl hk)) ?_ (fun i hi => .inl hi); (repeat' first | exact Fr.refl _ _ | refine Fr.setCell ?_ (by first | (left; simp; done) | (right; simp; done) | (right; simp; omega)) _ | refine Fr.alloc ?_ _ | refine Fr.drew ?_))) (fun k hk => by rcases hk with rfl | rfl; all_goals first | exact ⟨_, _, HD0.out, by simp⟩ | exact ⟨_, _, HD1.out, by simp⟩), by go_grown⟩
  · have hn' : ((n' : Int) == 0) = false := by simpa using hn
    have HN := Lib.hid' hn
    clear hn
    go_upto_region 5 with fail
    have HE0 := Lib.hid' (show BoxW w.heap.size [.int .i64 u'.e, .int .i64 u'.l, .slice ad' u'.cells.length cap', .int .i64 m.t] 63 ((((w3.setCell ⟨w.heap.size, 0, none⟩ (.int .i64 u'.e)).setCell ⟨w.heap.size, 1, none⟩ (.int .i64 u'.l)).setCell ⟨w.heap.size, 2, none⟩ (.slice ad' u'.cells.length cap')).alloc (.cells #[.int .i64 u'.e, .int .i64 u'.l, .slice ad' u'.cells.length cap'] 61)) from BoxW.below (BoxW.set3of4 HD0.out) (Nat.le_refl _) (by go_grown))
    have HF := Lib.hid' (show Fr (fun k => k = w.heap.size) w3 ((((w3.setCell ⟨w.heap.size, 0, none⟩ (.int .i64 u'.e)).setCell ⟨w.heap.size, 1, none⟩ (.int .i64 u'.l)).setCell ⟨w.heap.size, 2, none⟩ (.slice ad' u'.cells.length cap')).alloc (.cells #[.int .i64 u'.e, .int .i64 u'.l, .slice ad' u'.cells.length cap'] 61)) by (repeat' first | exact Fr.refl _ _ | refine Fr.setCell ?_ (by first | (left; simp; done) | (right; simp; done) | (right; simp; omega)) _ | refine Fr.alloc ?_ _ | refine Fr.drew ?_))
    have HE1 := Lib.hid' (HD1.out.fr HF.out (by first | omega | (simp; done) | (simp; omega)))
    have hG5 : Below w.heap.size w ((((w3.setCell ⟨w.heap.size, 0, none⟩ (.int .i64 u'.e)).setCell ⟨w.heap.size, 1, none⟩ (.int .i64 u'.l)).setCell ⟨w.heap.size, 2, none⟩ (.slice ad' u'.cells.length cap')).alloc (.cells #[.int .i64 u'.e, .int .i64 u'.l, .slice ad' u'.cells.length cap'] 61)) := by go_grown
    generalize ((((w3.setCell ⟨w.heap.size, 0, none⟩ (.int .i64 u'.e)).setCell ⟨w.heap.size, 1, none⟩ (.int .i64 u'.l)).setCell ⟨w.heap.size, 2, none⟩ (.slice ad' u'.cells.length cap')).alloc (.cells #[.int .i64 u'.e, .int .i64 u'.l, .slice ad' u'.cells.length cap'] 61)) = w5 at *
    clear p0 p1 p2 p3 pf0 pf1 pf2 pf3 z0 z1 z2 z3 zf0 zf1 zf2 zf3 pl zl hG hNl
    have p0 := HE0.out.box.1 0 _ rfl; have p1 := HE0.out.box.1 1 _ rfl; have p2 := HE0.out.box.1 2 _ rfl; have p3 := HE0.out.box.1 3 _ rfl
    have pf0 := HE0.out.box.2.1 0; have pf1 := HE0.out.box.2.1 1; have pf2 := HE0.out.box.2.1 2; have pf3 := HE0.out.box.2.1 3
    have pl := HE0.out.lt
    have z0 := HE1.out.box.1 0 _ rfl; have z1 := HE1.out.box.1 1 _ rfl; have z2 := HE1.out.box.1 2 _ rfl; have z3 := HE1.out.box.1 3 _ rfl
    have zf0 := HE1.out.box.2.1 0; have zf1 := HE1.out.box.2.1 1; have zf2 := HE1.out.box.2.1 2; have zf3 := HE1.out.box.2.1 3
    have zl := HE1.out.lt
    go_wp2
    refine bodyPost_ret (v := .tuple #[rmV ⟨u', m.t⟩ ad' cap', .int .i64 n']) (by simp [results, Try.results74, go_sem, rmV, p0, p1, p2, p3, z0, z1, z2, z3, pl, zl]) rfl ?_
    rw [HQ.out, if_neg HN.out]
    exact ⟨ad', cap', rfl, RList.keep (F := fun k => k = w.heap.size ∨ k = w.heap.size + 1) HR.out (by first | exact (HF.out.mono (fun k hk => .inl hk)) | (refine Fr.trans (F' := fun k => k = w.heap.size ∨ k = w.heap.size + 1) (HF.out.mono (fun k hk => .inl hk)) ?_ (fun i hi => .inl hi); (repeat' first | exact Fr.refl _ _ | refine Fr.setCell ?_ (by first | (left; simp; done) | (right; simp; done) | (right; simp; omega)) _ | refine Fr.alloc ?_ _ | refine Fr.drew ?_))) (fun k hk => by rcases hk with rfl | rfl; all_goals first | exact ⟨_, _, HD0.out, by simp⟩ | exact ⟨_, _, HD1.out, by simp⟩), by go_grown⟩
set_option maxHeartbeats 4000000 in
theorem rmCut_any (m : M) (ad : Option Addr) (cap : Nat) (b : Int) (w : World) (h : RList w (.slice ad m.u.cells.length cap) m.u.cells) (hc : m.u.cells.length ≤ 4194304) (hb : 0 ≤ m.t ∧ m.t ≤ 4611686018427387904) :
    Calls Try.prog 75 #[rmV m ad cap, .int .i64 b] w (RMN (m.rCut b).1 (m.rCut b).2 w) := by
  have H := Lib.hid' h; have HC := Lib.hid' hc; clear h hc; unfold rmV
  go_enter Try.func75, Try.ntmps75
  go_wp2_with fail
  have HB0 := Lib.hid' (show BoxW (w.heap.size) [.int .i64 m.u.e, .int .i64 m.u.l, .slice ad m.u.cells.length cap, .int .i64 m.t] 63 ((w.alloc (.cells #[.int .i64 m.u.e, .int .i64 m.u.l, .slice ad m.u.cells.length cap, .int .i64 m.t] 63)).alloc (.cells #[.int .i64 0, .int .i64 0, .slice none 0 0, .int .i64 0] 63)) from by
    have h := (BoxW.start w [.int .i64 m.u.e, .int .i64 m.u.l, .slice ad m.u.cells.length cap, .int .i64 m.t] 63).below (Nat.le_refl _) (show Below (w.alloc (.cells #[.int .i64 m.u.e, .int .i64 m.u.l, .slice ad m.u.cells.length cap, .int .i64 m.t] 63)).heap.size (w.alloc (.cells #[.int .i64 m.u.e, .int .i64 m.u.l, .slice ad m.u.cells.length cap, .int .i64 m.t] 63)) ((w.alloc (.cells #[.int .i64 m.u.e, .int .i64 m.u.l, .slice ad m.u.cells.length cap, .int .i64 m.t] 63)).alloc (.cells #[.int .i64 0, .int .i64 0, .slice none 0 0, .int .i64 0] 63)) by go_grown)
    simpa using h)
  have HB1 := Lib.hid' (show BoxW (w.heap.size + 1) [.int .i64 0, .int .i64 0, .slice none 0 0, .int .i64 0] 63 ((w.alloc (.cells #[.int .i64 m.u.e, .int .i64 m.u.l, .slice ad m.u.cells.length cap, .int .i64 m.t] 63)).alloc (.cells #[.int .i64 0, .int .i64 0, .slice none 0 0, .int .i64 0] 63)) from by
    have h := (BoxW.start (w.alloc (.cells #[.int .i64 m.u.e, .int .i64 m.u.l, .slice ad m.u.cells.length cap, .int .i64 m.t] 63)) [.int .i64 0, .int .i64 0, .slice none 0 0, .int .i64 0] 63).below (Nat.le_refl _) (show Below ((w.alloc (.cells #[.int .i64 m.u.e, .int .i64 m.u.l, .slice ad m.u.cells.length cap, .int .i64 m.t] 63)).alloc (.cells #[.int .i64 0, .int .i64 0, .slice none 0 0, .int .i64 0] 63)).heap.size ((w.alloc (.cells #[.int .i64 m.u.e, .int .i64 m.u.l, .slice ad m.u.cells.length cap, .int .i64 m.t] 63)).alloc (.cells #[.int .i64 0, .int .i64 0, .slice none 0 0, .int .i64 0] 63)) ((w.alloc (.cells #[.int .i64 m.u.e, .int .i64 m.u.l, .slice ad m.u.cells.length cap, .int .i64 m.t] 63)).alloc (.cells #[.int .i64 0, .int .i64 0, .slice none 0 0, .int .i64 0] 63)) by go_grown)
    simpa using h)
  have HG := Lib.hid' (show Below w.heap.size w ((w.alloc (.cells #[.int .i64 m.u.e, .int .i64 m.u.l, .slice ad m.u.cells.length cap, .int .i64 m.t] 63)).alloc (.cells #[.int .i64 0, .int .i64 0, .slice none 0 0, .int .i64 0] 63)) by go_grown)
  generalize ((w.alloc (.cells #[.int .i64 m.u.e, .int .i64 m.u.l, .slice ad m.u.cells.length cap, .int .i64 m.t] 63)).alloc (.cells #[.int .i64 0, .int .i64 0, .slice none 0 0, .int .i64 0] 63)) = w2 at *
  refine (rCut_any m.u ad cap 0 b _ (H.out.below (Nat.le_refl _) HG.out) HC.out).mono ?_
  rintro en w3 ⟨ad', cap', rfl, hr, hb3⟩
  have HR := Lib.hid' hr
  have HD0 := Lib.hid' (HB0.out.below (Nat.le_refl _) hb3)
  have HD1 := Lib.hid' (HB1.out.below (Nat.le_refl _) hb3)
  have HDG := Lib.hid' (HG.out.trans (hb3.mono HG.out.size))
  have hG := HDG.out
  clear hr hb3 HB0 HB1 HG H HC
  have HQ := Lib.hid' (show m.rCut b = (⟨(m.u.rCut 0 b).2.1, if (m.u.rCut 0 b).2.2 = 0 then b else m.t⟩, (m.u.rCut 0 b).2.2) from rfl)
  generalize m.u.rCut 0 b = q at *
  obtain ⟨g', u', n'⟩ := q
  dsimp only at *
  unfold ruV
  have p0 := HD0.out.box.1 0 _ rfl; have p1 := HD0.out.box.1 1 _ rfl; have p2 := HD0.out.box.1 2 _ rfl; have p3 := HD0.out.box.1 3 _ rfl
  have pf0 := HD0.out.box.2.1 0; have pf1 := HD0.out.box.2.1 1; have pf2 := HD0.out.box.2.1 2; have pf3 := HD0.out.box.2.1 3
  have pl := HD0.out.lt
  have z0 := HD1.out.box.1 0 _ rfl; have z1 := HD1.out.box.1 1 _ rfl; have z2 := HD1.out.box.1 2 _ rfl; have z3 := HD1.out.box.1 3 _ rfl
  have zf0 := HD1.out.box.2.1 0; have zf1 := HD1.out.box.2.1 1; have zf2 := HD1.out.box.2.1 2; have zf3 := HD1.out.box.2.1 3
  have zl := HD1.out.lt
  have hNl : w.heap.size < w3.heap.size := by omega
  by_cases hn : n' = 0
  · have hn' : ((n' : Int) == 0) = true := by simp [hn]
    have HN := Lib.hid' hn
    clear hn
    go_upto_region 5 with fail
    have HE0 := Lib.hid' (show BoxW w.heap.size [.int .i64 u'.e, .int .i64 u'.l, .slice ad' u'.cells.length cap', .int .i64 b] 63 (((((w3.setCell ⟨w.heap.size, 0, none⟩ (.int .i64 u'.e)).setCell ⟨w.heap.size, 1, none⟩ (.int .i64 u'.l)).setCell ⟨w.heap.size, 2, none⟩ (.slice ad' u'.cells.length cap')).setCell ⟨w.heap.size, 3, none⟩ (.int .i64 b)).alloc (.cells #[.int .i64 u'.e, .int .i64 u'.l, .slice ad' u'.cells.length cap'] 61)) from BoxW.below (BoxW.set4 HD0.out) (Nat.le_refl _) (by go_grown))
    have HF := Lib.hid' (show Fr (fun k => k = w.heap.size) w3 (((((w3.setCell ⟨w.heap.size, 0, none⟩ (.int .i64 u'.e)).setCell ⟨w.heap.size, 1, none⟩ (.int .i64 u'.l)).setCell ⟨w.heap.size, 2, none⟩ (.slice ad' u'.cells.length cap')).setCell ⟨w.heap.size, 3, none⟩ (.int .i64 b)).alloc (.cells #[.int .i64 u'.e, .int .i64 u'.l, .slice ad' u'.cells.length cap'] 61)) by (repeat' first | exact Fr.refl _ _ | refine Fr.setCell ?_ (by first | (left; simp; done) | (right; simp; done) | (right; simp; omega)) _ | refine Fr.alloc ?_ _ | refine Fr.drew ?_))
    have HE1 := Lib.hid' (HD1.out.fr HF.out (by first | omega | (simp; done) | (simp; omega)))
    have hG5 : Below w.heap.size w (((((w3.setCell ⟨w.heap.size, 0, none⟩ (.int .i64 u'.e)).setCell ⟨w.heap.size, 1, none⟩ (.int .i64 u'.l)).setCell ⟨w.heap.size, 2, none⟩ (.slice ad' u'.cells.length cap')).setCell ⟨w.heap.size, 3, none⟩ (.int .i64 b)).alloc (.cells #[.int .i64 u'.e, .int .i64 u'.l, .slice ad' u'.cells.length cap'] 61)) := by go_grown
    generalize (((((w3.setCell ⟨w.heap.size, 0, none⟩ (.int .i64 u'.e)).setCell ⟨w.heap.size, 1, none⟩ (.int .i64 u'.l)).setCell ⟨w.heap.size, 2, none⟩ (.slice ad' u'.cells.length cap')).setCell ⟨w.heap.size, 3, none⟩ (.int .i64 b)).alloc (.cells #[.int .i64 u'.e, .int .i64 u'.l, .slice ad' u'.cells.length cap'] 61)) = w5 at *
    clear p0 p1 p2 p3 pf0 pf1 pf2 pf3 z0 z1 z2 z3 zf0 zf1 zf2 zf3 pl zl hG hNl
    have p0 := HE0.out.box.1 0 _ rfl; have p1 := HE0.out.box.1 1 _ rfl; have p2 := HE0.out.box.1 2 _ rfl; have p3 := HE0.out.box.1 3 _ rfl
    have pf0 := HE0.out.box.2.1 0; have pf1 := HE0.out.box.2.1 1; have pf2 := HE0.out.box.2.1 2; have pf3 := HE0.out.box.2.1 3
    have pl := HE0.out.lt
    have z0 := HE1.out.box.1 0 _ rfl; have z1 := HE1.out.box.1 1 _ rfl; have z2 := HE1.out.box.1 2 _ rfl; have z3 := HE1.out.box.1 3 _ rfl
    have zf0 := HE1.out.box.2.1 0; have zf1 := HE1.out.box.2.1 1; have zf2 := HE1.out.box.2.1 2; have zf3 := HE1.out.box.2.1 3
    have zl := HE1.out.lt
    go_wp2
    refine bodyPost_ret (v := .tuple #[rmV ⟨u', b⟩ ad' cap', .int .i64 n']) (by simp [results, Try.results75, go_sem, rmV, p0, p1, p2, p3, z0, z1, z2, z3, pl, zl]) rfl ?_
    rw [HQ.out, if_pos HN.out]
    exact ⟨ad', cap', rfl, RList.keep (F := fun k => k = w.heap.size ∨ k = w.heap.size + 1) HR.out (by first | exact (HF.out.mono (fun k hk => .inl hk)) | (refine Fr.trans (F' := fun k => k = w.heap.size ∨ k = w.heap.size + 1) (HF.out.mono (fun k hk => .inl hk)) ?_ (fun i hi => .inl hi); (repeat' first | exact Fr.refl _ _ | refine Fr.setCell ?_ (by first | (left; simp; done) | (right; simp; done) | (right; simp; omega)) _ | refine Fr.alloc ?_ _ | refine Fr.drew ?_))) (fun k hk => by rcases hk with rfl | rfl; all_goals first | exact ⟨_, _, HD0.out, by simp⟩ | exact ⟨_, _, HD1.out, by simp⟩), by go_grown⟩
  · have hn' : ((n' : Int) == 0) = false := by simpa using hn
    have HN := Lib.hid' hn
    clear hn
    go_upto_region 5 with fail
    have HE0 := Lib.hid' (show BoxW w.heap.size [.int .i64 u'.e, .int .i64 u'.l, .slice ad' u'.cells.length cap', .int .i64 m.t] 63 ((((w3.setCell ⟨w.heap.size, 0, none⟩ (.int .i64 u'.e)).setCell ⟨w.heap.size, 1, none⟩ (.int .i64 u'.l)).setCell ⟨w.heap.size, 2, none⟩ (.slice ad' u'.cells.length cap')).alloc (.cells #[.int .i64 u'.e, .int .i64 u'.l, .slice ad' u'.cells.length cap'] 61)) from BoxW.below (BoxW.set3of4 HD0.out) (Nat.le_refl _) (by go_grown))
    have HF := Lib.hid' (show Fr (fun k => k = w.heap.size) w3 ((((w3.setCell ⟨w.heap.size, 0, none⟩ (.int .i64 u'.e)).setCell ⟨w.heap.size, 1, none⟩ (.int .i64 u'.l)).setCell ⟨w.heap.size, 2, none⟩ (.slice ad' u'.cells.length cap')).alloc (.cells #[.int .i64 u'.e, .int .i64 u'.l, .slice ad' u'.cells.length cap'] 61)) by (repeat' first | exact Fr.refl _ _ | refine Fr.setCell ?_ (by first | (left; simp; done) | (right; simp; done) | (right; simp; omega)) _ | refine Fr.alloc ?_ _ | refine Fr.drew ?_))
    have HE1 := Lib.hid' (HD1.out.fr HF.out (by first | omega | (simp; done) | (simp; omega)))
    have hG5 : Below w.heap.size w ((((w3.setCell ⟨w.heap.size, 0, none⟩ (.int .i64 u'.e)).setCell ⟨w.heap.size, 1, none⟩ (.int .i64 u'.l)).setCell ⟨w.heap.size, 2, none⟩ (.slice ad' u'.cells.length cap')).alloc (.cells #[.int .i64 u'.e, .int .i64 u'.l, .slice ad' u'.cells.length cap'] 61)) := by go_grown
    generalize ((((w3.setCell ⟨w.heap.size, 0, none⟩ (.int .i64 u'.e)).setCell ⟨w.heap.size, 1, none⟩ (.int .i64 u'.l)).setCell ⟨w.heap.size, 2, none⟩ (.slice ad' u'.cells.length cap')).alloc (.cells #[.int .i64 u'.e, .int .i64 u'.l, .slice ad' u'.cells.length cap'] 61)) = w5 at *
    clear p0 p1 p2 p3 pf0 pf1 pf2 pf3 z0 z1 z2 z3 zf0 zf1 zf2 zf3 pl zl hG hNl
    have p0 := HE0.out.box.1 0 _ rfl; have p1 := HE0.out.box.1 1 _ rfl; have p2 := HE0.out.box.1 2 _ rfl; have p3 := HE0.out.box.1 3 _ rfl
    have pf0 := HE0.out.box.2.1 0; have pf1 := HE0.out.box.2.1 1; have pf2 := HE0.out.box.2.1 2; have pf3 := HE0.out.box.2.1 3
    have pl := HE0.out.lt
    have z0 := HE1.out.box.1 0 _ rfl; have z1 := HE1.out.box.1 1 _ rfl; have z2 := HE1.out.box.1 2 _ rfl; have z3 := HE1.out.box.1 3 _ rfl
    have zf0 := HE1.out.box.2.1 0; have zf1 := HE1.out.box.2.1 1; have zf2 := HE1.out.box.2.1 2; have zf3 := HE1.out.box.2.1 3
    have zl := HE1.out.lt
    go_wp2
    refine bodyPost_ret (v := .tuple #[rmV ⟨u', m.t⟩ ad' cap', .int .i64 n']) (by simp [results, Try.results75, go_sem, rmV, p0, p1, p2, p3, z0, z1, z2, z3, pl, zl]) rfl ?_
    rw [HQ.out, if_neg HN.out]
    exact ⟨ad', cap', rfl, RList.keep (F := fun k => k = w.heap.size ∨ k = w.heap.size + 1) HR.out (by first | exact (HF.out.mono (fun k hk => .inl hk)) | (refine Fr.trans (F' := fun k => k = w.heap.size ∨ k = w.heap.size + 1) (HF.out.mono (fun k hk => .inl hk)) ?_ (fun i hi => .inl hi); (repeat' first | exact Fr.refl _ _ | refine Fr.setCell ?_ (by first | (left; simp; done) | (right; simp; done) | (right; simp; omega)) _ | refine Fr.alloc ?_ _ | refine Fr.drew ?_))) (fun k hk => by rcases hk with rfl | rfl; all_goals first | exact ⟨_, _, HD0.out, by simp⟩ | exact ⟨_, _, HD1.out, by simp⟩), by go_grown⟩
set_option maxHeartbeats 4000000 in
theorem rmFill_any (m : M) (ad : Option Addr) (cap : Nat) (b : Int) (w : World) (h : RList w (.slice ad m.u.cells.length cap) m.u.cells) (hc : m.u.cells.length ≤ 4194304) (hb : 0 ≤ m.t ∧ m.t ≤ 4611686018427387904) :
    Calls Try.prog 72 #[rmV m ad cap, .int .i64 b] w (RMN (m.rFil b).1 (m.rFil b).2 w) := by
  have H := Lib.hid' h; have HC := Lib.hid' hc; clear h hc; unfold rmV
  go_enter Try.func72, Try.ntmps72
  go_wp2_with fail
  have HB0 := Lib.hid' (show BoxW (w.heap.size) [.int .i64 m.u.e, .int .i64 m.u.l, .slice ad m.u.cells.length cap, .int .i64 m.t] 63 ((w.alloc (.cells #[.int .i64 m.u.e, .int .i64 m.u.l, .slice ad m.u.cells.length cap, .int .i64 m.t] 63)).alloc (.cells #[.int .i64 0, .int .i64 0, .slice none 0 0, .int .i64 0] 63)) from by
    have h := (BoxW.start w [.int .i64 m.u.e, .int .i64 m.u.l, .slice ad m.u.cells.length cap, .int .i64 m.t] 63).below (Nat.le_refl _) (show Below (w.alloc (.cells #[.int .i64 m.u.e, .int .i64 m.u.l, .slice ad m.u.cells.length cap, .int .i64 m.t] 63)).heap.size (w.alloc (.cells #[.int .i64 m.u.e, .int .i64 m.u.l, .slice ad m.u.cells.length cap, .int .i64 m.t] 63)) ((w.alloc (.cells #[.int .i64 m.u.e, .int .i64 m.u.l, .slice ad m.u.cells.length cap, .int .i64 m.t] 63)).alloc (.cells #[.int .i64 0, .int .i64 0, .slice none 0 0, .int .i64 0] 63)) by go_grown)
    simpa using h)
  have HB1 := Lib.hid' (show BoxW (w.heap.size + 1) [.int .i64 0, .int .i64 0, .slice none 0 0, .int .i64 0] 63 ((w.alloc (.cells #[.int .i64 m.u.e, .int .i64 m.u.l, .slice ad m.u.cells.length cap, .int .i64 m.t] 63)).alloc (.cells #[.int .i64 0, .int .i64 0, .slice none 0 0, .int .i64 0] 63)) from by
    have h := (BoxW.start (w.alloc (.cells #[.int .i64 m.u.e, .int .i64 m.u.l, .slice ad m.u.cells.length cap, .int .i64 m.t] 63)) [.int .i64 0, .int .i64 0, .slice none 0 0, .int .i64 0] 63).below (Nat.le_refl _) (show Below ((w.alloc (.cells #[.int .i64 m.u.e, .int .i64 m.u.l, .slice ad m.u.cells.length cap, .int .i64 m.t] 63)).alloc (.cells #[.int .i64 0, .int .i64 0, .slice none 0 0, .int .i64 0] 63)).heap.size ((w.alloc (.cells #[.int .i64 m.u.e, .int .i64 m.u.l, .slice ad m.u.cells.length cap, .int .i64 m.t] 63)).alloc (.cells #[.int .i64 0, .int .i64 0, .slice none 0 0, .int .i64 0] 63)) ((w.alloc (.cells #[.int .i64 m.u.e, .int .i64 m.u.l, .slice ad m.u.cells.length cap, .int .i64 m.t] 63)).alloc (.cells #[.int .i64 0, .int .i64 0, .slice none 0 0, .int .i64 0] 63)) by go_grown)
    simpa using h)
  have HG := Lib.hid' (show Below w.heap.size w ((w.alloc (.cells #[.int .i64 m.u.e, .int .i64 m.u.l, .slice ad m.u.cells.length cap, .int .i64 m.t] 63)).alloc (.cells #[.int .i64 0, .int .i64 0, .slice none 0 0, .int .i64 0] 63)) by go_grown)
  generalize ((w.alloc (.cells #[.int .i64 m.u.e, .int .i64 m.u.l, .slice ad m.u.cells.length cap, .int .i64 m.t] 63)).alloc (.cells #[.int .i64 0, .int .i64 0, .slice none 0 0, .int .i64 0] 63)) = w2 at *
  refine (rFill_any m.u ad cap 0 b _ (H.out.below (Nat.le_refl _) HG.out) HC.out).mono ?_
  rintro en w3 ⟨ad', cap', rfl, hr, hb3⟩
  have HR := Lib.hid' hr
  have HD0 := Lib.hid' (HB0.out.below (Nat.le_refl _) hb3)
  have HD1 := Lib.hid' (HB1.out.below (Nat.le_refl _) hb3)
  have HDG := Lib.hid' (HG.out.trans (hb3.mono HG.out.size))
  have hG := HDG.out
  clear hr hb3 HB0 HB1 HG H HC
  have HQ := Lib.hid' (show m.rFil b = (⟨(m.u.rFill 0 b).1, if (m.u.rFill 0 b).2 = 0 ∨ (m.u.rFill 0 b).2 = 8 then max m.t (b + 1) else m.t⟩, (m.u.rFill 0 b).2) from rfl)
  have hbb : (m.u.rFill 0 b).2 = 0 ∨ (m.u.rFill 0 b).2 = 8 → 0 ≤ b ∧ b ≤ 1048575 := by
    unfold U.rFill; split
    · simp
    · intro _; omega
  generalize m.u.rFill 0 b = q at *
  obtain ⟨u', n'⟩ := q
  dsimp only at *
  unfold ruV
  have p0 := HD0.out.box.1 0 _ rfl; have p1 := HD0.out.box.1 1 _ rfl; have p2 := HD0.out.box.1 2 _ rfl; have p3 := HD0.out.box.1 3 _ rfl
  have pf0 := HD0.out.box.2.1 0; have pf1 := HD0.out.box.2.1 1; have pf2 := HD0.out.box.2.1 2; have pf3 := HD0.out.box.2.1 3
  have pl := HD0.out.lt
  have z0 := HD1.out.box.1 0 _ rfl; have z1 := HD1.out.box.1 1 _ rfl; have z2 := HD1.out.box.1 2 _ rfl; have z3 := HD1.out.box.1 3 _ rfl
  have zf0 := HD1.out.box.2.1 0; have zf1 := HD1.out.box.2.1 1; have zf2 := HD1.out.box.2.1 2; have zf3 := HD1.out.box.2.1 3
  have zl := HD1.out.lt
  have hNl : w.heap.size < w3.heap.size := by omega
  by_cases hn : n' = 0 ∨ n' = 8
  · have HN := Lib.hid' hn
    have hb0 := (hbb hn).1; have hb1 := (hbb hn).2
    clear hbb
    obtain ⟨x0, hx0⟩ : ∃ x0, ((n' : Int) == 0) = x0 := ⟨_, rfl⟩
    have hx8 : x0 = false → ((n' : Int) == 8) = true := by
      intro h; subst h; rcases hn with h | h
      · subst h; simp at hx0
      · subst h; rfl
    clear hn
    cases x0
    · have hx8' := hx8 rfl
      clear hx8
      go_upto_region 5 with fail
      have HE0 := Lib.hid' (show BoxW w.heap.size [.int .i64 u'.e, .int .i64 u'.l, .slice ad' u'.cells.length cap', .int .i64 (max m.t (b + 1))] 63 (((((w3.setCell ⟨w.heap.size, 0, none⟩ (.int .i64 u'.e)).setCell ⟨w.heap.size, 1, none⟩ (.int .i64 u'.l)).setCell ⟨w.heap.size, 2, none⟩ (.slice ad' u'.cells.length cap')).setCell ⟨w.heap.size, 3, none⟩ (.int .i64 (max m.t (b + 1)))).alloc (.cells #[.int .i64 u'.e, .int .i64 u'.l, .slice ad' u'.cells.length cap'] 61)) from BoxW.below (BoxW.set4 HD0.out) (Nat.le_refl _) (by go_grown))
      have HF := Lib.hid' (show Fr (fun k => k = w.heap.size) w3 (((((w3.setCell ⟨w.heap.size, 0, none⟩ (.int .i64 u'.e)).setCell ⟨w.heap.size, 1, none⟩ (.int .i64 u'.l)).setCell ⟨w.heap.size, 2, none⟩ (.slice ad' u'.cells.length cap')).setCell ⟨w.heap.size, 3, none⟩ (.int .i64 (max m.t (b + 1)))).alloc (.cells #[.int .i64 u'.e, .int .i64 u'.l, .slice ad' u'.cells.length cap'] 61)) by (repeat' first | exact Fr.refl _ _ | refine Fr.setCell ?_ (by first | (left; simp; done) | (right; simp; done) | (right; simp; omega)) _ | refine Fr.alloc ?_ _ | refine Fr.drew ?_))
      have HE1 := Lib.hid' (HD1.out.fr HF.out (by first | omega | (simp; done) | (simp; omega)))
      have hG5 : Below w.heap.size w (((((w3.setCell ⟨w.heap.size, 0, none⟩ (.int .i64 u'.e)).setCell ⟨w.heap.size, 1, none⟩ (.int .i64 u'.l)).setCell ⟨w.heap.size, 2, none⟩ (.slice ad' u'.cells.length cap')).setCell ⟨w.heap.size, 3, none⟩ (.int .i64 (max m.t (b + 1)))).alloc (.cells #[.int .i64 u'.e, .int .i64 u'.l, .slice ad' u'.cells.length cap'] 61)) := by go_grown
      generalize (((((w3.setCell ⟨w.heap.size, 0, none⟩ (.int .i64 u'.e)).setCell ⟨w.heap.size, 1, none⟩ (.int .i64 u'.l)).setCell ⟨w.heap.size, 2, none⟩ (.slice ad' u'.cells.length cap')).setCell ⟨w.heap.size, 3, none⟩ (.int .i64 (max m.t (b + 1)))).alloc (.cells #[.int .i64 u'.e, .int .i64 u'.l, .slice ad' u'.cells.length cap'] 61)) = w5 at *
      clear p0 p1 p2 p3 pf0 pf1 pf2 pf3 z0 z1 z2 z3 zf0 zf1 zf2 zf3 pl zl hG hNl
      have p0 := HE0.out.box.1 0 _ rfl; have p1 := HE0.out.box.1 1 _ rfl; have p2 := HE0.out.box.1 2 _ rfl; have p3 := HE0.out.box.1 3 _ rfl
      have pf0 := HE0.out.box.2.1 0; have pf1 := HE0.out.box.2.1 1; have pf2 := HE0.out.box.2.1 2; have pf3 := HE0.out.box.2.1 3
      have pl := HE0.out.lt
      have z0 := HE1.out.box.1 0 _ rfl; have z1 := HE1.out.box.1 1 _ rfl; have z2 := HE1.out.box.1 2 _ rfl; have z3 := HE1.out.box.1 3 _ rfl
      have zf0 := HE1.out.box.2.1 0; have zf1 := HE1.out.box.2.1 1; have zf2 := HE1.out.box.2.1 2; have zf3 := HE1.out.box.2.1 3
      have zl := HE1.out.lt
      go_wp2
      refine bodyPost_ret (v := .tuple #[rmV ⟨u', max m.t (b + 1)⟩ ad' cap', .int .i64 n']) (by simp [results, Try.results72, go_sem, rmV, p0, p1, p2, p3, z0, z1, z2, z3, pl, zl]) rfl ?_
      rw [HQ.out, if_pos HN.out]
      exact ⟨ad', cap', rfl, RList.keep (F := fun k => k = w.heap.size ∨ k = w.heap.size + 1) HR.out (by first | exact (HF.out.mono (fun k hk => .inl hk)) | (refine Fr.trans (F' := fun k => k = w.heap.size ∨ k = w.heap.size + 1) (HF.out.mono (fun k hk => .inl hk)) ?_ (fun i hi => .inl hi); (repeat' first | exact Fr.refl _ _ | refine Fr.setCell ?_ (by first | (left; simp; done) | (right; simp; done) | (right; simp; omega)) _ | refine Fr.alloc ?_ _ | refine Fr.drew ?_))) (fun k hk => by rcases hk with rfl | rfl; all_goals first | exact ⟨_, _, HD0.out, by simp⟩ | exact ⟨_, _, HD1.out, by simp⟩), by go_grown⟩
    · clear hx8
      go_upto_region 5 with fail
      have HE0 := Lib.hid' (show BoxW w.heap.size [.int .i64 u'.e, .int .i64 u'.l, .slice ad' u'.cells.length cap', .int .i64 (max m.t (b + 1))] 63 (((((w3.setCell ⟨w.heap.size, 0, none⟩ (.int .i64 u'.e)).setCell ⟨w.heap.size, 1, none⟩ (.int .i64 u'.l)).setCell ⟨w.heap.size, 2, none⟩ (.slice ad' u'.cells.length cap')).setCell ⟨w.heap.size, 3, none⟩ (.int .i64 (max m.t (b + 1)))).alloc (.cells #[.int .i64 u'.e, .int .i64 u'.l, .slice ad' u'.cells.length cap'] 61)) from BoxW.below (BoxW.set4 HD0.out) (Nat.le_refl _) (by go_grown))
      have HF := Lib.hid' (show Fr (fun k => k = w.heap.size) w3 (((((w3.setCell ⟨w.heap.size, 0, none⟩ (.int .i64 u'.e)).setCell ⟨w.heap.size, 1, none⟩ (.int .i64 u'.l)).setCell ⟨w.heap.size, 2, none⟩ (.slice ad' u'.cells.length cap')).setCell ⟨w.heap.size, 3, none⟩ (.int .i64 (max m.t (b + 1)))).alloc (.cells #[.int .i64 u'.e, .int .i64 u'.l, .slice ad' u'.cells.length cap'] 61)) by (repeat' first | exact Fr.refl _ _ | refine Fr.setCell ?_ (by first | (left; simp; done) | (right; simp; done) | (right; simp; omega)) _ | refine Fr.alloc ?_ _ | refine Fr.drew ?_))
      have HE1 := Lib.hid' (HD1.out.fr HF.out (by first | omega | (simp; done) | (simp; omega)))
      have hG5 : Below w.heap.size w (((((w3.setCell ⟨w.heap.size, 0, none⟩ (.int .i64 u'.e)).setCell ⟨w.heap.size, 1, none⟩ (.int .i64 u'.l)).setCell ⟨w.heap.size, 2, none⟩ (.slice ad' u'.cells.length cap')).setCell ⟨w.heap.size, 3, none⟩ (.int .i64 (max m.t (b + 1)))).alloc (.cells #[.int .i64 u'.e, .int .i64 u'.l, .slice ad' u'.cells.length cap'] 61)) := by go_grown
      generalize (((((w3.setCell ⟨w.heap.size, 0, none⟩ (.int .i64 u'.e)).setCell ⟨w.heap.size, 1, none⟩ (.int .i64 u'.l)).setCell ⟨w.heap.size, 2, none⟩ (.slice ad' u'.cells.length cap')).setCell ⟨w.heap.size, 3, none⟩ (.int .i64 (max m.t (b + 1)))).alloc (.cells #[.int .i64 u'.e, .int .i64 u'.l, .slice ad' u'.cells.length cap'] 61)) = w5 at *
      clear p0 p1 p2 p3 pf0 pf1 pf2 pf3 z0 z1 z2 z3 zf0 zf1 zf2 zf3 pl zl hG hNl
      have p0 := HE0.out.box.1 0 _ rfl; have p1 := HE0.out.box.1 1 _ rfl; have p2 := HE0.out.box.1 2 _ rfl; have p3 := HE0.out.box.1 3 _ rfl
      have pf0 := HE0.out.box.2.1 0; have pf1 := HE0.out.box.2.1 1; have pf2 := HE0.out.box.2.1 2; have pf3 := HE0.out.box.2.1 3
      have pl := HE0.out.lt
      have z0 := HE1.out.box.1 0 _ rfl; have z1 := HE1.out.box.1 1 _ rfl; have z2 := HE1.out.box.1 2 _ rfl; have z3 := HE1.out.box.1 3 _ rfl
      have zf0 := HE1.out.box.2.1 0; have zf1 := HE1.out.box.2.1 1; have zf2 := HE1.out.box.2.1 2; have zf3 := HE1.out.box.2.1 3
      have zl := HE1.out.lt
      go_wp2
      refine bodyPost_ret (v := .tuple #[rmV ⟨u', max m.t (b + 1)⟩ ad' cap', .int .i64 n']) (by simp [results, Try.results72, go_sem, rmV, p0, p1, p2, p3, z0, z1, z2, z3, pl, zl]) rfl ?_
      rw [HQ.out, if_pos HN.out]
      exact ⟨ad', cap', rfl, RList.keep (F := fun k => k = w.heap.size ∨ k = w.heap.size + 1) HR.out (by first | exact (HF.out.mono (fun k hk => .inl hk)) | (refine Fr.trans (F' := fun k => k = w.heap.size ∨ k = w.heap.size + 1) (HF.out.mono (fun k hk => .inl hk)) ?_ (fun i hi => .inl hi); (repeat' first | exact Fr.refl _ _ | refine Fr.setCell ?_ (by first | (left; simp; done) | (right; simp; done) | (right; simp; omega)) _ | refine Fr.alloc ?_ _ | refine Fr.drew ?_))) (fun k hk => by rcases hk with rfl | rfl; all_goals first | exact ⟨_, _, HD0.out, by simp⟩ | exact ⟨_, _, HD1.out, by simp⟩), by go_grown⟩
  · have HN := Lib.hid' hn
    have hn0 : ((n' : Int) == 0) = false := by rw [beq_eq_false_iff_ne]; omega
    have hn8 : ((n' : Int) == 8) = false := by rw [beq_eq_false_iff_ne]; omega
    clear hn hbb
    go_upto_region 5 with fail
    have HE0 := Lib.hid' (show BoxW w.heap.size [.int .i64 u'.e, .int .i64 u'.l, .slice ad' u'.cells.length cap', .int .i64 m.t] 63 ((((w3.setCell ⟨w.heap.size, 0, none⟩ (.int .i64 u'.e)).setCell ⟨w.heap.size, 1, none⟩ (.int .i64 u'.l)).setCell ⟨w.heap.size, 2, none⟩ (.slice ad' u'.cells.length cap')).alloc (.cells #[.int .i64 u'.e, .int .i64 u'.l, .slice ad' u'.cells.length cap'] 61)) from BoxW.below (BoxW.set3of4 HD0.out) (Nat.le_refl _) (by go_grown))
    have HF := Lib.hid' (show Fr (fun k => k = w.heap.size) w3 ((((w3.setCell ⟨w.heap.size, 0, none⟩ (.int .i64 u'.e)).setCell ⟨w.heap.size, 1, none⟩ (.int .i64 u'.l)).setCell ⟨w.heap.size, 2, none⟩ (.slice ad' u'.cells.length cap')).alloc (.cells #[.int .i64 u'.e, .int .i64 u'.l, .slice ad' u'.cells.length cap'] 61)) by (repeat' first | exact Fr.refl _ _ | refine Fr.setCell ?_ (by first | (left; simp; done) | (right; simp; done) | (right; simp; omega)) _ | refine Fr.alloc ?_ _ | refine Fr.drew ?_))
    have HE1 := Lib.hid' (HD1.out.fr HF.out (by first | omega | (simp; done) | (simp; omega)))
    have hG5 : Below w.heap.size w ((((w3.setCell ⟨w.heap.size, 0, none⟩ (.int .i64 u'.e)).setCell ⟨w.heap.size, 1, none⟩ (.int .i64 u'.l)).setCell ⟨w.heap.size, 2, none⟩ (.slice ad' u'.cells.length cap')).alloc (.cells #[.int .i64 u'.e, .int .i64 u'.l, .slice ad' u'.cells.length cap'] 61)) := by go_grown
    generalize ((((w3.setCell ⟨w.heap.size, 0, none⟩ (.int .i64 u'.e)).setCell ⟨w.heap.size, 1, none⟩ (.int .i64 u'.l)).setCell ⟨w.heap.size, 2, none⟩ (.slice ad' u'.cells.length cap')).alloc (.cells #[.int .i64 u'.e, .int .i64 u'.l, .slice ad' u'.cells.length cap'] 61)) = w5 at *
    clear p0 p1 p2 p3 pf0 pf1 pf2 pf3 z0 z1 z2 z3 zf0 zf1 zf2 zf3 pl zl hG hNl
    have p0 := HE0.out.box.1 0 _ rfl; have p1 := HE0.out.box.1 1 _ rfl; have p2 := HE0.out.box.1 2 _ rfl; have p3 := HE0.out.box.1 3 _ rfl
    have pf0 := HE0.out.box.2.1 0; have pf1 := HE0.out.box.2.1 1; have pf2 := HE0.out.box.2.1 2; have pf3 := HE0.out.box.2.1 3
    have pl := HE0.out.lt
    have z0 := HE1.out.box.1 0 _ rfl; have z1 := HE1.out.box.1 1 _ rfl; have z2 := HE1.out.box.1 2 _ rfl; have z3 := HE1.out.box.1 3 _ rfl
    have zf0 := HE1.out.box.2.1 0; have zf1 := HE1.out.box.2.1 1; have zf2 := HE1.out.box.2.1 2; have zf3 := HE1.out.box.2.1 3
    have zl := HE1.out.lt
    go_wp2
    refine bodyPost_ret (v := .tuple #[rmV ⟨u', m.t⟩ ad' cap', .int .i64 n']) (by simp [results, Try.results72, go_sem, rmV, p0, p1, p2, p3, z0, z1, z2, z3, pl, zl]) rfl ?_
    rw [HQ.out, if_neg HN.out]
    exact ⟨ad', cap', rfl, RList.keep (F := fun k => k = w.heap.size ∨ k = w.heap.size + 1) HR.out (by first | exact (HF.out.mono (fun k hk => .inl hk)) | (refine Fr.trans (F' := fun k => k = w.heap.size ∨ k = w.heap.size + 1) (HF.out.mono (fun k hk => .inl hk)) ?_ (fun i hi => .inl hi); (repeat' first | exact Fr.refl _ _ | refine Fr.setCell ?_ (by first | (left; simp; done) | (right; simp; done) | (right; simp; omega)) _ | refine Fr.alloc ?_ _ | refine Fr.drew ?_))) (fun k hk => by rcases hk with rfl | rfl; all_goals first | exact ⟨_, _, HD0.out, by simp⟩ | exact ⟨_, _, HD1.out, by simp⟩), by go_grown⟩
end Go.Proofs.Ytjkbcjliaacebaa
