/- Layer 8 (unit): which entries may be a unit's: within, right; Long. -/
import Derived.Test.YtkljeefncopodaaGreatUnitP
import Derived.Test.YtkljeefncopodaaGreatUnitF
import Derived.Test.YtkljeefncopodaaGreatEnt
import Derived.Test.YtkljeefncopodaaGreatBase
namespace Go.Proofs.YtkljeefncopodaaGreat
open Go.RowKit
set_option linter.unusedSimpArgs false
set_option linter.unusedVariables false
set_option maxRecDepth 20000

/-- a list of entries, and where their data lie -/
def EL (w : World) (a : Option Addr) (c : Nat) (E : List Ent) : Prop := SlV w (.slice a E.length c) E.length (E.flatMap entV) ∧ ∀ x ∈ E, Bytes w (.slice x.2.2.1 x.2.1.d.length x.2.2.2) x.2.1.d
theorem EL.below {w w' : World} {a : Option Addr} {c : Nat} {E : List Ent} (h : EL w a c E) {B : Nat} (hB : w.heap.size ≤ B) (hb : Below B w w') : EL w' a c E :=
  ⟨SlV.below h.1 hB hb, fun x hx => SlV.below (h.2 x hx) hB hb⟩
theorem EL.len {w : World} {a : Option Addr} {c : Nat} {E : List Ent} (h : EL w a c E) : E.length ≤ 9223372036854775807 := by
  obtain ⟨_, _, he, h1, h2, _⟩ := h.1; cases he; unfold maxLen at h2; omega
def withinN (l : Int) (E : List Ent) : Nat := if E.any (fun x => outE l (noAd x)) then 1 else 0
def docE (E : List Ent) : List (Int × C) := E.map noAd
theorem take_any {α : Type} (f : α → Bool) (L : List α) (k : Nat) (hk : k < L.length) : (L.take (k + 1)).any f = ((L.take k).any f || f L[k]) := by
  rw [List.take_succ_eq_append_getElem hk, List.any_append]; simp
set_option maxHeartbeats 1000000 in
theorem within_any (l : Int) (E : List Ent) (a : Option Addr) (c : Nat) (W : World) (h : EL W a c E) :
    Calls Tryz.prog 68 #[.int .i64 l, .slice a E.length c] W fun e w' => e = .returned (errV (withinN l E)) ∧ Below W.heap.size W w' := by
  have HS := Lib.hid' h
  have hlen := h.len
  clear h
  go_enter Tryz.func68, Tryz.ntmps68
  go_wp2_with fail
  go_loopw [9] (fun v9 wr => ∃ k : Nat, v9 = .int .i64 k ∧ k ≤ E.length ∧ (E.take k).any (fun x => outE l (noAd x)) = false ∧ Below W.heap.size W wr) (fun v9 _ => E.length - (intOf v9).toNat)
  case atStart => exact ⟨0, rfl, Nat.zero_le _, by simp, Below.refl _ _⟩
  case round =>
    obtain ⟨k, rfl, hk, hno, hbw⟩ := hrel
    have HNO := Lib.hid' hno
    have HBW := Lib.hid' hbw
    clear hno hbw
    by_cases hlt : k < E.length
    · obtain ⟨hsl, hby⟩ := HS.out.below (Nat.le_refl _) HBW.out
      obtain ⟨b, off, rfl, hb, hc⟩ := SlV.row (s := 3) (fun _ => rfl) (by decide) hsl hlt
      have c0 := hc 0 _ rfl; have c1 := hc 1 _ rfl; have c2 := hc 2 _ rfl
      simp only [Nat.add_zero] at c0
      have HTK := Lib.hid' (take_any (fun x => outE l (noAd x)) E k hlt)
      have HMEM := Lib.hid' (List.getElem_mem hlt)
      clear hc hsl hby
      generalize E[k] = x at *
      obtain ⟨xa, xc, xd, xn⟩ := x
      by_cases hq : xa < l ∨ 1048576 ≤ xa
      · have HF := Lib.hid' (show withinN l E = 1 from if_pos (List.any_eq_true.2 ⟨_, HMEM.out, by show (decide (xa < l) || decide (1048576 ≤ xa)) = true; simpa using hq⟩))
        have hq2 : xa < l ∨ (¬ xa < l ∧ xa ≥ 1048576) := by omega
        clear hq
        rcases hq2 with hq | ⟨hq1, hq⟩
        all_goals
          go_wp2_with fail
          go_ret
          exact ⟨ret_eq (by rw [HF.out]; rfl), HBW.out.trans ((show Below wr.heap.size wr _ by go_grown).mono HBW.out.size)⟩
      · have HT := Lib.hid' (show (E.take (k + 1)).any (fun x => outE l (noAd x)) = false by
          rw [HTK.out, HNO.out]; show (false || (decide (xa < l) || decide (1048576 ≤ xa))) = false; rw [Bool.false_or, Bool.or_eq_false_iff, decide_eq_false_iff_not, decide_eq_false_iff_not]; omega)
        have q1 : ¬ xa < l := by omega
        have q2 : ¬ xa ≥ 1048576 := by omega
        clear hq HTK
        go_wp2_with fail
        go_roundw
        case rel => exact ⟨k + 1, by go_num, by omega, HT.out, HBW.out.trans ((show Below wr.heap.size wr _ by go_grown).mono HBW.out.size)⟩
        case measure => simp [intOf]; omega
    · have HF := Lib.hid' (show withinN l E = 0 by
        have := HNO.out; rw [List.take_of_length_le (by omega)] at this; unfold withinN; rw [this]; rfl)
      go_wp2_with fail
      go_ret
      exact ⟨ret_eq (by rw [HF.out]; rfl), HBW.out⟩

def longE (x : Ent) : Bool := decide (100 < x.2.1.d.length)
set_option maxHeartbeats 1000000 in
theorem long8_any (E : List Ent) (most : Nat) (hmost : most ≤ 1000) (a : Option Addr) (c : Nat) (W : World) (h : EL W a c E) :
    Calls Tryz.prog 24 #[.slice a E.length c, .int .i64 most] W fun e w' => e = .returned (.bool (E.any longE || decide (most < E.length))) ∧ Below W.heap.size W w' := by
  have HS := Lib.hid' h
  have hlen := h.len
  clear h
  go_enter Tryz.func24, Tryz.ntmps24
  go_wp2_with fail
  go_loopw [9] (fun v9 wr => ∃ k : Nat, v9 = .int .i64 k ∧ k ≤ E.length ∧ (E.take k).any longE = false ∧ Below W.heap.size W wr) (fun v9 _ => E.length - (intOf v9).toNat)
  case atStart => exact ⟨0, rfl, Nat.zero_le _, by simp, Below.refl _ _⟩
  case round =>
    obtain ⟨k, rfl, hk, hno, hbw⟩ := hrel
    have HNO := Lib.hid' hno
    have HBW := Lib.hid' hbw
    clear hno hbw
    by_cases hlt : k < E.length
    · obtain ⟨hsl, hby⟩ := HS.out.below (Nat.le_refl _) HBW.out
      obtain ⟨b, off, rfl, hb, hc⟩ := SlV.row (s := 3) (fun _ => rfl) (by decide) hsl hlt
      have c0 := hc 0 _ rfl; have c1 := hc 1 _ rfl; have c2 := hc 2 _ rfl
      simp only [Nat.add_zero] at c0
      have hdl : E[k].2.1.d.length ≤ 9223372036854775807 := by obtain ⟨_, _, he, h1, h2, _⟩ := hby _ (List.getElem_mem hlt); cases he; unfold maxLen at h2; omega
      have HTK := Lib.hid' (take_any longE E k hlt)
      have HMEM := Lib.hid' (List.getElem_mem hlt)
      clear hc hsl hby
      generalize E[k] = x at *
      obtain ⟨xa, xc, xd, xn⟩ := x
      by_cases hq : 100 < xc.d.length
      · have HF := Lib.hid' (show E.any longE = true from List.any_eq_true.2 ⟨_, HMEM.out, by simpa [longE] using hq⟩)
        go_wp2_with fail
        go_ret
        exact ⟨ret_eq (by rw [HF.out]; rfl), HBW.out.trans ((show Below wr.heap.size wr _ by go_grown).mono HBW.out.size)⟩
      · have HT := Lib.hid' (show (E.take (k + 1)).any longE = false by
          rw [HTK.out, HNO.out]; simpa [longE] using hq)
        clear HTK
        go_wp2_with fail
        go_roundw
        case rel => exact ⟨k + 1, by go_num, by omega, HT.out, HBW.out.trans ((show Below wr.heap.size wr _ by go_grown).mono HBW.out.size)⟩
        case measure => simp [intOf]; omega
    · have HF := Lib.hid' (show E.any longE = false by
        have := HNO.out; rwa [List.take_of_length_le (by omega)] at this)
      by_cases hm : most < E.length
      · have HM := Lib.hid' hm
        go_wp2_with fail
        go_ret
        exact ⟨ret_eq (by rw [HF.out]; simp [HM.out]), HBW.out⟩
      · have HM := Lib.hid' hm
        go_wp2_with fail
        go_ret
        exact ⟨ret_eq (by rw [HF.out]; simp [HM.out]), HBW.out⟩
end Go.Proofs.YtkljeefncopodaaGreat
