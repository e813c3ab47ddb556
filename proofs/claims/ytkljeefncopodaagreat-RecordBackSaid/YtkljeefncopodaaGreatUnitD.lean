/- Layer 8 (unit): Fill, Read, Trim, Cut. -/
import Derived.Test.YtkljeefncopodaaGreatUnitC
namespace Go.Proofs.YtkljeefncopodaaGreat
open Go.RowKit
set_option linter.unusedSimpArgs false
set_option linter.unusedVariables false
set_option maxRecDepth 20000

theorem EntIs_in {A : Nat → Prop} {w w2 : World} {L : List (Int × Value)} {M : List (Int × C)} (h : F2 (EntIs A w) L M) (hb : Below w.heap.size w w2) : F2 (EntIs A w2) L M :=
  h.mono fun p q _ _ hpq => hpq.fr (Fr.of_below (F := fun _ => False) hb) (fun _ h => h.elim)

set_option maxHeartbeats 1000000 in
theorem fill_any {A : Nat → Prop} {bu bm : Nat} {u : U} (e a : Int) (w : World) (h : UnitAt A w bu bm u) (hA : ∀ k, A k → k < w.heap.size) :
    Calls Tryz.prog 78 #[.pointer (some ⟨bu, 0, none⟩), .int .i64 e, .int .i64 a] w (UnitR (errV (u.fill e a).1) A bu bm (u.fill e a).2 w) := by
  have H := Lib.hid' h
  have hok := Lib.hid' (U.ok_fill h.ok e a)
  have HNE := Lib.hid' h.ne
  have HA := Lib.hid' hA
  clear h hA
  by_cases hq : u.asks e (inR a 1048575) = 0
  rotate_left
  · have Hf := Lib.hid' (show u.fill e a = (u.asks e (inR a 1048575), u) by simp [U.fill, hq])
    have HQ := Lib.hid' hq
    clear hq
    go_enter Tryz.func78, Tryz.ntmps78
    go_wp2_with (go_at_call 67; refine (in_any _ _ _).mono ?_; rintro en w' ⟨rfl, rfl⟩)
    refine (asks_any _ _ _ H.out).mono ?_
    rintro en w1 ⟨rfl, rfl⟩
    rw [errV_pos HQ.out]
    go_wp2
    go_ret
    rw [Hf.out, errV_pos HQ.out]
    exact UnitR.same H.out rfl (Below.refl _ _)
  have HQ := Lib.hid' hq
  by_cases h3 : (u.at a).k = 3
  · have Hf := Lib.hid' (show u.fill e a = (9, u) by simp [U.fill, hq, h3])
    have h3' : ((u.at a).k == 3) = true := by simpa using h3
    clear hq h3
    go_enter Tryz.func78, Tryz.ntmps78
    go_wp2_with (go_at_call 67; refine (in_any _ _ _).mono ?_; rintro en w' ⟨rfl, rfl⟩)
    refine (asks_any _ _ _ H.out).mono ?_
    rintro en w1 ⟨rfl, rfl⟩
    rw [HQ.out, errV_0]
    go_wp2_with fail
    refine (at_any _ _ H.out).mono ?_
    rintro en w1 ⟨a1, cp1, rfl, hb1, hbw⟩
    have HB1 := Lib.hid' hb1
    clear hb1
    go_wp2
    go_ret
    rw [Hf.out]
    exact UnitR.same H.out rfl hbw
  have h3' : ((u.at a).k == 3) = false := by simpa using h3
  by_cases h1 : (u.at a).k = 1
  · have Hf := Lib.hid' (show u.fill e a = (8, u) by simp [U.fill, hq, h1])
    have h1' : ((u.at a).k == 1) = true := by simpa using h1
    clear hq h3 h1
    go_enter Tryz.func78, Tryz.ntmps78
    go_wp2_with (go_at_call 67; refine (in_any _ _ _).mono ?_; rintro en w' ⟨rfl, rfl⟩)
    refine (asks_any _ _ _ H.out).mono ?_
    rintro en w1 ⟨rfl, rfl⟩
    rw [HQ.out, errV_0]
    go_wp2_with fail
    refine (at_any _ _ H.out).mono ?_
    rintro en w1 ⟨a1, cp1, rfl, hb1, hbw⟩
    have HB1 := Lib.hid' hb1
    clear hb1
    go_wp2
    go_ret
    rw [Hf.out]
    exact UnitR.same H.out rfl hbw
  have h1' : ((u.at a).k == 1) = false := by simpa using h1
  have Hf := Lib.hid' (show u.fill e a = (0, { u with cells := putC u.cells a ⟨2, []⟩ }) by simp [U.fill, hq, h3, h1])
  clear hq h3 h1
  go_enter Tryz.func78, Tryz.ntmps78
  go_wp2_with (go_at_call 67; refine (in_any _ _ _).mono ?_; rintro en w' ⟨rfl, rfl⟩)
  refine (asks_any _ _ _ H.out).mono ?_
  rintro en w1 ⟨rfl, rfl⟩
  rw [HQ.out, errV_0]
  go_wp2_with fail
  refine (at_any _ _ H.out).mono ?_
  rintro en w1 ⟨a1, cp1, rfl, hb1, hbw⟩
  have HW1 := Lib.hid' (H.out.below (Nat.le_refl _) hbw)
  have c3 : w1.cell? ⟨bu, 2, none⟩ = some (.map (some bm)) := HW1.out.cell.2.2
  have HBW := Lib.hid' hbw
  obtain ⟨L, hm, hL⟩ := HW1.out.map
  have HM := Lib.hid' hm
  have HL := Lib.hid' hL
  clear hb1 hm hL hbw
  go_wp2_with (at_mapUpdate; refine wp_store (b := bm) (L := L) mtCells rfl (.tmp 29) (.tmp 30) (.tmp 31) rfl rfl a rfl (.agg #[.int .i64 2, .slice none 0 0]) rfl HM.out ?_; intro w3 hm3 hf3 hz3; have Hm3 := Lib.hid' hm3; have Hf3 := Lib.hid' hf3; clear hm3 hf3)
  go_ret
  rw [Hf.out]
  refine ⟨rfl, ?_, (Fr.of_below HBW.out).trans (Hf3.out.mono (F' := fun k => k = bu ∨ k = bm) (fun k h => Or.inr h)) (fun k h => Or.inl h)⟩
  exact H.out.put (c := ⟨2, []⟩) (ad := none) (cap := 0) HA.out HM.out HL.out HBW.out (SlV.empty _ _ _ (Nat.zero_le _) (fun _ => rfl)) (by simp) Hm3.out Hf3.out (by have := hok.out; rw [Hf.out] at this; exact this)

def ReadR (n : Nat) (c : C) (w : World) (en : Ending) (w' : World) : Prop :=
  ∃ a cap, en = .returned (.tuple #[.agg #[.int .i64 c.k, .slice a c.d.length cap], errV n]) ∧ w'.ownsRow w.heap.size 5 1 (.slice a c.d.length cap) c.d.length (byteVs c.d) ∧ Below w.heap.size w w'

theorem U.at_len {u : U} (h : u.ok) (a : Int) : (u.at a).d.length ≤ 64 := by
  unfold U.at
  split
  · simp
  · cases hq : u.cells.any (·.1 == a) with
    | true => exact (h.kind _ (lookC_mem hq)).2
    | false => rw [lookC_none hq]; simp

end Go.Proofs.YtkljeefncopodaaGreat
