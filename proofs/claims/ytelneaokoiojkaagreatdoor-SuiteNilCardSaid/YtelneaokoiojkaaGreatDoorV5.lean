/- Proved here: a part of the proof (5 of 31). -/
import Derived.Test.YtelneaokoiojkaaGreatDoorV2
import Derived.Test.YtelneaokoiojkaaGreatDoorV1
import Derived.Test.YtelneaokoiojkaaGreatDoorSlzL
import Derived.Lib.SliceRun
import Derived.Shelf.GgClosure.Gives
set_option linter.unusedSimpArgs false
set_option linter.unusedVariables false
set_option maxRecDepth 20000
namespace Go.Proofs.YtelneaokoiojkaaGreatDoor
open Go.RowKit

theorem bytes_len {w : World} {a : Option Addr} {c : Nat} {l : List UInt8} (h : Bytes w (.slice a l.length c) l) : l.length ≤ 9223372036854775807 := by
 obtain ⟨_, _, he, h1, h2, _⟩ := h; cases he; unfold maxLen at h2; omega
/-- a list's slice: the numbers, the address, the capacity -/
abbrev Cb := List UInt8 × Option Addr × Nat
def cbV (x : Cb) : Value := .slice x.2.1 x.1.length x.2.2
/-- a slice of slices -/
structure Cbs (w : World) (a : Option Addr) (c : Nat) (X : List Cb) : Prop where
 rows : SlV w (.slice a X.length c) X.length (X.map cbV)
 each : ∀ x ∈ X, Bytes w (cbV x) x.1
theorem Cbs.len {w : World} {a : Option Addr} {c : Nat} {X : List Cb} (h : Cbs w a c X) : X.length ≤ 9223372036854775807 := by
 obtain ⟨_, _, he, h1, h2, _⟩ := h.rows; cases he; unfold maxLen at h2; omega
theorem Cbs.below {w w' : World} {a : Option Addr} {c : Nat} {X : List Cb} (h : Cbs w a c X) {B : Nat} (hB : w.heap.size ≤ B) (hb : Below B w w') : Cbs w' a c X :=
 ⟨SlV.below h.rows hB hb, fun x hx => SlV.below (h.each x hx) hB hb⟩
theorem Cbs.at {w : World} {a : Option Addr} {c : Nat} {X : List Cb} (h : Cbs w a c X) {k : Nat} (hk : k < X.length) :
  ∃ b off, a = some ⟨b, off, none⟩ ∧ b < w.heap.size ∧ w.cell? ⟨b, off + k, none⟩ = some (.slice X[k].2.1 X[k].1.length X[k].2.2) ∧ Bytes w (.slice X[k].2.1 X[k].1.length X[k].2.2) X[k].1 := by
 have h' : SlV w (.slice a X.length c) X.length (X.flatMap (fun x => [cbV x])) := by
  have : X.flatMap (fun x => [cbV x]) = X.map cbV := by
   clear h hk; induction X with
   | nil => rfl
   | cons x l ih => rw [List.flatMap_cons, ih]; rfl
  rw [this]; exact h.rows
 obtain ⟨b, off, e, hb, hc⟩ := SlV.row (f := fun x => [cbV x]) (s := 1) (fun _ => rfl) (by decide) h' hk
 refine ⟨b, off, e, hb, ?_, h.each _ (List.getElem_mem hk)⟩
 have := hc 0 _ rfl
 simpa [cbV] using this

theorem alloc_newB (w : World) (o : Obj) : (w.alloc o).heap[w.heap.size]? = some o := by show (w.heap.push _)[w.heap.size]? = _; simp
set_option maxHeartbeats 1000000 in
theorem growB_any (n : Nat) (hn : n ≤ 1099511627776) (w : World) : Calls Tryz.prog 264 #[.slice none 0 0, .int .i64 n] w (OwnR w.heap.size 5 1 0 [] w) := by
 by_cases h0 : n = 0
 ·subst h0
  have h := Any8.slices_Grow_room Tryz.growB none 0 0 0 w (Nat.le_refl _) (by decide) (by decide) (Nat.le_refl _)
  change Calls Tryz.prog 264 _ _ _ at h
  refine h.mono ?_
  rintro e w' ⟨rfl, rfl⟩
  exact ⟨none, 0, rfl, own_nil _ _ _ _, Below.refl _ _⟩
 ·obtain ⟨i, z, a1, a2, a3, a4, a5⟩ := etBytes.info
  have h := Any8.slices_Grow_grow Tryz.growB i z a1 a2 (by rw [a3]; decide) none 0 0 n [] w (Nat.le_refl _) (by omega) (by rw [a4]; omega) (by omega) (by simp) (fun _ => rfl) (fun a h => by cases h)
  change Calls Tryz.prog 264 _ _ _ at h
  refine h.mono ?_
  rintro e w' ⟨rfl, rfl⟩
  refine ⟨_, _, rfl, ⟨by simp, .inr ⟨w.heap.size, _, _, rfl, Nat.le_refl _, alloc_newB w.drew _, Nat.zero_le _, grownCap_le_maxLen _ _ _ _ (by unfold maxLen; omega), ?_, by simp⟩⟩, ?_⟩
  ·have hg := grownCap_ge w (0 + n) 0 5
   change _ = grownCap w (0 + n) 0 5 * 1
   have e3 : (Tryz.growB_ren.t 25) = 5 := rfl
   rw [e3]
   simp only [Array.size_append, size_zeroCells, a5]
   simp only [List.size_toArray, List.length_nil]
   omega
  ·exact (Below.drew (Below.refl _ _)).alloc (by simp) _

/-- all numbers, list behind list -/
def flatB (X : List Cb) : List UInt8 := (X.map (·.1)).flatten
theorem flatB_take {X : List Cb} {k : Nat} (hk : k < X.length) : flatB (X.take (k + 1)) = flatB (X.take k) ++ X[k].1 := by
 unfold flatB; rw [List.take_succ_eq_append_getElem hk]; simp only [List.map_append, List.flatten_append, List.map_cons, List.map_nil, List.flatten_cons, List.flatten_nil, List.append_nil]
theorem flatB_take_le (X : List Cb) (k : Nat) : (flatB (X.take k)).length ≤ (flatB X).length := by
 have e : X.map (·.1) = (X.take k).map (·.1) ++ (X.drop k).map (·.1) := by rw [← List.map_append, List.take_append_drop]
 unfold flatB
 rw [e, List.flatten_append, List.length_append]; omega
set_option maxHeartbeats 2000000 in
theorem concatB_any (X : List Cb) (a : Option Addr) (c : Nat) (w : World) (h : Cbs w a c X) (ht : (flatB X).length ≤ 1099511627776) :
  Calls Tryz.prog 208 #[.slice a X.length c] w (OwnR w.heap.size 5 1 (flatB X).length (byteVs (flatB X)) w) := by
 have HS := Lib.hid' h
 have hlen := h.len
 clear h
 go_enter Tryz.func208, Tryz.ntmps208
 go_wp2_with fail
 go_loop [3, 11] (fun v3 v11 => ∃ k : Nat, v11 = .int .i64 k ∧ k ≤ X.length ∧ v3 = .int .i64 ((flatB (X.take k)).length)) (fun _ v11 => X.length - (intOf v11).toNat)
 case atStart => exact ⟨0, rfl, Nat.zero_le _, rfl⟩
 case round =>
  obtain ⟨k, rfl, hk, rfl⟩ := hrel
  by_cases hlt : k < X.length
  ·obtain ⟨b, off, rfl, hb, hc, hz⟩ := HS.out.at hlt
   have hle := flatB_take_le X (k + 1)
   have hle2 : (flatB (X.take (k + 1))).length = (flatB (X.take k)).length + X[k].1.length := by rw [flatB_take hlt, List.length_append]
   have HF := Lib.hid' hle2
   have hs : (flatB (X.take k)).length + X[k].1.length ≤ 1099511627776 := by omega
   clear hz hle hle2
   generalize X[k] = y at *
   generalize (flatB (X.take k)).length = s at *
   have hneg : ¬ ((s : Int) + (y.1.length : Int) < 0) := by omega
   go_wp2_with fail
   go_round
   case rel => exact ⟨k + 1, by go_num, by omega, by rw [HF.out]; go_num⟩
   case measure => simp [intOf]; omega
  ·obtain rfl : k = X.length := by omega
   have HT := Zh (List.take_length (l := X))
   rw [HT.out]
   clear hlt
   go_wp2_with fail
   refine (growB_any _ ht w).mono ?_
   rintro e w1 ⟨a1, c1, rfl, ho, hb⟩
   have HO := Lib.hid' ho
   have HB := Lib.hid' hb
   clear ho hb
   go_wp2_with fail
   go_loopw [6, 27] (fun v6 v27 wr => ∃ (k : Nat) (a' : Option Addr) (c' : Nat), v27 = .int .i64 k ∧ k ≤ X.length ∧ v6 = .slice a' (flatB (X.take k)).length c' ∧ Hid (wr.ownsRow w.heap.size 5 1 (.slice a' (flatB (X.take k)).length c') (flatB (X.take k)).length (byteVs (flatB (X.take k)))) ∧ Hid (Below w.heap.size w wr)) (fun _ v27 _ => X.length - (intOf v27).toNat)
   case atStart => exact ⟨0, a1, c1, rfl, Nat.zero_le _, rfl, HO, HB⟩
   case round =>
    obtain ⟨k, a', c', rfl, hk, rfl, HOk, HBk⟩ := hrel
    by_cases hlt : k < X.length
    ·obtain ⟨b, off, rfl, hb, hc, hz⟩ := (HS.out.below (Nat.le_refl _) HBk.out).at hlt
     have HF := Zh (flatB_take hlt)
     have HZ := Lib.hid' hz
     have hle := flatB_take_le X (k + 1)
     have hle2 : (flatB (X.take (k + 1))).length = (flatB (X.take k)).length + X[k].1.length := by rw [flatB_take hlt, List.length_append]
     have hs : (flatB (X.take k)).length + X[k].1.length ≤ 1099511627776 := by omega
     have hbz := HBk.out.size
     clear hz hle hle2
     generalize X[k] = y at *
     generalize flatB (X.take k) = S at *
     go_wp2_with (at_builtin; refine append_sl etBytes rfl (.tmp 31) (.tmp 32) rfl w.heap.size S.length (byteVs S) _ rfl HOk.out y.1.length (byteVs y.1) _ rfl HZ.out (by simp [byteVs]) (byteVs_one _) (by omega) hbz ?_)
     intro a2 c2 w2 ho2 hf2
     have HO2 := Lib.hid' ho2
     have HB2 := Zh (hf2.row HOk.out (Nat.le_refl _) hbz HBk.out)
     clear ho2 hf2
     go_wp2_with fail
     go_roundw
     case rel =>
      refine ⟨k + 1, a2, c2, by go_num, by omega, by rw [HF.out, List.length_append], ?_, HB2⟩
      rw [HF.out, List.length_append, byteVs_append]
      exact HO2
     case measure => simp [intOf]; omega
    ·obtain rfl : k = X.length := by omega
     rw [HT.out] at HOk
     rw [HT.out]
     clear hlt
     go_wp2_with fail
     go_ret
     exact ⟨a', c', rfl, HOk.out, HBk.out⟩

theorem slv_alloc (w : World) (cs : List Value) (n e : Nat) (hn : n ≤ maxLen) (hl : cs.length = n) : (w.alloc (.cells cs.toArray e)).ownsRow w.heap.size e 1 (.slice (some ⟨w.heap.size, 0, none⟩) n n) n cs :=
 ⟨by omega, .inr ⟨w.heap.size, n, cs.toArray, rfl, Nat.le_refl _, by show (w.heap.push _)[w.heap.size]? = _; simp, Nat.le_refl _, hn, by simp; omega, by rw [Nat.mul_one]; exact List.take_of_length_le (by simp; omega)⟩⟩
end Go.Proofs.YtelneaokoiojkaaGreatDoor
