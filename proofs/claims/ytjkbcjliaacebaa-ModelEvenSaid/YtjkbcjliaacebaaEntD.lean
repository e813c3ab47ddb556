import Derived.Test.YtjkbcjliaacebaaEnt
import Derived.Test.YtjkbcjliaacebaaRefW
import Derived.Test.YtjkbcjliaacebaaStep
namespace Go.Proofs.Ytjkbcjliaacebaa
open Go.RowKit
set_option linter.unusedSimpArgs false
set_option linter.unusedVariables false
set_option maxRecDepth 20000

theorem ents_len (L : List Ent) : (ents L).length = L.length * 3 := by
  induction L with
  | nil => rfl
  | cons p L ih => simp only [ents, List.flatMap_cons, List.length_append] at *; rw [ih]; simp [entV]; omega
theorem ents_get (L : List Ent) (k : Nat) (hk : k < L.length) (j : Nat) (hj : j < 3) : (ents L)[k * 3 + j]? = (entV L[k])[j]? := by
  induction L generalizing k with
  | nil => simp at hk
  | cons p L ih =>
    simp only [ents, List.flatMap_cons]
    cases k with
    | zero => rw [List.getElem?_append_left (by simp [entV]; omega)]; simp
    | succ k =>
      rw [List.getElem?_append_right (by simp [entV]; omega)]
      have := ih k (by simpa using hk)
      simp only [ents] at this
      rw [show (k + 1) * 3 + j - (entV p).length = k * 3 + j by simp [entV]; omega, this]; simp
theorem EList.get {w : World} {a : Option Addr} {cap : Nat} {L : List Ent} (h : SlV w (.slice a L.length cap) L.length (ents L)) {k : Nat} (hk : k < L.length) :
    ∃ b off, a = some ⟨b, off, none⟩ ∧ b < w.heap.size ∧ w.cell? ⟨b, off + k * 3, none⟩ = some (.int .i64 L[k].1) ∧ w.cell? ⟨b, off + k * 3 + 1, none⟩ = some (.int .i64 L[k].2.1.k) ∧ w.cell? ⟨b, off + k * 3 + 2, none⟩ = some (.slice L[k].2.2.1 L[k].2.1.d.length L[k].2.2.2) := by
  obtain ⟨b, off, ha, hb, hc⟩ := SlV.addr h (by intro h0; have := congrArg List.length h0; rw [ents_len] at this; simp at this; omega)
  refine ⟨b, off, ha, hb, ?_, ?_, ?_⟩
  · have := hc (k * 3 + 0) _ (by rw [ents_get L k hk 0 (by omega)]; rfl); simpa using this
  · have := hc (k * 3 + 1) _ (by rw [ents_get L k hk 1 (by omega)]; rfl); simpa [Nat.add_assoc] using this
  · have := hc (k * 3 + 2) _ (by rw [ents_get L k hk 2 (by omega)]; rfl); simpa [Nat.add_assoc] using this

theorem docCell_at (k : Int) (d : List UInt8) (a : Option Addr) (c : Nat) (w : World) (h : Bytes w (.slice a d.length c) d) : Calls Try.prog 71 #[.agg #[.int .i64 k, .slice a d.length c]] w fun e w' => e = .returned (.agg #[.int .i64 k, .string (strOf d)]) ∧ Below w.heap.size w w' :=
  docCell_any _ ⟨k, d⟩ w ⟨_, _, rfl, h⟩

theorem lEntries_any (E : List Ent) (a : Option Addr) (c : Nat) (w : World) (h : SlV w (.slice a E.length c) E.length (ents E)) (hb : ∀ x ∈ E, Bytes w (.slice x.2.2.1 x.2.1.d.length x.2.2.2) x.2.1.d) (hn : E.length ≤ 1048576) :
    Calls Try.prog 113 #[.slice a E.length c] w (OwnR w.heap.size 169 3 E.length (rents (E.map noAd)) w) := by
  have HS := Lib.hid' h
  have HBy := Lib.hid' hb
  clear h hb
  go_enter Try.func113, Try.ntmps113
  go_wp2
  go_loopw [3, 9] (fun vo vi wr => ∃ (k : Nat) (a' : Option Addr) (c' : Nat), vo = .slice a' k c' ∧ vi = .int .i64 k ∧ k ≤ E.length ∧ wr.ownsRow w.heap.size 169 3 (.slice a' k c') k (rents ((E.take k).map noAd)) ∧ Below w.heap.size w wr) (fun _ vi _ => E.length - (intOf vi).toNat)
  case atStart => exact ⟨0, _, _, rfl, rfl, Nat.zero_le _, own_empty _ _ _, by go_grown⟩
  case round =>
    obtain ⟨k, a', c', rfl, rfl, hk, ho, hbr⟩ := hrel
    have HO := Lib.hid' ho
    have HBR := Lib.hid' hbr
    clear ho
    by_cases hlt : k < E.length
    · obtain ⟨b, off, rfl, hb, d0, d1, d2⟩ := EList.get (SlV.below HS.out (Nat.le_refl _) hbr) hlt
      have HD := Lib.hid' (SlV.below (HBy.out E[k] (List.getElem_mem hlt)) (Nat.le_refl _) hbr)
      have HN := Lib.hid' (take_succ E k hlt)
      generalize E[k] = x at *
      obtain ⟨xa, ⟨xk, xd⟩, xp, xc⟩ := x
      have HD : Hid (Bytes wr (.slice xp xd.length xc) xd) := HD
      dsimp only at d0 d1 d2
      have hws := hbr.size
      clear hbr
      go_wp2_with fail
      have hg : Below w.heap.size w (wr.alloc (.cells #[.int .i64 xa, .int .i64 xk, .slice xp xd.length xc] 89)) := HBR.out.alloc hws _
      have HG := Lib.hid' hg
      have hne : ¬ (Value.slice a' k c').ownBlock = some wr.heap.size := own_new HO.out
      have HOq := Lib.hid' (HO.out.alloc (.cells #[.int .i64 xa, .int .i64 xk, .slice xp xd.length xc] 89))
      have HDq : Hid (Bytes (wr.alloc (.cells #[.int .i64 xa, .int .i64 xk, .slice xp xd.length xc] 89)) (.slice xp xd.length xc) xd) := Lib.hid' (SlV.below HD.out (Nat.le_refl _) (by go_grown))
      have q0 : (wr.alloc (.cells #[.int .i64 xa, .int .i64 xk, .slice xp xd.length xc] 89)).cell? ⟨wr.heap.size, 0, none⟩ = some (.int .i64 xa) := by simp [go_sem]
      have q1 : (wr.alloc (.cells #[.int .i64 xa, .int .i64 xk, .slice xp xd.length xc] 89)).cell? ⟨wr.heap.size, 1, none⟩ = some (.int .i64 xk) := by simp [go_sem]
      have q2 : (wr.alloc (.cells #[.int .i64 xa, .int .i64 xk, .slice xp xd.length xc] 89)).cell? ⟨wr.heap.size, 2, none⟩ = some (.slice xp xd.length xc) := by simp [go_sem]
      have q3 : wr.heap.size < (wr.alloc (.cells #[.int .i64 xa, .int .i64 xk, .slice xp xd.length xc] 89)).heap.size := by simp
      generalize (wr.alloc (.cells #[.int .i64 xa, .int .i64 xk, .slice xp xd.length xc] 89)) = w4 at *
      have hwsq := hg.size
      clear hg
      go_region_held_law (fun w' => w'.cell? ⟨wr.heap.size, 0, none⟩ = some (.int .i64 xa) ∧ w'.cell? ⟨wr.heap.size, 1, none⟩ = some (.int .i64 xk) ∧ w'.cell? ⟨wr.heap.size, 2, none⟩ = some (.slice xp xd.length xc)) (go_keep) (first
        | (go_at_call 71; refine (docCell_at xk xd _ _ w4.drew (show Bytes w4.drew _ _ from HDq.out)).mono ?_; rintro en w5 ⟨rfl, hb5⟩; have z0 : w5.cell? ⟨wr.heap.size, 0, none⟩ = some (.int .i64 xa) := ((bcell hb5).1 _ _ q3).trans q0; have z1 : w5.cell? ⟨wr.heap.size, 1, none⟩ = some (.int .i64 xk) := ((bcell hb5).1 _ _ q3).trans q1; have z2 : w5.cell? ⟨wr.heap.size, 2, none⟩ = some (.slice xp xd.length xc) := ((bcell hb5).1 _ _ q3).trans q2; have HB5 := Lib.hid' hb5; have HO5 := Lib.hid' (own_below (show w4.drew.ownsRow _ _ _ _ _ _ from HOq.out) (Nat.le_refl _) hb5); have hws5 : w.heap.size ≤ w5.heap.size := Nat.le_trans hwsq hb5.size; clear hb5)
        | (refine step_one etREnt rfl (.tmp 13) (.tmp 20) rfl [.int .i64 xa, .int .i64 xk, .string (strOf xd)] rfl w.heap.size _ _ _ rfl HO5.out rfl (one3 _ _ _) (by omega) hws5 ?_; intro a9 c9 w9 ho9 hf9; have HO9 := Lib.hid' ho9; have HF9 := Lib.hid' hf9; have y0 := hf9.cell z0 hne; have y1 := hf9.cell z1 hne; have y2 := hf9.cell z2 hne; clear ho9 hf9))
      go_wp2
      go_roundw
      case rel =>
        refine ⟨k + 1, a9, c9, rfl, by go_num, by omega, ?_, HF9.out.row HO5.out (Nat.le_refl _) hws5 (below_call HG.out hwsq (below_call (Below.drew (Below.refl w4.heap.size w4)) (Nat.le_refl _) HB5.out))⟩
        rw [HN.out, List.map_append, rents_append]; exact HO9.out
      case measure => simp [intOf]; omega
    · go_wp2
      obtain rfl : k = E.length := by omega
      refine bodyPost_ret (v := .slice a' E.length c') (by simp [results, Try.results113, go_sem]) rfl ?_
      refine ⟨a', c', rfl, ?_, HBR.out⟩
      have := HO.out
      rwa [List.take_length] at this
end Go.Proofs.Ytjkbcjliaacebaa
