/- holdfastlaw08.Entries, Document. -/
import Derived.Test.YtkljeefncopodaaGreatEnt
import Derived.Test.YtkljeefncopodaaGreatRef08
import Derived.Test.YtkljeefncopodaaGreatBase
namespace Go.Proofs.YtkljeefncopodaaGreat
open Go.RowKit
set_option linter.unusedSimpArgs false
set_option linter.unusedVariables false
set_option maxRecDepth 20000

theorem ents_len (L : List Ent) : (ents L).length = L.length * 3 := by
  induction L with
  | nil => rfl
  | cons p L ih => simp only [ents, List.flatMap_cons, List.length_append] at *; rw [ih]; simp [entV]; omega
theorem ents_get (L : List Ent) (k : Nat) (hk : k < L.length) (j : Nat) (hj : j < 3) : (ents L)[k * 3 + j]? = (entV L[k])[j]? := by
  induction L generalizing k with
  | nil => simp at hk
  | cons p L ih =>
    simp only [ents, List.flatMap_cons]
    cases k with
    | zero => rw [List.getElem?_append_left (by simp [entV]; omega)]; simp
    | succ k =>
      rw [List.getElem?_append_right (by simp [entV]; omega)]
      have := ih k (by simpa using hk)
      simp only [ents] at this
      rw [show (k + 1) * 3 + j - (entV p).length = k * 3 + j by simp [entV]; omega, this]; simp
theorem EList.get {w : World} {a : Option Addr} {cap : Nat} {L : List Ent} (h : SlV w (.slice a L.length cap) L.length (ents L)) {k : Nat} (hk : k < L.length) :
    ∃ b off, a = some ⟨b, off, none⟩ ∧ b < w.heap.size ∧ w.cell? ⟨b, off + k * 3, none⟩ = some (.int .i64 L[k].1) ∧ w.cell? ⟨b, off + k * 3 + 1, none⟩ = some (.int .i64 L[k].2.1.k) ∧ w.cell? ⟨b, off + k * 3 + 2, none⟩ = some (.slice L[k].2.2.1 L[k].2.1.d.length L[k].2.2.2) := by
  obtain ⟨b, off, ha, hb, hc⟩ := SlV.addr h (by intro h0; have := congrArg List.length h0; rw [ents_len] at this; simp at this; omega)
  refine ⟨b, off, ha, hb, ?_, ?_, ?_⟩
  · have := hc (k * 3 + 0) _ (by rw [ents_get L k hk 0 (by omega)]; rfl); simpa using this
  · have := hc (k * 3 + 1) _ (by rw [ents_get L k hk 1 (by omega)]; rfl); simpa [Nat.add_assoc] using this
  · have := hc (k * 3 + 2) _ (by rw [ents_get L k hk 2 (by omega)]; rfl); simpa [Nat.add_assoc] using this

theorem docCell_at (k : Int) (d : List UInt8) (a : Option Addr) (c : Nat) (w : World) (h : Bytes w (.slice a d.length c) d) : Calls Tryz.prog 119 #[.agg #[.int .i64 k, .slice a d.length c]] w fun e w' => e = .returned (.agg #[.int .i64 k, .string (strOf d)]) ∧ Below w.heap.size w w' :=
  docCell_any _ ⟨k, d⟩ w ⟨_, _, rfl, h⟩

theorem lEntries_any (E : List Ent) (a : Option Addr) (c : Nat) (w : World) (h : SlV w (.slice a E.length c) E.length (ents E)) (hb : ∀ x ∈ E, Bytes w (.slice x.2.2.1 x.2.1.d.length x.2.2.2) x.2.1.d) (hn : E.length ≤ 1048576) :
    Calls Tryz.prog 62 #[.slice a E.length c] w (OwnR w.heap.size 126 3 E.length (rents (E.map noAd)) w) := by
  have HS := Lib.hid' h
  have HBy := Lib.hid' hb
  clear h hb
  go_enter Tryz.func62, Tryz.ntmps62
  go_wp2
  go_loopw [3, 9] (fun vo vi wr => ∃ (k : Nat) (a' : Option Addr) (c' : Nat), vo = .slice a' k c' ∧ vi = .int .i64 k ∧ k ≤ E.length ∧ wr.ownsRow w.heap.size 126 3 (.slice a' k c') k (rents ((E.take k).map noAd)) ∧ Below w.heap.size w wr) (fun _ vi _ => E.length - (intOf vi).toNat)
  case atStart => exact ⟨0, _, _, rfl, rfl, Nat.zero_le _, own_empty _ _ _, by go_grown⟩
  case round =>
    obtain ⟨k, a', c', rfl, rfl, hk, ho, hbr⟩ := hrel
    have HO := Lib.hid' ho
    have HBR := Lib.hid' hbr
    clear ho
    by_cases hlt : k < E.length
    · obtain ⟨b, off, rfl, hb, d0, d1, d2⟩ := EList.get (SlV.below HS.out (Nat.le_refl _) hbr) hlt
      have HD := Lib.hid' (SlV.below (HBy.out E[k] (List.getElem_mem hlt)) (Nat.le_refl _) hbr)
      have HN := Lib.hid' (take_succ E k hlt)
      generalize E[k] = x at *
      obtain ⟨xa, ⟨xk, xd⟩, xp, xc⟩ := x
      have HD : Hid (Bytes wr (.slice xp xd.length xc) xd) := HD
      dsimp only at d0 d1 d2
      have hws := hbr.size
      clear hbr
      go_wp2_with fail
      have hg : Below w.heap.size w (wr.alloc (.cells #[.int .i64 xa, .int .i64 xk, .slice xp xd.length xc] 118)) := HBR.out.alloc hws _
      have HG := Lib.hid' hg
      have hne : ¬ (Value.slice a' k c').ownBlock = some wr.heap.size := own_new HO.out
      have HOq := Lib.hid' (HO.out.alloc (.cells #[.int .i64 xa, .int .i64 xk, .slice xp xd.length xc] 118))
      have HDq : Hid (Bytes (wr.alloc (.cells #[.int .i64 xa, .int .i64 xk, .slice xp xd.length xc] 118)) (.slice xp xd.length xc) xd) := Lib.hid' (SlV.below HD.out (Nat.le_refl _) (by go_grown))
      have q0 : (wr.alloc (.cells #[.int .i64 xa, .int .i64 xk, .slice xp xd.length xc] 118)).cell? ⟨wr.heap.size, 0, none⟩ = some (.int .i64 xa) := by simp [go_sem]
      have q1 : (wr.alloc (.cells #[.int .i64 xa, .int .i64 xk, .slice xp xd.length xc] 118)).cell? ⟨wr.heap.size, 1, none⟩ = some (.int .i64 xk) := by simp [go_sem]
      have q2 : (wr.alloc (.cells #[.int .i64 xa, .int .i64 xk, .slice xp xd.length xc] 118)).cell? ⟨wr.heap.size, 2, none⟩ = some (.slice xp xd.length xc) := by simp [go_sem]
      have q3 : wr.heap.size < (wr.alloc (.cells #[.int .i64 xa, .int .i64 xk, .slice xp xd.length xc] 118)).heap.size := by simp
      generalize (wr.alloc (.cells #[.int .i64 xa, .int .i64 xk, .slice xp xd.length xc] 118)) = w4 at *
      have hwsq := hg.size
      clear hg
      go_region_held_law (fun w' => w'.cell? ⟨wr.heap.size, 0, none⟩ = some (.int .i64 xa) ∧ w'.cell? ⟨wr.heap.size, 1, none⟩ = some (.int .i64 xk) ∧ w'.cell? ⟨wr.heap.size, 2, none⟩ = some (.slice xp xd.length xc)) (go_keep) (first
        | (go_at_call 119; refine (docCell_at xk xd _ _ w4.drew (show Bytes w4.drew _ _ from HDq.out)).mono ?_; rintro en w5 ⟨rfl, hb5⟩; have z0 : w5.cell? ⟨wr.heap.size, 0, none⟩ = some (.int .i64 xa) := ((bcell hb5).1 _ _ q3).trans q0; have z1 : w5.cell? ⟨wr.heap.size, 1, none⟩ = some (.int .i64 xk) := ((bcell hb5).1 _ _ q3).trans q1; have z2 : w5.cell? ⟨wr.heap.size, 2, none⟩ = some (.slice xp xd.length xc) := ((bcell hb5).1 _ _ q3).trans q2; have HB5 := Lib.hid' hb5; have HO5 := Lib.hid' (own_below (show w4.drew.ownsRow _ _ _ _ _ _ from HOq.out) (Nat.le_refl _) hb5); have hws5 : w.heap.size ≤ w5.heap.size := Nat.le_trans hwsq hb5.size; clear hb5)
        | (refine step_one etREnt rfl (.tmp 13) (.tmp 20) rfl [.int .i64 xa, .int .i64 xk, .string (strOf xd)] rfl w.heap.size _ _ _ rfl HO5.out rfl (one3 _ _ _) (by omega) hws5 ?_; intro a9 c9 w9 ho9 hf9; have HO9 := Lib.hid' ho9; have HF9 := Lib.hid' hf9; have y0 := hf9.cell z0 hne; have y1 := hf9.cell z1 hne; have y2 := hf9.cell z2 hne; clear ho9 hf9))
      go_wp2
      go_roundw
      case rel =>
        refine ⟨k + 1, a9, c9, rfl, by go_num, by omega, ?_, HF9.out.row HO5.out (Nat.le_refl _) hws5 (below_call HG.out hwsq (below_call (Below.drew (Below.refl w4.heap.size w4)) (Nat.le_refl _) HB5.out))⟩
        rw [HN.out, List.map_append, rents_append]; exact HO9.out
      case measure => simp [intOf]; omega
    · go_wp2
      obtain rfl : k = E.length := by omega
      refine bodyPost_ret (v := .slice a' E.length c') (by simp [results, Tryz.results62, go_sem]) rfl ?_
      refine ⟨a', c', rfl, ?_, HBR.out⟩
      have := HO.out
      rwa [List.take_length] at this
end Go.Proofs.YtkljeefncopodaaGreat

namespace Go.Proofs.YtkljeefncopodaaGreat
open Go.RowKit
set_option linter.unusedSimpArgs false
set_option linter.unusedVariables false
set_option maxRecDepth 20000

/-- a unit as the document's -/
def DocR (u : U) (w : World) (en : Ending) (w' : World) : Prop :=
  ∃ (a : Option Addr) (c : Nat), en = .returned (.agg #[.int .i64 u.e, .int .i64 u.l, .slice a u.cells.length c]) ∧ w'.ownsRow w.heap.size 126 3 (.slice a u.cells.length c) u.cells.length (rents (sortC u.cells)) ∧ Below w.heap.size w w'


theorem doc_any {A : Nat → Prop} {bu bm : Nat} {u : U} (w : World) (h : UnitAt A w bu bm u) (hlen : u.cells.length ≤ 1048576) : Calls Tryz.prog 23 #[.pointer (some ⟨bu, 0, none⟩)] w (DocR u w) := by
  have H := Lib.hid' h
  clear h
  go_enter Tryz.func23, Tryz.ntmps23
  go_wp2_with fail
  have HX := Lib.hid' (Box1.start w zU 54)
  have HB := Lib.hid' (show Below w.heap.size w (w.alloc (.cells #[.int .i64 0, .int .i64 0, .slice none 0 0] 54)) by go_grown)
  have e0 : w.alloc (.cells zU.toArray 54) = w.alloc (.cells #[.int .i64 0, .int .i64 0, .slice none 0 0] 54) := rfl
  rw [e0] at HX; clear e0
  generalize w.alloc (.cells #[.int .i64 0, .int .i64 0, .slice none 0 0] 54) = w1 at *
  have H1 := Lib.hid' (H.out.below (Nat.le_refl _) HB.out)
  refine (epoch_any _ H1.out).mono ?_
  rintro en w' ⟨rfl, rfl⟩
  go_wp2_with fail
  refine (low_any _ H1.out).mono ?_
  rintro en w' ⟨rfl, rfl⟩
  go_wp2_with fail
  refine (entries_any _ H1.out hlen).mono ?_
  rintro en w2 ⟨E, a2, c2, rfl, hE, ho, hx, hb2⟩
  have HE := Lib.hid' hE
  have HO := Lib.hid' ho
  have HXs := Lib.hid' hx
  have HB2 := Lib.hid' hb2
  clear hE ho hx hb2
  go_wp2_with fail
  have HEl := Lib.hid' (show E.length = u.cells.length by rw [← sortC_len, ← HE.out, List.length_map])
  refine (lEntries_any E a2 c2 _ (SlV.of_own HO.out) (fun x hx => SlV.of_own (HXs.out x hx)) (by rw [HEl.out]; exact hlen)).mono ?_
  rintro en w3 ⟨a3, c3, rfl, ho3, hb3⟩
  have HO3 := Lib.hid' ho3
  have HB3 := Lib.hid' hb3
  clear ho3 hb3
  obtain ⟨xr, xf, xs⟩ := (HX.out.below (Nat.le_refl _) HB2.out).below (Nat.le_refl _) HB3.out
  have r0 := xr 0 _ rfl; have r1 := xr 1 _ rfl; have r2 := xr 2 _ rfl
  have f0 := xf 0; have f1 := xf 1; have f2 := xf 2
  clear xr xf
  go_wp2
  have hw1 : w.heap.size ≤ w1.heap.size := HB.out.size
  have hw2 : w1.heap.size ≤ w2.heap.size := HB2.out.size
  have hw3 : w.heap.size < w2.heap.size := Nat.lt_of_lt_of_le HX.out.2.2 hw2
  have HG := Lib.hid' ((HB.out.trans (HB2.out.mono hw1)).trans (HB3.out.mono (Nat.le_of_lt hw3)))
  have h3 := Lib.hid' (ownsRow_setCell_below (ownsRow_setCell_below (ownsRow_setCell_below HO3.out (a := ⟨w.heap.size, 0, none⟩) (by simpa using hw3) (.int .i64 u.e)) (a := ⟨w.heap.size, 1, none⟩) (by simpa using hw3) (.int .i64 u.l)) (a := ⟨w.heap.size, 2, none⟩) (by simpa using hw3) (.slice a3 E.length c3))
  have h4 := Lib.hid' (((HG.out.setCell (p := ⟨w.heap.size, 0, none⟩) (by simp) (.int .i64 u.e)).setCell (p := ⟨w.heap.size, 1, none⟩) (by simp) (.int .i64 u.l)).setCell (p := ⟨w.heap.size, 2, none⟩) (by simp) (.slice a3 E.length c3))
  have z0 : (((w3.setCell ⟨w.heap.size, 0, none⟩ (.int .i64 u.e)).setCell ⟨w.heap.size, 1, none⟩ (.int .i64 u.l)).setCell ⟨w.heap.size, 2, none⟩ (.slice a3 E.length c3)).cell? ⟨w.heap.size, 0, none⟩ = some (.int .i64 u.e) := by simp [go_sem, r0]
  have z1 : (((w3.setCell ⟨w.heap.size, 0, none⟩ (.int .i64 u.e)).setCell ⟨w.heap.size, 1, none⟩ (.int .i64 u.l)).setCell ⟨w.heap.size, 2, none⟩ (.slice a3 E.length c3)).cell? ⟨w.heap.size, 1, none⟩ = some (.int .i64 u.l) := by simp [go_sem, r1]
  have z2 : (((w3.setCell ⟨w.heap.size, 0, none⟩ (.int .i64 u.e)).setCell ⟨w.heap.size, 1, none⟩ (.int .i64 u.l)).setCell ⟨w.heap.size, 2, none⟩ (.slice a3 E.length c3)).cell? ⟨w.heap.size, 2, none⟩ = some (.slice a3 E.length c3) := by simp [go_sem, r2]
  generalize (((w3.setCell ⟨w.heap.size, 0, none⟩ (.int .i64 u.e)).setCell ⟨w.heap.size, 1, none⟩ (.int .i64 u.l)).setCell ⟨w.heap.size, 2, none⟩ (.slice a3 E.length c3)) = wv at *
  refine bodyPost_ret (v := .agg #[.int .i64 u.e, .int .i64 u.l, .slice a3 E.length c3]) (by simp [results, Tryz.results23, go_sem, z0, z1, z2]) rfl ?_
  refine ⟨a3, c3, by rw [HEl.out], ?_, h4.out⟩
  have := own_base h3.out (Nat.le_of_lt hw3)
  rw [HE.out] at this
  rw [← HEl.out]; exact this
end Go.Proofs.YtkljeefncopodaaGreat
