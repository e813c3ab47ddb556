/- Proved here: a part of the proof (30 of 34). -/
import Derived.Test.YtddlkkmdcfamiaaGreatDoorA25
import Derived.Test.YtddlkkmdcfamiaaGreatDoorA29
import Derived.Test.YtddlkkmdcfamiaaGreatDoorA12
set_option linter.unusedSimpArgs false
set_option linter.unusedVariables false
set_option maxRecDepth 100000
namespace Go.Proofs.YtddlkkmdcfamiaaGreatDoor
open Go.RowKit
theorem el_nil (w : World) : EL w none 0 [] := ⟨SlV.of_own (own_nil w 0 0 0), by simp⟩
def FrkAllR (p : Nat × List (Int × C)) (w : World) (en : Ending) (w' : World) : Prop :=
 ∃ (E : List Ent) (a : Option Addr) (c : Nat), en = .returned (.tuple #[.slice a E.length c, errV p.1]) ∧ E.map noAd = p.2 ∧ E.length ≤ 65536 ∧ EL w' a c E ∧ Below w.heap.size w w'
theorem frkTake_all (b : List UInt8) (a : Option Addr) (c : Nat) (w : World) (h : Bytes w (.slice a b.length c) b) : Calls Tryz.prog 6 #[.slice a b.length c] w (FrkAllR (frkTake b) w) := by
 have hz : (frkTake b).1 ≠ 0 → (frkTake b).2 = [] := by
  unfold frkTake
  split
  ·intro _; rfl
  ·split
   ·intro _; rfl
   ·intro h; exact absurd rfl h
 refine (frkTake_any b a c w h).mono ?_
 rintro en w' (⟨h0, rfl, hb⟩ | ⟨h0, E, a', c', rfl, hE, hl, ho, hd, hb⟩)
 ·exact ⟨[], none, 0, rfl, (hz h0).symm, by simp, el_nil _, hb⟩
 ·exact ⟨E, a', c', by rw [h0]; rfl, hE, hl, ⟨SlV.of_own ho, fun x hx => SlV.of_own (hd x hx)⟩, hb⟩
def RFrkR (p : Nat × List (Int × C)) (w : World) (en : Ending) (w' : World) : Prop :=
 ∃ (a : Option Addr) (c : Nat), en = .returned (.tuple #[.slice a p.2.length c, .int .i64 (p.1 : Nat)]) ∧ RList w' (.slice a p.2.length c) p.2 ∧ Below w.heap.size w w'
theorem rlist_nil0 (w : World) : RList w (.slice none 0 0) [] := SlV.of_own (own_nil w 0 0 0)
set_option maxHeartbeats 4000000 in
theorem rfrkTake_any (b : List UInt8) (a : Option Addr) (c : Nat) (w : World) (h : Bytes w (.slice a b.length c) b) : Calls Tryz.prog 7 #[.slice a b.length c] w (RFrkR (frkTake b) w) := by
 have HT := Zh (rtakeu09_any b a c w h)
 rw [takeU_ref] at HT
 clear h
 obtain ⟨p, hp⟩ : ∃ p, takeU b = p := ⟨_, rfl⟩
 have HF := Zh (show frkTake b = if p.1 ≠ 0 then (p.1, []) else if p.2.e ≠ 0 ∨ p.2.l ≠ 0 then (2, []) else (0, p.2.cells) by unfold frkTake; rw [hp])
 rw [hp] at HT
 clear hp
 obtain ⟨n, u⟩ := p
 go_enter Tryz.func7, Tryz.ntmps7
 go_wp2_with fail
 refine HT.out.mono ?_
 clear HT
 rintro en w1 ⟨ta, tc, rfl, ho, hb⟩
 have HR := Zh (show RList w1 (.slice ta u.cells.length tc) u.cells from SlV.of_own ho)
 have H1 := Zh ((Sep.start w).below hb)
 clear ho hb
 unfold ruV
 simp only at H1 ⊢
 go_upto_region 2 with fail
 have hs2 := H1.out.allocAt w1.heap.size [.int .i64 u.e, .int .i64 u.l, .slice ta u.cells.length tc] 67 rfl
 have HR2 := Zh (SlV.below HR.out (Nat.le_refl _) (show Below w1.heap.size w1 (w1.alloc (.cells #[.int .i64 u.e, .int .i64 u.l, .slice ta u.cells.length tc] 67)) by go_grown))
 have q0 := hs2.cell 0 rfl 0 rfl; have q1 := hs2.cell 0 rfl 1 rfl; have q2 := hs2.cell 0 rfl 2 rfl
 have HB2 := Lib.hid' hs2.toBelow
 clear hs2 H1 HR
 have hlt : w1.heap.size < (w1.alloc (.cells #[.int .i64 u.e, .int .i64 u.l, .slice ta u.cells.length tc] 67)).heap.size := by simp
 generalize (w1.alloc (.cells #[.int .i64 u.e, .int .i64 u.l, .slice ta u.cells.length tc] 67)) = w2 at *
 generalize w1.heap.size = N at *
 by_cases hn : n = 0
 rotate_left
 ·have hnb : ((n : Int) != 0) = true := by rw [bne_iff_ne]; omega
  have HF' := Zh (show frkTake b = (n, []) by rw [HF.out]; exact if_pos hn)
  clear hn HF
  go_wp2_with fail
  go_ret2
  rw [HF'.out]
  exact ⟨none, 0, rfl, rlist_nil0 _, HB2.out⟩
 subst hn
 have HF' := Zh (show frkTake b = if u.e ≠ 0 ∨ u.l ≠ 0 then (2, []) else (0, u.cells) by rw [HF.out]; exact if_neg (by simp))
 clear HF
 by_cases hz : u.e ≠ 0 ∨ u.l ≠ 0
 ·have HF2 := Zh (show frkTake b = (2, []) by rw [HF'.out]; exact if_pos hz)
  clear HF'
  by_cases he : u.e = 0
  ·have heb : (u.e != 0) = false := by simp [he]
   have hlb : (u.l != 0) = true := by rw [bne_iff_ne]; rcases hz with h | h; exact absurd he h; exact h
   clear hz he
   go_wp2_with fail
   go_ret2
   rw [HF2.out]
   exact ⟨none, 0, rfl, rlist_nil0 _, HB2.out⟩
  ·have heb : (u.e != 0) = true := by rw [bne_iff_ne]; exact he
   clear hz he
   go_wp2_with fail
   go_ret2
   rw [HF2.out]
   exact ⟨none, 0, rfl, rlist_nil0 _, HB2.out⟩
 ·have HF2 := Zh (show frkTake b = (0, u.cells) by rw [HF'.out]; exact if_neg hz)
  clear HF'
  have heb : (u.e != 0) = false := by simp; omega
  have hlb : (u.l != 0) = false := by simp; omega
  clear hz
  go_wp2_with fail
  go_ret2
  rw [HF2.out]
  exact ⟨ta, tc, rfl, HR2.out, HB2.out⟩
set_option maxHeartbeats 4000000 in
theorem are_any (E : List Ent) (L : List (Int × C)) (a : Option Addr) (c : Nat) (a' : Option Addr) (c' : Nat) (w : World) (h : EL w a c E) (h' : RList w (.slice a' L.length c') L) (hn : E.length ≤ 1048576) :
  Calls Tryz.prog 8 #[.slice a E.length c, .slice a' L.length c'] w fun en w' => en = .returned (.bool (decide (E.map noAd = L))) ∧ Below w.heap.size w w' := by
 have HE := Zh (lEntries_any E a c w h.1 h.2 hn)
 have HL := Lib.hid' h'
 clear h h' hn
 go_enter Tryz.func8, Tryz.ntmps8
 go_wp2_with fail
 refine HE.out.mono ?_
 clear HE
 rintro en w1 ⟨a1, c1, rfl, ho, hb⟩
 have HS := Zh (rSame_any ⟨0, 0, E.map noAd⟩ ⟨0, 0, L⟩ a1 c1 a' c' w1 (show SlV w1 (.slice a1 (E.map noAd).length c1) (E.map noAd).length (rents (E.map noAd)) by rw [List.length_map]; exact SlV.of_own ho) (SlV.below HL.out (Nat.le_refl _) hb))
 have HB := Lib.hid' hb
 clear ho hb
 have HD := Zh (show (⟨0, 0, E.map noAd⟩ : U).rSame ⟨0, 0, L⟩ = decide (E.map noAd = L) by simp [U.rSame])
 rw [HD.out] at HS
 simp only [ruV, List.length_map] at HS
 clear HD
 obtain ⟨bo, hbo⟩ : ∃ bo, decide (E.map noAd = L) = bo := ⟨_, rfl⟩
 rw [hbo] at HS
 have HBO := Lib.hid' hbo
 clear hbo
 go_wp2_with fail
 refine HS.out.mono ?_
 rintro en w2 ⟨rfl, hb2⟩
 have HB2 := Zh (HB.out.trans (hb2.mono HB.out.size))
 clear hb2
 go_wp2_with fail
 go_ret
 rw [HBO.out]
 exact ⟨rfl, HB2.out⟩
end Go.Proofs.YtddlkkmdcfamiaaGreatDoor
