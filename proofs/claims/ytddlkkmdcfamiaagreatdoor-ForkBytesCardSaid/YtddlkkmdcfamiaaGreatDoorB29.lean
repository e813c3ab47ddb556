/- Proved here: a part of the proof (29 of 35). -/
import Derived.Test.YtddlkkmdcfamiaaGreatDoorB26
import Derived.Test.YtddlkkmdcfamiaaGreatDoorB3
import Derived.Test.YtddlkkmdcfamiaaGreatDoorB7
import Derived.Deep.DeepCutAuto
import Derived.Test.YtddlkkmdcfamiaaGreatDoorB5
import Derived.Test.YtddlkkmdcfamiaaGreatDoorB1
import Derived.Test.YtddlkkmdcfamiaaGreatDoorB12
import Derived.Test.YtddlkkmdcfamiaaGreatDoorB11
import Derived.Deep.CutBlock
set_option linter.unusedSimpArgs false
set_option linter.unusedVariables false
set_option maxRecDepth 100000
namespace Go.Proofs.YtddlkkmdcfamiaaGreatDoor
open Go.RowKit
theorem el_nil (w : World) : EL w none 0 [] := ⟨SlV.of_own (own_nil w 0 0 0), by simp⟩
def FrkAllR (p : Nat × List (Int × C)) (w : World) (en : Ending) (w' : World) : Prop :=
 ∃ (E : List Ent) (a : Option Addr) (c : Nat), en = .returned (.tuple #[.slice a E.length c, errV p.1]) ∧ E.map noAd = p.2 ∧ E.length ≤ 65536 ∧ EL w' a c E ∧ Below w.heap.size w w'
theorem frkTake_all (b : List UInt8) (a : Option Addr) (c : Nat) (w : World) (h : Bytes w (.slice a b.length c) b) : Calls Tryz.prog 6 #[.slice a b.length c] w (FrkAllR (frkTake b) w) := by
 have hz : (frkTake b).1 ≠ 0 → (frkTake b).2 = [] := by
  unfold frkTake
  split
  ·intro _; rfl
  ·split
   ·intro _; rfl
   ·intro h; exact absurd rfl h
 refine (frkTake_any b a c w h).mono ?_
 rintro en w' (⟨h0, rfl, hb⟩ | ⟨h0, E, a', c', rfl, hE, hl, ho, hd, hb⟩)
 ·exact ⟨[], none, 0, rfl, (hz h0).symm, by simp, el_nil _, hb⟩
 ·exact ⟨E, a', c', by rw [h0]; rfl, hE, hl, ⟨SlV.of_own ho, fun x hx => SlV.of_own (hd x hx)⟩, hb⟩
set_option maxHeartbeats 4000000 in
theorem are_any (E : List Ent) (L : List (Int × C)) (a : Option Addr) (c : Nat) (a' : Option Addr) (c' : Nat) (w : World) (h : EL w a c E) (h' : RList w (.slice a' L.length c') L) (hn : E.length ≤ 1048576) :
  Calls Tryz.prog 8 #[.slice a E.length c, .slice a' L.length c'] w fun en w' => en = .returned (.bool (decide (E.map noAd = L))) ∧ Below w.heap.size w w' := by
 have HE := Zh (lEntries_any E a c w h.1 h.2 hn)
 have HL := Lib.hid' h'
 clear h h' hn
 go_enter Tryz.func8, Tryz.ntmps8
 go_wp2_with fail
 refine HE.out.mono ?_
 clear HE
 rintro en w1 ⟨a1, c1, rfl, ho, hb⟩
 have HS := Zh (rSame_any ⟨0, 0, E.map noAd⟩ ⟨0, 0, L⟩ a1 c1 a' c' w1 (show SlV w1 (.slice a1 (E.map noAd).length c1) (E.map noAd).length (rents (E.map noAd)) by rw [List.length_map]; exact SlV.of_own ho) (SlV.below HL.out (Nat.le_refl _) hb))
 have HB := Lib.hid' hb
 clear ho hb
 have HD := Zh (show (⟨0, 0, E.map noAd⟩ : U).rSame ⟨0, 0, L⟩ = decide (E.map noAd = L) by simp [U.rSame])
 rw [HD.out] at HS
 simp only [ruV, List.length_map] at HS
 clear HD
 obtain ⟨bo, hbo⟩ : ∃ bo, decide (E.map noAd = L) = bo := ⟨_, rfl⟩
 rw [hbo] at HS
 have HBO := Lib.hid' hbo
 clear hbo
 go_wp2_with fail
 refine HS.out.mono ?_
 rintro en w2 ⟨rfl, hb2⟩
 have HB2 := Zh (HB.out.trans (hb2.mono HB.out.size))
 clear hb2
 go_wp2_with fail
 go_ret
 rw [HBO.out]
 exact ⟨rfl, HB2.out⟩
end Go.Proofs.YtddlkkmdcfamiaaGreatDoor
