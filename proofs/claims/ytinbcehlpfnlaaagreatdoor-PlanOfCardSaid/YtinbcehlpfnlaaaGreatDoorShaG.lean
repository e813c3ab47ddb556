/- Layer 3 (sha): Sum. -/
import Derived.Test.YtinbcehlpfnlaaaGreatDoorShaF
namespace Go.Proofs.YtinbcehlpfnlaaaGreatDoor
open Go.RowKit Go.Shelf
set_option linter.unusedSimpArgs false
set_option linter.unusedVariables false
set_option maxRecDepth 100000

set_option maxHeartbeats 4000000 in
theorem shasum_any (t : List UInt8) (ta : Option Addr) (tc : Nat) (w : World) (hT : Bytes w (.slice ta t.length tc) t) (hl : t.length ≤ 1073741824) (hL : Laid w) :
    Calls Tryz.prog 57 #[.slice ta t.length tc] w fun e w' => e = .returned (.agg (byteVs (shaB t)).toArray) ∧ Below w.heap.size w w' := by
  have HT := Lib.hid' hT
  have HL := Lib.hid' hL
  have HOF := Lib.hid' (fun wq pb h1 h2 h3 => of1_any t ta tc wq h1 hl pb h2 h3)
  clear hT hL
  go_enter Tryz.func57, Tryz.ntmps57
  go_wp2_with fail
  rw [zero32]
  have H1 : Sep w NoF [.box (w.heap.size + 1) [.slice ta t.length tc] 85, .box w.heap.size zeroD 45] ((w.alloc (.cells zeroD.toArray 45)).alloc (.cells #[.slice ta t.length tc] 85)) :=
    ((Sep.start w).allocAt (w.heap.size) zeroD 45 rfl).allocAt (w.heap.size + 1) [.slice ta t.length tc] 85 (by simp)
  generalize (w.alloc (.cells zeroD.toArray 45)).alloc (.cells #[.slice ta t.length tc] 85) = w1 at *
  refine (HOF.out w1 (w.heap.size + 1) (H1.old0 HT.out) (H1.cell 0 rfl 0 rfl) (HL.out.below (Nat.le_refl _) H1.toBelow)).mono ?_
  clear HOF
  rintro e w2 ⟨rfl, hb⟩
  have H2 := H1.below hb
  have hl32 : (byteVs (shaB t)).length = 32 := by rw [byteVs_length']; exact shaB_len t
  have hz : (Tryz.prog.info? 45).map (·.size) = some (byteVs (shaB t)).length := by rw [hl32]; kernel_rfl
  have hz2 : zeroD.length = (byteVs (shaB t)).length := by rw [hl32]; rfl
  have h1 : (byteVs (shaB t)).all (·.oneCell') = true := List.all_eq_true.2 (byteVs_one _)
  have H3 := H2.setRow 1 rfl (byteVs (shaB t))
  have HX3 := Lib.hid' (H3.box 0 rfl)
  have HB3 := Lib.hid' H3.toBelow
  obtain ⟨X, hX⟩ : ∃ X, X = byteVs (shaB t) := ⟨_, rfl⟩
  rw [← hX] at hz hz2 h1 HX3 HB3 ⊢
  have HXX := Lib.hid' hX
  clear hX hl32 H1 H3 hb
  go_wp2_with (refine Sep.storeB H2 1 rfl rfl 45 (.tmp 2) (.tmp 5) rfl X rfl rfl hz hz2 h1 ?_)
  refine bodyPost_ret (box_result Tryz.results57 HX3.out _ rfl _ Tryz.underlying45 rfl hz) rfl ?_
  exact ⟨by rw [HXX.out], HB3.out⟩
end Go.Proofs.YtinbcehlpfnlaaaGreatDoor
