/- Layer 9 (record): the fixed fact. -/
import Derived.Test.YtkljeefncopodaaGreatRecD
import Derived.Test.YtkljeefncopodaaGreatCell
namespace Go.Proofs.YtkljeefncopodaaGreat
open Go.RowKit
set_option linter.unusedSimpArgs false
set_option linter.unusedVariables false
set_option maxRecDepth 100000

def A1 : Ac := ⟨1, 1, 0, []⟩
theorem a1_ck : A1.check = 0 := by decide
theorem a1_put : ∃ q : List UInt8, q.length = 4 ∧ A1.putB = 2 :: 1 :: 1 :: q := by
  refine ⟨four (crcOf 0 [2, 1, 1]), four_length _, ?_⟩
  have h1 : vb 1 = [1] := by rw [vb_small (by decide)]; rfl
  have h2 : vb 2 = [2] := by rw [vb_small (by decide)]; rfl
  have ht : A1.text = [1, 1] := by
    show vb 1 ++ vb 1 ++ [] ++ [] = _
    rw [h1]; rfl
  have hh : headB [1, 1] = [2, 1, 1] := by
    show vb 2 ++ [1, 1] = _
    rw [h2]; rfl
  unfold Ac.putB
  rw [a1_ck, if_neg (by simp)]
  unfold Ac.put frameB
  rw [ht, hh]; rfl
theorem a1_take : Ac.take A1.putB = (0, A1) := by
  unfold Ac.putB
  rw [a1_ck, if_neg (by simp)]
  exact Ac.take_put a1_ck
set_option maxHeartbeats 2000000 in
theorem alive9_any (w : World) : Calls Tryz.prog 15 #[] w fun e w' => e = .returned (.bool true) ∧ Below w.heap.size w w' := by
  have HC := rput9_any A1 none 0 w (SlV.empty _ _ _ (Nat.zero_le _) (fun _ => rfl))
  unfold RPutR at HC
  rw [a1_ck] at HC
  obtain ⟨q, hq4, hpq⟩ := a1_put
  have htk := a1_take
  obtain ⟨pb, hpb⟩ : ∃ p, p = A1.putB := ⟨_, rfl⟩
  rw [← hpb] at HC hpq htk
  clear hpb
  have HPQ := Lib.hid' hpq
  have h1l : (1 : Int) < pb.length := by rw [hpq]; simp; omega
  have h2l : (2 : Int) < pb.length := by rw [hpq]; simp; omega
  have hlb : ((pb.length : Int) == 7) = true := by rw [beq_iff_eq, hpq]; simp; omega
  clear hpq hq4
  have HTK := Lib.hid' htk
  clear htk
  change Calls _ _ #[.agg #[.int .i64 1, .int .i64 1, .int .i64 0, .slice none 0 0]] _ _ at HC
  go_enter Tryz.func15, Tryz.ntmps15
  go_wp2_with fail
  refine HC.mono ?_
  rintro e w1 ⟨a1, c1, rfl, ho, hb1⟩
  have HY := Lib.hid' (show Bytes w1 (.slice a1 pb.length c1) pb from SlV.of_own ho)
  have HB1 := Lib.hid' hb1
  clear ho hb1 HC
  rw [errV_0]
  have HC := rtake9_any pb a1 c1 w1 HY.out
  unfold RTakeR at HC
  rw [HTK.out] at HC
  simp only [errV_0] at HC
  have hva : ∀ a c, ac9V A1 a c = .agg #[.int .i64 1, .int .i64 1, .int .i64 0, .slice a 0 c] := fun _ _ => rfl
  simp only [hva] at HC
  go_wp2_with fail
  refine HC.mono ?_
  rintro e w2 ⟨a2, c2, rfl, hy2, hb2⟩
  have HY2 := SlV.below HY.out (Nat.le_refl _) hb2
  have HB2 := Lib.hid' (HB1.out.trans (hb2.mono HB1.out.size))
  obtain ⟨bb, off, rfl, hbb, hc1⟩ := bytes_at (l := pb) HY2 (show 1 < pb.length by omega)
  obtain ⟨bb2, off2, he2, _, hc2⟩ := bytes_at (l := pb) HY2 (show 2 < pb.length by omega)
  simp only [Option.some.injEq, Addr.mk.injEq, and_true] at he2
  obtain ⟨rfl, rfl⟩ := he2
  rw [show (pb[1]'(by omega) : UInt8) = 1 by rw [List.getElem_of_eq HPQ.out]; rfl] at hc1
  rw [show (pb[2]'(by omega) : UInt8) = 1 by rw [List.getElem_of_eq HPQ.out]; rfl] at hc2
  have hc1' : w2.cell? ⟨bb, off + 1, none⟩ = some (.int .u8 1) := hc1
  have hc2' : w2.cell? ⟨bb, off + 2, none⟩ = some (.int .u8 1) := hc2
  clear hc1 hc2 hy2 hb2 HY2 HC HY HTK HPQ hva HB1
  go_wp2
  go_ret
  exact ⟨rfl, HB2.out.trans (Below.mono (by go_grown) HB2.out.size)⟩
end Go.Proofs.YtkljeefncopodaaGreat
