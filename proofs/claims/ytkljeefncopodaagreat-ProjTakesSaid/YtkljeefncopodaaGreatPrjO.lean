/- Layer 11 (proj): a projection's bytes (varint.PutList, proj.Put). -/
import Derived.Test.YtkljeefncopodaaGreatPrjC
import Derived.Test.YtkljeefncopodaaGreatPrjT
import Derived.Test.YtkljeefncopodaaGreatFrmB
namespace Go.Proofs.YtkljeefncopodaaGreat
open Go.RowKit
set_option linter.unusedSimpArgs false
set_option linter.unusedVariables false
set_option maxRecDepth 100000

theorem etU64 : ElemT Tryz.prog 100 86 1 8 := ElemT.mk' (z := .int .u64 0) Tryz.underlying100 (by kernel_rfl) rfl (by decide) (by decide)
theorem uVs_append (a b : List Nat) : uVs (a ++ b) = uVs a ++ uVs b := by simp [uVs]
def Pj.putB (p : Pj) : List UInt8 := if p.check ≠ 0 then [] else p.put
def PPutR (p : Pj) (w : World) (en : Ending) (w' : World) : Prop :=
  ∃ a c, en = .returned (.tuple #[.slice a p.putB.length c, errV p.check]) ∧ w'.ownsRow w.heap.size 5 1 (.slice a p.putB.length c) p.putB.length (byteVs p.putB) ∧ Below w.heap.size w w'
def textUp (e : Nat) (L : List (List Int)) (n k : Nat) : List UInt8 := vb e ++ vb n ++ ((L.take k).map chainB).flatten
theorem textUp_next {e n k : Nat} {L : List (List Int)} (hk : k < L.length) : textUp e L n (k + 1) = textUp e L n k ++ chainB L[k] := by
  unfold textUp
  rw [List.take_succ_eq_append_getElem hk, List.map_append, List.flatten_append, ← List.append_assoc]
  simp only [List.map_cons, List.map_nil, List.flatten_cons, List.flatten_nil, List.append_nil]
theorem textUp_le (e n k : Nat) (L : List (List Int)) : (textUp e L n k).length ≤ (textUp e L n L.length).length := by
  unfold textUp
  have h : (L.map chainB).flatten = ((L.take k).map chainB).flatten ++ ((L.drop k).map chainB).flatten := by rw [← List.flatten_append, ← List.map_append, List.take_append_drop]
  rw [List.take_length, h]
  simp only [List.length_append]; omega
theorem textUp_all (e : Nat) (L : List (List Int)) : textUp e L L.length L.length = Pj.text ⟨e, L⟩ := by
  unfold textUp Pj.text; rw [List.take_length]; rfl
theorem chainB_vbs (c : List Int) : chainB c = vbs (c.length :: c.map Int.toNat) := by
  unfold chainB vbs; simp [List.flatMap, Function.comp_def]
end Go.Proofs.YtkljeefncopodaaGreat
