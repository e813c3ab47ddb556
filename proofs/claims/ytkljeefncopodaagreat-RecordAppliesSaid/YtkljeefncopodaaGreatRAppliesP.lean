/- Proved here: the statement RecordApplies: for every input the Go function holdfastlaw09.RecordApplies returns true, and its arguments read as they did. No condition. -/
import Derived.Test.YtkljeefncopodaaGreatOpen0
import Derived.Test.YtkljeefncopodaaGreatOpenR
import Derived.Test.YtkljeefncopodaaGreatOpenL
import Derived.Test.YtkljeefncopodaaGreatRApplies
namespace Go.Proofs.YtkljeefncopodaaGreat
open Go.ChangeShapes Go.WideShapes Go.ChangeAt Go.RowKit
set_option linter.unusedSimpArgs false
set_option linter.unusedVariables false

set_option maxRecDepth 100000 in
theorem recordApplies_lifted (os : Os) (started : os.Started) (H : Type) (enc : TypeId × Value → H) :
    ReturnsInHanded {} Tryz.checked os 6 .any (Rows.recordAppliesSpec.pre6 enc Tryz.prog Tryz.f6 Rows.recordAppliesRow.domain false) (Rows.recordAppliesSpec.post enc Tryz.prog Tryz.f6 false true false false) := by
  refine returnsInHanded_of_change (C := Tryz.checked) (s := Rows.recordAppliesSpec) own0 started (by kernel_rfl) Tryz.func6
    (ChangeSpec.witness6 (enc := enc) (C := Tryz.checked) false ⟨#[], #[.int .i64 0, .int .i64 0, .slice none 0 0], []⟩ 8 (by kernel_rfl) (by kernel_rfl) (by kernel_rfl) (by kernel_rfl)) ?_
  intro W base args ds gs before hval0 hW _ _
  have hval : ∀ (j : Nat) t v, Tryz.f6.params[j]? = some t → args[j]? = some v → Value.okWide Tryz.prog W .any base t v := hval0
  have hW' := hW
  obtain ⟨p, q, hA0, hV, rfl, _, _⟩ := hW
  have hA : DataW.TrodAll enc Tryz.prog W 0 (fun _ => true) true Tryz.f6.params.toList args.toList ds p := hA0
  rw [Tryz.params6] at hA hval
  obtain ⟨v0, v1, v2, d0, d1, d2, p0, p1, p2, rfl, rfl, rfl, h0, h1, h2⟩ := trodAll_three hA
  obtain ⟨rfl, rfl⟩ := trodVars_none hV
  clear hA0 hval0
  simp only [List.append_nil, List.append_assoc] at hW'
  have hlt : ∀ x ∈ p0 ++ (p1 ++ p2), x.block < W.heap.size := fun x hx => by simpa using hW'.lt x hx
  have k0 : ∀ W', Below W.heap.size W W' → DataW.Trod enc Tryz.prog W' 0 (fun b => decide (b < W.heap.size)) true _ v0 d0 p0 := fun W' hb => Below.trod laidOut0 (by kernel_rfl) (of_decide_eq_true (by kernel_rfl)) h0 hb (fun x hx => hlt x (by simp [hx]))
  have k1 : ∀ W', Below W.heap.size W W' → DataW.Trod enc Tryz.prog W' 0 (fun b => decide (b < W.heap.size)) true _ v1 d1 p1 := fun W' hb => Below.trod laidOut0 (by kernel_rfl) (of_decide_eq_true (by kernel_rfl)) h1 hb (fun x hx => hlt x (by simp [hx]))
  have k2 : ∀ W', Below W.heap.size W W' → DataW.Trod enc Tryz.prog W' 0 (fun b => decide (b < W.heap.size)) true _ v2 d2 p2 := fun W' hb => Below.trod laidOut0 (by kernel_rfl) (of_decide_eq_true (by kernel_rfl)) h2 hb (fun x hx => hlt x (by simp [hx]))
  obtain ⟨x0, rfl, _, _, w0⟩ := open_int Tryz.underlying3 (hval 0 _ v0 rfl rfl) h0
  obtain ⟨x1, rfl, _, _, w1⟩ := open_int Tryz.underlying3 (hval 1 _ v1 rfl rfl) h1
  obtain ⟨a2, n2, c2, rfl⟩ := okWide_slice Tryz.underlying69 (hval 2 _ v2 rfl rfl)
  obtain ⟨X2, rfl, hs2⟩ := rd_acts (a := a2) (n := n2) (c := c2) (by simpa [Value.cells] using Rd.of_trod h2)
  refine (recordApplies_any x0 x1 X2 a2 c2 W hs2).mono fun e W' ⟨he, hb⟩ => ?_
  subst he
  exact ⟨_, rfl, _, _, _, [], p0 ++ (p1 ++ p2), [], hW', trodAll_mk1 (shut_bool Tryz.underlying4 _), trodAll_mk3 (k0 _ hb) (k1 _ hb) (k2 _ hb), rfl, hb.frame _, fun h => by cases h⟩

theorem recordApplies_holds : Rows.RecordAppliesSaid :=
  OpenClaim.holds_of_wide 6 Tryz.f6 rfl rfl rfl rfl rfl rfl rfl ⟨rfl, rfl, rfl, rfl, rfl⟩ rfl rfl rfl rfl rfl (by kernel_rfl) Tryz.func6 (by kernel_rfl)
    (of_decide_eq_true (by kernel_rfl)) (by unfold Func.isWrapper; rw [if_neg (of_decide_eq_false (by kernel_rfl))]; exact ⟨rfl, rfl⟩)
    (fun os started H enc _ => recordApplies_lifted os started H enc)
#print axioms recordApplies_holds
end Go.Proofs.YtkljeefncopodaaGreat
