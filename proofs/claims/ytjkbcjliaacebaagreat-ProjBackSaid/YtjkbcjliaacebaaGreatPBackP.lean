/- Proved here: the statement ProjBack: for every input the Go function holdfastlaw11.ProjBack returns true, and its arguments read as they did. No condition. -/
import Derived.Test.YtjkbcjliaacebaaGreatOpenJ
import Derived.Test.YtjkbcjliaacebaaGreatPBack
namespace Go.Proofs.YtjkbcjliaacebaaGreat
open Go.ChangeShapes Go.WideShapes Go.ChangeAt Go.RowKit
set_option linter.unusedSimpArgs false
set_option linter.unusedVariables false

set_option maxRecDepth 100000 in
theorem projBack_lifted (os : Os) (started : os.Started) (H : Type) (enc : TypeId × Value → H) :
    ReturnsInHanded {} Tryz.checked os 5 .any (Rows.projBackSpec.pre6 enc Tryz.prog Tryz.f5 Rows.projBackRow.domain false) (Rows.projBackSpec.post enc Tryz.prog Tryz.f5 false true false false) := by
  refine returnsInHanded_of_change (C := Tryz.checked) (s := Rows.projBackSpec) own0 started (by kernel_rfl) Tryz.func5
    (ChangeSpec.witness6 (enc := enc) (C := Tryz.checked) false ⟨#[], #[.agg #[.int .i64 0, .slice none 0 0], .slice none 0 0, .slice none 0 0], []⟩ 8 (by kernel_rfl) (by kernel_rfl) (by kernel_rfl) (by kernel_rfl)) ?_
  intro W base args ds gs before hval0 hW _ _
  have hval : ∀ (j : Nat) t v, Tryz.f5.params[j]? = some t → args[j]? = some v → Value.okWide Tryz.prog W .any base t v := hval0
  have hW' := hW
  obtain ⟨p, q, hA0, hV, rfl, _, _⟩ := hW
  have hA : DataW.TrodAll enc Tryz.prog W 0 (fun _ => true) true Tryz.f5.params.toList args.toList ds p := hA0
  rw [Tryz.params5] at hA hval
  obtain ⟨v0, v1, v2, d0, d1, d2, p0, p1, p2, rfl, rfl, rfl, h0, h1, h2⟩ := trodAll_three hA
  obtain ⟨rfl, rfl⟩ := trodVars_none hV
  clear hA0 hval0
  simp only [List.append_nil, List.append_assoc] at hW'
  have hlt : ∀ x ∈ p0 ++ (p1 ++ p2), x.block < W.heap.size := fun x hx => by simpa using hW'.lt x hx
  have k0 : ∀ W', Below W.heap.size W W' → DataW.Trod enc Tryz.prog W' 0 (fun b => decide (b < W.heap.size)) true _ v0 d0 p0 := fun W' hb => Below.trod laidOut0 (by kernel_rfl) (of_decide_eq_true (by kernel_rfl)) h0 hb (fun x hx => hlt x (by simp [hx]))
  have k1 : ∀ W', Below W.heap.size W W' → DataW.Trod enc Tryz.prog W' 0 (fun b => decide (b < W.heap.size)) true _ v1 d1 p1 := fun W' hb => Below.trod laidOut0 (by kernel_rfl) (of_decide_eq_true (by kernel_rfl)) h1 hb (fun x hx => hlt x (by simp [hx]))
  have k2 : ∀ W', Below W.heap.size W W' → DataW.Trod enc Tryz.prog W' 0 (fun b => decide (b < W.heap.size)) true _ v2 d2 p2 := fun W' hb => Below.trod laidOut0 (by kernel_rfl) (of_decide_eq_true (by kernel_rfl)) h2 hb (fun x hx => hlt x (by simp [hx]))
  obtain ⟨cs0, rfl, hn0⟩ := okWide_struct Tryz.underlying24 (hval 0 _ v0 rfl rfl)
  rw [Tryz.cellsProjJ] at hn0
  obtain ⟨e0, a0, c0, X0, rfl, hs0, we0⟩ := rd_proj hn0 (by simpa [Value.cells] using Rd.of_trod h0)
  obtain ⟨a1, n1, c1, rfl⟩ := okWide_slice Tryz.underlying40 (hval 1 _ v1 rfl rfl)
  obtain ⟨⟨l1, a1', c1'⟩, q1, hs1, wl1⟩ := rd_ints (by simpa [Value.cells] using Rd.of_trod h1)
  simp only [chV, List.cons.injEq, and_true, Value.slice.injEq] at q1
  obtain ⟨rfl, rfl, rfl⟩ := q1
  obtain ⟨a2, n2, c2, rfl⟩ := okWide_slice Tryz.underlying40 (hval 2 _ v2 rfl rfl)
  obtain ⟨⟨l2, a2', c2'⟩, q2, hs2, wl2⟩ := rd_ints (by simpa [Value.cells] using Rd.of_trod h2)
  simp only [chV, List.cons.injEq, and_true, Value.slice.injEq] at q2
  obtain ⟨rfl, rfl, rfl⟩ := q2
  refine (projBack_any e0 a0 c0 X0 l1 l2 _ _ _ _ W hs0 hs1 hs2).mono fun e W' ⟨he, hb⟩ => ?_
  subst he
  exact ⟨_, rfl, _, _, _, [], p0 ++ (p1 ++ p2), [], hW', trodAll_mk1 (shut_bool Tryz.underlying4 _), trodAll_mk3 (k0 _ hb) (k1 _ hb) (k2 _ hb), rfl, hb.frame _, fun h => by cases h⟩

theorem projBack_holds : Rows.ProjBackSaid :=
  OpenClaim.holds_of_wide 5 Tryz.f5 rfl rfl rfl rfl rfl rfl rfl ⟨rfl, rfl, rfl, rfl, rfl⟩ rfl rfl rfl rfl rfl (by kernel_rfl) Tryz.func5 (by kernel_rfl)
    (of_decide_eq_true (by kernel_rfl)) (by unfold Func.isWrapper; rw [if_neg (of_decide_eq_false (by kernel_rfl))]; exact ⟨rfl, rfl⟩)
    (fun os started H enc _ => projBack_lifted os started H enc)
#print axioms projBack_holds
end Go.Proofs.YtjkbcjliaacebaaGreat
