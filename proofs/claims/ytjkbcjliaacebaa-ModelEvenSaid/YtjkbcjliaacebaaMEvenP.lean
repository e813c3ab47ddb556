/- Proved here: the statement ModelEven: for every input the Go function holdfastlaw33.ModelEven returns true, and its arguments read as they did. No condition. -/
import Derived.Test.YtjkbcjliaacebaaOpen13
import Derived.Test.YtjkbcjliaacebaaMEven
namespace Go.Proofs.Ytjkbcjliaacebaa
open Go.ChangeShapes Go.WideShapes Go.ChangeAt Go.RowKit
set_option linter.unusedSimpArgs false
set_option linter.unusedVariables false
theorem Try.cellsS13 : Try.prog.cellsOf 41 = 1 := by kernel_rfl
theorem Try.cellsTwo13 : Try.prog.cellsOf 72 = 2 := by kernel_rfl
theorem okWide_array {P : Program} {W : World} {r : Reach} {base : Nat} {t e : TypeId} {n : Nat} {v : Value} (ht : P.underlying t = some (.array n e)) (h : Value.okWide P W r base t v) : ∃ cs, v = .agg cs ∧ cs.size = P.cellsOf t := by
  simp only [Value.okWide, ht] at h
  obtain ⟨cs, h1, h2, _⟩ := h
  exact ⟨cs, h1, h2⟩
theorem rd_s13' {H : Type} {enc : TypeId × Value → H} {w : World} {r : List Value} (h : Rd enc Try.prog w 41 r) : ∃ a c, ∃ X : List A13, r = [.slice a X.length c] ∧ S13At w (.slice a X.length c) X := by
  obtain ⟨a', c', X, e, hs, hp⟩ := Rd.rows (f := a13V) (p := A13.In w) Try.underlying41 (by rw [Try.cellsA13]; decide) h (fun r hl hr => rd_a13 (by rw [hl]; exact Try.cellsA13) hr)
  exact ⟨a', c', X, e, hs, hp⟩
theorem rd_two13 {H : Type} {enc : TypeId × Value → H} {w : World} {cs : Array Value} (hn : cs.size = 2) (h : Rd enc Try.prog w 72 cs.toList) :
    ∃ xa xc, ∃ X : List A13, ∃ ya yc, ∃ Y : List A13, cs = #[.slice xa X.length xc, .slice ya Y.length yc] ∧ S13At w (.slice xa X.length xc) X ∧ S13At w (.slice ya Y.length yc) Y := by
  obtain ⟨l⟩ := cs
  obtain ⟨c0, c1, rfl⟩ : ∃ c0 c1, l = [c0, c1] := by
    match l, hn with
    | [c0, c1], _ => exact ⟨_, _, rfl⟩
  obtain ⟨_, hf⟩ := Rd.array Try.underlying72 h
  obtain ⟨xa, xc, X, ex, hx⟩ := rd_s13' (show Rd enc Try.prog w 41 [c0] by simpa [Try.cellsS13] using hf 0 (by decide))
  obtain ⟨ya, yc, Y, ey, hy⟩ := rd_s13' (show Rd enc Try.prog w 41 [c1] by simpa [Try.cellsS13] using hf 1 (by decide))
  simp only [List.cons.injEq, and_true] at ex ey
  subst ex ey
  exact ⟨xa, xc, X, ya, yc, Y, rfl, hx, hy⟩

set_option maxRecDepth 100000 in
theorem modelEven_lifted (os : Os) (started : os.Started) (H : Type) (enc : TypeId × Value → H) :
    ReturnsInHanded {} Try.checked os 6 .any (Rows.modelEvenSpec.pre6 enc Try.prog Try.f6 Rows.modelEvenRow.domain false) (Rows.modelEvenSpec.post enc Try.prog Try.f6 false true false false) := by
  refine returnsInHanded_of_change (C := Try.checked) (s := Rows.modelEvenSpec) own0 started (by kernel_rfl) Try.func6
    (ChangeSpec.witness6 (enc := enc) (C := Try.checked) false ⟨#[], #[.agg #[.slice none 0 0, .slice none 0 0]], []⟩ 8 (by kernel_rfl) (by kernel_rfl) (by kernel_rfl) (by kernel_rfl)) ?_
  intro W base args ds gs before hval0 hW _ _
  have hval : ∀ (j : Nat) t v, Try.f6.params[j]? = some t → args[j]? = some v → Value.okWide Try.prog W .any base t v := hval0
  have hW' := hW
  obtain ⟨p, q, hA0, hV, rfl, _, _⟩ := hW
  have hA : DataW.TrodAll enc Try.prog W 0 (fun _ => true) true Try.f6.params.toList args.toList ds p := hA0
  rw [Try.params6] at hA hval
  obtain ⟨v0, d0, rfl, rfl, h0⟩ := trodAll_one hA
  obtain ⟨rfl, rfl⟩ := trodVars_none hV
  clear hA0 hval0
  simp only [List.append_nil, List.append_assoc] at hW'
  have hlt : ∀ x ∈ p, x.block < W.heap.size := fun x hx => by simpa using hW'.lt x hx
  have k0 : ∀ W', Below W.heap.size W W' → DataW.Trod enc Try.prog W' 0 (fun b => decide (b < W.heap.size)) true _ v0 d0 p := fun W' hb => Below.trod laidOut0 (by kernel_rfl) (of_decide_eq_true (by kernel_rfl)) h0 hb (fun x hx => hlt x (by simp [hx]))
  obtain ⟨cs0, rfl, hn0⟩ := okWide_array Try.underlying72 (hval 0 _ v0 rfl rfl)
  rw [Try.cellsTwo13] at hn0
  obtain ⟨xa, xc, X, ya, yc, Y, rfl, hx, hy⟩ := rd_two13 hn0 (by simpa [Value.cells] using Rd.of_trod h0)
  refine (modelEven_any X Y xa ya xc yc W hx hy).mono fun e W' ⟨he, hb⟩ => ?_
  subst he
  exact ⟨_, rfl, _, _, _, [], p, [], hW', trodAll_mk1 (shut_bool Try.underlying4 _), trodAll_mk1 (k0 _ hb), rfl, hb.frame _, fun h => by cases h⟩

theorem modelEven_holds : Rows.ModelEvenSaid :=
  OpenClaim.holds_of_wide 6 Try.f6 rfl rfl rfl rfl rfl rfl rfl ⟨rfl, rfl, rfl, rfl, rfl⟩ rfl rfl rfl rfl rfl (by kernel_rfl) Try.func6 (by kernel_rfl)
    (of_decide_eq_true (by kernel_rfl)) (by unfold Func.isWrapper; rw [if_neg (of_decide_eq_false (by kernel_rfl))]; exact ⟨rfl, rfl⟩)
    (fun os started H enc _ => modelEven_lifted os started H enc)
#print axioms modelEven_holds
end Go.Proofs.Ytjkbcjliaacebaa
