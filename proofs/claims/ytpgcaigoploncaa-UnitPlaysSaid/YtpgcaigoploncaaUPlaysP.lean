/- Proved here: the statement UnitPlays: for every input the Go function holdfastlaw08.UnitPlays returns true, and its argument reads as it did. No condition. -/
import Derived.Test.YtpgcaigoploncaaRows
import Derived.Test.YtpgcaigoploncaaUPlays
import Derived.ProofKit
namespace Go.Proofs.Ytpgcaigoploncaa
open Go.ChangeShapes Go.WideShapes Go.ChangeAt Go.RowKit

theorem Try.cellsInt : Try.prog.cellsOf 3 = 1 := by kernel_rfl
theorem Try.cellsU8 : Try.prog.cellsOf 5 = 1 := by kernel_rfl
theorem Try.cellsBytes : Try.prog.cellsOf 22 = 1 := by kernel_rfl
theorem Try.cellsAct : Try.prog.cellsOf 47 = 4 := by kernel_rfl
theorem own0 : ownKnob Try.prog.godebug = none := by kernel_rfl
theorem laidOut0 : laidOutB Try.prog = true := by kernel_rfl

theorem rd_act {H : Type} {enc : TypeId × Value → H} {w : World} {r : List Value} (hl : r.length = 4) (h : Rd enc Try.prog w 47 r) : ∃ x : ActX, r = actV x ∧ Bytes w (.slice x.da x.d.length x.dc) x.d := by
  obtain ⟨c0, c1, c2, c3, rfl⟩ : ∃ c0 c1 c2 c3, r = [c0, c1, c2, c3] := by
    match r, hl with
    | [c0, c1, c2, c3], _ => exact ⟨_, _, _, _, rfl⟩
  obtain ⟨_, hf⟩ := Rd.struct Try.underlying47 h
  obtain ⟨k, e0, _⟩ := Rd.int (k := .i64) Try.underlying3 (by simpa [Try.cellsInt] using hf 0 _ rfl)
  obtain ⟨e, e1, _⟩ := Rd.int (k := .i64) Try.underlying3 (by simpa [Try.cellsInt] using hf 1 _ rfl)
  obtain ⟨a, e2, _⟩ := Rd.int (k := .i64) Try.underlying3 (by simpa [Try.cellsInt] using hf 2 _ rfl)
  obtain ⟨da, dc, d, e3, hb⟩ := Rd.bytes Try.underlying22 Try.underlying5 Try.cellsU8 (by simpa [Try.cellsBytes] using hf 3 _ rfl)
  simp only [List.cons.injEq, and_true] at e0 e1 e2 e3
  subst e0 e1 e2 e3
  exact ⟨⟨k, e, a, d, da, dc⟩, rfl, hb⟩
theorem rd_script {H : Type} {enc : TypeId × Value → H} {w : World} {a : Option Addr} {n c : Nat} (h : Rd enc Try.prog w 41 [.slice a n c]) : ∃ X : List ActX, n = X.length ∧ ScriptAt w (.slice a X.length c) X := by
  obtain ⟨a', c', X, e, hs, hp⟩ := Rd.rows (f := actV) (p := fun x => Bytes w (.slice x.da x.d.length x.dc) x.d) Try.underlying41 (by rw [Try.cellsAct]; decide) h (fun r hl hr => rd_act (by rw [hl]; exact Try.cellsAct) hr)
  simp only [List.cons.injEq, and_true, Value.slice.injEq] at e
  obtain ⟨rfl, rfl, rfl⟩ := e
  exact ⟨X, rfl, hs, hp⟩

set_option maxRecDepth 100000 in
theorem unitPlays_lifted (os : Os) (started : os.Started) (H : Type) (enc : TypeId × Value → H) :
    ReturnsInHanded {} Try.checked os 4 .any (Rows.unitPlaysSpec.pre6 enc Try.prog Try.f4 Rows.unitPlaysRow.domain false) (Rows.unitPlaysSpec.post enc Try.prog Try.f4 false true false false) := by
  refine returnsInHanded_of_change (C := Try.checked) (s := Rows.unitPlaysSpec) own0 started (by kernel_rfl) Try.func4
    (ChangeSpec.witness6 (enc := enc) (C := Try.checked) false ⟨#[], #[.slice none 0 0], []⟩ 8 (by kernel_rfl) (by kernel_rfl) (by kernel_rfl) (by kernel_rfl)) ?_
  intro W base args ds gs before hval0 hW _ _
  have hval : ∀ (j : Nat) t v, Try.f4.params[j]? = some t → args[j]? = some v → Value.okWide Try.prog W .any base t v := hval0
  have hW' := hW
  obtain ⟨p, q, hA0, hV, rfl, _, _⟩ := hW
  have hA : DataW.TrodAll enc Try.prog W 0 (fun _ => true) true Try.f4.params.toList args.toList ds p := hA0
  rw [Try.params4] at hA hval
  obtain ⟨v0, d0, rfl, rfl, h0⟩ := trodAll_one hA
  obtain ⟨rfl, rfl⟩ := trodVars_none hV
  clear hA0 hval0
  simp only [List.append_nil] at hW'
  have hlt : ∀ x ∈ p, x.block < W.heap.size := fun x hx => by simpa using hW'.lt x hx
  obtain ⟨a0, len, cap, rfl⟩ := okWide_slice Try.underlying41 (hval 0 _ v0 rfl rfl)
  obtain ⟨X, rfl, hs⟩ := rd_script (a := a0) (n := len) (c := cap) (by simpa [Value.cells] using Rd.of_trod h0)
  refine (unitPlays_any X a0 cap W hs).mono fun e W' ⟨he, hb⟩ => ?_
  subst he
  exact ⟨_, rfl, _, _, _, [], p, [], hW', trodAll_mk1 (shut_bool Try.underlying4 _), trodAll_mk1 (Below.trod laidOut0 (by kernel_rfl) (of_decide_eq_true (by kernel_rfl)) h0 hb hlt), rfl, hb.frame _, fun h => by cases h⟩

theorem unitPlays_holds : Rows.UnitPlaysSaid :=
  OpenClaim.holds_of_wide 4 Try.f4 rfl rfl rfl rfl rfl rfl rfl ⟨rfl, rfl, rfl, rfl, rfl⟩ rfl rfl rfl rfl rfl (by kernel_rfl) Try.func4 (by kernel_rfl)
    (of_decide_eq_true (by kernel_rfl)) (by unfold Func.isWrapper; rw [if_neg (of_decide_eq_false (by kernel_rfl))]; exact ⟨rfl, rfl⟩)
    (fun os started H enc _ => unitPlays_lifted os started H enc)
#print axioms unitPlays_holds
end Go.Proofs.Ytpgcaigoploncaa
