/- The first place of a list at which something is true. -/
import Derived.Test.YtinbcehlpfnlaaaGreatDoorBase
namespace Go.Proofs.YtinbcehlpfnlaaaGreatDoor
open Go.RowKit
set_option linter.unusedSimpArgs false
set_option linter.unusedVariables false
set_option maxRecDepth 20000

def idxB {α : Type} (f : α → Bool) (l : List α) : Int := match l.findIdx? f with | some i => (i : Int) | none => -1
theorem idxB_hit {α : Type} {f : α → Bool} {l : List α} {k : Nat} (hk : k < l.length) (h1 : ∀ y ∈ l.take k, f y = false) (h2 : f l[k] = true) : idxB f l = k := by
  have : l.findIdx? f = some k := by
    rw [List.findIdx?_eq_some_iff_getElem]
    refine ⟨hk, h2, fun j hj => ?_⟩
    have := h1 l[j] (by rw [List.mem_take_iff_getElem]; exact ⟨j, by omega, rfl⟩)
    simp [this]
  unfold idxB; rw [this]
theorem idxB_none {α : Type} {f : α → Bool} {l : List α} (h1 : ∀ y ∈ l, f y = false) : idxB f l = -1 := by
  have : l.findIdx? f = none := by rw [List.findIdx?_eq_none_iff]; exact h1
  unfold idxB; rw [this]
theorem idxB_any {α : Type} (f : α → Bool) (l : List α) : decide (0 ≤ idxB f l) = l.any f := by
  unfold idxB
  cases h : l.findIdx? f with
  | none =>
    rw [List.findIdx?_eq_none_iff] at h
    have : l.any f = false := by rw [List.any_eq_false]; intro x hx; rw [h x hx]; decide
    rw [this]; rfl
  | some i =>
    rw [List.findIdx?_eq_some_iff_getElem] at h
    obtain ⟨h1, h2, _⟩ := h
    have : l.any f = true := List.any_eq_true.2 ⟨_, List.getElem_mem h1, h2⟩
    rw [this]; simp
theorem idxB_ge {α : Type} (f : α → Bool) (l : List α) : -1 ≤ idxB f l ∧ idxB f l ≤ l.length := by
  unfold idxB
  cases h : l.findIdx? f with
  | none => simp
  | some i => rw [List.findIdx?_eq_some_iff_getElem] at h; obtain ⟨h1, _⟩ := h; simp; omega
theorem take_no {α : Type} {f : α → Bool} {l : List α} {k : Nat} (hk : k < l.length) (h1 : ∀ y ∈ l.take k, f y = false) (h2 : f l[k] = false) : ∀ y ∈ l.take (k + 1), f y = false := by
  intro y hy
  rw [List.take_succ_eq_append_getElem hk] at hy
  rcases List.mem_append.1 hy with hy | hy
  · exact h1 y hy
  · simp at hy; subst hy; exact h2

/-- the first hit -/
theorem first_hit {α : Type} {f : α → Bool} : ∀ {l : List α}, (∃ y ∈ l, f y = true) → ∃ k, ∃ h : k < l.length, f l[k] = true ∧ ∀ y ∈ l.take k, f y = false
  | [], h => by obtain ⟨y, hy, _⟩ := h; cases hy
  | x :: l, h => by
    cases hx : f x with
    | true => exact ⟨0, by simp, hx, by simp⟩
    | false =>
      obtain ⟨k, hk, h1, h2⟩ := first_hit (f := f) (l := l) (by
        obtain ⟨y, hy, h3⟩ := h
        rcases List.mem_cons.1 hy with rfl | hy
        · rw [hx] at h3; cases h3
        · exact ⟨y, hy, h3⟩)
      refine ⟨k + 1, by simpa using hk, h1, fun y hy => ?_⟩
      rw [List.take_succ_cons] at hy
      rcases List.mem_cons.1 hy with rfl | hy
      · exact hx
      · exact h2 y hy
theorem find_hit {α : Type} {f : α → Bool} {l : List α} {k : Nat} (hk : k < l.length) (h1 : ∀ y ∈ l.take k, f y = false) (h2 : f l[k] = true) : l.find? f = some l[k] := by
  have e : l = l.take k ++ l[k] :: l.drop (k + 1) := by rw [← List.drop_eq_getElem_cons hk, List.take_append_drop]
  rw [List.find?_eq_some_iff_append]
  exact ⟨h2, l.take k, l.drop (k + 1), e, fun y hy => by rw [h1 y hy]; rfl⟩
end Go.Proofs.YtinbcehlpfnlaaaGreatDoor
