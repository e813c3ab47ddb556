/- Two lists side by side. Plain. -/
import Derived.KernelRfl
namespace Go.Proofs.YtkljeefncopodaaGreat
set_option linter.unusedSimpArgs false
set_option linter.unusedVariables false

inductive F2 {α β : Type} (R : α → β → Prop) : List α → List β → Prop
  | nil : F2 R [] []
  | cons {a : α} {b : β} {l : List α} {m : List β} (h : R a b) (t : F2 R l m) : F2 R (a :: l) (b :: m)

namespace F2
variable {α β : Type} {R S : α → β → Prop}
theorem length {l : List α} {m : List β} (h : F2 R l m) : l.length = m.length := by
  induction h with
  | nil => rfl
  | cons _ _ ih => simp [ih]
theorem mono {l : List α} {m : List β} (h : F2 R l m) (hRS : ∀ a b, a ∈ l → b ∈ m → R a b → S a b) : F2 S l m := by
  induction h with
  | nil => exact .nil
  | cons h t ih => exact .cons (hRS _ _ List.mem_cons_self List.mem_cons_self h) (ih fun a b ha hb => hRS a b (List.mem_cons_of_mem _ ha) (List.mem_cons_of_mem _ hb))
theorem append {l l' : List α} {m m' : List β} (h : F2 R l m) (h' : F2 R l' m') : F2 R (l ++ l') (m ++ m') := by
  induction h with
  | nil => exact h'
  | cons h t ih => exact .cons h ih
theorem one {a : α} {b : β} (h : R a b) : F2 R [a] [b] := .cons h .nil
theorem filter {l : List α} {m : List β} (h : F2 R l m) {f : α → Bool} {g : β → Bool} (hfg : ∀ a b, R a b → f a = g b) : F2 R (l.filter f) (m.filter g) := by
  induction h with
  | nil => exact .nil
  | cons h t ih =>
    simp only [List.filter_cons, hfg _ _ h]
    split
    · exact .cons h ih
    · exact ih
theorem map {γ δ : Type} {T : γ → δ → Prop} {l : List α} {m : List β} (h : F2 R l m) {f : α → γ} {g : β → δ} (hfg : ∀ a b, R a b → T (f a) (g b)) : F2 T (l.map f) (m.map g) := by
  induction h with
  | nil => exact .nil
  | cons h t ih => exact .cons (hfg _ _ h) ih
theorem map_eq {γ : Type} {l : List α} {m : List β} (h : F2 R l m) {f : α → γ} {g : β → γ} (hfg : ∀ a b, R a b → f a = g b) : l.map f = m.map g := by
  induction h with
  | nil => rfl
  | cons h t ih => simp [hfg _ _ h, ih]
theorem any {l : List α} {m : List β} (h : F2 R l m) {f : α → Bool} {g : β → Bool} (hfg : ∀ a b, R a b → f a = g b) : l.any f = m.any g := by
  induction h with
  | nil => rfl
  | cons h t ih => simp [hfg _ _ h, ih]
theorem find {l : List α} {m : List β} (h : F2 R l m) {f : α → Bool} {g : β → Bool} (hfg : ∀ a b, R a b → f a = g b) : (l.find? f = none ∧ m.find? g = none) ∨ ∃ a b, l.find? f = some a ∧ m.find? g = some b ∧ R a b := by
  induction h with
  | nil => exact .inl ⟨rfl, rfl⟩
  | @cons a b l m h t ih =>
    simp only [List.find?_cons, hfg _ _ h]
    cases g b with
    | true => exact .inr ⟨a, b, rfl, rfl, h⟩
    | false => exact ih
theorem get {l : List α} {m : List β} (h : F2 R l m) {i : Nat} {b : β} (hb : m[i]? = some b) : ∃ a, l[i]? = some a ∧ R a b := by
  induction h generalizing i with
  | nil => simp at hb
  | cons h t ih => cases i with
    | zero => simp at hb; subst hb; exact ⟨_, rfl, h⟩
    | succ i => simpa using ih (by simpa using hb)
theorem get_left {l : List α} {m : List β} (h : F2 R l m) {i : Nat} {a : α} (ha : l[i]? = some a) : ∃ b, m[i]? = some b ∧ R a b := by
  induction h generalizing i with
  | nil => simp at ha
  | cons h t ih => cases i with
    | zero => simp at ha; subst ha; exact ⟨_, rfl, h⟩
    | succ i => simpa using ih (by simpa using ha)
theorem mem_left {l : List α} {m : List β} (h : F2 R l m) {a : α} (ha : a ∈ l) : ∃ b, b ∈ m ∧ R a b := by
  obtain ⟨i, hi⟩ := List.getElem?_of_mem ha
  obtain ⟨b, hb, hr⟩ := h.get_left hi
  exact ⟨b, List.mem_of_getElem? hb, hr⟩
end F2

end Go.Proofs.YtkljeefncopodaaGreat
