/- The document's unit, as a plain machine: lists that rise. No program. -/
import Derived.Test.YtjkbcjliaacebaaUnitM
namespace Go.Proofs.Ytjkbcjliaacebaa
set_option linter.unusedSimpArgs false
set_option linter.unusedVariables false

def insC : List (Int × C) → Int → C → List (Int × C)
  | [], a, c => [(a, c)]
  | p :: L, a, c => if a < p.1 then (a, c) :: p :: L else p :: insC L a c
theorem insC_all {L : List (Int × C)} {a : Int} {c : C} (h : ∀ p ∈ L, p.1 ≤ a) : insC L a c = L ++ [(a, c)] := by
  induction L with
  | nil => rfl
  | cons p L ih =>
    have := h p List.mem_cons_self
    simp only [insC, if_neg (show ¬ a < p.1 by omega), ih fun q hq => h q (List.mem_cons_of_mem _ hq)]; rfl
theorem insC_here {L : List (Int × C)} {a : Int} {c : C} {x : Int × C} (h : ∀ p ∈ L, p.1 ≤ a) (hx : a < x.1) : insC (L ++ [x]) a c = L ++ [(a, c), x] := by
  induction L with
  | nil => simp [insC, hx]
  | cons p L ih =>
    have := h p List.mem_cons_self
    simp only [List.cons_append, insC, if_neg (show ¬ a < p.1 by omega), ih fun q hq => h q (List.mem_cons_of_mem _ hq)]
theorem insC_past {L : List (Int × C)} {a : Int} {c : C} {x : Int × C} (h : ∃ p ∈ L, a < p.1) : insC (L ++ [x]) a c = insC L a c ++ [x] := by
  induction L with
  | nil => obtain ⟨p, hp, _⟩ := h; cases hp
  | cons p L ih =>
    simp only [List.cons_append, insC]
    split
    · rfl
    · rename_i hn
      obtain ⟨q, hq, hqa⟩ := h
      rcases List.mem_cons.1 hq with rfl | hq
      · exact absurd hqa hn
      · rw [ih ⟨q, hq, hqa⟩]; rfl

def U.rTail (u : U) : Int := match u.cells.getLast? with | none => u.l | some p => p.1 + 1
def U.rSeal (u : U) (e : Int) : Int × U × Nat := if e < 0 ∨ 1099511627776 < e then (0, u, 1) else if e ≤ u.e then (0, u, 6) else ({ u with e := e : U }.rTail, { u with e := e }, 0)
def U.rWrite (u : U) (e a : Int) (d : List UInt8) : U × Nat :=
  if a < 0 ∨ 1048575 < a then (u, 1) else if 64 < d.length then (u, 3) else if u.cur e ≠ 0 then (u, u.cur e) else
    if (u.at a).k = 3 then (u, 9) else if (u.at a).k = 0 then ({ u with cells := insC u.cells a ⟨1, d⟩ }, 0) else (u, 8)
def U.rFill (u : U) (e a : Int) : U × Nat :=
  if a < 0 ∨ 1048575 < a then (u, 1) else if u.cur e ≠ 0 then (u, u.cur e) else
    if (u.at a).k = 3 then (u, 9) else if (u.at a).k = 1 then (u, 8) else if (u.at a).k = 0 then ({ u with cells := insC u.cells a ⟨2, []⟩ }, 0) else (u, 0)
def U.rRead (u : U) (e a : Int) : C × Nat := if a < 0 ∨ 1048575 < a then (⟨0, []⟩, 1) else if u.cur e ≠ 0 then (⟨0, []⟩, u.cur e) else (u.at a, 0)
def U.rTrim (u : U) (e b : Int) : U × Nat :=
  if b < 0 ∨ 1048576 < b then (u, 1) else if u.cur e ≠ 0 then (u, u.cur e) else ({ u with l := max u.l b, cells := u.cells.filter (fun p => decide (max u.l b ≤ p.1)) }, 0)
def U.rCut (u : U) (e f : Int) : Int × U × Nat :=
  if f < 0 ∨ 1048576 < f then (0, u, 1) else if u.cur e ≠ 0 then (0, u, u.cur e) else if f < u.l then (0, u, 9) else
    ((u.cells.length : Int) - (u.cells.filter (fun p => decide (p.1 < f))).length, { u with cells := u.cells.filter (fun p => decide (p.1 < f)) }, 0)
def U.rSame (a b : U) : Bool := decide (a.e = b.e ∧ a.l = b.l ∧ a.cells = b.cells)

end Go.Proofs.Ytjkbcjliaacebaa
