/- Layer 33 (model): where two models differ, as a plain law: the same place whichever is named first. Plain. -/
import Derived.Test.YtjkbcjliaacebaaMdlM
namespace Go.Proofs.Ytjkbcjliaacebaa
set_option linter.unusedSimpArgs false
set_option linter.unusedVariables false

def sortZ (l : List Int) : List Int := l.mergeSort (fun x y => decide (x ≤ y))
theorem sortZ_perm (l : List Int) : (sortZ l).Perm l := List.mergeSort_perm l _
theorem sortZ_sorted (l : List Int) : (sortZ l).Pairwise (· ≤ ·) := by
  have := List.pairwise_mergeSort (le := fun x y : Int => decide (x ≤ y)) (fun a b c h1 h2 => by simp at *; omega) (fun a b => by simp; omega) l
  exact this.imp (fun h => by simpa using h)
theorem sortZ_eq {l m : List Int} (h : l.Perm m) : sortZ l = sortZ m :=
  List.Perm.eq_of_pairwise (le := fun x y : Int => x ≤ y) (fun a b _ _ h1 h2 => by omega) (sortZ_sorted l) (sortZ_sorted m) (((sortZ_perm l).trans h).trans (sortZ_perm m).symm)

def M.diffAt (a b : M) (p : Int) : Bool := (a.t != b.t && p == min a.t b.t) || !(decide (a.u.at p = b.u.at p))
def M.places (a b : M) : List Int := a.u.cells.map (·.1) ++ b.u.cells.map (·.1) ++ [min a.u.l b.u.l] ++ (if a.t ≠ b.t then [min a.t b.t] else [])
def findP (f : Int → Bool) (l : List Int) : Int × Bool := match l.find? f with | some p => (p, true) | none => (0, false)
def M.differ (a b : M) : Int × Bool := findP (M.diffAt a b) (sortZ (M.places a b))

theorem diffAt_symm (a b : M) : M.diffAt a b = M.diffAt b a := by
  funext p
  unfold M.diffAt
  rw [show (a.t != b.t) = (b.t != a.t) from by rw [Bool.eq_iff_iff]; simp only [bne_iff_ne]; exact ne_comm, Int.min_comm]
  rw [show decide (a.u.at p = b.u.at p) = decide (b.u.at p = a.u.at p) from by rw [Bool.eq_iff_iff]; simp only [decide_eq_true_eq]; exact eq_comm]
theorem places_symm (a b : M) : (M.places a b).Perm (M.places b a) := by
  unfold M.places
  rw [show min a.u.l b.u.l = min b.u.l a.u.l from Int.min_comm _ _, show min a.t b.t = min b.t a.t from Int.min_comm _ _]
  have h1 : (if a.t ≠ b.t then [min b.t a.t] else []) = (if b.t ≠ a.t then [min b.t a.t] else []) := by
    by_cases h : a.t = b.t
    · rw [if_neg (by simpa using h), if_neg (by simpa using h.symm)]
    · rw [if_pos h, if_pos (fun h' => h h'.symm)]
  rw [h1]
  exact ((List.perm_append_comm).append_right _).append_right _
theorem differ_symm (a b : M) : M.differ a b = M.differ b a := by
  unfold M.differ
  rw [diffAt_symm, sortZ_eq (places_symm a b)]
theorem differ_self (a : M) : (M.differ a a).2 = false := by
  unfold M.differ findP
  have : (sortZ (M.places a a)).find? (M.diffAt a a) = none := by
    rw [List.find?_eq_none]; intro x _; simp [M.diffAt]
  rw [this]
theorem mem_places {a b : M} (ha : a.ok) (hb : b.ok) {p : Int} (h : p ∈ M.places a b) (hne : a.u.at p ≠ b.u.at p) (ht : ¬ (a.t ≠ b.t ∧ p = min a.t b.t)) : inR p 1048575 = true := by
  have a0 := ha.u.l0; have a1 := ha.u.l1; have b0 := hb.u.l0; have b1 := hb.u.l1
  have hk : ∀ {m : M}, m.ok → p ∈ m.u.cells.map (·.1) → inR p 1048575 = true := by
    intro m hm hp
    obtain ⟨q, hq, rfl⟩ := List.mem_map.1 hp
    have h1 := hm.u.addr q hq
    have h2 := hm.u.l0
    simp [inR]; omega
  unfold M.places at h
  simp only [List.mem_append, List.mem_singleton] at h
  rcases h with ((h | h) | h) | h
  · exact hk ha h
  · exact hk hb h
  · by_cases hp : p = 1048576
    · exfalso; apply hne
      have e : ∀ {m : M}, m.ok → ¬ p < m.u.l → m.u.at p = ⟨0, []⟩ := by
        intro m hm hl
        have hn : m.u.cells.any (·.1 == p) = false := by
          rw [List.any_eq_false]; intro q hq; have := hm.u.addr q hq; simp; omega
        simp only [U.at, if_neg hl, lookC_none hn]
      rw [e ha (by omega), e hb (by omega)]
    · simp [inR]; omega
  · exfalso
    by_cases hq : a.t ≠ b.t
    · rw [if_pos hq] at h; exact ht ⟨hq, by simpa using h⟩
    · rw [if_neg hq] at h; cases h
/-- where they differ, one of both ends, or both read another cell; else they end at one place -/
theorem differ_law {a b : M} (ha : a.ok) (hb : b.ok) :
    ((M.differ a b).2 = false → a.t = b.t) ∧
    ((M.differ a b).2 = true → ((a.t == (M.differ a b).1) != (b.t == (M.differ a b).1)) = true ∨ (inR (M.differ a b).1 1048575 = true ∧ a.u.at (M.differ a b).1 ≠ b.u.at (M.differ a b).1)) := by
  unfold M.differ findP
  cases hf : (sortZ (M.places a b)).find? (M.diffAt a b) with
  | none =>
    refine ⟨fun _ => ?_, by simp⟩
    by_cases h : a.t = b.t
    · exact h
    · rw [List.find?_eq_none] at hf
      have := hf (min a.t b.t) ((sortZ_perm _).mem_iff.2 (by simp [M.places, h]))
      simp [M.diffAt, h] at this
  | some p =>
    refine ⟨by simp, fun _ => ?_⟩
    have h1 := List.find?_some hf
    have h2 := (sortZ_perm _).mem_iff.1 (List.mem_of_find?_eq_some hf)
    show ((a.t == p) != (b.t == p)) = true ∨ _
    by_cases ht : a.t ≠ b.t ∧ p = min a.t b.t
    · left
      obtain ⟨h3, h4⟩ := ht
      by_cases hle : a.t ≤ b.t
      · have e1 : (a.t == p) = true := by rw [beq_iff_eq]; omega
        have e2 : (b.t == p) = false := by rw [beq_eq_false_iff_ne]; omega
        rw [e1, e2]; rfl
      · have e1 : (a.t == p) = false := by rw [beq_eq_false_iff_ne]; omega
        have e2 : (b.t == p) = true := by rw [beq_iff_eq]; omega
        rw [e1, e2]; rfl
    · right
      have hne : a.u.at p ≠ b.u.at p := by
        intro he
        simp only [M.diffAt, he, decide_true, Bool.not_true, Bool.or_false, Bool.and_eq_true, bne_iff_ne, beq_iff_eq] at h1
        exact ht h1
      exact ⟨mem_places ha hb h2 hne ht, hne⟩
end Go.Proofs.Ytjkbcjliaacebaa
