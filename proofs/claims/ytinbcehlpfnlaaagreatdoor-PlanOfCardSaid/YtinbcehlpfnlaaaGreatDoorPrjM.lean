/- Projections as plain data: which are right, where addresses are at home, what follows. Plain. -/
import Derived.KernelRfl
namespace Go.Proofs.YtinbcehlpfnlaaaGreatDoor
set_option linter.unusedSimpArgs false
set_option linter.unusedVariables false

def sortI (l : List Int) : List Int := l.mergeSort (fun x y => decide (x ≤ y))
theorem sortI_perm (l : List Int) : (sortI l).Perm l := List.mergeSort_perm l _
theorem sortI_sorted (l : List Int) : (sortI l).Pairwise (· ≤ ·) := by
  have := List.pairwise_mergeSort (le := fun x y : Int => decide (x ≤ y)) (fun a b c h1 h2 => by simp at *; omega) (fun a b => by simp; omega) l
  exact this.imp (fun h => by simpa using h)
/-- each once, of what is in order -/
def dedS : List Int → List Int
  | [] => []
  | [x] => [x]
  | x :: y :: l => if x = y then dedS (y :: l) else x :: dedS (y :: l)
theorem dedS_mem (x : Int) : ∀ l : List Int, x ∈ dedS l ↔ x ∈ l
  | [] => Iff.rfl
  | [y] => Iff.rfl
  | y :: z :: l => by
    have ih := dedS_mem x (z :: l)
    unfold dedS
    split
    · rename_i h; rw [ih]; subst h; simp
    · rw [List.mem_cons, ih, List.mem_cons (a := x) (b := y)]
theorem dedS_len : ∀ l : List Int, (dedS l).length ≤ l.length
  | [] => Nat.le_refl _
  | [y] => Nat.le_refl _
  | y :: z :: l => by
    have ih := dedS_len (z :: l)
    unfold dedS
    split
    · simp only [List.length_cons] at *; omega
    · simp only [List.length_cons] at *; omega
theorem dedS_nodup : ∀ l : List Int, l.Pairwise (· ≤ ·) → ((dedS l).length = l.length ↔ l.Nodup)
  | [], _ => by simp [dedS]
  | [y], _ => by simp [dedS]
  | y :: z :: l, h => by
    have h2 := (List.pairwise_cons.1 h).2
    have ih := dedS_nodup (z :: l) h2
    have hl := dedS_len (z :: l)
    unfold dedS
    split
    · rename_i he
      constructor
      · intro h3; simp only [List.length_cons] at *; omega
      · intro h3; subst he; simp at h3
    · rename_i he
      rw [List.nodup_cons, ← ih]
      simp only [List.length_cons]
      constructor
      · intro h3
        refine ⟨fun hm => ?_, by omega⟩
        have h4 := (List.pairwise_cons.1 h).1
        have h5 := h4 z List.mem_cons_self
        rcases List.mem_cons.1 hm with hm | hm
        · exact he hm
        · have h6 := (List.pairwise_cons.1 h2).1 y hm
          omega
      · intro h3; omega
theorem dedS_rise : ∀ l : List Int, l.Pairwise (· ≤ ·) → (dedS l).Pairwise (· < ·)
  | [], _ => by simp [dedS]
  | [y], _ => by simp [dedS]
  | y :: z :: l, h => by
    have h2 := (List.pairwise_cons.1 h).2
    have ih := dedS_rise (z :: l) h2
    unfold dedS
    split
    · exact ih
    · rename_i he
      refine List.pairwise_cons.2 ⟨fun x hx => ?_, ih⟩
      rw [dedS_mem] at hx
      have h4 := (List.pairwise_cons.1 h).1
      have h5 := h4 z List.mem_cons_self
      rcases List.mem_cons.1 hx with rfl | hx
      · omega
      · have h6 := (List.pairwise_cons.1 h2).1 x hx
        omega
theorem rise_ext' {l m : List Int} (hl : l.Pairwise (· < ·)) (hm : m.Pairwise (· < ·)) (h : ∀ x, x ∈ l ↔ x ∈ m) : l = m := by
  have n1 : l.Nodup := hl.imp (fun h => by omega)
  have n2 : m.Nodup := hm.imp (fun h => by omega)
  have hp : l.Perm m := (List.perm_ext_iff_of_nodup n1 n2).2 h
  exact List.Perm.eq_of_pairwise (le := fun x y : Int => x < y) (fun a b _ _ h1 h2 => by omega) hl hm hp

structure Pj where
  e : Int
  cs : List (List Int)
def Pj.zero : Pj := ⟨0, []⟩
def Pj.all (p : Pj) : List Int := p.cs.flatten
def oddU (u : Int) : Bool := !(decide (0 ≤ u) && decide (u < 8))
def wrongC (c : List Int) : Bool := decide (c.length < 1) || decide (4 < c.length)
def unitsOf (l : List Int) : List Int := dedS (sortI l)
theorem unitsOf_len (l : List Int) : (unitsOf l).length ≤ l.length := by
  have := dedS_len (sortI l)
  rw [(sortI_perm l).length_eq] at this
  exact this
theorem unitsOf_mem (x : Int) (l : List Int) : x ∈ unitsOf l ↔ x ∈ l := by rw [unitsOf, dedS_mem, (sortI_perm l).mem_iff]
theorem unitsOf_nodup (l : List Int) : (unitsOf l).length < l.length ↔ ¬ l.Nodup := by
  have h1 := dedS_nodup (sortI l) (sortI_sorted l)
  have h2 := unitsOf_len l
  rw [(sortI_perm l).length_eq, (sortI_perm l).nodup_iff] at h1
  unfold unitsOf at *
  rw [← h1]; omega
def Pj.check (p : Pj) : Nat :=
  if p.e < 0 ∨ 1099511627776 < p.e then 1
  else if p.cs.length < 1 ∨ 4 < p.cs.length ∨ p.cs.any wrongC = true then 2
  else if p.all.any oddU = true then 1
  else if (unitsOf p.all).length < p.all.length then 2 else 0
def Pj.home (p : Pj) (a : Int) : Int × Nat := if p.check ≠ 0 then (0, p.check) else if a < 0 ∨ 1048576 ≤ a then (0, 1) else (a.tmod p.cs.length, 0)

/-- what follows: dead ones gone -/
def liveC (dead : List Int) (c : List Int) : List Int := c.filter (fun u => !dead.contains u)
/-- a spare is taken, or not -/
def spareStep (dead : List Int) (i : Nat) (most : Nat) (cs : List (List Int)) (u : Int) : List (List Int) :=
  if (cs.getD i []).length < most ∧ dead.contains u = false ∧ u ∉ cs.flatten then cs.set i (cs.getD i [] ++ [u]) else cs
def fillC (dead spares : List Int) : List (List Int) → Nat → List (List Int) → List (List Int)
  | [], _, cs => cs
  | c :: l, i, cs => fillC dead spares l (i + 1) (spares.foldl (spareStep dead i c.length) cs)
def Pj.next (p : Pj) (dead spares : List Int) : Nat × Pj :=
  if p.check ≠ 0 then (p.check, Pj.zero)
  else if dead.any oddU = true ∨ spares.any oddU = true then (1, Pj.zero)
  else if p.e = 1099511627776 then (5, Pj.zero)
  else if (p.cs.map (liveC dead)).any (·.isEmpty) = true then (13, Pj.zero)
  else (0, ⟨p.e + 1, fillC dead spares p.cs 0 (p.cs.map (liveC dead))⟩)
theorem spareStep_len (dead : List Int) (i most : Nat) (cs : List (List Int)) (u : Int) : (spareStep dead i most cs u).length = cs.length := by
  unfold spareStep; split <;> simp
theorem spares_len (dead : List Int) (i most : Nat) (S : List Int) (cs : List (List Int)) : (S.foldl (spareStep dead i most) cs).length = cs.length := by
  induction S generalizing cs with
  | nil => rfl
  | cons u S ih => rw [List.foldl_cons, ih, spareStep_len]
theorem fillC_len (dead spares : List Int) (l : List (List Int)) (i : Nat) (cs : List (List Int)) : (fillC dead spares l i cs).length = cs.length := by
  induction l generalizing i cs with
  | nil => rfl
  | cons c l ih => rw [fillC, ih, spares_len]

/- the document's -/
def Pj.rCheck (p : Pj) : Nat :=
  if p.e < 0 ∨ 1099511627776 < p.e then 1
  else if p.cs.length = 0 ∨ 4 < p.cs.length then 2
  else if p.cs.any wrongC = true then 2
  else if p.all.any oddU = true then 1
  else if p.all.any (fun u => decide (1 < p.all.count u)) = true then 2 else 0
theorem twice_nodup (l : List Int) : l.any (fun u => decide (1 < l.count u)) = true ↔ ¬ l.Nodup := by
  rw [List.nodup_iff_count, List.any_eq_true]
  constructor
  · rintro ⟨x, hx, h⟩ h2
    have := h2 x
    simp at h; omega
  · intro h
    apply Decidable.byContradiction
    intro h2
    apply h
    intro a
    by_cases ha : a ∈ l
    · apply Nat.le_of_not_lt
      intro h3
      exact h2 ⟨a, ha, by simpa using h3⟩
    · rw [List.count_eq_zero_of_not_mem ha]; omega
theorem Pj.check_ref (p : Pj) : p.rCheck = p.check := by
  unfold Pj.rCheck Pj.check
  split
  · rfl
  · by_cases h1 : p.cs.length = 0 ∨ 4 < p.cs.length
    · rw [if_pos h1, if_pos (by omega)]
    · rw [if_neg h1]
      by_cases h2 : p.cs.any wrongC = true
      · rw [if_pos h2, if_pos (.inr (.inr h2))]
      · have h4 : ¬ (p.cs.length < 1 ∨ 4 < p.cs.length ∨ p.cs.any wrongC = true) := by
          rintro (h | h | h)
          · omega
          · omega
          · exact h2 h
        rw [if_neg h2, if_neg h4]
        split
        · rfl
        · by_cases h3 : p.all.Nodup
          · rw [if_neg (fun h => (twice_nodup _).1 h h3), if_neg (fun h => (unitsOf_nodup _).1 h h3)]
          · rw [if_pos ((twice_nodup _).2 h3), if_pos ((unitsOf_nodup _).2 h3)]
/-- spares are looked at only as long as there is room -/
def rSpares (dead : List Int) (i most : Nat) : List Int → List (List Int) → List (List Int)
  | [], cs => cs
  | u :: S, cs => if (cs.getD i []).length < most then rSpares dead i most S (if dead.contains u = false ∧ cs.flatten.count u = 0 then cs.set i (cs.getD i [] ++ [u]) else cs) else cs
theorem spareStep_full (dead : List Int) (i most : Nat) (cs : List (List Int)) (h : ¬ (cs.getD i []).length < most) (S : List Int) : S.foldl (spareStep dead i most) cs = cs := by
  induction S with
  | nil => rfl
  | cons u S ih =>
    rw [List.foldl_cons, show spareStep dead i most cs u = cs from by unfold spareStep; rw [if_neg (fun h' => h h'.1)]]; exact ih
theorem rSpares_eq (dead : List Int) (i most : Nat) (S : List Int) (cs : List (List Int)) : rSpares dead i most S cs = S.foldl (spareStep dead i most) cs := by
  induction S generalizing cs with
  | nil => rfl
  | cons u S ih =>
    unfold rSpares
    split
    · rename_i h
      rw [ih, List.foldl_cons]
      congr 1
      unfold spareStep
      by_cases h1 : dead.contains u = false ∧ cs.flatten.count u = 0
      · rw [if_pos h1, if_pos ⟨h, h1.1, List.count_eq_zero.1 h1.2⟩]
      · rw [if_neg h1, if_neg (fun h2 => h1 ⟨h2.2.1, List.count_eq_zero.2 h2.2.2⟩)]
    · rename_i h
      exact (spareStep_full dead i most cs h (u :: S)).symm
def rFill (dead spares : List Int) : List (List Int) → Nat → List (List Int) → List (List Int)
  | [], _, cs => cs
  | c :: l, i, cs => rFill dead spares l (i + 1) (rSpares dead i c.length spares cs)
theorem rFill_eq (dead spares : List Int) (l : List (List Int)) (i : Nat) (cs : List (List Int)) : rFill dead spares l i cs = fillC dead spares l i cs := by
  induction l generalizing i cs with
  | nil => rfl
  | cons c l ih => rw [rFill, fillC, ih, rSpares_eq]
def Pj.rNext (p : Pj) (dead spares : List Int) : Pj × Nat :=
  if p.rCheck ≠ 0 then (Pj.zero, p.rCheck)
  else if (dead ++ spares).any oddU = true then (Pj.zero, 1)
  else if p.e = 1099511627776 then (Pj.zero, 5)
  else if (p.cs.map (liveC dead)).any (·.isEmpty) = true then (Pj.zero, 13)
  else (⟨p.e + 1, rFill dead spares p.cs 0 (p.cs.map (liveC dead))⟩, 0)
theorem Pj.next_ref (p : Pj) (dead spares : List Int) : p.rNext dead spares = ((p.next dead spares).2, (p.next dead spares).1) := by
  unfold Pj.rNext Pj.next
  rw [Pj.check_ref, List.any_append, rFill_eq]
  simp only [Bool.or_eq_true]
  repeat' split
  all_goals first | rfl | omega
/-- addresses are at home together where they are a multiple of the chains' number apart -/
theorem home_law (n : Nat) (hn : 0 < n) (a b : Int) (ha : 0 ≤ a) (hb : 0 ≤ b) : ((a.tmod n == b.tmod n) = ((a - b).tmod n == 0)) ∧ a.tmod n < n ∧ b.tmod n < n := by
  rw [Int.tmod_eq_emod_of_nonneg ha, Int.tmod_eq_emod_of_nonneg hb]
  have hp : (0 : Int) < n := by omega
  refine ⟨?_, Int.emod_lt_of_pos _ hp, Int.emod_lt_of_pos _ hp⟩
  rw [Bool.eq_iff_iff, beq_iff_eq, beq_iff_eq]
  rw [← Int.dvd_iff_tmod_eq_zero, Int.emod_eq_emod_iff_emod_sub_eq_zero, Int.dvd_iff_emod_eq_zero]
end Go.Proofs.YtinbcehlpfnlaaaGreatDoor
