/- Layer 8 (unit): which cells are a unit's, and which two are the same. Plain. -/
import Derived.Test.YtkljeefncopodaaGreatUOnceM
namespace Go.Proofs.YtkljeefncopodaaGreat
set_option linter.unusedSimpArgs false
set_option linter.unusedVariables false

def outE (l : Int) (p : Int × C) : Bool := decide (p.1 < l) || decide (1048576 ≤ p.1)
def noneE (p : Int × C) : Bool := p.2.k == 0 || p.2.k == 3
def firstBad : List (Int × C) → Nat
  | [] => 0
  | p :: E => if p.2.check ≠ 0 then p.2.check else firstBad E
def risesB : List (Int × C) → Bool
  | [] => true
  | [_] => true
  | x :: y :: E => decide (x.1 < y.1) && risesB (y :: E)
def rightErr (E : List (Int × C)) : Nat := if firstBad E ≠ 0 then firstBad E else if E.any noneE = true then 2 else if risesB E = true then 0 else 13
def ofErr (e l : Int) (E : List (Int × C)) : Nat :=
  if e < 0 ∨ 1099511627776 < e ∨ l < 0 ∨ 1048576 < l then 1 else if E.any (outE l) = true then 1 else rightErr E
theorem firstBad_zero {E : List (Int × C)} (h : firstBad E = 0) : ∀ p ∈ E, p.2.check = 0 := by
  induction E with
  | nil => simp
  | cons q E ih =>
    unfold firstBad at h
    split at h
    · rename_i h1; exact absurd h h1
    · rename_i h1
      intro p hp
      rcases List.mem_cons.1 hp with rfl | hp
      · simpa using h1
      · exact ih h p hp
theorem risesB_rise : ∀ {E : List (Int × C)}, risesB E = true → Rise E
  | [], _ => List.Pairwise.nil
  | [_], _ => by simp [Rise]
  | x :: y :: E, h => by
    simp only [risesB, Bool.and_eq_true, decide_eq_true_eq] at h
    have ih := risesB_rise h.2
    refine List.pairwise_cons.2 ⟨fun p hp => ?_, ih⟩
    rcases List.mem_cons.1 hp with rfl | hp
    · exact h.1
    · have := (List.pairwise_cons.1 ih).1 p hp
      omega
theorem rise_nodup {E : List (Int × C)} (h : Rise E) : (E.map (·.1)).Nodup := by
  unfold List.Nodup
  rw [List.pairwise_map]
  exact h.imp (fun h => by omega)
/-- the unit that is made -/
theorem of_ok {e l : Int} {E : List (Int × C)} (h : ofErr e l E = 0) : U.ok ⟨e, l, E⟩ ∧ Rise E := by
  unfold ofErr at h
  split at h; · cases h
  rename_i h1
  split at h; · cases h
  rename_i h2
  unfold rightErr at h
  split at h
  · rename_i h3; exact absurd h h3
  rename_i h3
  split at h; · cases h
  rename_i h4
  split at h
  rotate_left
  · cases h
  rename_i h5
  have hr := risesB_rise h5
  have hc := firstBad_zero (E := E) (by simpa using h3)
  have ho : ∀ p ∈ E, l ≤ p.1 ∧ p.1 < 1048576 := by
    intro p hp
    have : outE l p = false := by
      cases hq : outE l p with
      | false => rfl
      | true => exact absurd (List.any_eq_true.2 ⟨p, hp, hq⟩) h2
    unfold outE at this
    rw [Bool.or_eq_false_iff, decide_eq_false_iff_not, decide_eq_false_iff_not] at this
    omega
  refine ⟨⟨by show 0 ≤ e; omega, by show e ≤ _; omega, by show 0 ≤ l; omega, by show l ≤ _; omega, ho, fun p hp => ?_, rise_nodup hr⟩, hr⟩
  have h6 : noneE p = false := by
    cases hq : noneE p with
    | false => rfl
    | true => exact absurd (List.any_eq_true.2 ⟨p, hp, hq⟩) h4
  have h7 := hc p hp
  unfold noneE at h6
  rw [Bool.or_eq_false_iff, beq_eq_false_iff_ne, beq_eq_false_iff_ne] at h6
  refine check_zero h7 ?_
  intro h8
  unfold C.check at h7
  split at h7; · cases h7
  rename_i h9
  omega
theorem of_doc {e l : Int} {E : List (Int × C)} (h : ofErr e l E = 0) : (⟨e, l, E⟩ : U).doc = ⟨e, l, E⟩ := by
  obtain ⟨h1, h2⟩ := of_ok h
  unfold U.doc
  rw [sortC_eq h1.nodup h2 (List.Perm.refl _)]
theorem putC_new {L : List (Int × C)} {a : Int} {c : C} (h : ∀ p ∈ L, p.1 ≠ a) : putC L a c = L ++ [(a, c)] := by
  unfold putC
  rw [if_neg]
  rw [List.any_eq_true]
  rintro ⟨p, hp, he⟩
  exact h p hp (by simpa using he)
/-- the map that is filled -/
theorem of_step {E : List (Int × C)} (h : Rise E) {k : Nat} (hk : k < E.length) : putC (E.take k) E[k].1 E[k].2 = E.take (k + 1) := by
  rw [putC_new, List.take_succ_eq_append_getElem hk]
  intro p hp
  obtain ⟨j, hj, rfl⟩ := List.getElem_of_mem hp
  have hjk : j < k := by rw [List.length_take] at hj; omega
  rw [List.getElem_take]
  have := List.pairwise_iff_getElem.1 h j k (by omega) hk hjk
  omega
theorem sameB_new {u : U} (h : u.ok) : sameB u U.new = u.rSame ⟨0, 0, []⟩ := by
  unfold sameB U.rSame U.new
  rw [Bool.eq_iff_iff]
  simp only [Bool.and_eq_true, beq_iff_eq, List.length_nil, List.length_eq_zero_iff, decide_eq_true_eq]
  constructor
  · rintro ⟨⟨h1, h2⟩, h3, _⟩; exact ⟨h1, h2, h3⟩
  · rintro ⟨h1, h2, h3⟩; exact ⟨⟨h1, h2⟩, h3, by rw [h3]; rfl⟩
theorem sameB_low {u v : U} (h : u.l ≠ v.l) : sameB u v = false := by
  unfold sameB
  rw [show (u.l == v.l) = false from by rw [beq_eq_false_iff_ne]; exact h]
  simp
end Go.Proofs.YtkljeefncopodaaGreat
