/- Layer 8 (unit): a cell only becomes what it may become, but by Cut; epochs and low marks never fall; an elder epoch changes nothing. Plain. -/
import Derived.Test.YtkljeefncopodaaGreatMdlM
namespace Go.Proofs.YtkljeefncopodaaGreat
set_option linter.unusedSimpArgs false
set_option linter.unusedVariables false

theorem look_put (L : List (Int × C)) (a : Int) (c : C) (x : Int) (hx : x ≠ a) : lookC (putC L a c) x = lookC L x := by
  unfold putC
  split
  · rename_i hany
    clear hany
    unfold lookC
    congr 2
    induction L with
    | nil => rfl
    | cons p L ih =>
      by_cases hp : p.1 = a
      · have h1 : (a == x) = false := by rw [beq_eq_false_iff_ne]; exact fun h => hx h.symm
        have h2 : (p.1 == x) = false := by rw [hp]; exact h1
        simp only [List.map_cons, if_pos hp, List.find?_cons, h1, h2, ih]
      · simp only [List.map_cons, if_neg hp, List.find?_cons, ih]
  · unfold lookC
    rw [List.find?_append]
    have h1 : (a == x) = false := by rw [beq_eq_false_iff_ne]; exact fun h => hx h.symm
    simp [h1]
theorem look_filter (L : List (Int × C)) (f : Int × C → Bool) (hn : (L.map (·.1)).Nodup) {p : Int × C} (hp : p ∈ L) (hf : f p = true) : lookC (L.filter f) p.1 = p.2 :=
  lookC_of_mem (hn.sublist (List.filter_sublist.map _)) (List.mem_filter.2 ⟨hp, hf⟩)

theorem may_self {c : C} (h : c.check = 0) : C.may c c = true := by simp [C.may, h]
theorem may_trim {c : C} (h : c.check = 0) : C.may c ⟨3, []⟩ = true := by
  have h3 : C.check ⟨3, []⟩ = 0 := by decide
  unfold C.may
  rw [h, h3]
  simp
theorem cell_check {u : U} (h : u.ok) {p : Int × C} (hp : p ∈ u.cells) : p.2.check = 0 := by
  have h1 := h.kind p hp
  unfold C.check
  rcases h1 with ⟨h1 | ⟨h1, h2⟩, h3⟩
  · rw [if_neg (by omega), if_neg (by omega), if_neg (by omega)]
  · rw [if_neg (by omega), if_neg (by omega), if_neg (by rw [h2]; simp)]

/-- what an act leaves -/
structure Once (u u' : U) (kn e : Int) : Prop where
  ep : u.e ≤ u'.e
  low : u.l ≤ u'.l
  elder : kn ≠ 0 → e < u.e → u' = u
  may : kn ≠ 6 → ∀ p ∈ u.cells, C.may p.2 (u'.at p.1) = true
theorem Once.same {u : U} (h : u.ok) (kn e : Int) : Once u u kn e :=
  ⟨Int.le_refl _, Int.le_refl _, fun _ _ => rfl, fun _ p hp => by
    have : u.at p.1 = p.2 := by
      rw [U.at, if_neg (by have := h.addr p hp; omega)]; exact lookC_of_mem h.nodup hp
    rw [this]; exact may_self (cell_check h hp)⟩
theorem cur_elder {u : U} {e : Int} (h : e < u.e) : u.cur e = 6 := by simp [U.cur, h]
theorem Once.put {u : U} (h : u.ok) {kn e a : Int} {c : C} (hc : u.cur e = 0) (ha : (u.at a).k = 0 ∨ u.at a = c ∧ (u.at a).k ≠ 3) : Once u { u with cells := putC u.cells a c } kn e := by
  refine ⟨Int.le_refl _, Int.le_refl _, fun _ he => ?_, fun _ p hp => ?_⟩
  · rw [cur_elder he] at hc; cases hc
  · have hl : ¬ p.1 < u.l := by have := h.addr p hp; omega
    have hpl := lookC_of_mem h.nodup hp
    have : (U.at { u with cells := putC u.cells a c } p.1) = p.2 := by
      rw [U.at]
      show (if p.1 < u.l then _ else lookC (putC u.cells a c) p.1) = _
      rw [if_neg hl]
      by_cases hpa : p.1 = a
      · rcases ha with h0 | ⟨h1, h3⟩
        · exfalso
          have := at_any0 h h0
          rw [List.any_eq_false] at this
          exact this p hp (by simp [hpa])
        · have h4 : u.at a = lookC u.cells a := by rw [U.at, if_neg (by rw [← hpa]; exact hl)]
          rw [putC_same _ h.nodup a c (List.any_eq_true.2 ⟨p, hp, by simp [hpa]⟩) (by rw [← h4, h1]), hpl]
      · rw [look_put _ _ _ _ hpa, hpl]
    rw [this]; exact may_self (cell_check h hp)
theorem uS_once {u : U} (h : u.ok) (kn e a : Int) (d : List UInt8) : Once u (uS kn u e a d).1 kn e := by
  unfold uS
  split
  · rename_i hk
    subst hk
    unfold U.sealE
    split; · exact Once.same h _ _
    split; · exact Once.same h _ _
    rename_i h1 h2
    refine ⟨by show u.e ≤ e; omega, Int.le_refl _, fun h => absurd rfl h, fun _ p hp => ?_⟩
    have := (Once.same h 1 e).may (by decide) p hp
    exact this
  split
  · unfold U.write
    split; · exact Once.same h _ _
    split; · exact Once.same h _ _
    split; · exact Once.same h _ _
    rename_i hc
    have hc0 : u.cur e = 0 := by simpa using hc
    split; · exact Once.same h _ _
    split
    · rename_i h0; exact Once.put h hc0 (.inl h0)
    · exact Once.same h _ _
  split
  · unfold U.fill
    split; · exact Once.same h _ _
    rename_i hc
    have hin : inR a 1048575 = true := asks_in hc
    have hc0 : u.cur e = 0 := by simp only [U.asks, hin, if_true, ne_eq, Decidable.not_not] at hc; exact hc
    split; · exact Once.same h _ _
    rename_i h3
    split; · exact Once.same h _ _
    rename_i h1
    refine Once.put h hc0 ?_
    rcases at_kind h a with ⟨h5, _⟩ | ⟨h5, _⟩ | ⟨h5 | ⟨h5, h6⟩, _⟩
    · exact absurd h5 h3
    · exact .inl h5
    · exact absurd h5 h1
    · exact .inr ⟨C.ext' h5 h6, h3⟩
  split; · exact Once.same h _ _
  split
  · rename_i hk
    subst hk
    unfold U.trim
    split; · exact Once.same h _ _
    rename_i hc
    have hin := asks_in hc
    have hc0 : u.cur e = 0 := by simp only [U.asks, hin, if_true, ne_eq, Decidable.not_not] at hc; exact hc
    refine ⟨Int.le_refl _, by show u.l ≤ max u.l a; omega, fun _ he => ?_, fun _ p hp => ?_⟩
    · rw [cur_elder he] at hc0; cases hc0
    · by_cases hl : p.1 < max u.l a
      · have : (U.at { u with l := max u.l a, cells := u.cells.filter (fun p => !decide (p.1 < max u.l a)) } p.1) = ⟨3, []⟩ := by
          rw [U.at]; exact if_pos hl
        show C.may p.2 (U.at { u with l := max u.l a, cells := u.cells.filter (fun p => !decide (p.1 < max u.l a)) } p.1) = true
        rw [this]; exact may_trim (cell_check h hp)
      · have : (U.at { u with l := max u.l a, cells := u.cells.filter (fun p => !decide (p.1 < max u.l a)) } p.1) = p.2 := by
          rw [U.at]
          show (if p.1 < max u.l a then _ else lookC _ p.1) = _
          rw [if_neg hl]
          exact look_filter _ _ h.nodup hp (by simp; omega)
        show C.may p.2 (U.at { u with l := max u.l a, cells := u.cells.filter (fun p => !decide (p.1 < max u.l a)) } p.1) = true
        rw [this]; exact may_self (cell_check h hp)
  split
  · rename_i hk
    subst hk
    unfold U.cut
    split; · exact Once.same h _ _
    rename_i hc
    have hin := asks_in hc
    have hc0 : u.cur e = 0 := by simp only [U.asks, hin, if_true, ne_eq, Decidable.not_not] at hc; exact hc
    split; · exact Once.same h _ _
    exact ⟨Int.le_refl _, Int.le_refl _, fun _ he => (by rw [cur_elder he] at hc0; cases hc0), fun h6 => absurd rfl h6⟩
  · exact Once.same h _ _
/-- a cell that was there is read without an error -/
theorem once_read {u u' : U} (h : u.ok) {p : Int × C} (hp : p ∈ u.cells) : u'.read u'.e p.1 = (0, u'.at p.1) := by
  have h1 := h.addr p hp
  have h2 := h.l0
  have hin : inR p.1 1048575 = true := by simp [inR]; omega
  simp [U.read, U.asks, hin, U.cur]
/-- two units are the same -/
def sameB (u v : U) : Bool := u.e == v.e && u.l == v.l && (u.cells.length == v.cells.length && u.cells.all (fun p => v.cells.any (·.1 == p.1) && decide (p.2 = lookC v.cells p.1)))
theorem sameB_self {u : U} (h : u.ok) : sameB u u = true := by
  simp only [sameB, beq_self_eq_true, Bool.true_and, List.all_eq_true, Bool.and_eq_true, List.any_eq_true, decide_eq_true_eq]
  exact fun p hp => ⟨⟨p, hp, beq_self_eq_true _⟩, (lookC_of_mem h.nodup hp).symm⟩
end Go.Proofs.YtkljeefncopodaaGreat
