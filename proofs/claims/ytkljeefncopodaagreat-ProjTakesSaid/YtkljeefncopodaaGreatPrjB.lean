/- Projections: what follows a right one is right, and keeps what isn't dead, in order. Plain. -/
import Derived.Test.YtkljeefncopodaaGreatPrjM
namespace Go.Proofs.YtkljeefncopodaaGreat
set_option linter.unusedSimpArgs false
set_option linter.unusedVariables false

structure Pj.Ok (p : Pj) : Prop where
  e0 : 0 ≤ p.e
  e1 : p.e ≤ 1099511627776
  n0 : 0 < p.cs.length
  n1 : p.cs.length ≤ 4
  c : ∀ c ∈ p.cs, 0 < c.length ∧ c.length ≤ 4
  u : ∀ x ∈ p.all, 0 ≤ x ∧ x < 8
  nodup : p.all.Nodup
theorem wrongC_false {c : List Int} : wrongC c = false ↔ 0 < c.length ∧ c.length ≤ 4 := by
  unfold wrongC
  rw [Bool.or_eq_false_iff, decide_eq_false_iff_not, decide_eq_false_iff_not]; omega
theorem oddU_false {u : Int} : oddU u = false ↔ 0 ≤ u ∧ u < 8 := by
  unfold oddU
  simp
theorem Pj.ok_of {p : Pj} (h : p.check = 0) : p.Ok := by
  unfold Pj.check at h
  split at h; · cases h
  rename_i h1
  split at h; · cases h
  rename_i h2
  split at h; · cases h
  rename_i h3
  split at h; · cases h
  rename_i h4
  have h2c : p.cs.any wrongC = false := by
    cases hq : p.cs.any wrongC with
    | false => rfl
    | true => exact absurd (.inr (.inr hq)) h2
  rw [List.any_eq_false] at h2c
  have h3c : p.all.any oddU = false := by simpa using h3
  rw [List.any_eq_false] at h3c
  refine ⟨by omega, by omega, by omega, by omega, fun c hc => ?_, fun x hx => ?_, ?_⟩
  · exact wrongC_false.1 (by simpa using h2c c hc)
  · exact oddU_false.1 (by simpa using h3c x hx)
  · apply Decidable.byContradiction
    intro hn
    exact h4 ((unitsOf_nodup _).2 hn)
theorem Pj.Ok.check {p : Pj} (h : p.Ok) : p.check = 0 := by
  have h0 := h.e0; have h1 := h.e1; have h2 := h.n0; have h3 := h.n1
  have hw : p.cs.any wrongC = false := List.any_eq_false.2 fun c hc => by rw [wrongC_false.2 (h.c c hc)]; decide
  have ho : p.all.any oddU = false := List.any_eq_false.2 fun c hc => by rw [oddU_false.2 (h.u c hc)]; decide
  unfold Pj.check
  rw [if_neg (by omega)]
  have h4 : ¬ (p.cs.length < 1 ∨ 4 < p.cs.length ∨ p.cs.any wrongC = true) := by
    rintro (h | h | h)
    · omega
    · omega
    · rw [hw] at h; cases h
  rw [if_neg h4, ho, if_neg (by decide), if_neg (fun h' => (unitsOf_nodup _).1 h' h.nodup)]

theorem set_perm : ∀ (cs : List (List Int)) (i : Nat) (u : Int), i < cs.length → ((cs.set i (cs.getD i [] ++ [u])).flatten).Perm (u :: cs.flatten)
  | [], i, u, h => by simp at h
  | c :: cs, 0, u, h => by
    simp only [List.set_cons_zero, List.flatten_cons, List.getD_cons_zero, List.append_assoc]
    exact List.perm_middle
  | c :: cs, i + 1, u, h => by
    simp only [List.set_cons_succ, List.flatten_cons, List.getD_cons_succ]
    have := set_perm cs i u (by simpa using h)
    exact (this.append_left c).trans List.perm_middle
structure FInv (p : Pj) (dead : List Int) (cs : List (List Int)) : Prop where
  len : cs.length = p.cs.length
  most : ∀ j, (cs.getD j []).length ≤ (p.cs.getD j []).length
  pre : ∀ j, liveC dead (p.cs.getD j []) <+: cs.getD j []
  u : ∀ x ∈ cs.flatten, 0 ≤ x ∧ x < 8
  nodup : cs.flatten.Nodup
theorem getD_set (cs : List (List Int)) (i j : Nat) (c : List Int) (h : i < cs.length) : (cs.set i c).getD j [] = if i = j then c else cs.getD j [] := by
  simp only [List.getD, List.getElem?_set]
  by_cases hij : i = j
  · subst hij; simp [h]
  · simp [hij]
theorem FInv.step {p : Pj} {dead : List Int} {cs : List (List Int)} (h : FInv p dead cs) {i : Nat} (hi : i < p.cs.length) {u : Int} (hu : 0 ≤ u ∧ u < 8) : FInv p dead (spareStep dead i (p.cs.getD i []).length cs u) := by
  unfold spareStep
  split
  · rename_i hq
    obtain ⟨h1, h2, h3⟩ := hq
    have hi' : i < cs.length := by rw [h.len]; exact hi
    have hp := set_perm cs i u hi'
    refine ⟨by rw [List.length_set, h.len], fun j => ?_, fun j => ?_, fun x hx => ?_, ?_⟩
    · rw [getD_set _ _ _ _ hi']
      split
      · rename_i hij; subst hij; rw [List.length_append, List.length_singleton]; omega
      · exact h.most j
    · rw [getD_set _ _ _ _ hi']
      split
      · rename_i hij; subst hij; exact (h.pre i).trans (List.prefix_append _ _)
      · exact h.pre j
    · rcases List.mem_cons.1 (hp.mem_iff.1 hx) with rfl | hx
      · exact hu
      · exact h.u x hx
    · rw [hp.nodup_iff]
      exact List.nodup_cons.2 ⟨h3, h.nodup⟩
  · exact h
theorem FInv.spares {p : Pj} {dead : List Int} {i : Nat} (hi : i < p.cs.length) (S : List Int) (hS : ∀ u ∈ S, 0 ≤ u ∧ u < 8) {cs : List (List Int)} (h : FInv p dead cs) : FInv p dead (S.foldl (spareStep dead i (p.cs.getD i []).length) cs) := by
  induction S generalizing cs with
  | nil => exact h
  | cons u S ih => exact ih (fun x hx => hS x (List.mem_cons_of_mem _ hx)) (h.step hi (hS u List.mem_cons_self))
theorem FInv.fill {p : Pj} {dead S : List Int} (hS : ∀ u ∈ S, 0 ≤ u ∧ u < 8) (l : List (List Int)) (pre : List (List Int)) (he : p.cs = pre ++ l) {cs : List (List Int)} (h : FInv p dead cs) : FInv p dead (fillC dead S l pre.length cs) := by
  induction l generalizing pre cs with
  | nil => exact h
  | cons c l ih =>
    have hi : pre.length < p.cs.length := by rw [he]; simp
    have hc : p.cs.getD pre.length [] = c := by rw [he]; simp [List.getD]
    have h1 := h.spares hi S hS
    rw [hc] at h1
    have := ih (pre ++ [c]) (by rw [he]; simp) h1
    rw [List.length_append, List.length_singleton] at this
    exact this
theorem filter_flat (f : Int → Bool) : ∀ cs : List (List Int), (cs.map (List.filter f)).flatten = cs.flatten.filter f
  | [] => rfl
  | c :: cs => by simp only [List.map_cons, List.flatten_cons, List.filter_append, filter_flat f cs]
theorem getD_map (f : List Int → List Int) (cs : List (List Int)) (j : Nat) (h : f [] = []) : (cs.map f).getD j [] = f (cs.getD j []) := by
  simp only [List.getD, List.getElem?_map]
  cases cs[j]? <;> simp [h]
theorem FInv.start {p : Pj} (h : p.Ok) (dead : List Int) : FInv p dead (p.cs.map (liveC dead)) := by
  have hf : (p.cs.map (liveC dead)).flatten = p.all.filter (fun u => !dead.contains u) := filter_flat _ _
  refine ⟨by simp, fun j => ?_, fun j => ?_, fun x hx => ?_, ?_⟩
  · rw [getD_map (liveC dead) _ _ rfl]; exact List.length_filter_le _ _
  · rw [getD_map (liveC dead) _ _ rfl]; exact List.prefix_refl _
  · rw [hf] at hx; exact h.u x (List.mem_filter.1 hx).1
  · rw [hf]; exact h.nodup.sublist List.filter_sublist
/-- what follows a right one -/
structure NextOk (p : Pj) (dead : List Int) (n : Pj) : Prop where
  ok : n.Ok
  e : n.e = p.e + 1
  len : n.cs.length = p.cs.length
  most : ∀ j, (n.cs.getD j []).length ≤ (p.cs.getD j []).length
  pre : ∀ j, liveC dead (p.cs.getD j []) <+: n.cs.getD j []
theorem Pj.next_ok {p n : Pj} {dead spares : List Int} (h : p.next dead spares = (0, n)) : NextOk p dead n := by
  unfold Pj.next at h
  split at h
  · rename_i h1; simp only [Prod.mk.injEq] at h; exact absurd h.1 h1
  rename_i h1
  have hp := Pj.ok_of (p := p) (by simpa using h1)
  split at h; · cases h
  rename_i h2
  split at h; · cases h
  rename_i h3
  split at h; · cases h
  rename_i h4
  simp only [Prod.mk.injEq, true_and] at h
  subst h
  have hS : ∀ u ∈ spares, 0 ≤ u ∧ u < 8 := by
    intro u hu
    apply oddU_false.1
    cases ho : oddU u with
    | false => rfl
    | true => exact absurd (.inr (List.any_eq_true.2 ⟨u, hu, ho⟩)) h2
  have hF := FInv.fill (dead := dead) hS p.cs [] rfl (FInv.start hp dead)
  have h0 := hp.e0; have h5 := hp.e1
  have hn : (fillC dead spares p.cs 0 (p.cs.map (liveC dead))).length = p.cs.length := by rw [fillC_len]; simp
  refine ⟨⟨by show 0 ≤ p.e + 1; omega, by show p.e + 1 ≤ _; omega, by show 0 < List.length _; rw [hn]; exact hp.n0, by show List.length _ ≤ 4; rw [hn]; exact hp.n1, fun c hc => ?_, hF.u, hF.nodup⟩, rfl, hn, hF.most, hF.pre⟩
  obtain ⟨j, hj, rfl⟩ := List.getElem_of_mem hc
  have hj' : j < p.cs.length := by rw [← hn]; exact hj
  have e1 : (fillC dead spares p.cs 0 (p.cs.map (liveC dead))).getD j [] = (fillC dead spares p.cs 0 (p.cs.map (liveC dead)))[j] := by simp [List.getD, hj]
  have e2 : p.cs.getD j [] = p.cs[j] := by simp [List.getD, hj']
  have g1 := hF.most j
  have g2 := hF.pre j
  simp only [List.length_nil] at g1 g2
  rw [e1, e2] at g1 g2
  have g3 := hp.c p.cs[j] (List.getElem_mem hj')
  show 0 < (fillC dead spares p.cs 0 (p.cs.map (liveC dead)))[j].length ∧ (fillC dead spares p.cs 0 (p.cs.map (liveC dead)))[j].length ≤ 4
  refine ⟨?_, by omega⟩
  have g4 := g2.length_le
  have g5 : liveC dead p.cs[j] ≠ [] := by
    intro he
    apply h4
    rw [List.any_eq_true]
    exact ⟨liveC dead p.cs[j], List.mem_map_of_mem (List.getElem_mem hj'), by rw [he]; rfl⟩
  have g6 := List.length_pos_iff.2 g5
  omega
end Go.Proofs.YtkljeefncopodaaGreat
