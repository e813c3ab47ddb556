/- Chains (slices of slices of numbers) as parts of memory. -/
import Derived.Test.YtkljeefncopodaaGreatSep
import Derived.Test.YtkljeefncopodaaGreatPrjC
namespace Go.Proofs.YtkljeefncopodaaGreat
open Go.RowKit
set_option linter.unusedSimpArgs false
set_option linter.unusedVariables false
set_option maxRecDepth 20000

/-- a row of a chain, as a part of memory -/
def chA (y : Ch) : Asn := .row 3 1 (chV y) y.1.length (zVs y.1)
theorem sep_chs {w0 w : World} {F : Nat → Prop} {L : List Asn} {Ks : List Ch} {y : Ch} (h : Sep w0 F (chA y :: Asn.all (Ks.map chA) :: L) w) : Sep w0 F (Asn.all ((Ks ++ [y]).map chA) :: L) w := by
  have h1 := h.join
  have h2 := (h1.at 0 rfl)
  refine h1.turn ?_ ?_
  · obtain ⟨a, b, c⟩ := h2
    obtain ⟨b1, b2⟩ := Asn.all_holds.1 b
    rw [List.map_append]
    refine Asn.all_holds.2 ⟨?_, List.pairwise_append.2 ⟨b2, List.pairwise_singleton _ _, ?_⟩⟩
    · intro A hA
      rcases List.mem_append.1 hA with hA | hA
      · exact b1 A hA
      · simp only [List.map_cons, List.map_nil, List.mem_singleton] at hA; subst hA; exact a
    · intro A hA B hB k hk hk2
      simp only [List.map_cons, List.map_nil, List.mem_singleton] at hB; subst hB
      exact c k hk2 (Asn.all_foot.2 ⟨A, hA, hk⟩)
  · intro k hk
    rw [List.map_append] at hk
    obtain ⟨A, hA, hk⟩ := Asn.all_foot.1 hk
    rcases List.mem_append.1 hA with hA | hA
    · exact .inr (Asn.all_foot.2 ⟨A, hA, hk⟩)
    · simp only [List.map_cons, List.map_nil, List.mem_singleton] at hA; subst hA; exact .inl hk
theorem own_at {w w0 : World} {e size n : Nat} {v : Value} {xs : List Value} (h1 : w.ownsRow 0 e size v n xs) (hb : ∀ b, v.ownBlock = some b → w0.heap.size ≤ b) : w.ownsRow w0.heap.size e size v n xs := by
  refine ⟨h1.1, ?_⟩
  rcases h1.2 with h2 | ⟨g, cap, cur, hv, hg, r⟩
  · exact Or.inl h2
  · exact Or.inr ⟨g, cap, cur, hv, hb g (by rw [hv]; rfl), r⟩
theorem Sep.ownJ {w0 w : World} {L : List Asn} {Ks : List Ch} {ja : Option Addr} {jc : Nat} (h : Sep w0 NoF (Asn.all (Ks.map chA) :: .row 81 1 (.slice ja Ks.length jc) Ks.length (Ks.map chV) :: L) w) : OwnJ w w0.heap.size ja jc Ks := by
  obtain ⟨b1, b2⟩ := Asn.all_holds.1 (h.at 0 rfl)
  refine ⟨h.own 1 rfl, fun x hx => ?_, ?_⟩
  · have h1 := b1 (chA x) (List.mem_map_of_mem hx)
    refine own_at h1 (fun b hb => ?_)
    rcases h.new _ List.mem_cons_self b (Asn.all_foot.2 ⟨chA x, List.mem_map_of_mem hx, hb⟩) with h2 | h2
    · exact h2
    · exact h2.elim
  · rw [List.pairwise_map] at b2
    exact b2
theorem slv_at {w : World} {n : Nat} {cs : List Value} {a : Option Addr} {c m : Nat} (h : SlV w (.slice a m c) n cs) {j : Nat} {u : Value} (hu : cs[j]? = some u) : ∃ p, a = some p ∧ w.cell? (p.add j) = some u := by
  obtain ⟨_, _, he, _, _, _, k⟩ := h
  cases he
  exact k j u hu
theorem Sep.chs {w0 w : World} {F : Nat → Prop} {L : List Asn} {Ks : List Ch} {ja : Option Addr} {jc : Nat} (h : Sep w0 F L w) (i j : Nat) (hi : L[i]? = some (Asn.all (Ks.map chA))) (hj : L[j]? = some (.row 81 1 (.slice ja Ks.length jc) Ks.length (Ks.map chV))) : Chs w ja jc Ks := by
  obtain ⟨b1, b2⟩ := Asn.all_holds.1 (h.at i hi)
  exact ⟨SlV.of_own (h.row j hj), fun x hx => SlV.of_own (show w.ownsRow 0 3 1 (chV x) x.1.length (zVs x.1) from b1 (chA x) (List.mem_map_of_mem hx))⟩
theorem Sep.pastJ {w0 w w' : World} {F : Nat → Prop} {L : List Asn} {Ks : List Ch} {ja : Option Addr} {jc : Nat} (h : Sep w0 F L w) (hb : Below w.heap.size w w') (hj : OwnJ w' w.heap.size ja jc Ks) : Sep w0 F (Asn.all (Ks.map chA) :: .row 81 1 (.slice ja Ks.length jc) Ks.length (Ks.map chV) :: L) w' := by
  refine h.call0 (K := [Asn.all (Ks.map chA), .row 81 1 (.slice ja Ks.length jc) Ks.length (Ks.map chV)]) ⟨Fr.of_below hb, ?_, ?_, ?_⟩
  · simp only [List.mem_cons, List.not_mem_nil, or_false]
    rintro A (rfl | rfl)
    · refine Asn.all_holds.2 ⟨fun A hA => ?_, ?_⟩
      · obtain ⟨x, hx, rfl⟩ := List.mem_map.1 hA
        exact own_base (hj.each x hx) (Nat.zero_le _)
      · rw [List.pairwise_map]; exact hj.apart
    · exact own_base hj.row (Nat.zero_le _)
  · simp only [List.pairwise_cons, List.mem_singleton, forall_eq, List.not_mem_nil, false_implies, implies_true, List.Pairwise.nil, and_true]
    intro b hb1 hb2
    obtain ⟨A, hA, hb1⟩ := Asn.all_foot.1 hb1
    obtain ⟨x, hx, rfl⟩ := List.mem_map.1 hA
    have h1 := own_apart (hj.each x hx) hj.row (by decide : (3 : Nat) ≠ 81)
    obtain ⟨xs, xa, xc⟩ := x
    have hb1 : (Value.slice xa xs.length xc).ownBlock = some b := hb1
    have hb2 : (Value.slice ja Ks.length jc).ownBlock = some b := hb2
    cases xa with
    | none => simp [Value.ownBlock] at hb1
    | some p =>
      have h2 := h1 p xs.length xc rfl
      simp only [Value.ownBlock, Option.some.injEq] at hb1 hb2 h2
      rw [hb1] at h2
      exact h2 hb2
  · simp only [List.mem_cons, List.not_mem_nil, or_false]
    rintro A (rfl | rfl) b hb1
    · obtain ⟨A, hA, hb1⟩ := Asn.all_foot.1 hb1
      obtain ⟨x, hx, rfl⟩ := List.mem_map.1 hA
      exact .inl (own_blk (hj.each x hx) hb1).1
    · exact .inl (own_blk hj.row hb1).1
end Go.Proofs.YtkljeefncopodaaGreat
