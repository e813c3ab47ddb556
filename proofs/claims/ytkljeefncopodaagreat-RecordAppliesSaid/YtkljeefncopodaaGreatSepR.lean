/- Readers beside parts of memory. -/
import Derived.Test.YtkljeefncopodaaGreatBase
import Derived.Test.YtkljeefncopodaaGreatVar
namespace Go.Proofs.YtkljeefncopodaaGreat
open Go.RowKit
set_option linter.unusedSimpArgs false
set_option linter.unusedVariables false
set_option maxRecDepth 20000

/-- a block of which nothing is told -/
def Asn.blk (N : Nat) : Asn where
  holds := fun w => N < w.heap.size
  foot := fun b => b = N
  lt := fun _ h b e => by subst e; exact h
  keep := fun w w' h k => by
    have h1 := k N rfl
    rw [Array.getElem?_eq_getElem h] at h1
    exact (Array.getElem?_eq_some_iff.1 h1).1
theorem Sep.blk0 {w : World} {N : Nat} (h : N < w.heap.size) : Sep w (fun k => k = N) [Asn.blk N] w := Sep.start1 (Asn.blk N) h
/-- a call that writes that block alone -/
theorem Sep.rd {w0 w w' : World} {F : Nat → Prop} {L : List Asn} (h : Sep w0 F L w) (i : Nat) {N : Nat} (hi : L[i]? = some (Asn.blk N)) (hf : Fr (fun k => k = N) w w') : Sep w0 F (Asn.blk N :: L.eraseIdx i) w' :=
  (h.focus i hi).fr1 (A := Asn.blk N) (B := Asn.blk N) hf (Nat.lt_of_lt_of_le (h.at i hi) hf.size) (fun b hb => .inr hb)
/-- .. and makes a row -/
theorem Sep.rdRow {w0 w w' : World} {F : Nat → Prop} {L : List Asn} (h : Sep w0 F L w) (i : Nat) {N : Nat} (hi : L[i]? = some (Asn.blk N)) (hf : Fr (fun k => k = N) w w') {e size n : Nat} {v : Value} {xs : List Value} (hr : w'.ownsRow w.heap.size e size v n xs) : Sep w0 F (.row e size v n xs :: Asn.blk N :: L.eraseIdx i) w' := by
  refine (h.focus i hi).call (A := Asn.blk N) (K := [.row e size v n xs, Asn.blk N]) ⟨hf, ?_, ?_, ?_⟩
  · simp only [List.mem_cons, List.not_mem_nil, or_false]
    rintro A (rfl | rfl)
    · exact own_base hr (Nat.zero_le _)
    · exact Nat.lt_of_lt_of_le (h.at i hi) hf.size
  · simp only [List.pairwise_cons, List.mem_singleton, forall_eq, List.not_mem_nil, false_implies, implies_true, List.Pairwise.nil, and_true]
    intro b hb1 hb2
    have h1 := (own_blk hr hb1).1
    have h2 : b = N := hb2
    have h3 : N < w.heap.size := h.at i hi
    omega
  · simp only [List.mem_cons, List.not_mem_nil, or_false]
    rintro A (rfl | rfl) b hb
    · exact .inl (own_blk hr hb).1
    · exact .inr hb
/-- a row lies in a new block, the block N being told of beside it -/
theorem Sep.own1 {w0 w : World} {N : Nat} {L : List Asn} (h : Sep w0 (fun k => k = N) L w) (i j : Nat) (hij : i ≠ j) {e size n : Nat} {v : Value} {xs : List Value} (hi : L[i]? = some (.row e size v n xs)) (hj : L[j]? = some (Asn.blk N)) : w.ownsRow w0.heap.size e size v n xs := by
  have h1 := h.row i hi
  refine ⟨h1.1, ?_⟩
  rcases h1.2 with h2 | ⟨g, cap, cur, hv, hg, r⟩
  · exact Or.inl h2
  · refine Or.inr ⟨g, cap, cur, hv, ?_, r⟩
    have hf : (Asn.row e size v n xs).foot g := by show v.ownBlock = some g; rw [hv]; rfl
    rcases h.new _ (List.mem_of_getElem? hi) g hf with h3 | h3
    · exact h3
    · exact absurd h3 (h.off i j hi hj hij g hf)
theorem Sep.push {α : Type} (f : α → Asn) {w0 w : World} {F : Nat → Prop} {L : List Asn} {Ks : List α} {y : α} (h : Sep w0 F (f y :: Asn.all (Ks.map f) :: L) w) : Sep w0 F (Asn.all ((Ks ++ [y]).map f) :: L) w := by
  have h1 := h.join
  have h2 := (h1.at 0 rfl)
  refine h1.turn ?_ ?_
  · obtain ⟨a, b, c⟩ := h2
    obtain ⟨b1, b2⟩ := Asn.all_holds.1 b
    rw [List.map_append]
    refine Asn.all_holds.2 ⟨?_, List.pairwise_append.2 ⟨b2, List.pairwise_singleton _ _, ?_⟩⟩
    · intro A hA
      rcases List.mem_append.1 hA with hA | hA
      · exact b1 A hA
      · simp only [List.map_cons, List.map_nil, List.mem_singleton] at hA; subst hA; exact a
    · intro A hA B hB k hk hk2
      simp only [List.map_cons, List.map_nil, List.mem_singleton] at hB; subst hB
      exact c k hk2 (Asn.all_foot.2 ⟨A, hA, hk⟩)
  · intro k hk
    rw [List.map_append] at hk
    obtain ⟨A, hA, hk⟩ := Asn.all_foot.1 hk
    rcases List.mem_append.1 hA with hA | hA
    · exact .inr (Asn.all_foot.2 ⟨A, hA, hk⟩)
    · simp only [List.map_cons, List.map_nil, List.mem_singleton] at hA; subst hA; exact .inl hk
theorem Sep.none {α : Type} (f : α → Asn) {w0 w : World} {F : Nat → Prop} {L : List Asn} (h : Sep w0 F L w) : Sep w0 F (Asn.all (([] : List α).map f) :: L) w := h.addEmp trivial (fun _ h => h)
/-- one of many parts holds -/
theorem Sep.one {α : Type} (f : α → Asn) {w0 w : World} {F : Nat → Prop} {L : List Asn} {Ks : List α} (h : Sep w0 F L w) (i : Nat) (hi : L[i]? = some (Asn.all (Ks.map f))) {x : α} (hx : x ∈ Ks) : (f x).holds w := (Asn.all_holds.1 (h.at i hi)).1 (f x) (List.mem_map_of_mem hx)
/-- .. and lies in a new block, the block N being told of beside it -/
theorem Sep.oneAt {w0 w : World} {N : Nat} {α : Type} (f : α → Asn) {L : List Asn} {Ks : List α} (h : Sep w0 (fun k => k = N) L w) (i j : Nat) (hij : i ≠ j) (hi : L[i]? = some (Asn.all (Ks.map f))) (hj : L[j]? = some (Asn.blk N)) {x : α} (hx : x ∈ Ks) {e size n : Nat} {v : Value} {xs : List Value} (hf : f x = .row e size v n xs) : w.ownsRow w0.heap.size e size v n xs := by
  have h1 := h.one f i hi hx
  rw [hf] at h1
  refine ⟨h1.1, ?_⟩
  rcases h1.2 with h2 | ⟨g, cap, cur, hv, hg, r⟩
  · exact Or.inl h2
  · refine Or.inr ⟨g, cap, cur, hv, ?_, r⟩
    have hg2 : (Asn.all (Ks.map f)).foot g := Asn.all_foot.2 ⟨f x, List.mem_map_of_mem hx, by rw [hf]; show v.ownBlock = some g; rw [hv]; rfl⟩
    rcases h.new _ (List.mem_of_getElem? hi) g hg2 with h3 | h3
    · exact h3
    · exact absurd h3 (h.off i j hi hj hij g hg2)
theorem Sep.rowHi {w0 w : World} {N : Nat} {L : List Asn} (h : Sep w0 (fun k => k = N) L w) (hN : N < w0.heap.size) (i j : Nat) (hij : i ≠ j) {e size n : Nat} {v : Value} {xs : List Value} (hi : L[i]? = some (.row e size v n xs)) (hj : L[j]? = some (Asn.blk N)) : ∀ k, v.ownBlock = some k → N < k := by
  intro k hk
  rcases h.new _ (List.mem_of_getElem? hi) k hk with h3 | h3
  · omega
  · exact absurd h3 (h.off i j hi hj hij k hk)
theorem Fr.allocH {F : Nat → Prop} {w0 w : World} (h : Fr F w0 w) (o : Obj) : Fr F w0 (w.alloc o) := h.trans_below ((Below.refl _ w).alloc (Nat.le_refl _) o)
theorem Fr.drewH {F : Nat → Prop} {w0 w : World} (h : Fr F w0 w) : Fr F w0 w.drew := h.trans_below (Below.refl _ w).drew
theorem Fr.setH {F : Nat → Prop} {w0 w : World} (h : Fr F w0 w) {N : Nat} (hN : F N) (j : Nat) (v : Value) : Fr F w0 (w.setCell ⟨N, j, none⟩ v) :=
  h.trans (fr_set w N j v) (fun i hi => .inl (by subst hi; exact hN))
theorem RAt.hi {w w' : World} {b : Nat} {r : RD} (h : RAt w b r) (hf : Fr (fun k => b < k) w w') : RAt w' b r := h.high hf (fun _ h => h)
end Go.Proofs.YtkljeefncopodaaGreat
