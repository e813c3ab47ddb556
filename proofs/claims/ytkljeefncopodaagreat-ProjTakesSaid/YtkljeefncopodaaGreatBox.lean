/- Boxes: a block of the call's own that is known whole; rows of the call's own. No condition on the program. -/
import Derived.Test.YtkljeefncopodaaGreatRep
namespace Go.Proofs.YtkljeefncopodaaGreat
open Go.RowKit
set_option linter.unusedSimpArgs false
set_option linter.unusedVariables false
set_option maxRecDepth 20000

theorem fr_set (w : World) (b o : Nat) (v : Value) : Fr (fun k => k = b) w (w.setCell ⟨b, o, none⟩ v) := ⟨rfl, rfl, rfl, by simp, fun k _ hk => heap_setCell_other _ _ _ _ hk⟩
theorem own_fr {F : Nat → Prop} {w w' : World} {B e size n : Nat} {v : Value} {xs : List Value} (h : w.ownsRow B e size v n xs) (hf : Fr F w w') (hD : SlIn (fun k => ¬ F k) v) : w'.ownsRow B e size v n xs := by
  obtain ⟨h1, h2⟩ := h
  refine ⟨h1, ?_⟩
  rcases h2 with h2 | ⟨g, cap, cur, hv, hg, hh, r⟩
  · exact Or.inl h2
  · exact Or.inr ⟨g, cap, cur, hv, hg, by rw [hf.block g (Array.getElem?_eq_some_iff.1 hh).1 (hD _ _ _ hv)]; exact hh, r⟩
/-- rows of unlike types lie in unlike blocks -/
theorem own_apart {w : World} {B e size n B' e' size' n' : Nat} {v v' : Value} {xs xs' : List Value} (h : w.ownsRow B e size v n xs) (h' : w.ownsRow B' e' size' v' n' xs') (he : e ≠ e') : SlIn (fun k => ¬ v'.ownBlock = some k) v := by
  obtain ⟨_, h⟩ := h
  obtain ⟨_, h'⟩ := h'
  intro p n c hv
  rcases h with ⟨rfl, rfl⟩ | ⟨g, cap, cur, rfl, hg, hh, _⟩
  · simp at hv
  · simp only [Value.slice.injEq, Option.some.injEq] at hv
    obtain ⟨rfl, _, _⟩ := hv
    rcases h' with ⟨rfl, rfl⟩ | ⟨g', cap', cur', rfl, hg', hh', _⟩
    · simp [Value.ownBlock]
    · intro hk
      simp [Value.ownBlock] at hk
      subst hk
      rw [hh] at hh'
      simp at hh'
      exact he hh'.2

theorem own_nil (w : World) (B e size : Nat) : w.ownsRow B e size (.slice none 0 0) 0 [] := ⟨by simp, Or.inl ⟨rfl, rfl⟩⟩
/-- a box of the call's own -/
def Box1 (N : Nat) (R : List Value) (w : World) : Prop :=
  (∀ j v, R[j]? = some v → w.cell? ⟨N, j, none⟩ = some v) ∧ (∀ j, w.frozen? ⟨N, j, none⟩ = false) ∧ N < w.heap.size
theorem Box1.below {N : Nat} {R : List Value} {w w' : World} (h : Box1 N R w) {B : Nat} (hB : w.heap.size ≤ B) (hb : Below B w w') : Box1 N R w' := by
  obtain ⟨i, j, k⟩ := h
  obtain ⟨hc, hf⟩ := bcell hb
  exact ⟨fun x v hx => (hc _ _ (by omega)).trans (i x v hx), fun x => (hf _ _ (by omega)).trans (j x), Nat.lt_of_lt_of_le k hb.size⟩
theorem Box1.start (w : World) (R : List Value) (t : Nat) : Box1 w.heap.size R (w.alloc (.cells R.toArray t)) := by
  have h1 : (w.alloc (.cells R.toArray t)).heap[w.heap.size]? = some (.cells R.toArray t (0, 0)) := by show (w.heap.push _)[w.heap.size]? = _; simp
  refine ⟨fun j v hj => ?_, fun j => ?_, by simp⟩
  · rw [cell_of_row _ _ _ _ _ _ h1]; simpa using hj
  · exact frozen_of_row _ _ _ _ _ h1

theorem Box1.fr {F : Nat → Prop} {N : Nat} {R : List Value} {w w' : World} (h : Box1 N R w) (hf : Fr F w w') (hN : ¬ F N) : Box1 N R w' := by
  obtain ⟨i, j, k⟩ := h
  refine ⟨fun x v hx => hf.cell (i x v hx) hN, fun x => ?_, Nat.lt_of_lt_of_le k hf.size⟩
  rw [← j x]; simp only [World.frozen?, hf.block N k hN]

/-- a block that is known whole -/
def BoxW (N : Nat) (R : List Value) (t : Nat) (w : World) : Prop := w.heap[N]? = some (.cells R.toArray t (0, 0))
theorem BoxW.lt {N t : Nat} {R : List Value} {w : World} (h : BoxW N R t w) : N < w.heap.size := (Array.getElem?_eq_some_iff.1 h).1
theorem BoxW.fr {F : Nat → Prop} {N t : Nat} {R : List Value} {w w' : World} (h : BoxW N R t w) (hf : Fr F w w') (hN : ¬ F N) : BoxW N R t w' := (hf.block N h.lt hN).trans h
theorem BoxW.below {N t : Nat} {R : List Value} {w w' : World} (h : BoxW N R t w) {B : Nat} (hB : w.heap.size ≤ B) (hb : Below B w w') : BoxW N R t w' := (hb.block N (Nat.lt_of_lt_of_le h.lt hB)).trans h
theorem BoxW.start (w : World) (R : List Value) (t : Nat) : BoxW w.heap.size R t (w.alloc (.cells R.toArray t)) := by show (w.heap.push _)[w.heap.size]? = _; simp
theorem BoxW.box {N t : Nat} {R : List Value} {w : World} (h : BoxW N R t w) : Box1 N R w := by
  refine ⟨fun j v hj => ?_, fun j => frozen_of_row _ _ _ _ _ h, h.lt⟩
  rw [cell_of_row _ _ _ _ _ _ h]; simpa using hj
theorem BoxW.set3 {N t : Nat} {a b c a' b' c' : Value} {w : World} (h : BoxW N [a, b, c] t w) : BoxW N [a', b', c'] t (((w.setCell ⟨N, 0, none⟩ a').setCell ⟨N, 1, none⟩ b').setCell ⟨N, 2, none⟩ c') := by
  have h1 := heap_setCell_same w N 0 _ t a' h
  have h2 := heap_setCell_same _ N 1 _ t b' h1
  have h3 := heap_setCell_same _ N 2 _ t c' h2
  unfold BoxW
  rw [h3]; rfl
theorem BoxW.no_string {N t : Nat} {R : List Value} {w : World} (h : BoxW N R t w) (hR : ∀ b, Value.string b ∉ R) {p : Addr} {b : ByteArray} (hp : w.cell? p = some (.string b)) : p.block ≠ N := by
  obtain ⟨blk, off, row⟩ := p
  rintro rfl
  unfold World.cell? at hp
  rw [show w.heap[blk]? = _ from h] at hp
  simp only at hp
  split at hp
  · cases hp
  · have : R[off]? = some (.string b) := by simpa using hp
    exact hR b (List.mem_of_getElem? this)
theorem own_slin {w : World} {B e size n : Nat} {v : Value} {xs : List Value} (h : w.ownsRow B e size v n xs) {F : Nat → Prop} (hF : ∀ b, v.ownBlock = some b → ¬ F b) : SlIn (fun k => ¬ F k) v := by
  obtain ⟨_, h⟩ := h
  intro p n' c hv
  rcases h with ⟨rfl, rfl⟩ | ⟨g, cap, cur, rfl, _⟩
  · simp at hv
  · simp only [Value.slice.injEq, Option.some.injEq] at hv
    obtain ⟨rfl, _, _⟩ := hv
    exact hF g rfl
theorem own_blk {w : World} {B e size n : Nat} {v : Value} {xs : List Value} (h : w.ownsRow B e size v n xs) {b : Nat} (hb : v.ownBlock = some b) : B ≤ b ∧ b < w.heap.size := by
  obtain ⟨_, h⟩ := h
  rcases h with ⟨rfl, rfl⟩ | ⟨g, cap, cur, rfl, hg, hh, _⟩
  · simp [Value.ownBlock] at hb
  · simp only [Value.ownBlock, Option.some.injEq] at hb
    subst hb
    exact ⟨hg, (Array.getElem?_eq_some_iff.1 hh).1⟩

theorem BoxW.set2 {N t : Nat} {a b a' b' : Value} {w : World} (h : BoxW N [a, b] t w) : BoxW N [a', b'] t ((w.setCell ⟨N, 0, none⟩ a').setCell ⟨N, 1, none⟩ b') := by
  have h1 := heap_setCell_same w N 0 _ t a' h
  have h2 := heap_setCell_same _ N 1 _ t b' h1
  unfold BoxW
  rw [h2]; rfl
theorem BoxW.no_byte {N t : Nat} {R : List Value} {w : World} (h : BoxW N R t w) (hR : ∀ b, byteV b ∉ R) {p : Addr} {b : UInt8} (hp : w.cell? p = some (byteV b)) : p.block ≠ N := by
  obtain ⟨blk, off, row⟩ := p
  rintro rfl
  unfold World.cell? at hp
  rw [show w.heap[blk]? = _ from h] at hp
  simp only at hp
  split at hp
  · cases hp
  · have : R[off]? = some (byteV b) := by simpa using hp
    exact hR b (List.mem_of_getElem? this)
theorem BoxW.bytes {N t : Nat} {R : List Value} {w w' : World} (h : BoxW N R t w) (hR : ∀ b, byteV b ∉ R) {v : Value} {d : List UInt8} (hd : Bytes w v d) (hf : Fr (fun k => k = N) w w') : Bytes w' v d := by
  obtain ⟨a, cap, rfl, h1, h2, h3, h4⟩ := hd
  refine ⟨a, cap, rfl, h1, h2, h3, fun j x hx => ?_⟩
  obtain ⟨p, hp, hc⟩ := h4 j x hx
  refine ⟨p, hp, hf.cell hc ?_⟩
  have hx' : ∃ b, x = byteV b := by
    simp only [byteVs, List.getElem?_map] at hx
    cases hq : d[j]? with
    | none => rw [hq] at hx; simp at hx
    | some b => rw [hq] at hx; simp at hx; exact ⟨b, hx.symm⟩
  obtain ⟨b, rfl⟩ := hx'
  exact h.no_byte hR hc
end Go.Proofs.YtkljeefncopodaaGreat
