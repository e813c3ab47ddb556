import Derived.Test.YtjkbcjliaacebaaDoM
namespace Go.Proofs.Ytjkbcjliaacebaa
open Go.RowKit
set_option linter.unusedSimpArgs false
set_option linter.unusedVariables false
set_option maxRecDepth 20000

/-- the first n cells of the block that a points at are bytes -/
def OwnB (a : Option Addr) (n : Nat) (w : World) : Prop :=
  (0 < n → ∃ g, a = some ⟨g, 0, none⟩) ∧ ∀ g, a = some ⟨g, 0, none⟩ → ∃ cells t, w.heap[g]? = some (.cells cells t (0, 0)) ∧ ∀ j, j < n → ∃ b : UInt8, cells[j]? = some (byteV b)
/-- every cell that holds no byte is as it was -/
def KeepB (w w' : World) : Prop := ∀ p v, w.cell? p = some v → (∀ b : UInt8, v ≠ byteV b) → w'.cell? p = some v

theorem KeepB.refl (w : World) : KeepB w w := fun _ _ h _ => h
theorem KeepB.trans {a b c : World} (h : KeepB a b) (h' : KeepB b c) : KeepB a c := fun p v hp hv => h' p v (h p v hp hv) hv
theorem OwnB.of_own {w : World} {B e n : Nat} {a : Option Addr} {c : Nat} {l : List UInt8} (h : w.ownsRow B e 1 (.slice a n c) n (byteVs l)) (hl : l.length = n) : OwnB a n w := by
  obtain ⟨_, h⟩ := h
  rcases h with ⟨h1, h2⟩ | ⟨g, cap, cur, h1, hg, hh, h3, h4, h5, h6⟩
  · cases h1
    exact ⟨fun h => absurd h (Nat.lt_irrefl _), fun g hg => by cases hg⟩
  · cases h1
    refine ⟨fun _ => ⟨g, rfl⟩, fun g' hg' => ?_⟩
    cases hg'
    refine ⟨cur, e, hh, fun j hj => ?_⟩
    have hw : w.ownsRow B e 1 (.slice (some ⟨g, 0, none⟩) n c) n (byteVs l) := ⟨by simp [byteVs, hl], Or.inr ⟨g, c, cur, rfl, hg, hh, h3, h4, h5, h6⟩⟩
    obtain ⟨_, _, he, _, _, _, hc⟩ := SlV.of_own hw
    cases he
    obtain ⟨p, hp, hcp⟩ := hc j (byteV (l[j]'(by omega))) (by simp [byteVs, hl, hj])
    cases hp
    rw [add_lit, cell_of_row _ _ _ _ _ _ hh] at hcp
    exact ⟨_, by simpa using hcp⟩
theorem OwnB.get {a : Option Addr} {n : Nat} {w : World} (h : OwnB a n w) {k : Nat} (hk : k < n) : ∃ g, a = some ⟨g, 0, none⟩ ∧ g < w.heap.size ∧ (∃ b : UInt8, w.cell? ⟨g, k, none⟩ = some (byteV b)) ∧ w.frozen? ⟨g, k, none⟩ = false := by
  obtain ⟨g, rfl⟩ := h.1 (by omega)
  obtain ⟨cells, t, hh, hc⟩ := h.2 g rfl
  obtain ⟨b, hb⟩ := hc k hk
  exact ⟨g, rfl, (Array.getElem?_eq_some_iff.1 hh).1, ⟨b, by rw [cell_of_row _ _ _ _ _ _ hh]; exact hb⟩, frozen_of_row _ _ _ _ _ hh⟩
theorem OwnB.set {g : Nat} {n : Nat} {w : World} (h : OwnB (some ⟨g, 0, none⟩) n w) (k : Nat) (b : UInt8) : OwnB (some ⟨g, 0, none⟩) n (w.setCell ⟨g, k, none⟩ (byteV b)) := by
  refine ⟨fun _ => ⟨g, rfl⟩, fun g' hg => ?_⟩
  cases hg
  obtain ⟨cells, t, hh, hc⟩ := h.2 g rfl
  refine ⟨_, t, heap_setCell_same w g k cells t _ hh, fun j hj => ?_⟩
  obtain ⟨b', hb'⟩ := hc j hj
  by_cases hjk : k = j
  · subst hjk
    refine ⟨b, ?_⟩
    rw [Array.getElem?_setIfInBounds_self_of_lt (Array.getElem?_eq_some_iff.1 hb').1]
  · exact ⟨b', by rw [Array.getElem?_setIfInBounds_ne hjk]; exact hb'⟩
theorem OwnB.other {a : Option Addr} {n : Nat} {w w' : World} {F : Nat → Prop} (h : OwnB a n w) (hf : Fr F w w') (hF : ∀ g, a = some ⟨g, 0, none⟩ → ¬ F g) : OwnB a n w' := by
  refine ⟨h.1, fun g hg => ?_⟩
  obtain ⟨cells, t, hh, hc⟩ := h.2 g hg
  exact ⟨cells, t, (hf.block g (Array.getElem?_eq_some_iff.1 hh).1 (hF g hg)).trans hh, hc⟩
theorem KeepB.set {w : World} {p : Addr} {b : UInt8} (hp : w.cell? p = some (byteV b)) (x : Value) : KeepB w (w.setCell p x) := by
  intro q v hq hv
  rw [World.cell?_setCell_other w p q x (fun e => ?_)]
  · exact hq
  · subst e; rw [hp] at hq; cases hq; exact hv b rfl
theorem KeepB.rlist {w w' : World} (h : KeepB w w') {v : Value} {L : List (Int × C)} (hd : RList w v L) : RList w' v L := by
  obtain ⟨a, cap, rfl, h1, h2, h3, h4⟩ := hd
  refine ⟨a, cap, rfl, h1, h2, h3, fun j x hx => ?_⟩
  obtain ⟨p, rfl, hc⟩ := h4 j x hx
  refine ⟨p, rfl, h _ _ hc ?_⟩
  intro b hb
  subst hb
  have hm := List.mem_of_getElem? hx
  simp only [rents, List.mem_flatMap] at hm
  obtain ⟨q, _, hq⟩ := hm
  simp [rent, byteV] at hq
/-- what is left of the boxes behind the two loops -/
structure DoEnd (N : Nat) (w : World) (m : U) (ma : Option Addr) (mc : Nat) (bu bm : Nat) (u : U) (wc : World) : Prop where
  bm' : BoxW N [.int .i64 m.e, .int .i64 m.l, .slice ma m.cells.length mc] 61 wc
  br : BoxW (N + 1 + 1) zU 61 wc
  unit : UnitAt (fun k => k = bu ∨ k = bm ∨ k = N + 1 + 1) wc bu bm u
  fr : Fr (fun k => k = bu ∨ k = bm) w wc
  lu : bu < N
  lm : bm < N
  lw : w.heap.size ≤ N
theorem DoIn.over {N X : Nat} {w : World} {m : U} {ma : Option Addr} {mc : Nat} {kd e ad : Int} {da : Option Addr} {d : List UInt8} {dc : Nat} {bu bm : Nat} {u : U} {oa : Option Addr} {oc : Nat} {x c : C} {ca : Option Addr} {cc : Nat} {wc w1 w2 : World}
    (h : DoIn N X w m ma mc kd e ad da d dc bu bm u oa oc x c ca cc wc) (h1 : Fr (fun q => (Value.slice oa d.length oc).ownBlock = some q) wc w1) (h2 : Fr (fun q => (Value.slice ca c.d.length cc).ownBlock = some q) w1 w2) : DoEnd N w m ma mc bu bm u w2 := by
  have hf : Fr (fun q => (Value.slice oa d.length oc).ownBlock = some q ∨ (Value.slice ca c.d.length cc).ownBlock = some q) wc w2 := (h1.mono (fun i hi => .inl hi)).trans (h2.mono (fun i hi => Or.inr hi)) (fun i hi => .inl hi)
  have a1 := h.lu; have a2 := h.lm; have a3 := h.nx; have a4 := h.lw
  have hq : ∀ q, ((Value.slice oa d.length oc).ownBlock = some q ∨ (Value.slice ca c.d.length cc).ownBlock = some q) → (N + 1 + 1 + 1 ≤ q ∧ q < X) ∨ X + 2 ≤ q := by
    rintro q (hq | hq)
    · exact .inl ⟨(own_blk h.own hq).1, (h.ownIn q hq).2⟩
    · exact .inr (own_blk h.cown hq).1
  have hu := h.unit.fr hf (fun hk => by have := hq _ hk; omega) (fun hk => by have := hq _ hk; omega) (fun k hk => by
    rcases hk with hk | hk
    · exact .inr (.inr (.inl ⟨by have := own_blk h.own hk; omega, by have := h.ownIn k hk; omega⟩))
    · exact .inr (.inr (.inr hk)))
  exact ⟨h.bm'.fr hf (fun hk => by have := hq _ hk; omega), h.br.fr hf (fun hk => by have := hq _ hk; omega), hu.weak (fun k hk => by rcases hk with hk | hk | hk; exact .inl (.inl hk); exact .inl (.inr (.inl hk)); exact .inl (.inr (.inr (.inl ⟨by omega, by omega⟩)))) (.inl rfl) (.inr (.inl rfl)), h.fr.trans hf (fun i hi => .inr (by have := hq _ hi; omega)), a1, a2, a4⟩
theorem DoEnd.fin {N : Nat} {w : World} {m : U} {ma : Option Addr} {mc : Nat} {bu bm : Nat} {u : U} {wc w2 : World} (h : DoEnd N w m ma mc bu bm u wc) (hr : RList wc (.slice ma m.cells.length mc) m.cells) (hb : Below wc.heap.size wc w2) (a b c : Value) :
    RList (((w2.setCell ⟨N + 1 + 1, 0, none⟩ a).setCell ⟨N + 1 + 1, 1, none⟩ b).setCell ⟨N + 1 + 1, 2, none⟩ c) (.slice ma m.cells.length mc) m.cells ∧ UnitAt (fun k => k = bu ∨ k = bm) (((w2.setCell ⟨N + 1 + 1, 0, none⟩ a).setCell ⟨N + 1 + 1, 1, none⟩ b).setCell ⟨N + 1 + 1, 2, none⟩ c) bu bm u ∧
      Fr (fun k => k = bu ∨ k = bm) w (((w2.setCell ⟨N + 1 + 1, 0, none⟩ a).setCell ⟨N + 1 + 1, 1, none⟩ b).setCell ⟨N + 1 + 1, 2, none⟩ c) := by
  have hf : Fr (fun k => k = N + 1 + 1) w2 (((w2.setCell ⟨N + 1 + 1, 0, none⟩ a).setCell ⟨N + 1 + 1, 1, none⟩ b).setCell ⟨N + 1 + 1, 2, none⟩ c) :=
    ((fr_set _ _ _ _).trans (fr_set _ _ _ _) (fun i hi => .inl hi)).trans (fr_set _ _ _ _) (fun i hi => .inl hi)
  generalize (((w2.setCell ⟨N + 1 + 1, 0, none⟩ a).setCell ⟨N + 1 + 1, 1, none⟩ b).setCell ⟨N + 1 + 1, 2, none⟩ c) = wv at *
  have a1 := h.lu; have a2 := h.lm; have a4 := h.lw
  have hbr := h.br.below (Nat.le_refl _) hb
  have hu := (h.unit.below (Nat.le_refl _) hb).fr hf (by omega) (by omega) (fun k hk => .inr (.inr hk))
  exact ⟨hbr.rlist (by intro b hb; simp [zU] at hb) (SlV.below hr (Nat.le_refl _) hb) hf, hu.weak (fun k hk => by rcases hk with hk | hk; exact .inl (.inl hk); exact .inl (.inr (.inl hk))) (.inl rfl) (.inr rfl), (h.fr.trans_below hb).trans hf (fun i hi => .inr (by omega))⟩
/-- .. and what the result's box then holds, whatever was drawn -/
def FinR (N : Nat) (w : World) (m : U) (ma : Option Addr) (mc : Nat) (bu bm : Nat) (u : U) (w3 : World) : Prop :=
  RList w3 (.slice ma m.cells.length mc) m.cells ∧ UnitAt (fun k => k = bu ∨ k = bm) w3 bu bm u ∧ Fr (fun k => k = bu ∨ k = bm) w w3
theorem DoEnd.fin2 {N : Nat} {w : World} {m : U} {ma : Option Addr} {mc : Nat} {bu bm : Nat} {u : U} {wc w2 w4 : World} (h : DoEnd N w m ma mc bu bm u wc) (hr : RList wc (.slice ma m.cells.length mc) m.cells) (hb : Below wc.heap.size wc w2) (a b c : Value)
    (h4 : ∃ w3, w3 = (((w2.setCell ⟨N + 1 + 1, 0, none⟩ a).setCell ⟨N + 1 + 1, 1, none⟩ b).setCell ⟨N + 1 + 1, 2, none⟩ c) ∧ (w4 = w3 ∨ w4 = w3.drew)) :
    FinR N w m ma mc bu bm u w4 ∧ w4.cell? ⟨N + 1 + 1, 0, none⟩ = some a ∧ w4.cell? ⟨N + 1 + 1, 1, none⟩ = some b ∧ w4.cell? ⟨N + 1 + 1, 2, none⟩ = some c := by
  obtain ⟨w3, rfl, h5⟩ := h4
  have h6 := BoxW.set3 (a' := a) (b' := b) (c' := c) (h.br.below (Nat.le_refl _) hb)
  have h7 := h.fin hr hb a b c
  have h8 : Below (((w2.setCell ⟨N + 1 + 1, 0, none⟩ a).setCell ⟨N + 1 + 1, 1, none⟩ b).setCell ⟨N + 1 + 1, 2, none⟩ c).heap.size (((w2.setCell ⟨N + 1 + 1, 0, none⟩ a).setCell ⟨N + 1 + 1, 1, none⟩ b).setCell ⟨N + 1 + 1, 2, none⟩ c) w4 := by
    rcases h5 with rfl | rfl
    · exact Below.refl _ _
    · exact Below.drew (Below.refl _ _)
  generalize (((w2.setCell ⟨N + 1 + 1, 0, none⟩ a).setCell ⟨N + 1 + 1, 1, none⟩ b).setCell ⟨N + 1 + 1, 2, none⟩ c) = w3 at *
  have h9 := (h6.below (Nat.le_refl _) h8).box.1
  exact ⟨⟨SlV.below h7.1 (Nat.le_refl _) h8, h7.2.1.below (Nat.le_refl _) h8, h7.2.2.trans_below h8⟩, h9 0 _ rfl, h9 1 _ rfl, h9 2 _ rfl⟩
end Go.Proofs.Ytjkbcjliaacebaa
