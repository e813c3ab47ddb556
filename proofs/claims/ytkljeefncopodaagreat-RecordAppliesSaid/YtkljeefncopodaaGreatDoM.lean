import Derived.Test.YtkljeefncopodaaGreatDocU
import Derived.Test.YtkljeefncopodaaGreatRef08
import Derived.Test.YtkljeefncopodaaGreatUnitN
namespace Go.Proofs.YtkljeefncopodaaGreat
open Go.RowKit
set_option linter.unusedSimpArgs false
set_option linter.unusedVariables false
set_option maxRecDepth 20000

/-- no byte lies in a unit's own two blocks -/
theorem UnitAt.no_byte {A : Nat → Prop} {w : World} {bu bm : Nat} {u : U} (h : UnitAt A w bu bm u) {p : Addr} {b : UInt8} (hp : w.cell? p = some (byteV b)) : ¬ (p.block = bu ∨ p.block = bm) := by
  obtain ⟨blk, off, row⟩ := p
  obtain ⟨L, ⟨es, clock, h1, _⟩, _⟩ := h.map
  rintro (rfl | rfl)
  · unfold World.cell? at hp
    rw [h.blk] at hp
    simp only at hp
    split at hp
    · cases hp
    · match off with
      | 0 => simp [byteV] at hp
      | 1 => simp [byteV] at hp
      | 2 => simp [byteV] at hp
      | n + 3 => simp at hp
  · unfold World.cell? at hp
    rw [h1] at hp
    simp only at hp
    cases hp
theorem UnitAt.bytes {A : Nat → Prop} {w w' : World} {bu bm : Nat} {u : U} (h : UnitAt A w bu bm u) {v : Value} {d : List UInt8} (hd : Bytes w v d) (hf : Fr (fun k => k = bu ∨ k = bm) w w') : Bytes w' v d := by
  obtain ⟨a, cap, rfl, h1, h2, h3, h4⟩ := hd
  refine ⟨a, cap, rfl, h1, h2, h3, fun j x hx => ?_⟩
  obtain ⟨p, hp, hc⟩ := h4 j x hx
  refine ⟨p, hp, hf.cell hc ?_⟩
  have hx' : ∃ b, x = byteV b := by
    simp only [byteVs, List.getElem?_map] at hx
    cases hq : d[j]? with
    | none => rw [hq] at hx; simp at hx
    | some b => rw [hq] at hx; simp at hx; exact ⟨b, hx.symm⟩
  obtain ⟨b, rfl⟩ := hx'
  exact h.no_byte hc

theorem UnitAt.no_string {A : Nat → Prop} {w : World} {bu bm : Nat} {u : U} (h : UnitAt A w bu bm u) {p : Addr} {b : ByteArray} (hp : w.cell? p = some (.string b)) : ¬ (p.block = bu ∨ p.block = bm) := by
  obtain ⟨blk, off, row⟩ := p
  obtain ⟨L, ⟨es, clock, h1, _⟩, _⟩ := h.map
  rintro (rfl | rfl)
  · unfold World.cell? at hp
    rw [h.blk] at hp
    simp only at hp
    split at hp
    · cases hp
    · match off with
      | 0 => simp at hp
      | 1 => simp at hp
      | 2 => simp at hp
      | n + 3 => simp at hp
  · unfold World.cell? at hp
    rw [h1] at hp
    simp only at hp
    cases hp
theorem UnitAt.rlist {A : Nat → Prop} {w w' : World} {bu bm : Nat} {u : U} (h : UnitAt A w bu bm u) {v : Value} {L : List (Int × C)} (hd : RList w v L) (hf : Fr (fun k => k = bu ∨ k = bm) w w') : RList w' v L := by
  obtain ⟨a, cap, rfl, h1, h2, h3, h4⟩ := hd
  refine ⟨a, cap, rfl, h1, h2, h3, fun j x hx => ?_⟩
  obtain ⟨p, rfl, hc⟩ := h4 j x hx
  refine ⟨p, rfl, hf.cell hc ?_⟩
  cases L with
  | nil => simp [rents] at hx
  | cons y L =>
    obtain ⟨q, hq, hs⟩ := h4 2 (.string (strOf y.2.d)) (by simp [rents, rent])
    cases hq
    have := h.no_string hs
    rwa [add_block] at this ⊢
theorem UnitAt.weak {A A' : Nat → Prop} {w : World} {bu bm : Nat} {u : U} (h : UnitAt A w bu bm u) (hA : ∀ k, A' k → A k ∨ w.heap.size ≤ k) (h1 : A' bu) (h2 : A' bm) : UnitAt A' w bu bm u := by
  obtain ⟨L, hm, hr⟩ := h.map
  refine ⟨h.blk, ⟨L, hm, hr.mono ?_⟩, h.ok, h1, h2⟩
  rintro p q _ _ ⟨e1, a, cap, e2, e3, e4⟩
  refine ⟨e1, a, cap, e2, e3, fun x hx => ⟨fun hk => ?_, (e4 x hx).2⟩⟩
  rcases hA _ hk with hk | hk
  · exact (e4 x hx).1 hk
  · have := (e4 x hx).2; omega
theorem BoxW.rlist {N t : Nat} {R : List Value} {w w' : World} (h : BoxW N R t w) (hR : ∀ b, Value.string b ∉ R) {v : Value} {L : List (Int × C)} (hd : RList w v L) (hf : Fr (fun k => k = N) w w') : RList w' v L := by
  obtain ⟨a, cap, rfl, h1, h2, h3, h4⟩ := hd
  refine ⟨a, cap, rfl, h1, h2, h3, fun j x hx => ?_⟩
  obtain ⟨p, rfl, hc⟩ := h4 j x hx
  refine ⟨p, rfl, hf.cell hc ?_⟩
  cases L with
  | nil => simp [rents] at hx
  | cons y L =>
    obtain ⟨q, hq, hs⟩ := h4 2 (.string (strOf y.2.d)) (by simp [rents, rent])
    cases hq
    have := h.no_string hR hs
    rwa [add_block] at this ⊢

theorem kind8 (k : Int) : 0 ≤ (IntKind.u64.wrap k).tmod 8 ∧ (IntKind.u64.wrap k).tmod 8 < 8 := by
  have h : 0 ≤ IntKind.u64.wrap k := by
    have e : IntKind.u64.wrap k = k % 18446744073709551616 := by simp [IntKind.wrap, IntKind.signed, IntKind.bits]
    omega
  rw [Int.tmod_eq_emod_of_nonneg h]
  omega
end Go.Proofs.YtkljeefncopodaaGreat
