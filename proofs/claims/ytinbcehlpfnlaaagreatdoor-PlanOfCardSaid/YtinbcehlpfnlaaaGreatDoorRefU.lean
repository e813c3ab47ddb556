/- The document's unit (holdfastref08): what each function answers. -/
import Derived.Test.YtinbcehlpfnlaaaGreatDoorCell
import Derived.StillTailTactics
namespace Go.Proofs.YtinbcehlpfnlaaaGreatDoor
open Go.RowKit
set_option linter.unusedSimpArgs false
set_option linter.unusedVariables false
set_option maxRecDepth 20000


/-- the document's cell, as a value -/
def rcellV (c : C) : Value := .agg #[.int .i64 c.k, .string (strOf c.d)]
def rent (p : Int × C) : List Value := [.int .i64 p.1, .int .i64 p.2.k, .string (strOf p.2.d)]
def rents (L : List (Int × C)) : List Value := L.flatMap rent
theorem rents_len (L : List (Int × C)) : (rents L).length = L.length * 3 := by
  induction L with
  | nil => rfl
  | cons p L ih => simp only [rents, List.flatMap_cons, List.length_append] at *; rw [ih]; simp [rent]; omega
theorem rents_append (L M : List (Int × C)) : rents (L ++ M) = rents L ++ rents M := by simp [rents]
theorem rents_one : ∀ (L : List (Int × C)), ∀ u ∈ rents L, u.oneCell' = true := by
  intro L u hu
  obtain ⟨p, _, hp⟩ := List.mem_flatMap.1 hu
  simp [rent] at hp
  rcases hp with rfl | rfl | rfl <;> rfl
theorem rents_get (L : List (Int × C)) (k : Nat) (hk : k < L.length) (j : Nat) (hj : j < 3) : (rents L)[k * 3 + j]? = (rent L[k])[j]? := by
  induction L generalizing k with
  | nil => simp at hk
  | cons p L ih =>
    simp only [rents, List.flatMap_cons]
    cases k with
    | zero => rw [List.getElem?_append_left (by simp [rent]; omega)]; simp
    | succ k =>
      rw [List.getElem?_append_right (by simp [rent]; omega)]
      have := ih k (by simpa using hk)
      simp only [rents] at this
      simp only [List.getElem_cons_succ]
      rw [← this]
      congr 1
      simp [rent]; omega

theorem add_lit (b o j : Nat) : (⟨b, o, none⟩ : Addr).add j = ⟨b, o + j, none⟩ := by unfold Addr.add; split <;> simp_all

/-- the address of a slice that holds something -/
theorem SlV.addr {w : World} {a : Option Addr} {n cap : Nat} {cs : List Value} (h : SlV w (.slice a n cap) n cs) (hne : cs ≠ []) : ∃ b off, a = some ⟨b, off, none⟩ ∧ b < w.heap.size ∧ ∀ j u, cs[j]? = some u → w.cell? ⟨b, off + j, none⟩ = some u := by
  obtain ⟨a', c', he, h1, h2, h0, h3⟩ := h
  cases he
  cases cs with
  | nil => exact absurd rfl hne
  | cons c0 cs =>
    obtain ⟨p, hp, hc⟩ := h3 0 c0 rfl
    have hb := cell_lt hc
    rw [add_block] at hb
    obtain ⟨b, off, sp⟩ := p
    have hsp : sp = none := by
      cases sp with
      | none => rfl
      | some x => simp [World.cell?, Addr.add] at hc; split at hc <;> simp at hc
    subst hsp
    refine ⟨b, off, hp, hb, fun j u hu => ?_⟩
    obtain ⟨q, hq, hcq⟩ := h3 j u hu
    rw [hp] at hq; cases hq
    rw [add_lit] at hcq; exact hcq

def RList (w : World) (s : Value) (L : List (Int × C)) : Prop := SlV w s L.length (rents L)
theorem RList.get {w : World} {a : Option Addr} {cap : Nat} {L : List (Int × C)} (h : RList w (.slice a L.length cap) L) {k : Nat} (hk : k < L.length) :
    ∃ b off, a = some ⟨b, off, none⟩ ∧ b < w.heap.size ∧ w.cell? ⟨b, off + k * 3, none⟩ = some (.int .i64 L[k].1) ∧ w.cell? ⟨b, off + k * 3 + 1, none⟩ = some (.int .i64 L[k].2.k) ∧ w.cell? ⟨b, off + k * 3 + 2, none⟩ = some (.string (strOf L[k].2.d)) := by
  obtain ⟨b, off, ha, hb, hc⟩ := SlV.addr h (by intro h0; have := congrArg List.length h0; rw [rents_len] at this; simp at this; omega)
  refine ⟨b, off, ha, hb, ?_, ?_, ?_⟩
  · have := hc (k * 3 + 0) _ (by rw [rents_get L k hk 0 (by omega)]; rfl); simpa using this
  · have := hc (k * 3 + 1) _ (by rw [rents_get L k hk 1 (by omega)]; rfl); simpa [Nat.add_assoc] using this
  · have := hc (k * 3 + 2) _ (by rw [rents_get L k hk 2 (by omega)]; rfl); simpa [Nat.add_assoc] using this

theorem strOf_nil : strOf [] = ByteArray.empty := rfl


theorem take_succ {α : Type} (L : List α) (k : Nat) (hk : k < L.length) : L.take (k + 1) = L.take k ++ [L[k]] := by
  rw [List.take_succ_eq_append_getElem hk]
theorem lookC_at {L : List (Int × C)} {a : Int} {k : Nat} (hk : k < L.length) (hno : (L.take k).any (·.1 == a) = false) (he : L[k].1 = a) : lookC L a = L[k].2 := by
  have hs : L = L.take k ++ L[k] :: L.drop (k + 1) := by rw [← List.drop_eq_getElem_cons hk, List.take_append_drop]
  have hf : (L.take k).find? (·.1 == a) = none := by rw [List.find?_eq_none]; rw [List.any_eq_false] at hno; exact fun x hx => by simpa using hno x hx
  unfold lookC
  have : L.find? (·.1 == a) = some L[k] := by
    conv => lhs; rw [hs]
    rw [List.find?_append, hf, Option.none_or, List.find?_cons_of_pos (by simpa using he)]
  rw [this]; rfl


end Go.Proofs.YtinbcehlpfnlaaaGreatDoor
