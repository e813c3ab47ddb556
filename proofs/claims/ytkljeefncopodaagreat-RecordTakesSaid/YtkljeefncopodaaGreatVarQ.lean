/- Numbers out of bytes, as the document takes them: the bytes are those of the number that they say. Plain. -/
import Derived.Test.YtkljeefncopodaaGreatFmtM
namespace Go.Proofs.YtkljeefncopodaaGreat
set_option linter.unusedSimpArgs false
set_option linter.unusedVariables false

theorem vtake_at {b : List UInt8} {k : Nat} (hk : k < b.length) (h : ∀ y ∈ b.take k, 128 ≤ y.toNat) (hx : b[k].toNat < 128) {m j : Nat} (hv : vtake b = some (m, j)) : j = k + 1 ∧ vb m = b.take (k + 1) ∧ m < 18446744073709551616 := by
  obtain ⟨h1, h2, h3, h4, h5⟩ := vtake_some hv
  obtain ⟨a, x, hax, hx1, ha, _⟩ := canon_end (canon_vb m)
  rw [h1] at hax
  have hlen : a.length + 1 = j := by
    have := congrArg List.length hax
    rw [List.length_take, List.length_append] at this
    simp only [List.length_cons, List.length_nil] at this
    omega
  have hget : ∀ i, i < j → b[i]? = (a ++ [x])[i]? := fun i hi => by rw [← hax, List.getElem?_take, if_pos hi]
  have hj : j = k + 1 := by
    rcases Nat.lt_trichotomy j (k + 1) with hlt | heq | hgt
    · exfalso
      have e1 := hget (j - 1) (by omega)
      rw [List.getElem?_append_right (by omega), show j - 1 - a.length = 0 by omega] at e1
      simp only [List.getElem?_cons_zero] at e1
      have e2 : (b.take k)[j - 1]? = some x := by rw [List.getElem?_take, if_pos (by omega)]; exact e1
      have := h x (List.mem_of_getElem? e2)
      omega
    · exact heq
    · exfalso
      have e1 := hget k (by omega)
      rw [List.getElem?_append_left (by omega), List.getElem?_eq_getElem hk] at e1
      have := ha _ (List.mem_of_getElem? e1.symm)
      omega
  exact ⟨hj, hj ▸ h1, h2⟩
/-- the number that the bytes up to their end say, as a machine's number -/
def vvm (b : List UInt8) (k : Nat) : Nat := vv (b.take (k + 1)) % 18446744073709551616
theorem vtake_yes {b : List UInt8} {k : Nat} (hk : k < b.length) (hm : vb (vvm b k) = b.take (k + 1)) : vtake b = some (vvm b k, k + 1) := by
  have hlt : vvm b k < 18446744073709551616 := Nat.mod_lt _ (by decide)
  have h1 := vtake_vb (vvm b k) hlt (b.drop (k + 1))
  rw [hm, List.take_append_drop] at h1
  rw [h1, List.length_take]
  congr 2
  omega
theorem vtake_not {b : List UInt8} {k : Nat} (hk : k < b.length) (h : ∀ y ∈ b.take k, 128 ≤ y.toNat) (hx : b[k].toNat < 128) (hm : vb (vvm b k) ≠ b.take (k + 1)) : vtake b = none := by
  cases hv : vtake b with
  | none => rfl
  | some p =>
    obtain ⟨m, j⟩ := p
    obtain ⟨h1, h2, h3⟩ := vtake_at hk h hx hv
    exfalso
    apply hm
    have : vvm b k = m := by unfold vvm; rw [← h2, vv_vb]; exact Nat.mod_eq_of_lt h3
    rw [this]; exact h2
/-- no end among the first ten -/
theorem vtake_long {b : List UInt8} (h : ∀ y ∈ b.take 10, 128 ≤ y.toNat) : vtake b = none := by
  cases hv : vtake b with
  | none => rfl
  | some p =>
    obtain ⟨m, j⟩ := p
    obtain ⟨h1, h2, h3, h4, h5⟩ := vtake_some hv
    exfalso
    obtain ⟨a, x, hax, hx1, ha, _⟩ := canon_end (canon_vb m)
    rw [h1] at hax
    have hxm : x ∈ b.take j := by rw [hax]; simp
    have hsub : b.take j <+: b.take 10 := List.take_prefix_take_left h3
    have := h x (hsub.subset hxm)
    omega
end Go.Proofs.YtkljeefncopodaaGreat
