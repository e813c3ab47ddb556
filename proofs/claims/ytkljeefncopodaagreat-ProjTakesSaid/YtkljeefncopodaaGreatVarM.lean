/- Numbers in groups of seven bits: their bytes, and what bytes say. Plain. -/
import Derived.KernelRfl
namespace Go.Proofs.YtkljeefncopodaaGreat
set_option linter.unusedSimpArgs false
set_option linter.unusedVariables false

/-- a number's bytes -/
def vb (n : Nat) : List UInt8 := if h : n < 128 then [UInt8.ofNat n] else UInt8.ofNat (n % 128 + 128) :: vb (n / 128)
termination_by n
theorem vb_small {n : Nat} (h : n < 128) : vb n = [UInt8.ofNat n] := by rw [vb, dif_pos h]
theorem vb_big {n : Nat} (h : ¬ n < 128) : vb n = UInt8.ofNat (n % 128 + 128) :: vb (n / 128) := by rw [vb, dif_neg h]
theorem vb_ne (n : Nat) : vb n ≠ [] := by
  by_cases h : n < 128
  · rw [vb_small h]; simp
  · rw [vb_big h]; simp
theorem vb_len (k n : Nat) (hk : 0 < k) (h : n < 128 ^ k) : (vb n).length ≤ k := by
  induction k generalizing n with
  | zero => omega
  | succ k ih =>
    by_cases hn : n < 128
    · rw [vb_small hn]; simp
    · rw [vb_big hn]
      rw [Nat.pow_succ] at h
      have hk0 : 0 < k := by
        rcases Nat.eq_zero_or_pos k with h0 | h0
        · subst h0; simp at h; omega
        · exact h0
      have := ih (n / 128) hk0 (by rw [Nat.div_lt_iff_lt_mul (by decide)]; exact h)
      simp only [List.length_cons]; omega
theorem vb_len10 {n : Nat} (h : n < 18446744073709551616) : (vb n).length ≤ 10 := vb_len 10 n (by decide) (by omega)

/-- what the groups say, the least ahead -/
def vv : List UInt8 → Nat
  | [] => 0
  | b :: l => b.toNat % 128 + 128 * vv l
/-- .. as the reader makes it: with a weight -/
theorem vv_append (a b : List UInt8) : vv (a ++ b) = vv a + 128 ^ a.length * vv b := by
  induction a with
  | nil => simp [vv]
  | cons x a ih => simp only [List.cons_append, vv, ih, List.length_cons, Nat.pow_succ]; rw [Nat.mul_add, ← Nat.mul_assoc, Nat.mul_comm (128 ^ a.length) 128]; omega
theorem vv_vb (n : Nat) : vv (vb n) = n := by
  induction n using Nat.strongRecOn with
  | ind n ih =>
    by_cases h : n < 128
    · rw [vb_small h]; simp [vv]; omega
    · rw [vb_big h]
      simp only [vv, ih (n / 128) (by omega)]
      have : (UInt8.ofNat (n % 128 + 128)).toNat = n % 128 + 128 := by simp; omega
      rw [this]; omega
/-- the groups of a number: all but the last say 'more', the last is none of 0 unless it is the only one -/
inductive Canon : List UInt8 → Prop
  | one (b : UInt8) (h : b.toNat < 128) : Canon [b]
  | more (b : UInt8) (l : List UInt8) (h : 128 ≤ b.toNat) (hl : Canon l) (h0 : vv l ≠ 0) : Canon (b :: l)
theorem canon_vb (n : Nat) : Canon (vb n) := by
  induction n using Nat.strongRecOn with
  | ind n ih =>
    by_cases h : n < 128
    · rw [vb_small h]; exact .one _ (by simp; omega)
    · rw [vb_big h]
      refine .more _ _ (by simp; omega) (ih (n / 128) (by omega)) ?_
      rw [vv_vb]; omega
theorem u8_ext {a b : UInt8} (h : a.toNat = b.toNat) : a = b := UInt8.toNat_inj.1 h
theorem vb_vv {l : List UInt8} (h : Canon l) : vb (vv l) = l := by
  induction h with
  | one b h =>
    simp only [vv, Nat.mul_zero, Nat.add_zero, Nat.mod_eq_of_lt h]
    rw [vb_small h]; simp
  | more b l h hl h0 ih =>
    simp only [vv]
    rw [vb_big (by omega)]
    have e1 : (b.toNat % 128 + 128 * vv l) % 128 + 128 = b.toNat := by have := b.toNat_lt; omega
    have e2 : (b.toNat % 128 + 128 * vv l) / 128 = vv l := by omega
    rw [e1, e2, ih]; simp
theorem canon_inj {l : List UInt8} (h : Canon l) {n : Nat} : vb n = l ↔ n = vv l :=
  ⟨fun e => by rw [← e, vv_vb], fun e => by rw [e, vb_vv h]⟩
/-- a prefix that is a number: it ends at the first byte that says no more -/
theorem canon_end {l : List UInt8} (h : Canon l) : ∃ a x, l = a ++ [x] ∧ x.toNat < 128 ∧ (∀ y ∈ a, 128 ≤ y.toNat) ∧ (a ≠ [] → x.toNat ≠ 0) := by
  induction h with
  | one b h => exact ⟨[], b, rfl, h, by simp, by simp⟩
  | more b l h hl h0 ih =>
    obtain ⟨a, x, rfl, h1, h2, h3⟩ := ih
    refine ⟨b :: a, x, rfl, h1, ?_, fun _ hx => ?_⟩
    · intro y hy
      rcases List.mem_cons.1 hy with rfl | hy
      · exact h
      · exact h2 y hy
    · by_cases ha : a = []
      · subst ha; apply h0; simp [vv, hx]
      · exact h3 ha hx
theorem canon_mk (a : List UInt8) (x : UInt8) (h1 : x.toNat < 128) (h2 : ∀ y ∈ a, 128 ≤ y.toNat) (h3 : a ≠ [] → x.toNat ≠ 0) : Canon (a ++ [x]) ∧ (a ≠ [] → vv (a ++ [x]) ≠ 0) := by
  have key : ∀ a : List UInt8, (∀ y ∈ a, 128 ≤ y.toNat) → x.toNat ≠ 0 → Canon (a ++ [x]) ∧ vv (a ++ [x]) ≠ 0 := by
    intro a h2 h0
    induction a with
    | nil => exact ⟨.one x h1, by simp [vv]; omega⟩
    | cons b a ih =>
      obtain ⟨i1, i2⟩ := ih (fun y hy => h2 y (List.mem_cons_of_mem _ hy))
      exact ⟨.more b _ (h2 b List.mem_cons_self) i1 i2, by simp only [List.cons_append, vv]; omega⟩
  cases a with
  | nil => exact ⟨.one x h1, fun h => absurd rfl h⟩
  | cons b a =>
    have := key (b :: a) h2 (h3 (by simp))
    exact ⟨this.1, fun _ => this.2⟩

/-- where the first byte lies that says no more -/
def vend : List UInt8 → Nat → Option Nat
  | [], _ => none
  | b :: l, k => if b.toNat < 128 then some k else vend l (k + 1)
/-- the number that bytes begin with, and how many bytes it has -/
def vtake (b : List UInt8) : Option (Nat × Nat) :=
  match vend (b.take 10) 0 with
  | none => none
  | some k => if (k ≠ 0 ∧ (b.getD k 0).toNat = 0) ∨ (k = 9 ∧ 1 < (b.getD k 0).toNat) then none else some (vv (b.take (k + 1)), k + 1)
theorem vend_some {l : List UInt8} {i k : Nat} (h : vend l i = some k) : i ≤ k ∧ k - i < l.length ∧ (l.getD (k - i) 0).toNat < 128 ∧ ∀ j, j < k - i → 128 ≤ (l.getD j 0).toNat := by
  induction l generalizing i with
  | nil => cases h
  | cons b l ih =>
    unfold vend at h
    split at h
    · rename_i hb
      cases h
      refine ⟨Nat.le_refl _, by simp, by simpa using hb, fun j hj => by omega⟩
    · rename_i hb
      obtain ⟨h1, h2, h3, h4⟩ := ih h
      have e : k - i = (k - (i + 1)) + 1 := by omega
      refine ⟨by omega, by rw [List.length_cons]; omega, by rw [e, List.getD_cons_succ]; exact h3, fun j hj => ?_⟩
      cases j with
      | zero => simp; omega
      | succ j => rw [List.getD_cons_succ]; exact h4 j (by omega)
theorem vend_none {l : List UInt8} {i : Nat} (h : vend l i = none) : ∀ x ∈ l, 128 ≤ x.toNat := by
  induction l generalizing i with
  | nil => simp
  | cons b l ih =>
    unfold vend at h
    split at h
    · cases h
    · rename_i hb
      intro x hx
      rcases List.mem_cons.1 hx with rfl | hx
      · omega
      · exact ih h x hx
theorem vend_mk (a : List UInt8) (x : UInt8) (l : List UInt8) (i : Nat) (h1 : x.toNat < 128) (h2 : ∀ y ∈ a, 128 ≤ y.toNat) : vend (a ++ x :: l) i = some (i + a.length) := by
  induction a generalizing i with
  | nil => simp [vend, h1]
  | cons b a ih =>
    have hb : ¬ b.toNat < 128 := by have := h2 b List.mem_cons_self; omega
    simp only [List.cons_append, vend, if_neg hb]
    rw [ih (i + 1) (fun y hy => h2 y (List.mem_cons_of_mem _ hy))]
    simp; omega
theorem vv_lt (l : List UInt8) : vv l < 128 ^ l.length := by
  induction l with
  | nil => simp [vv]
  | cons b l ih => simp only [vv, List.length_cons, Nat.pow_succ]; omega
theorem take_getD (b : List UInt8) (k : Nat) (h : k < b.length) : b.take (k + 1) = b.take k ++ [b.getD k 0] := by
  rw [List.take_succ_eq_append_getElem h]; simp [List.getD, h]
/-- what is taken has just those bytes -/
theorem vtake_some {b : List UInt8} {n k : Nat} (h : vtake b = some (n, k)) : vb n = b.take k ∧ n < 18446744073709551616 ∧ k ≤ 10 ∧ k ≤ b.length ∧ 0 < k := by
  unfold vtake at h
  split at h
  · cases h
  · rename_i k' hv
    split at h
    · cases h
    · rename_i hn
      cases h
      obtain ⟨_, h2, h3, h4⟩ := vend_some hv
      simp only [Nat.sub_zero, List.length_take] at h2 h3 h4
      have hk10 : k' < 10 := by omega
      have hkl : k' < b.length := by omega
      have g : ∀ j, j < 10 → (b.take 10).getD j 0 = b.getD j 0 := fun j hj => by
        simp only [List.getD, List.getElem?_take, hj, if_true]
      rw [g _ hk10] at h3
      have e := take_getD b k' hkl
      have hall : ∀ y ∈ b.take k', 128 ≤ y.toNat := by
        intro y hy
        obtain ⟨j, hj, rfl⟩ := List.getElem_of_mem hy
        have hj' : j < k' := by simpa using (Nat.lt_of_lt_of_le hj (by rw [List.length_take]; omega))
        have := h4 j hj'
        rw [g _ (by omega)] at this
        simpa [List.getD, List.getElem_take, show j < b.length by omega] using this
      have hc := canon_mk (b.take k') (b.getD k' 0) h3 hall (fun hne h0 => hn (.inl ⟨fun hk0 => hne (by rw [hk0]; simp), h0⟩))
      rw [← e] at hc
      refine ⟨vb_vv hc.1, ?_, by omega, by omega, by omega⟩
      by_cases h9 : k' = 9
      · subst h9
        have h1 : (b.getD 9 0).toNat ≤ 1 := by
          apply Nat.le_of_not_lt; intro hx; exact hn (.inr ⟨rfl, hx⟩)
        rw [e, vv_append]
        have hl : (b.take 9).length = 9 := by rw [List.length_take]; omega
        have := vv_lt (b.take 9)
        rw [hl] at this ⊢
        simp only [vv]
        omega
      · have := vv_lt (b.take (k' + 1))
        rw [List.length_take] at this
        refine Nat.lt_of_lt_of_le this ?_
        refine Nat.le_trans (Nat.pow_le_pow_right (by decide) (show min (k' + 1) b.length ≤ 9 by omega)) (by decide)
/-- what is put is taken -/
theorem vtake_vb (n : Nat) (hn : n < 18446744073709551616) (l : List UInt8) : vtake (vb n ++ l) = some (n, (vb n).length) := by
  obtain ⟨a, x, e, h1, h2, h3⟩ := canon_end (canon_vb n)
  have hl := vb_len10 hn
  have hvv := vv_vb n
  rw [e] at hl hvv ⊢
  simp only [List.length_append, List.length_singleton] at hl
  have hv : vend (((a ++ [x]) ++ l).take 10) 0 = some a.length := by
    have e2 : ((a ++ [x]) ++ l).take 10 = a ++ x :: l.take (10 - (a.length + 1)) := by
      rw [List.append_assoc, List.take_append, List.take_of_length_le (by omega), List.singleton_append]
      congr 1
      have : 10 - a.length = (10 - (a.length + 1)) + 1 := by omega
      rw [this, List.take_succ_cons]
    rw [e2, vend_mk a x _ 0 h1 h2]; simp
  have hg : (((a ++ [x]) ++ l).getD a.length 0) = x := by simp [List.getD]
  unfold vtake
  rw [hv]
  simp only [hg]
  have ht : ((a ++ [x]) ++ l).take (a.length + 1) = a ++ [x] := by
    rw [List.take_append_of_le_length (by simp), List.take_of_length_le (by simp)]
  rw [ht, hvv, List.length_append, List.length_singleton]
  rw [if_neg]
  rintro (⟨h5, h6⟩ | ⟨h5, h6⟩)
  · exact h3 (fun h => h5 (by rw [h]; rfl)) h6
  · rw [vv_append, h5] at hvv
    simp only [vv] at hvv
    omega
end Go.Proofs.YtkljeefncopodaaGreat
