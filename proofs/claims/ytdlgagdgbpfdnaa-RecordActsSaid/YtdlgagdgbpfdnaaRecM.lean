/- Acts as bytes: which there are, their bytes, what bytes say. Plain. -/
import Derived.Test.YtdlgagdgbpfdnaaFrmM
namespace Go.Proofs.Ytdlgagdgbpfdnaa
set_option linter.unusedSimpArgs false
set_option linter.unusedVariables false

/-- an act -/
structure Ac where
  k : Int
  e : Int
  a : Int
  d : List UInt8
deriving DecidableEq
def Ac.zero : Ac := ⟨0, 0, 0, []⟩
def Ac.check (x : Ac) : Nat :=
  if x.k < 1 ∨ 5 < x.k ∨ x.e < 0 ∨ 1099511627776 < x.e ∨ x.a < 0 ∨ 1048576 < x.a then 1
  else if (x.k = 2 ∨ x.k = 3) ∧ x.a = 1048576 then 1
  else if 64 < x.d.length then 3
  else if x.k = 1 ∧ x.a ≠ 0 ∨ x.k ≠ 2 ∧ 0 < x.d.length then 2 else 0
def Ac.text (x : Ac) : List UInt8 := vb x.k.toNat ++ vb x.e.toNat ++ (if 1 < x.k then vb x.a.toNat else []) ++ (if x.k = 2 then headB x.d else [])
def Ac.put (x : Ac) : List UInt8 := frameB x.text
/-- the reader behind an act, and the act -/
def Ac.read (r : RD) : Ac × RD :=
  let (k, r) := r.within 5
  let r := if k < 1 then r.fail 1 else r
  let (e, r) := r.within 1099511627776
  let (a, r) := if k ≠ 1 then r.within 1048576 else (0, r)
  let (d, r) := if k = 2 then r.text 64 else ([], r)
  (⟨k, e, a, d⟩, r)
/-- an error's number, the act -/
def Ac.take (b : List UInt8) : Nat × Ac :=
  if (fone b).1 ≠ 0 then ((fone b).1, Ac.zero) else
    let (x, r) := Ac.read ⟨(fone b).2, 0⟩
    if r.fin ≠ 0 then (r.fin, Ac.zero) else if x.check ≠ 0 then (x.check, Ac.zero) else (0, x)
theorem Ac.check_ok {x : Ac} (h : x.check = 0) : 1 ≤ x.k ∧ x.k ≤ 5 ∧ 0 ≤ x.e ∧ x.e ≤ 1099511627776 ∧ 0 ≤ x.a ∧ x.a ≤ 1048576 ∧ x.d.length ≤ 64 ∧ (x.k = 1 → x.a = 0) ∧ (x.k ≠ 2 → x.d = []) := by
  unfold Ac.check at h
  split at h; · cases h
  split at h; · cases h
  split at h; · cases h
  split at h; · cases h
  rename_i h1 h2 h3 h4
  refine ⟨by omega, by omega, by omega, by omega, by omega, by omega, by omega, fun hk => ?_, fun hk => ?_⟩
  · apply Decidable.byContradiction; intro ha; exact h4 (.inl ⟨hk, ha⟩)
  · cases hd : x.d with
    | nil => rfl
    | cons b l => exact absurd (.inr ⟨hk, by rw [hd]; simp⟩) h4
theorem vb_len_le {n k : Nat} (hk : 0 < k) (h : n < 128 ^ k) : (vb n).length ≤ k := vb_len k n hk h
theorem Ac.text_len {x : Ac} (h : x.check = 0) : x.text.length ≤ 65536 := by
  obtain ⟨h1, h2, h3, h4, h5, h6, h7, h8, h9⟩ := Ac.check_ok h
  unfold Ac.text headB
  have g1 := vb_len_le (n := x.k.toNat) (k := 10) (by decide) (by omega)
  have g2 := vb_len_le (n := x.e.toNat) (k := 10) (by decide) (by omega)
  have g3 := vb_len_le (n := x.a.toNat) (k := 10) (by decide) (by omega)
  have g4 := vb_len_le (n := x.d.length) (k := 10) (by decide) (by omega)
  simp only [List.length_append]
  split <;> split <;> simp only [List.length_append, List.length_nil] <;> omega
/-- what is put is taken as it was -/
theorem Ac.take_put {x : Ac} (h : x.check = 0) : Ac.take x.put = (0, x) := by
  obtain ⟨h1, h2, h3, h4, h5, h6, h7, h8, h9⟩ := Ac.check_ok h
  unfold Ac.take Ac.put
  rw [fone_frame _ (Ac.text_len h)]
  simp only [ne_eq, not_true_eq_false, if_false]
  have hr : Ac.read ⟨x.text, 0⟩ = (x, ⟨[], 0⟩) := by
    unfold Ac.read Ac.text
    simp only [List.append_assoc]
    rw [RD.within_put x.k.toNat 5 (by omega) (by omega)]
    simp only
    rw [if_neg (show ¬ x.k.toNat < 1 by omega), RD.within_put x.e.toNat _ (by omega) (by omega)]
    simp only
    obtain ⟨k, e, a, d⟩ := x
    simp only at *
    have e1 : ((k.toNat : Nat) : Int) = k := by omega
    have e2 : ((e.toNat : Nat) : Int) = e := by omega
    have e3 : ((a.toNat : Nat) : Int) = a := by omega
    by_cases hk1 : k = 1
    · have ha := h8 hk1
      have hd := h9 (by omega)
      subst hk1; subst ha; subst hd
      simp [e2, RD.within]
    · rw [if_pos (show 1 < k by omega)]
      have hk1' : k.toNat ≠ 1 := by omega
      rw [if_pos hk1', RD.within_put a.toNat _ (by omega) (by omega)]
      simp only
      by_cases hk2 : k = 2
      · rw [if_pos hk2, if_pos (show k.toNat = 2 by omega)]
        have := RD.text_put d 64 h7 (by omega) []
        rw [List.append_nil] at this
        rw [this]
        simp only [e1, e2, e3]
      · rw [if_neg hk2, if_neg (show ¬ k.toNat = 2 by omega)]
        have hd := h9 hk2
        simp only [e1, e2, e3, hd]
  rw [hr]
  simp [RD.fin, h]
/-- what is taken has just those bytes -/
theorem Ac.put_take {b : List UInt8} {x : Ac} (h : Ac.take b = (0, x)) : x.put = b ∧ x.check = 0 := by
  unfold Ac.take at h
  split at h
  · rename_i h1; simp only [Prod.mk.injEq] at h; exact absurd h.1 h1
  rename_i h1
  have h1' : (fone b).1 = 0 := by simpa using h1
  have hf : fone b = (0, (fone b).2) := by rw [← h1']
  obtain ⟨g1, g2⟩ := fone_ok hf
  generalize (fone b).2 = t at *
  have key : ∀ y r, Ac.read ⟨t, 0⟩ = (y, r) → r.fin = 0 → y.check = 0 → t = y.text := by
    intro y r hr hfin hc
    obtain ⟨b1, b2⟩ := RD.fin_ok hfin
    unfold Ac.read at hr
    simp only at hr
    generalize hw1 : RD.within ⟨t, 0⟩ 5 = p1 at hr
    obtain ⟨k, r1⟩ := p1
    simp only at hr
    generalize hr2 : (if k < 1 then r1.fail 1 else r1) = r2 at hr
    generalize hw3 : RD.within r2 1099511627776 = p3 at hr
    obtain ⟨e, r3⟩ := p3
    simp only at hr
    generalize hw4 : (if k ≠ 1 then r3.within 1048576 else (0, r3)) = p4 at hr
    obtain ⟨a, r4⟩ := p4
    simp only at hr
    generalize hw5 : (if k = 2 then r4.text 64 else ([], r4)) = p5 at hr
    obtain ⟨d, r5⟩ := p5
    simp only [Prod.mk.injEq] at hr
    obtain ⟨rfl, rfl⟩ := hr
    -- back
    have q4 : r4.bad = 0 ∧ r4.rest = (if (k : Int) = 2 then headB d else []) ++ r5.rest := by
      by_cases hk : k = 2
      · rw [if_pos hk] at hw5
        have := RD.text_ok (r := r4) (most := 64) (by rw [hw5]; exact b1)
        rw [hw5] at this
        rw [if_pos (by omega)]
        exact ⟨this.1, this.2.1⟩
      · rw [if_neg hk] at hw5
        simp only [Prod.mk.injEq] at hw5
        obtain ⟨rfl, rfl⟩ := hw5
        rw [if_neg (by omega)]
        exact ⟨b1, rfl⟩
    have q3 : r3.bad = 0 ∧ r3.rest = (if k ≠ 1 then vb a else []) ++ r4.rest ∧ (k = 1 → a = 0) := by
      by_cases hk : k ≠ 1
      · rw [if_pos hk] at hw4
        have := RD.within_ok (r := r3) (most := 1048576) (by rw [hw4]; exact q4.1)
        rw [hw4] at this
        rw [if_pos hk]
        exact ⟨this.1, this.2.1, fun h => absurd h hk⟩
      · rw [if_neg hk] at hw4
        simp only [Prod.mk.injEq] at hw4
        obtain ⟨rfl, rfl⟩ := hw4
        rw [if_neg hk]
        exact ⟨q4.1, rfl, fun _ => rfl⟩
    have q2 := RD.within_ok (r := r2) (most := 1099511627776) (by rw [hw3]; exact q3.1)
    rw [hw3] at q2
    have hk1 : ¬ k < 1 := by
      intro hk
      rw [if_pos hk] at hr2
      have := q2.1
      rw [← hr2] at this
      exact RD.fail_ok this (by decide)
    rw [if_neg hk1] at hr2
    subst hr2
    have q1 := RD.within_ok (r := ⟨t, 0⟩) (most := 5) (by rw [hw1]; exact q2.1)
    rw [hw1] at q1
    have q1' : t = vb k ++ r1.rest := q1.2.1
    have q2' : r1.rest = vb e ++ r3.rest := q2.2.1
    rw [q1', q2', q3.2.1, q4.2, b2]
    unfold Ac.text
    simp only [Int.toNat_natCast, List.append_assoc, List.append_nil]
    congr 2
    by_cases hk : k = 1
    · subst hk
      simp
    · rw [if_pos hk, if_pos (show (1 : Int) < k by omega)]
  generalize hr : Ac.read ⟨t, 0⟩ = p at *
  obtain ⟨y, r⟩ := p
  simp only at h
  split at h
  · rename_i h2; simp only [Prod.mk.injEq] at h; exact absurd h.1 h2
  rename_i h2
  split at h
  · rename_i h3; simp only [Prod.mk.injEq] at h; exact absurd h.1 h3
  rename_i h3
  simp only [Prod.mk.injEq, true_and] at h
  subst h
  have hc : y.check = 0 := by simpa using h3
  have := key y r rfl (by simpa using h2) hc
  refine ⟨?_, hc⟩
  unfold Ac.put
  rw [← this, g1]
end Go.Proofs.Ytdlgagdgbpfdnaa
