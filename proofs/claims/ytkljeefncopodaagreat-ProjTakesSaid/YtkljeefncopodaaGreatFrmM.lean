/- Frames, and a reader of numbers, as plain functions; what is put is taken, what is taken has just those bytes. Plain. -/
import Derived.Test.YtkljeefncopodaaGreatCrcM
import Derived.Test.YtkljeefncopodaaGreatVarM
namespace Go.Proofs.YtkljeefncopodaaGreat
set_option linter.unusedSimpArgs false
set_option linter.unusedVariables false

def headB (t : List UInt8) : List UInt8 := vb t.length ++ t
def frameB (t : List UInt8) : List UInt8 := headB t ++ four (crcOf 0 (headB t))
/-- an error's number, the text, how many bytes -/
def ftake (b : List UInt8) : Nat × List UInt8 × Nat :=
  match vtake b with
  | none => (2, [], 0)
  | some (n, k) => if 65536 < n then (3, [], 0) else if b.length < k + n + 4 then (2, [], 0) else
      if four (crcOf 0 (b.take (k + n))) = (b.drop (k + n)).take 4 then (0, (b.take (k + n)).drop k, k + n + 4) else (11, [], 0)
def fone (b : List UInt8) : Nat × List UInt8 := if (ftake b).1 ≠ 0 then ((ftake b).1, []) else if (ftake b).2.2 < b.length then (2, []) else (0, (ftake b).2.1)
theorem frameB_len (t : List UInt8) : (frameB t).length = (vb t.length).length + t.length + 4 := by
  simp [frameB, headB, four_length]; omega
theorem ftake_frame (t : List UInt8) (h : t.length ≤ 65536) (rest : List UInt8) : ftake (frameB t ++ rest) = (0, t, (frameB t).length) := by
  unfold ftake
  have e : frameB t ++ rest = vb t.length ++ (t ++ four (crcOf 0 (headB t)) ++ rest) := by simp [frameB, headB]
  have hv : vtake (frameB t ++ rest) = some (t.length, (vb t.length).length) := by rw [e]; exact vtake_vb _ (by omega) _
  rw [hv]
  have h1 : ¬ 65536 < t.length := by omega
  have h2 : ¬ (frameB t ++ rest).length < (vb t.length).length + t.length + 4 := by rw [List.length_append, frameB_len]; omega
  have h3 : (frameB t ++ rest).take ((vb t.length).length + t.length) = headB t := by
    rw [show frameB t ++ rest = headB t ++ (four (crcOf 0 (headB t)) ++ rest) from by simp [frameB]]
    rw [List.take_append_of_le_length (by simp [headB]), List.take_of_length_le (by simp [headB])]
  have h4 : ((frameB t ++ rest).drop ((vb t.length).length + t.length)).take 4 = four (crcOf 0 (headB t)) := by
    rw [show frameB t ++ rest = headB t ++ (four (crcOf 0 (headB t)) ++ rest) from by simp [frameB]]
    rw [List.drop_append_of_le_length (by simp [headB]), List.drop_of_length_le (by simp [headB]), List.nil_append]
    rfl
  simp only [h1, h2, h3, h4, if_true, if_false]
  rw [frameB_len]
  simp [headB]
theorem ftake_ok {b t : List UInt8} {s : Nat} (h : ftake b = (0, t, s)) : frameB t = b.take s ∧ s ≤ b.length ∧ t.length ≤ 65536 := by
  unfold ftake at h
  split at h
  · cases h
  · rename_i n k hv
    split at h; · cases h
    rename_i h1
    split at h; · cases h
    rename_i h2
    split at h
    rotate_left
    · cases h
    rename_i h3
    simp only [Prod.mk.injEq, true_and] at h
    obtain ⟨rfl, rfl⟩ := h
    obtain ⟨g1, g2, g3, g4, g5⟩ := vtake_some hv
    have hl : ((b.take (k + n)).drop k).length = n := by rw [List.length_drop, List.length_take]; omega
    have hh : headB ((b.take (k + n)).drop k) = b.take (k + n) := by
      unfold headB
      rw [hl, g1]
      rw [show b.take k = (b.take (k + n)).take k from by rw [List.take_take]; congr 1; omega]
      exact List.take_append_drop _ _
    refine ⟨?_, by omega, by omega⟩
    unfold frameB
    rw [hh, h3]
    rw [show b.take (k + n + 4) = b.take (k + n) ++ (b.drop (k + n)).take 4 from List.take_add]
theorem fone_frame (t : List UInt8) (h : t.length ≤ 65536) : fone (frameB t) = (0, t) := by
  have := ftake_frame t h []
  rw [List.append_nil] at this
  simp [fone, this]
theorem fone_ok {b t : List UInt8} (h : fone b = (0, t)) : frameB t = b ∧ t.length ≤ 65536 := by
  unfold fone at h
  split at h
  · rename_i h1
    simp only [Prod.mk.injEq] at h; exact absurd h.1 h1
  · rename_i h1
    have h1' : (ftake b).1 = 0 := by simpa using h1
    split at h
    · cases h
    · rename_i h2
      simp only [Prod.mk.injEq, true_and] at h
      have h3 : ftake b = (0, t, (ftake b).2.2) := by rw [← h1', ← h]
      obtain ⟨g1, g2, g3⟩ := ftake_ok h3
      rw [List.take_of_length_le (by omega)] at g1
      exact ⟨g1, g3⟩

/-- a reader: what is left, an error's number -/
structure RD where
  rest : List UInt8
  bad : Nat
def RD.fail (r : RD) (n : Nat) : RD := if r.bad = 0 then { r with bad := n } else r
def RD.num (r : RD) : Nat × RD :=
  if r.bad ≠ 0 then (0, r) else match vtake r.rest with
  | none => (0, { r with bad := 2 })
  | some (n, k) => (n, { r with rest := r.rest.drop k })
def RD.within (r : RD) (most : Nat) : Nat × RD := if most < r.num.1 ∨ 4611686018427387904 < r.num.1 then (0, r.num.2.fail 1) else r.num
def RD.count (r : RD) (most : Nat) : Nat × RD := if r.num.2.bad ≠ 0 then (0, r.num.2) else if most < r.num.1 then (0, r.num.2.fail 3) else r.num
def RD.fixed (r : RD) (many : Nat) : List UInt8 × RD := if r.bad ≠ 0 then ([], r) else if r.rest.length < many then ([], r.fail 2) else (r.rest.take many, { r with rest := r.rest.drop many })
def RD.text (r : RD) (most : Nat) : List UInt8 × RD := (r.count most).2.fixed (r.count most).1
def RD.fin (r : RD) : Nat := if r.bad = 0 ∧ 0 < r.rest.length then 2 else r.bad
theorem RD.num_len (r : RD) : r.num.2.rest.length ≤ r.rest.length := by
  unfold RD.num
  split
  · exact Nat.le_refl _
  · split
    · exact Nat.le_refl _
    · simp only [List.length_drop]; omega
theorem RD.num_lt (r : RD) : r.num.1 < 18446744073709551616 := by
  unfold RD.num
  split
  · simp
  · split
    · simp
    · rename_i n k h; exact (vtake_some h).2.1
theorem RD.num_bad {r : RD} (h : r.bad ≠ 0) : r.num = (0, r) := by simp [RD.num, h]
theorem RD.num_put (n : Nat) (h : n < 18446744073709551616) (l : List UInt8) : RD.num ⟨vb n ++ l, 0⟩ = (n, ⟨l, 0⟩) := by
  unfold RD.num
  simp only [ne_eq, not_true_eq_false, if_false]
  rw [vtake_vb n h l]
  simp
theorem RD.within_put (n most : Nat) (h : n ≤ most) (h' : n ≤ 4611686018427387904) (l : List UInt8) : RD.within ⟨vb n ++ l, 0⟩ most = (n, ⟨l, 0⟩) := by
  unfold RD.within
  rw [RD.num_put n (by omega)]
  rw [if_neg (by simp only; omega)]
theorem RD.count_put (n most : Nat) (h : n ≤ most) (h' : n ≤ 4611686018427387904) (l : List UInt8) : RD.count ⟨vb n ++ l, 0⟩ most = (n, ⟨l, 0⟩) := by
  unfold RD.count
  rw [RD.num_put n (by omega)]
  rw [if_neg (by simp), if_neg (by simp only; omega)]
theorem RD.text_put (t : List UInt8) (most : Nat) (h : t.length ≤ most) (h' : t.length ≤ 4611686018427387904) (l : List UInt8) : RD.text ⟨headB t ++ l, 0⟩ most = (t, ⟨l, 0⟩) := by
  unfold RD.text headB
  rw [List.append_assoc, RD.count_put t.length most h h']
  simp only [RD.fixed, ne_eq, not_true_eq_false, if_false, List.length_append]
  rw [if_neg (by omega)]
  simp
/-- what a number that was taken leaves -/
theorem RD.num_ok {r : RD} (h : r.num.2.bad = 0) : r.bad = 0 ∧ r.rest = vb r.num.1 ++ r.num.2.rest := by
  unfold RD.num at h ⊢
  split at h
  · rename_i hb; exact absurd h hb
  · rename_i hb
    have hb' : r.bad = 0 := by simpa using hb
    refine ⟨hb', ?_⟩
    rw [if_neg hb]
    split at h
    · cases h
    · rename_i n k hv
      simp only [hv]
      rw [(vtake_some hv).1, List.take_append_drop]
theorem RD.fail_ok {r : RD} {n : Nat} (h : (r.fail n).bad = 0) (hn : n ≠ 0) : False := by
  unfold RD.fail at h
  split at h
  · exact hn h
  · rename_i hb; exact hb h
theorem RD.fail_bad (r : RD) {n : Nat} (hn : n ≠ 0) : (r.fail n).bad ≠ 0 := fun h => RD.fail_ok h hn
theorem RD.within_ok {r : RD} {most : Nat} (h : (r.within most).2.bad = 0) : r.bad = 0 ∧ r.rest = vb (r.within most).1 ++ (r.within most).2.rest ∧ (r.within most).1 ≤ most := by
  unfold RD.within at h ⊢
  split at h
  · exact absurd h (RD.fail_bad _ (by decide))
  · rename_i hm
    rw [if_neg hm]
    exact ⟨(RD.num_ok h).1, (RD.num_ok h).2, by omega⟩
theorem RD.count_ok {r : RD} {most : Nat} (h : (r.count most).2.bad = 0) : r.bad = 0 ∧ r.rest = vb (r.count most).1 ++ (r.count most).2.rest ∧ (r.count most).1 ≤ most := by
  unfold RD.count at h ⊢
  split at h
  · rename_i hb; exact absurd h hb
  · rename_i hb
    rw [if_neg hb]
    split at h
    · exact absurd h (RD.fail_bad _ (by decide))
    · rename_i hm
      rw [if_neg hm]
      exact ⟨(RD.num_ok h).1, (RD.num_ok h).2, by omega⟩
theorem RD.fixed_ok {r : RD} {many : Nat} (h : (r.fixed many).2.bad = 0) : r.bad = 0 ∧ r.rest = (r.fixed many).1 ++ (r.fixed many).2.rest ∧ (r.fixed many).1.length = many := by
  unfold RD.fixed at h ⊢
  split at h
  · rename_i hb; exact absurd h hb
  · rename_i hb
    rw [if_neg hb]
    split at h
    · exact absurd h (RD.fail_bad _ (by decide))
    · rename_i hm
      rw [if_neg hm]
      exact ⟨by simpa using hb, (List.take_append_drop _ _).symm, by rw [List.length_take]; omega⟩
theorem RD.text_ok {r : RD} {most : Nat} (h : (r.text most).2.bad = 0) : r.bad = 0 ∧ r.rest = headB (r.text most).1 ++ (r.text most).2.rest ∧ (r.text most).1.length ≤ most := by
  unfold RD.text at h ⊢
  obtain ⟨h1, h2, h3⟩ := RD.fixed_ok h
  obtain ⟨g1, g2, g3⟩ := RD.count_ok h1
  refine ⟨g1, ?_, by omega⟩
  rw [headB, h3, List.append_assoc, ← h2, ← g2]
theorem RD.within_bad {r : RD} (h : r.bad ≠ 0) (most : Nat) : r.within most = (0, r) := by simp [RD.within, RD.num_bad h]
theorem RD.count_bad {r : RD} (h : r.bad ≠ 0) (most : Nat) : r.count most = (0, r) := by simp [RD.count, RD.num_bad h, h]
theorem RD.fixed_bad {r : RD} (h : r.bad ≠ 0) (n : Nat) : r.fixed n = ([], r) := by simp [RD.fixed, h]
theorem RD.text_bad {r : RD} (h : r.bad ≠ 0) (n : Nat) : r.text n = ([], r) := by simp [RD.text, RD.count_bad h, RD.fixed_bad h]
theorem RD.fin_ok {r : RD} (h : r.fin = 0) : r.bad = 0 ∧ r.rest = [] := by
  unfold RD.fin at h
  split at h
  · cases h
  · rename_i hb
    refine ⟨h, ?_⟩
    cases hr : r.rest with
    | nil => rfl
    | cons x l => exact absurd ⟨h, by rw [hr]; simp⟩ hb
theorem RD.fin_bad {r : RD} (h : r.bad ≠ 0) : r.fin = r.bad := by simp [RD.fin, h]
end Go.Proofs.YtkljeefncopodaaGreat
