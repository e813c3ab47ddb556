/- Proved here: a part of the proof (2 of 12). -/
import Derived.Test.YtkhnbdbcaebdaaaGreatDoorQ1
import Derived.KernelRfl
import Derived.Lib.EndianBits
import Derived.Test.YtkhnbdbcaebdaaaGreatDoorSlzL
import Derived.Lib.SliceRun
import Derived.Shelf.GgClosure.Gives
import Derived.WalkLawsBesides
import Derived.Defers
import Derived.Laws.Pointers
import Derived.Laws.LoneSync
import Derived.RegionTactic
import Derived.RegionCalls
import Derived.ChangeAlike
import Derived.Laws.NewBlocks
namespace Go.Proofs.YtkhnbdbcaebdaaaGreatDoor
set_option linter.unusedSimpArgs false
set_option linter.unusedVariables false

/-- one bit goes -/
def crcBit (x : Nat) : Nat := if x % 2 = 1 then (x / 2) ^^^ 2197175160 else x / 2
def crcBits : Nat → Nat → Nat
  | 0, x => x
  | k + 1, x => crcBits k (crcBit x)
def crcByte (x : Nat) : Nat := crcBits 8 x
theorem crcBits_succ (k x : Nat) : crcBits (k + 1) x = crcBit (crcBits k x) := by
  induction k generalizing x with
  | zero => rfl
  | succ k ih => rw [crcBits, ih]; rfl
theorem crcBit_xor (a b : Nat) : crcBit (a ^^^ b) = crcBit a ^^^ crcBit b := by
  unfold crcBit
  have hd : (a ^^^ b) / 2 = a / 2 ^^^ b / 2 := Nat.xor_div_two
  have hm := @Nat.xor_mod_two_eq_one a b
  rw [hd]
  have ha := Nat.mod_two_eq_zero_or_one a
  have hb := Nat.mod_two_eq_zero_or_one b
  rcases ha with ha | ha <;> rcases hb with hb | hb
  · rw [if_neg (by rw [hm]; omega), if_neg (by omega), if_neg (by omega)]
  · rw [if_pos (by rw [hm]; omega), if_neg (by omega), if_pos hb, Nat.xor_assoc]
  · rw [if_pos (by rw [hm]; omega), if_pos ha, if_neg (by omega), Nat.xor_assoc, Nat.xor_assoc, Nat.xor_comm 2197175160]
  · rw [if_neg (by rw [hm]; omega), if_pos ha, if_pos hb, Nat.xor_assoc, ← Nat.xor_assoc 2197175160, Nat.xor_comm 2197175160 (b / 2), Nat.xor_assoc, Nat.xor_self, Nat.xor_zero]
theorem crcBits_xor (k a b : Nat) : crcBits k (a ^^^ b) = crcBits k a ^^^ crcBits k b := by
  induction k generalizing a b with
  | zero => rfl
  | succ k ih => simp only [crcBits, crcBit_xor, ih]
theorem crcBits_shift (k h : Nat) : crcBits k (h * 2 ^ k) = h := by
  induction k generalizing h with
  | zero => simp [crcBits]
  | succ k ih =>
    have e : crcBit (h * 2 ^ (k + 1)) = h * 2 ^ k := by
      have h1 : h * 2 ^ (k + 1) = 2 * (h * 2 ^ k) := by rw [Nat.pow_succ, ← Nat.mul_assoc, Nat.mul_comm]
      rw [h1]
      unfold crcBit
      rw [if_neg (by omega)]; omega
    rw [crcBits, e, ih]
theorem split_byte (x : Nat) : x = (x / 256 * 2 ^ 8) ^^^ (x % 256) := by
  apply Nat.eq_of_testBit_eq
  intro i
  rw [Nat.testBit_xor, Nat.testBit_mul_two_pow, show (256 : Nat) = 2 ^ 8 from rfl, Nat.testBit_mod_two_pow, ← Nat.shiftRight_eq_div_pow, Nat.testBit_shiftRight]
  by_cases h : 8 ≤ i
  · have h1 : 8 + (i - 8) = i := by omega
    have h2 : ¬ i < 8 := by omega
    simp [h, h1, h2]
  · have h2 : i < 8 := by omega
    simp [h, h2]
theorem crcByte_split (x : Nat) : crcByte x = crcByte (x % 256) ^^^ (x / 256) := by
  conv => lhs; rw [split_byte x]
  unfold crcByte
  rw [crcBits_xor, crcBits_shift, Nat.xor_comm]
theorem xor_byte (x c : Nat) (hc : c < 256) : (x ^^^ c) % 256 = (x % 256) ^^^ c ∧ (x ^^^ c) / 256 = x / 256 := by
  have h1 : c % 2 ^ 8 = c := Nat.mod_eq_of_lt hc
  have h2 : c / 2 ^ 8 = 0 := Nat.div_eq_of_lt hc
  constructor
  · rw [show (256 : Nat) = 2 ^ 8 from rfl, Nat.xor_mod_two_pow, h1]
  · rw [show (256 : Nat) = 2 ^ 8 from rfl, Nat.xor_div_two_pow, h2, Nat.xor_zero]
/-- a byte more, bit by bit -/
def crcRef (x : Nat) (c : UInt8) : Nat := crcByte (x ^^^ c.toNat)
/-- .. and by the table -/
def crcTab (x : Nat) (c : UInt8) : Nat := crcByte ((x % 256) ^^^ c.toNat) ^^^ (x / 256)
theorem crc_same (x : Nat) (c : UInt8) : crcTab x c = crcRef x c := by
  unfold crcTab crcRef
  obtain ⟨h1, h2⟩ := xor_byte x c.toNat c.toNat_lt
  rw [crcByte_split (x ^^^ c.toNat), h1, h2]
def crcNot (x : Nat) : Nat := x ^^^ 4294967295
def crcOf (s : Nat) (b : List UInt8) : Nat := crcNot (b.foldl crcRef (crcNot s))
theorem crcBit_lt {x : Nat} (h : x < 4294967296) : crcBit x < 4294967296 := by
  unfold crcBit
  split
  · have := @Nat.xor_lt_two_pow (x / 2) 2197175160 32 (by omega) (by decide); simpa using this
  · omega
theorem crcBits_lt (k : Nat) {x : Nat} (h : x < 4294967296) : crcBits k x < 4294967296 := by
  induction k generalizing x with
  | zero => exact h
  | succ k ih => exact ih (crcBit_lt h)
theorem crcRef_lt {x : Nat} (h : x < 4294967296) (c : UInt8) : crcRef x c < 4294967296 := by
  unfold crcRef crcByte
  refine crcBits_lt 8 ?_
  have := @Nat.xor_lt_two_pow x c.toNat 32 (by simpa using h) (by have := c.toNat_lt; simp; omega); simpa using this
theorem crcNot_lt {x : Nat} (h : x < 4294967296) : crcNot x < 4294967296 := by
  have := @Nat.xor_lt_two_pow x 4294967295 32 (by simpa using h) (by decide); simpa [crcNot] using this
theorem crcFold_lt (b : List UInt8) {x : Nat} (h : x < 4294967296) : b.foldl crcRef x < 4294967296 := by
  induction b generalizing x with
  | nil => exact h
  | cons c b ih => exact ih (crcRef_lt h c)
theorem crcOf_lt {s : Nat} (h : s < 4294967296) (b : List UInt8) : crcOf s b < 4294967296 := crcNot_lt (crcFold_lt b (crcNot_lt h))
/-- a sum's four bytes -/
def four (x : Nat) : List UInt8 := [UInt8.ofNat (x / 16777216), UInt8.ofNat (x / 65536), UInt8.ofNat (x / 256), UInt8.ofNat x]
end Go.Proofs.YtkhnbdbcaebdaaaGreatDoor

namespace Go.Proofs.YtkhnbdbcaebdaaaGreatDoor
set_option linter.unusedSimpArgs false
set_option linter.unusedVariables false

/-- a number's bytes -/
def vb (n : Nat) : List UInt8 := if h : n < 128 then [UInt8.ofNat n] else UInt8.ofNat (n % 128 + 128) :: vb (n / 128)
termination_by n
theorem vb_small {n : Nat} (h : n < 128) : vb n = [UInt8.ofNat n] := by rw [vb, dif_pos h]
theorem vb_big {n : Nat} (h : ¬ n < 128) : vb n = UInt8.ofNat (n % 128 + 128) :: vb (n / 128) := by rw [vb, dif_neg h]
theorem vb_len (k n : Nat) (hk : 0 < k) (h : n < 128 ^ k) : (vb n).length ≤ k := by
  induction k generalizing n with
  | zero => omega
  | succ k ih =>
    by_cases hn : n < 128
    · rw [vb_small hn]; simp
    · rw [vb_big hn]
      rw [Nat.pow_succ] at h
      have hk0 : 0 < k := by
        rcases Nat.eq_zero_or_pos k with h0 | h0
        · subst h0; simp at h; omega
        · exact h0
      have := ih (n / 128) hk0 (by rw [Nat.div_lt_iff_lt_mul (by decide)]; exact h)
      simp only [List.length_cons]; omega
theorem vb_len10 {n : Nat} (h : n < 18446744073709551616) : (vb n).length ≤ 10 := vb_len 10 n (by decide) (by omega)

/-- what the groups say, the least ahead -/
def vv : List UInt8 → Nat
  | [] => 0
  | b :: l => b.toNat % 128 + 128 * vv l
/-- .. as the reader makes it: with a weight -/
theorem vv_append (a b : List UInt8) : vv (a ++ b) = vv a + 128 ^ a.length * vv b := by
  induction a with
  | nil => simp [vv]
  | cons x a ih => simp only [List.cons_append, vv, ih, List.length_cons, Nat.pow_succ]; rw [Nat.mul_add, ← Nat.mul_assoc, Nat.mul_comm (128 ^ a.length) 128]; omega
theorem vv_vb (n : Nat) : vv (vb n) = n := by
  induction n using Nat.strongRecOn with
  | ind n ih =>
    by_cases h : n < 128
    · rw [vb_small h]; simp [vv]; omega
    · rw [vb_big h]
      simp only [vv, ih (n / 128) (by omega)]
      have : (UInt8.ofNat (n % 128 + 128)).toNat = n % 128 + 128 := by simp; omega
      rw [this]; omega
/-- the groups of a number: all but the last say 'more', the last is none of 0 unless it is the only one -/
inductive Canon : List UInt8 → Prop
  | one (b : UInt8) (h : b.toNat < 128) : Canon [b]
  | more (b : UInt8) (l : List UInt8) (h : 128 ≤ b.toNat) (hl : Canon l) (h0 : vv l ≠ 0) : Canon (b :: l)
theorem canon_vb (n : Nat) : Canon (vb n) := by
  induction n using Nat.strongRecOn with
  | ind n ih =>
    by_cases h : n < 128
    · rw [vb_small h]; exact .one _ (by simp; omega)
    · rw [vb_big h]
      refine .more _ _ (by simp; omega) (ih (n / 128) (by omega)) ?_
      rw [vv_vb]; omega
theorem vb_vv {l : List UInt8} (h : Canon l) : vb (vv l) = l := by
  induction h with
  | one b h =>
    simp only [vv, Nat.mul_zero, Nat.add_zero, Nat.mod_eq_of_lt h]
    rw [vb_small h]; simp
  | more b l h hl h0 ih =>
    simp only [vv]
    rw [vb_big (by omega)]
    have e1 : (b.toNat % 128 + 128 * vv l) % 128 + 128 = b.toNat := by have := b.toNat_lt; omega
    have e2 : (b.toNat % 128 + 128 * vv l) / 128 = vv l := by omega
    rw [e1, e2, ih]; simp
/-- a prefix that is a number: it ends at the first byte that says no more -/
theorem canon_end {l : List UInt8} (h : Canon l) : ∃ a x, l = a ++ [x] ∧ x.toNat < 128 ∧ (∀ y ∈ a, 128 ≤ y.toNat) ∧ (a ≠ [] → x.toNat ≠ 0) := by
  induction h with
  | one b h => exact ⟨[], b, rfl, h, by simp, by simp⟩
  | more b l h hl h0 ih =>
    obtain ⟨a, x, rfl, h1, h2, h3⟩ := ih
    refine ⟨b :: a, x, rfl, h1, ?_, fun _ hx => ?_⟩
    · intro y hy
      rcases List.mem_cons.1 hy with rfl | hy
      · exact h
      · exact h2 y hy
    · by_cases ha : a = []
      · subst ha; apply h0; simp [vv, hx]
      · exact h3 ha hx
theorem canon_mk (a : List UInt8) (x : UInt8) (h1 : x.toNat < 128) (h2 : ∀ y ∈ a, 128 ≤ y.toNat) (h3 : a ≠ [] → x.toNat ≠ 0) : Canon (a ++ [x]) ∧ (a ≠ [] → vv (a ++ [x]) ≠ 0) := by
  have key : ∀ a : List UInt8, (∀ y ∈ a, 128 ≤ y.toNat) → x.toNat ≠ 0 → Canon (a ++ [x]) ∧ vv (a ++ [x]) ≠ 0 := by
    intro a h2 h0
    induction a with
    | nil => exact ⟨.one x h1, by simp [vv]; omega⟩
    | cons b a ih =>
      obtain ⟨i1, i2⟩ := ih (fun y hy => h2 y (List.mem_cons_of_mem _ hy))
      exact ⟨.more b _ (h2 b List.mem_cons_self) i1 i2, by simp only [List.cons_append, vv]; omega⟩
  cases a with
  | nil => exact ⟨.one x h1, fun h => absurd rfl h⟩
  | cons b a =>
    have := key (b :: a) h2 (h3 (by simp))
    exact ⟨this.1, fun _ => this.2⟩

/-- where the first byte lies that says no more -/
def vend : List UInt8 → Nat → Option Nat
  | [], _ => none
  | b :: l, k => if b.toNat < 128 then some k else vend l (k + 1)
/-- the number that bytes begin with, and how many bytes it has -/
def vtake (b : List UInt8) : Option (Nat × Nat) :=
  match vend (b.take 10) 0 with
  | none => none
  | some k => if (k ≠ 0 ∧ (b.getD k 0).toNat = 0) ∨ (k = 9 ∧ 1 < (b.getD k 0).toNat) then none else some (vv (b.take (k + 1)), k + 1)
theorem vend_some {l : List UInt8} {i k : Nat} (h : vend l i = some k) : i ≤ k ∧ k - i < l.length ∧ (l.getD (k - i) 0).toNat < 128 ∧ ∀ j, j < k - i → 128 ≤ (l.getD j 0).toNat := by
  induction l generalizing i with
  | nil => cases h
  | cons b l ih =>
    unfold vend at h
    split at h
    · rename_i hb
      cases h
      refine ⟨Nat.le_refl _, by simp, by simpa using hb, fun j hj => by omega⟩
    · rename_i hb
      obtain ⟨h1, h2, h3, h4⟩ := ih h
      have e : k - i = (k - (i + 1)) + 1 := by omega
      refine ⟨by omega, by rw [List.length_cons]; omega, by rw [e, List.getD_cons_succ]; exact h3, fun j hj => ?_⟩
      cases j with
      | zero => simp; omega
      | succ j => rw [List.getD_cons_succ]; exact h4 j (by omega)
theorem vend_mk (a : List UInt8) (x : UInt8) (l : List UInt8) (i : Nat) (h1 : x.toNat < 128) (h2 : ∀ y ∈ a, 128 ≤ y.toNat) : vend (a ++ x :: l) i = some (i + a.length) := by
  induction a generalizing i with
  | nil => simp [vend, h1]
  | cons b a ih =>
    have hb : ¬ b.toNat < 128 := by have := h2 b List.mem_cons_self; omega
    simp only [List.cons_append, vend, if_neg hb]
    rw [ih (i + 1) (fun y hy => h2 y (List.mem_cons_of_mem _ hy))]
    simp; omega
theorem vv_lt (l : List UInt8) : vv l < 128 ^ l.length := by
  induction l with
  | nil => simp [vv]
  | cons b l ih => simp only [vv, List.length_cons, Nat.pow_succ]; omega
theorem take_getD (b : List UInt8) (k : Nat) (h : k < b.length) : b.take (k + 1) = b.take k ++ [b.getD k 0] := by
  rw [List.take_succ_eq_append_getElem h]; simp [List.getD, h]
/-- what is taken has just those bytes -/
theorem vtake_some {b : List UInt8} {n k : Nat} (h : vtake b = some (n, k)) : vb n = b.take k ∧ n < 18446744073709551616 ∧ k ≤ 10 ∧ k ≤ b.length ∧ 0 < k := by
  unfold vtake at h
  split at h
  · cases h
  · rename_i k' hv
    split at h
    · cases h
    · rename_i hn
      cases h
      obtain ⟨_, h2, h3, h4⟩ := vend_some hv
      simp only [Nat.sub_zero, List.length_take] at h2 h3 h4
      have hk10 : k' < 10 := by omega
      have hkl : k' < b.length := by omega
      have g : ∀ j, j < 10 → (b.take 10).getD j 0 = b.getD j 0 := fun j hj => by
        simp only [List.getD, List.getElem?_take, hj, if_true]
      rw [g _ hk10] at h3
      have e := take_getD b k' hkl
      have hall : ∀ y ∈ b.take k', 128 ≤ y.toNat := by
        intro y hy
        obtain ⟨j, hj, rfl⟩ := List.getElem_of_mem hy
        have hj' : j < k' := by simpa using (Nat.lt_of_lt_of_le hj (by rw [List.length_take]; omega))
        have := h4 j hj'
        rw [g _ (by omega)] at this
        simpa [List.getD, List.getElem_take, show j < b.length by omega] using this
      have hc := canon_mk (b.take k') (b.getD k' 0) h3 hall (fun hne h0 => hn (.inl ⟨fun hk0 => hne (by rw [hk0]; simp), h0⟩))
      rw [← e] at hc
      refine ⟨vb_vv hc.1, ?_, by omega, by omega, by omega⟩
      by_cases h9 : k' = 9
      · subst h9
        have h1 : (b.getD 9 0).toNat ≤ 1 := by
          apply Nat.le_of_not_lt; intro hx; exact hn (.inr ⟨rfl, hx⟩)
        rw [e, vv_append]
        have hl : (b.take 9).length = 9 := by rw [List.length_take]; omega
        have := vv_lt (b.take 9)
        rw [hl] at this ⊢
        simp only [vv]
        omega
      · have := vv_lt (b.take (k' + 1))
        rw [List.length_take] at this
        refine Nat.lt_of_lt_of_le this ?_
        refine Nat.le_trans (Nat.pow_le_pow_right (by decide) (show min (k' + 1) b.length ≤ 9 by omega)) (by decide)
/-- what is put is taken -/
theorem vtake_vb (n : Nat) (hn : n < 18446744073709551616) (l : List UInt8) : vtake (vb n ++ l) = some (n, (vb n).length) := by
  obtain ⟨a, x, e, h1, h2, h3⟩ := canon_end (canon_vb n)
  have hl := vb_len10 hn
  have hvv := vv_vb n
  rw [e] at hl hvv ⊢
  simp only [List.length_append, List.length_singleton] at hl
  have hv : vend (((a ++ [x]) ++ l).take 10) 0 = some a.length := by
    have e2 : ((a ++ [x]) ++ l).take 10 = a ++ x :: l.take (10 - (a.length + 1)) := by
      rw [List.append_assoc, List.take_append, List.take_of_length_le (by omega), List.singleton_append]
      congr 1
      have : 10 - a.length = (10 - (a.length + 1)) + 1 := by omega
      rw [this, List.take_succ_cons]
    rw [e2, vend_mk a x _ 0 h1 h2]; simp
  have hg : (((a ++ [x]) ++ l).getD a.length 0) = x := by simp [List.getD]
  unfold vtake
  rw [hv]
  simp only [hg]
  have ht : ((a ++ [x]) ++ l).take (a.length + 1) = a ++ [x] := by
    rw [List.take_append_of_le_length (by simp), List.take_of_length_le (by simp)]
  rw [ht, hvv, List.length_append, List.length_singleton]
  rw [if_neg]
  rintro (⟨h5, h6⟩ | ⟨h5, h6⟩)
  · exact h3 (fun h => h5 (by rw [h]; rfl)) h6
  · rw [vv_append, h5] at hvv
    simp only [vv] at hvv
    omega
end Go.Proofs.YtkhnbdbcaebdaaaGreatDoor

namespace Go.Proofs.YtkhnbdbcaebdaaaGreatDoor
set_option linter.unusedSimpArgs false
set_option linter.unusedVariables false

def headB (t : List UInt8) : List UInt8 := vb t.length ++ t
def frameB (t : List UInt8) : List UInt8 := headB t ++ four (crcOf 0 (headB t))
/-- an error's number, the text, how many bytes -/
def ftake (b : List UInt8) : Nat × List UInt8 × Nat :=
  match vtake b with
  | none => (2, [], 0)
  | some (n, k) => if 65536 < n then (3, [], 0) else if b.length < k + n + 4 then (2, [], 0) else
      if four (crcOf 0 (b.take (k + n))) = (b.drop (k + n)).take 4 then (0, (b.take (k + n)).drop k, k + n + 4) else (11, [], 0)
def fone (b : List UInt8) : Nat × List UInt8 := if (ftake b).1 ≠ 0 then ((ftake b).1, []) else if (ftake b).2.2 < b.length then (2, []) else (0, (ftake b).2.1)
theorem frameB_len (t : List UInt8) : (frameB t).length = (vb t.length).length + t.length + 4 := by
  simp [frameB, headB, four_length]; omega
theorem ftake_frame (t : List UInt8) (h : t.length ≤ 65536) (rest : List UInt8) : ftake (frameB t ++ rest) = (0, t, (frameB t).length) := by
  unfold ftake
  have e : frameB t ++ rest = vb t.length ++ (t ++ four (crcOf 0 (headB t)) ++ rest) := by simp [frameB, headB]
  have hv : vtake (frameB t ++ rest) = some (t.length, (vb t.length).length) := by rw [e]; exact vtake_vb _ (by omega) _
  rw [hv]
  have h1 : ¬ 65536 < t.length := by omega
  have h2 : ¬ (frameB t ++ rest).length < (vb t.length).length + t.length + 4 := by rw [List.length_append, frameB_len]; omega
  have h3 : (frameB t ++ rest).take ((vb t.length).length + t.length) = headB t := by
    rw [show frameB t ++ rest = headB t ++ (four (crcOf 0 (headB t)) ++ rest) from by simp [frameB]]
    rw [List.take_append_of_le_length (by simp [headB]), List.take_of_length_le (by simp [headB])]
  have h4 : ((frameB t ++ rest).drop ((vb t.length).length + t.length)).take 4 = four (crcOf 0 (headB t)) := by
    rw [show frameB t ++ rest = headB t ++ (four (crcOf 0 (headB t)) ++ rest) from by simp [frameB]]
    rw [List.drop_append_of_le_length (by simp [headB]), List.drop_of_length_le (by simp [headB]), List.nil_append]
    rfl
  simp only [h1, h2, h3, h4, if_true, if_false]
  rw [frameB_len]
  simp [headB]
theorem ftake_ok {b t : List UInt8} {s : Nat} (h : ftake b = (0, t, s)) : frameB t = b.take s ∧ s ≤ b.length ∧ t.length ≤ 65536 := by
  unfold ftake at h
  split at h
  · cases h
  · rename_i n k hv
    split at h; · cases h
    rename_i h1
    split at h; · cases h
    rename_i h2
    split at h
    rotate_left
    · cases h
    rename_i h3
    simp only [Prod.mk.injEq, true_and] at h
    obtain ⟨rfl, rfl⟩ := h
    obtain ⟨g1, g2, g3, g4, g5⟩ := vtake_some hv
    have hl : ((b.take (k + n)).drop k).length = n := by rw [List.length_drop, List.length_take]; omega
    have hh : headB ((b.take (k + n)).drop k) = b.take (k + n) := by
      unfold headB
      rw [hl, g1]
      rw [show b.take k = (b.take (k + n)).take k from by rw [List.take_take]; congr 1; omega]
      exact List.take_append_drop _ _
    refine ⟨?_, by omega, by omega⟩
    unfold frameB
    rw [hh, h3]
    rw [show b.take (k + n + 4) = b.take (k + n) ++ (b.drop (k + n)).take 4 from List.take_add]
theorem fone_frame (t : List UInt8) (h : t.length ≤ 65536) : fone (frameB t) = (0, t) := by
  have := ftake_frame t h []
  rw [List.append_nil] at this
  simp [fone, this]
theorem fone_ok {b t : List UInt8} (h : fone b = (0, t)) : frameB t = b ∧ t.length ≤ 65536 := by
  unfold fone at h
  split at h
  · rename_i h1
    simp only [Prod.mk.injEq] at h; exact absurd h.1 h1
  · rename_i h1
    have h1' : (ftake b).1 = 0 := by simpa using h1
    split at h
    · cases h
    · rename_i h2
      simp only [Prod.mk.injEq, true_and] at h
      have h3 : ftake b = (0, t, (ftake b).2.2) := by rw [← h1', ← h]
      obtain ⟨g1, g2, g3⟩ := ftake_ok h3
      rw [List.take_of_length_le (by omega)] at g1
      exact ⟨g1, g3⟩

/-- a reader: what is left, an error's number -/
structure RD where
  rest : List UInt8
  bad : Nat
def RD.fail (r : RD) (n : Nat) : RD := if r.bad = 0 then { r with bad := n } else r
def RD.num (r : RD) : Nat × RD :=
  if r.bad ≠ 0 then (0, r) else match vtake r.rest with
  | none => (0, { r with bad := 2 })
  | some (n, k) => (n, { r with rest := r.rest.drop k })
def RD.within (r : RD) (most : Nat) : Nat × RD := if most < r.num.1 ∨ 4611686018427387904 < r.num.1 then (0, r.num.2.fail 1) else r.num
def RD.count (r : RD) (most : Nat) : Nat × RD := if r.num.2.bad ≠ 0 then (0, r.num.2) else if most < r.num.1 then (0, r.num.2.fail 3) else r.num
def RD.fixed (r : RD) (many : Nat) : List UInt8 × RD := if r.bad ≠ 0 then ([], r) else if r.rest.length < many then ([], r.fail 2) else (r.rest.take many, { r with rest := r.rest.drop many })
def RD.text (r : RD) (most : Nat) : List UInt8 × RD := (r.count most).2.fixed (r.count most).1
def RD.fin (r : RD) : Nat := if r.bad = 0 ∧ 0 < r.rest.length then 2 else r.bad
theorem RD.num_lt (r : RD) : r.num.1 < 18446744073709551616 := by
  unfold RD.num
  split
  · simp
  · split
    · simp
    · rename_i n k h; exact (vtake_some h).2.1
theorem RD.num_bad {r : RD} (h : r.bad ≠ 0) : r.num = (0, r) := by simp [RD.num, h]
theorem RD.num_put (n : Nat) (h : n < 18446744073709551616) (l : List UInt8) : RD.num ⟨vb n ++ l, 0⟩ = (n, ⟨l, 0⟩) := by
  unfold RD.num
  simp only [ne_eq, not_true_eq_false, if_false]
  rw [vtake_vb n h l]
  simp
theorem RD.within_put (n most : Nat) (h : n ≤ most) (h' : n ≤ 4611686018427387904) (l : List UInt8) : RD.within ⟨vb n ++ l, 0⟩ most = (n, ⟨l, 0⟩) := by
  unfold RD.within
  rw [RD.num_put n (by omega)]
  rw [if_neg (by simp only; omega)]
theorem RD.count_put (n most : Nat) (h : n ≤ most) (h' : n ≤ 4611686018427387904) (l : List UInt8) : RD.count ⟨vb n ++ l, 0⟩ most = (n, ⟨l, 0⟩) := by
  unfold RD.count
  rw [RD.num_put n (by omega)]
  rw [if_neg (by simp), if_neg (by simp only; omega)]
theorem RD.text_put (t : List UInt8) (most : Nat) (h : t.length ≤ most) (h' : t.length ≤ 4611686018427387904) (l : List UInt8) : RD.text ⟨headB t ++ l, 0⟩ most = (t, ⟨l, 0⟩) := by
  unfold RD.text headB
  rw [List.append_assoc, RD.count_put t.length most h h']
  simp only [RD.fixed, ne_eq, not_true_eq_false, if_false, List.length_append]
  rw [if_neg (by omega)]
  simp
/-- what a number that was taken leaves -/
theorem RD.num_ok {r : RD} (h : r.num.2.bad = 0) : r.bad = 0 ∧ r.rest = vb r.num.1 ++ r.num.2.rest := by
  unfold RD.num at h ⊢
  split at h
  · rename_i hb; exact absurd h hb
  · rename_i hb
    have hb' : r.bad = 0 := by simpa using hb
    refine ⟨hb', ?_⟩
    rw [if_neg hb]
    split at h
    · cases h
    · rename_i n k hv
      simp only [hv]
      rw [(vtake_some hv).1, List.take_append_drop]
theorem RD.fail_ok {r : RD} {n : Nat} (h : (r.fail n).bad = 0) (hn : n ≠ 0) : False := by
  unfold RD.fail at h
  split at h
  · exact hn h
  · rename_i hb; exact hb h
theorem RD.fail_bad (r : RD) {n : Nat} (hn : n ≠ 0) : (r.fail n).bad ≠ 0 := fun h => RD.fail_ok h hn
theorem RD.within_ok {r : RD} {most : Nat} (h : (r.within most).2.bad = 0) : r.bad = 0 ∧ r.rest = vb (r.within most).1 ++ (r.within most).2.rest ∧ (r.within most).1 ≤ most := by
  unfold RD.within at h ⊢
  split at h
  · exact absurd h (RD.fail_bad _ (by decide))
  · rename_i hm
    rw [if_neg hm]
    exact ⟨(RD.num_ok h).1, (RD.num_ok h).2, by omega⟩
theorem RD.count_ok {r : RD} {most : Nat} (h : (r.count most).2.bad = 0) : r.bad = 0 ∧ r.rest = vb (r.count most).1 ++ (r.count most).2.rest ∧ (r.count most).1 ≤ most := by
  unfold RD.count at h ⊢
  split at h
  · rename_i hb; exact absurd h hb
  · rename_i hb
    rw [if_neg hb]
    split at h
    · exact absurd h (RD.fail_bad _ (by decide))
    · rename_i hm
      rw [if_neg hm]
      exact ⟨(RD.num_ok h).1, (RD.num_ok h).2, by omega⟩
theorem RD.fixed_ok {r : RD} {many : Nat} (h : (r.fixed many).2.bad = 0) : r.bad = 0 ∧ r.rest = (r.fixed many).1 ++ (r.fixed many).2.rest ∧ (r.fixed many).1.length = many := by
  unfold RD.fixed at h ⊢
  split at h
  · rename_i hb; exact absurd h hb
  · rename_i hb
    rw [if_neg hb]
    split at h
    · exact absurd h (RD.fail_bad _ (by decide))
    · rename_i hm
      rw [if_neg hm]
      exact ⟨by simpa using hb, (List.take_append_drop _ _).symm, by rw [List.length_take]; omega⟩
theorem RD.text_ok {r : RD} {most : Nat} (h : (r.text most).2.bad = 0) : r.bad = 0 ∧ r.rest = headB (r.text most).1 ++ (r.text most).2.rest ∧ (r.text most).1.length ≤ most := by
  unfold RD.text at h ⊢
  obtain ⟨h1, h2, h3⟩ := RD.fixed_ok h
  obtain ⟨g1, g2, g3⟩ := RD.count_ok h1
  refine ⟨g1, ?_, by omega⟩
  rw [headB, h3, List.append_assoc, ← h2, ← g2]
theorem RD.within_bad {r : RD} (h : r.bad ≠ 0) (most : Nat) : r.within most = (0, r) := by simp [RD.within, RD.num_bad h]
theorem RD.fixed_bad {r : RD} (h : r.bad ≠ 0) (n : Nat) : r.fixed n = ([], r) := by simp [RD.fixed, h]
theorem RD.fin_ok {r : RD} (h : r.fin = 0) : r.bad = 0 ∧ r.rest = [] := by
  unfold RD.fin at h
  split at h
  · cases h
  · rename_i hb
    refine ⟨h, ?_⟩
    cases hr : r.rest with
    | nil => rfl
    | cons x l => exact absurd ⟨h, by rw [hr]; simp⟩ hb
theorem RD.fin_bad {r : RD} (h : r.bad ≠ 0) : r.fin = r.bad := by simp [RD.fin, h]
end Go.Proofs.YtkhnbdbcaebdaaaGreatDoor

namespace Go.Proofs.YtkhnbdbcaebdaaaGreatDoor
set_option linter.unusedSimpArgs false
set_option linter.unusedVariables false

/-- an act -/
structure Ac where
  k : Int
  e : Int
  a : Int
  d : List UInt8
deriving DecidableEq
def Ac.zero : Ac := ⟨0, 0, 0, []⟩
def Ac.check (x : Ac) : Nat :=
  if x.k < 1 ∨ 5 < x.k ∨ x.e < 0 ∨ 1099511627776 < x.e ∨ x.a < 0 ∨ 1048576 < x.a then 1
  else if (x.k = 2 ∨ x.k = 3) ∧ x.a = 1048576 then 1
  else if 64 < x.d.length then 3
  else if x.k = 1 ∧ x.a ≠ 0 ∨ x.k ≠ 2 ∧ 0 < x.d.length then 2 else 0
def Ac.text (x : Ac) : List UInt8 := vb x.k.toNat ++ vb x.e.toNat ++ (if 1 < x.k then vb x.a.toNat else []) ++ (if x.k = 2 then headB x.d else [])
def Ac.put (x : Ac) : List UInt8 := frameB x.text
/-- the reader behind an act, and the act -/
def Ac.read (r : RD) : Ac × RD :=
  let (k, r) := r.within 5
  let r := if k < 1 then r.fail 1 else r
  let (e, r) := r.within 1099511627776
  let (a, r) := if k ≠ 1 then r.within 1048576 else (0, r)
  let (d, r) := if k = 2 then r.text 64 else ([], r)
  (⟨k, e, a, d⟩, r)
/-- an error's number, the act -/
def Ac.take (b : List UInt8) : Nat × Ac :=
  if (fone b).1 ≠ 0 then ((fone b).1, Ac.zero) else
    let (x, r) := Ac.read ⟨(fone b).2, 0⟩
    if r.fin ≠ 0 then (r.fin, Ac.zero) else if x.check ≠ 0 then (x.check, Ac.zero) else (0, x)
theorem Ac.check_ok {x : Ac} (h : x.check = 0) : 1 ≤ x.k ∧ x.k ≤ 5 ∧ 0 ≤ x.e ∧ x.e ≤ 1099511627776 ∧ 0 ≤ x.a ∧ x.a ≤ 1048576 ∧ x.d.length ≤ 64 ∧ (x.k = 1 → x.a = 0) ∧ (x.k ≠ 2 → x.d = []) := by
  unfold Ac.check at h
  split at h; · cases h
  split at h; · cases h
  split at h; · cases h
  split at h; · cases h
  rename_i h1 h2 h3 h4
  refine ⟨by omega, by omega, by omega, by omega, by omega, by omega, by omega, fun hk => ?_, fun hk => ?_⟩
  · apply Decidable.byContradiction; intro ha; exact h4 (.inl ⟨hk, ha⟩)
  · cases hd : x.d with
    | nil => rfl
    | cons b l => exact absurd (.inr ⟨hk, by rw [hd]; simp⟩) h4
theorem vb_len_le {n k : Nat} (hk : 0 < k) (h : n < 128 ^ k) : (vb n).length ≤ k := vb_len k n hk h
theorem Ac.text_len {x : Ac} (h : x.check = 0) : x.text.length ≤ 65536 := by
  obtain ⟨h1, h2, h3, h4, h5, h6, h7, h8, h9⟩ := Ac.check_ok h
  unfold Ac.text headB
  have g1 := vb_len_le (n := x.k.toNat) (k := 10) (by decide) (by omega)
  have g2 := vb_len_le (n := x.e.toNat) (k := 10) (by decide) (by omega)
  have g3 := vb_len_le (n := x.a.toNat) (k := 10) (by decide) (by omega)
  have g4 := vb_len_le (n := x.d.length) (k := 10) (by decide) (by omega)
  simp only [List.length_append]
  split <;> split <;> simp only [List.length_append, List.length_nil] <;> omega
/-- what is put is taken as it was -/
theorem Ac.take_put {x : Ac} (h : x.check = 0) : Ac.take x.put = (0, x) := by
  obtain ⟨h1, h2, h3, h4, h5, h6, h7, h8, h9⟩ := Ac.check_ok h
  unfold Ac.take Ac.put
  rw [fone_frame _ (Ac.text_len h)]
  simp only [ne_eq, not_true_eq_false, if_false]
  have hr : Ac.read ⟨x.text, 0⟩ = (x, ⟨[], 0⟩) := by
    unfold Ac.read Ac.text
    simp only [List.append_assoc]
    rw [RD.within_put x.k.toNat 5 (by omega) (by omega)]
    simp only
    rw [if_neg (show ¬ x.k.toNat < 1 by omega), RD.within_put x.e.toNat _ (by omega) (by omega)]
    simp only
    obtain ⟨k, e, a, d⟩ := x
    simp only at *
    have e1 : ((k.toNat : Nat) : Int) = k := by omega
    have e2 : ((e.toNat : Nat) : Int) = e := by omega
    have e3 : ((a.toNat : Nat) : Int) = a := by omega
    by_cases hk1 : k = 1
    · have ha := h8 hk1
      have hd := h9 (by omega)
      subst hk1; subst ha; subst hd
      simp [e2, RD.within]
    · rw [if_pos (show 1 < k by omega)]
      have hk1' : k.toNat ≠ 1 := by omega
      rw [if_pos hk1', RD.within_put a.toNat _ (by omega) (by omega)]
      simp only
      by_cases hk2 : k = 2
      · rw [if_pos hk2, if_pos (show k.toNat = 2 by omega)]
        have := RD.text_put d 64 h7 (by omega) []
        rw [List.append_nil] at this
        rw [this]
        simp only [e1, e2, e3]
      · rw [if_neg hk2, if_neg (show ¬ k.toNat = 2 by omega)]
        have hd := h9 hk2
        simp only [e1, e2, e3, hd]
  rw [hr]
  simp [RD.fin, h]
end Go.Proofs.YtkhnbdbcaebdaaaGreatDoor

namespace Go.Proofs.YtkhnbdbcaebdaaaGreatDoor
open Go.RowKit
set_option linter.unusedSimpArgs false
set_option linter.unusedVariables false
set_option maxRecDepth 20000

theorem bits_xor_nat (k : IntKind) (hk : ∀ n : Int, 0 ≤ n → n < 2 ^ k.bits → k.wrap n = n) (a b : Nat) (ha : a < 2 ^ k.bits) (hb : b < 2 ^ k.bits) : bits .xor k (a : Int) (b : Int) = ((a ^^^ b : Nat) : Int) := by
  have h := Nat.xor_lt_two_pow ha hb
  show k.wrap ((BitVec.ofInt k.bits (a : Int) ^^^ BitVec.ofInt k.bits (b : Int)).toNat : Int) = _
  rw [BitVec.toNat_xor, BitVec.ofInt_natCast, BitVec.ofInt_natCast, BitVec.toNat_ofNat, BitVec.toNat_ofNat, Nat.mod_eq_of_lt ha, Nat.mod_eq_of_lt hb]
  exact hk _ (by omega) (by exact_mod_cast h)
theorem xor_u32 {a b : Nat} (ha : a < 4294967296) (hb : b < 4294967296) : bits .xor .u32 (a : Int) (b : Int) = ((a ^^^ b : Nat) : Int) := bits_xor_nat .u32 wraps_u32 a b ha hb
theorem wraps_u8' (n : Int) (h₀ : 0 ≤ n) (h₁ : n < 2 ^ 8) : IntKind.u8.wrap n = n := by simp [IntKind.wrap, IntKind.bits, IntKind.signed]; omega
theorem xor_u8 {a b : Nat} (ha : a < 256) (hb : b < 256) : bits .xor .u8 (a : Int) (b : Int) = ((a ^^^ b : Nat) : Int) := bits_xor_nat .u8 wraps_u8' a b ha hb
theorem and1_u32 {a : Nat} (ha : a < 4294967296) : bits .and .u32 (a : Int) 1 = ((a % 2 : Nat) : Int) := by
  have := (bits_nat .u32 32 (by decide) wraps_u32 a 1 ha (by decide)).1
  rw [show ((1 : Nat) : Int) = 1 from rfl] at this
  rw [this, Nat.and_one_is_mod]
theorem or_u64 {a b : Nat} (ha : a < 18446744073709551616) (hb : b < 18446744073709551616) : bits .or .u64 (a : Int) (b : Int) = ((a ||| b : Nat) : Int) := (bits_nat .u64 64 (by decide) wraps_u64 a b ha hb).2
theorem or_add {a b k : Nat} (ha : a < 2 ^ k) : (a ||| 2 ^ k * b) = a + 2 ^ k * b := by
  rw [Nat.or_comm]
  have := Nat.two_pow_add_eq_or_of_lt ha b
  omega
theorem or128 : ∀ n : Fin 256, bits .or .u8 ((n.val : Nat) : Int) 128 = ((n.val % 128 + 128 : Nat) : Int) := by decide +kernel
theorem or128_u8 (n : Nat) : bits .or .u8 (((n % 256 : Nat) : Int)) 128 = ((n % 128 + 128 : Nat) : Int) := by
  have := or128 ⟨n % 256, Nat.mod_lt _ (by decide)⟩
  simp only at this
  rw [this]; congr 1; omega
theorem andNot128 : ∀ n : Fin 256, bits .andNot .u8 ((n.val : Nat) : Int) 128 = ((n.val % 128 : Nat) : Int) := by decide +kernel
theorem andNot128_u8 (b : UInt8) : bits .andNot .u8 ((b.toNat : Nat) : Int) 128 = ((b.toNat % 128 : Nat) : Int) := by
  have h := b.toNat_lt
  exact andNot128 ⟨b.toNat, by omega⟩
end Go.Proofs.YtkhnbdbcaebdaaaGreatDoor

namespace Go.Proofs.YtkhnbdbcaebdaaaGreatDoor
open Go.RowKit
set_option linter.unusedSimpArgs false
set_option linter.unusedVariables false
set_option maxRecDepth 20000

theorem bytes_len {w : World} {a : Option Addr} {c : Nat} {l : List UInt8} (h : Bytes w (.slice a l.length c) l) : l.length ≤ 9223372036854775807 := by
  obtain ⟨_, _, he, h1, h2, _⟩ := h; cases he; unfold maxLen at h2; omega
theorem bytes_at {w : World} {a : Option Addr} {n c : Nat} {l : List UInt8} (h : Bytes w (.slice a n c) l) {k : Nat} (hk : k < l.length) :
    ∃ b off, a = some ⟨b, off, none⟩ ∧ b < w.heap.size ∧ w.cell? ⟨b, off + k, none⟩ = some (.int .u8 l[k].toNat) := by
  have h' : SlV w (.slice a n c) n (l.flatMap (fun x => [byteV x])) := by
    obtain ⟨a', c', he, r⟩ := h
    cases he
    refine ⟨a, c, rfl, ?_⟩
    rw [← map_one]; exact r
  obtain ⟨b, off, e, hb, hc⟩ := SlV.row (f := fun x => [byteV x]) (s := 1) (fun _ => rfl) (by decide) h' hk
  refine ⟨b, off, e, hb, ?_⟩
  have := hc 0 _ rfl
  simpa [byteV] using this
/-- a list's slice: the numbers, the address, the capacity -/
abbrev Cb := List UInt8 × Option Addr × Nat
def cbV (x : Cb) : Value := .slice x.2.1 x.1.length x.2.2
/-- a slice of slices -/
structure Cbs (w : World) (a : Option Addr) (c : Nat) (X : List Cb) : Prop where
  rows : SlV w (.slice a X.length c) X.length (X.map cbV)
  each : ∀ x ∈ X, Bytes w (cbV x) x.1
theorem Cbs.len {w : World} {a : Option Addr} {c : Nat} {X : List Cb} (h : Cbs w a c X) : X.length ≤ 9223372036854775807 := by
  obtain ⟨_, _, he, h1, h2, _⟩ := h.rows; cases he; unfold maxLen at h2; omega
theorem Cbs.below {w w' : World} {a : Option Addr} {c : Nat} {X : List Cb} (h : Cbs w a c X) {B : Nat} (hB : w.heap.size ≤ B) (hb : Below B w w') : Cbs w' a c X :=
  ⟨SlV.below h.rows hB hb, fun x hx => SlV.below (h.each x hx) hB hb⟩
theorem Cbs.at {w : World} {a : Option Addr} {c : Nat} {X : List Cb} (h : Cbs w a c X) {k : Nat} (hk : k < X.length) :
    ∃ b off, a = some ⟨b, off, none⟩ ∧ b < w.heap.size ∧ w.cell? ⟨b, off + k, none⟩ = some (.slice X[k].2.1 X[k].1.length X[k].2.2) ∧ Bytes w (.slice X[k].2.1 X[k].1.length X[k].2.2) X[k].1 := by
  have h' : SlV w (.slice a X.length c) X.length (X.flatMap (fun x => [cbV x])) := by
    have : X.flatMap (fun x => [cbV x]) = X.map cbV := by
      clear h hk; induction X with
      | nil => rfl
      | cons x l ih => rw [List.flatMap_cons, ih]; rfl
    rw [this]; exact h.rows
  obtain ⟨b, off, e, hb, hc⟩ := SlV.row (f := fun x => [cbV x]) (s := 1) (fun _ => rfl) (by decide) h' hk
  refine ⟨b, off, e, hb, ?_, h.each _ (List.getElem_mem hk)⟩
  have := hc 0 _ rfl
  simpa [cbV] using this

theorem alloc_newB (w : World) (o : Obj) : (w.alloc o).heap[w.heap.size]? = some o := by show (w.heap.push _)[w.heap.size]? = _; simp
set_option maxHeartbeats 1000000 in
theorem growB_any (n : Nat) (hn : n ≤ 1099511627776) (w : World) : Calls Tryz.prog 147 #[.slice none 0 0, .int .i64 n] w (OwnR w.heap.size 5 1 0 [] w) := by
  by_cases h0 : n = 0
  · subst h0
    have h := Any8.slices_Grow_room Tryz.growB none 0 0 0 w (Nat.le_refl _) (by decide) (by decide) (Nat.le_refl _)
    change Calls Tryz.prog 147 _ _ _ at h
    refine h.mono ?_
    rintro e w' ⟨rfl, rfl⟩
    exact ⟨none, 0, rfl, own_nil _ _ _ _, Below.refl _ _⟩
  · obtain ⟨i, z, a1, a2, a3, a4, a5⟩ := etBytes.info
    have h := Any8.slices_Grow_grow Tryz.growB i z a1 a2 (by rw [a3]; decide) none 0 0 n [] w (Nat.le_refl _) (by omega) (by rw [a4]; omega) (by omega) (by simp) (fun _ => rfl) (fun a h => by cases h)
    change Calls Tryz.prog 147 _ _ _ at h
    refine h.mono ?_
    rintro e w' ⟨rfl, rfl⟩
    refine ⟨_, _, rfl, ⟨by simp, .inr ⟨w.heap.size, _, _, rfl, Nat.le_refl _, alloc_newB w.drew _, Nat.zero_le _, grownCap_le_maxLen _ _ _ _ (by unfold maxLen; omega), ?_, by simp⟩⟩, ?_⟩
    · have hg := grownCap_ge w (0 + n) 0 5
      change _ = grownCap w (0 + n) 0 5 * 1
      have e3 : (Tryz.growB_ren.t 25) = 5 := rfl
      rw [e3]
      simp only [Array.size_append, size_zeroCells, a5]
      simp only [List.size_toArray, List.length_nil]
      omega
    · exact (Below.drew (Below.refl _ _)).alloc (by simp) _

/-- all numbers, list behind list -/
def flatB (X : List Cb) : List UInt8 := (X.map (·.1)).flatten
theorem flatB_take {X : List Cb} {k : Nat} (hk : k < X.length) : flatB (X.take (k + 1)) = flatB (X.take k) ++ X[k].1 := by
  unfold flatB; rw [List.take_succ_eq_append_getElem hk]; simp only [List.map_append, List.flatten_append, List.map_cons, List.map_nil, List.flatten_cons, List.flatten_nil, List.append_nil]
theorem flatB_take_le (X : List Cb) (k : Nat) : (flatB (X.take k)).length ≤ (flatB X).length := by
  have e : X.map (·.1) = (X.take k).map (·.1) ++ (X.drop k).map (·.1) := by rw [← List.map_append, List.take_append_drop]
  unfold flatB
  rw [e, List.flatten_append, List.length_append]; omega
set_option maxHeartbeats 2000000 in
theorem concatB_any (X : List Cb) (a : Option Addr) (c : Nat) (w : World) (h : Cbs w a c X) (ht : (flatB X).length ≤ 1099511627776) :
    Calls Tryz.prog 109 #[.slice a X.length c] w (OwnR w.heap.size 5 1 (flatB X).length (byteVs (flatB X)) w) := by
  have HS := Lib.hid' h
  have hlen := h.len
  clear h
  go_enter Tryz.func109, Tryz.ntmps109
  go_wp2_with fail
  go_loop [3, 11] (fun v3 v11 => ∃ k : Nat, v11 = .int .i64 k ∧ k ≤ X.length ∧ v3 = .int .i64 ((flatB (X.take k)).length)) (fun _ v11 => X.length - (intOf v11).toNat)
  case atStart => exact ⟨0, rfl, Nat.zero_le _, rfl⟩
  case round =>
    obtain ⟨k, rfl, hk, rfl⟩ := hrel
    by_cases hlt : k < X.length
    · obtain ⟨b, off, rfl, hb, hc, hz⟩ := HS.out.at hlt
      have hle := flatB_take_le X (k + 1)
      have hle2 : (flatB (X.take (k + 1))).length = (flatB (X.take k)).length + X[k].1.length := by rw [flatB_take hlt, List.length_append]
      have HF := Lib.hid' hle2
      have hs : (flatB (X.take k)).length + X[k].1.length ≤ 1099511627776 := by omega
      clear hz hle hle2
      generalize X[k] = y at *
      generalize (flatB (X.take k)).length = s at *
      have hneg : ¬ ((s : Int) + (y.1.length : Int) < 0) := by omega
      go_wp2_with fail
      go_round
      case rel => exact ⟨k + 1, by go_num, by omega, by rw [HF.out]; go_num⟩
      case measure => simp [intOf]; omega
    · obtain rfl : k = X.length := by omega
      have HT := Lib.hid' (List.take_length (l := X))
      rw [HT.out]
      clear hlt
      go_wp2_with fail
      refine (growB_any _ ht w).mono ?_
      rintro e w1 ⟨a1, c1, rfl, ho, hb⟩
      have HO := Lib.hid' ho
      have HB := Lib.hid' hb
      clear ho hb
      go_wp2_with fail
      go_loopw [6, 27] (fun v6 v27 wr => ∃ (k : Nat) (a' : Option Addr) (c' : Nat), v27 = .int .i64 k ∧ k ≤ X.length ∧ v6 = .slice a' (flatB (X.take k)).length c' ∧ Hid (wr.ownsRow w.heap.size 5 1 (.slice a' (flatB (X.take k)).length c') (flatB (X.take k)).length (byteVs (flatB (X.take k)))) ∧ Hid (Below w.heap.size w wr)) (fun _ v27 _ => X.length - (intOf v27).toNat)
      case atStart => exact ⟨0, a1, c1, rfl, Nat.zero_le _, rfl, HO, HB⟩
      case round =>
        obtain ⟨k, a', c', rfl, hk, rfl, HOk, HBk⟩ := hrel
        by_cases hlt : k < X.length
        · obtain ⟨b, off, rfl, hb, hc, hz⟩ := (HS.out.below (Nat.le_refl _) HBk.out).at hlt
          have HF := Lib.hid' (flatB_take hlt)
          have HZ := Lib.hid' hz
          have hle := flatB_take_le X (k + 1)
          have hle2 : (flatB (X.take (k + 1))).length = (flatB (X.take k)).length + X[k].1.length := by rw [flatB_take hlt, List.length_append]
          have hs : (flatB (X.take k)).length + X[k].1.length ≤ 1099511627776 := by omega
          have hbz := HBk.out.size
          clear hz hle hle2
          generalize X[k] = y at *
          generalize flatB (X.take k) = S at *
          go_wp2_with (at_builtin; refine append_sl etBytes rfl (.tmp 31) (.tmp 32) rfl w.heap.size S.length (byteVs S) _ rfl HOk.out y.1.length (byteVs y.1) _ rfl HZ.out (by simp [byteVs]) (byteVs_one _) (by omega) hbz ?_)
          intro a2 c2 w2 ho2 hf2
          have HO2 := Lib.hid' ho2
          have HB2 := Lib.hid' (hf2.row HOk.out (Nat.le_refl _) hbz HBk.out)
          clear ho2 hf2
          go_wp2_with fail
          go_roundw
          case rel =>
            refine ⟨k + 1, a2, c2, by go_num, by omega, by rw [HF.out, List.length_append], ?_, HB2⟩
            rw [HF.out, List.length_append, byteVs_append]
            exact HO2
          case measure => simp [intOf]; omega
        · obtain rfl : k = X.length := by omega
          rw [HT.out] at HOk
          rw [HT.out]
          clear hlt
          go_wp2_with fail
          go_ret
          exact ⟨a', c', rfl, HOk.out, HBk.out⟩

theorem eq_takeB {α : Type} [DecidableEq α] {l m : List α} (hl : l.length = m.length) {k : Nat} (h : l.take k = m.take k) (hk : ¬ k < l.length) : l = m := by
  rwa [List.take_of_length_le (by omega), List.take_of_length_le (by omega)] at h
theorem take_nextB {α : Type} {l m : List α} {k : Nat} (h : l.take k = m.take k) (h1 : k < l.length) (h2 : k < m.length) (he : l[k] = m[k]) : l.take (k + 1) = m.take (k + 1) := by
  rw [List.take_succ_eq_append_getElem h1, List.take_succ_eq_append_getElem h2, h, he]
set_option maxHeartbeats 400000 in
theorem equalB_any (l m : List UInt8) (a b : Option Addr) (c d : Nat) (w : World) (h : Bytes w (.slice a l.length c) l) (h' : Bytes w (.slice b m.length d) m) :
    Calls Tryz.prog 206 #[.slice a l.length c, .slice b m.length d] w fun e w' => e = .returned (.bool (l == m)) ∧ Below w.heap.size w w' := by
  have HS := Lib.hid' h
  have HM := Lib.hid' h'
  have hlen := bytes_len h
  have hlen' := bytes_len h'
  clear h h'
  by_cases hl : l.length = m.length
  rotate_left
  · have HF := Lib.hid' (show (l == m) = false by rw [beq_eq_false_iff_ne]; intro e; exact hl (by rw [e]))
    have hd : ((l.length : Int) != (m.length : Int)) = true := by rw [bne_iff_ne]; omega
    clear hl
    go_enter Tryz.func206, Tryz.ntmps206
    go_wp2_with fail
    go_ret
    exact ⟨ret_eq (by rw [HF.out]; rfl), Below.refl _ _⟩
  have HL := Lib.hid' hl
  have hd : ((l.length : Int) != (m.length : Int)) = false := by rw [bne_eq_false_iff_eq]; omega
  clear hl
  go_enter Tryz.func206, Tryz.ntmps206
  go_wp2_with fail
  clear hd
  go_loopw [13] (fun v8 wr => ∃ k : Nat, v8 = .int .i64 k ∧ k ≤ l.length ∧ Hid (l.take k = m.take k) ∧ Hid (Below w.heap.size w wr)) (fun v8 _ => l.length - (intOf v8).toNat)
  case atStart => exact ⟨0, rfl, Nat.zero_le _, Lib.hid' (by simp), Lib.hid' (Below.refl _ _)⟩
  case round =>
    obtain ⟨k, rfl, hk, HNO, HB⟩ := hrel
    by_cases hlt : k < l.length
    · have hlt' : k < m.length := by have := HL.out; omega
      obtain ⟨b1, off1, rfl, hb1, hc1'⟩ := bytes_at HS.out hlt
      obtain ⟨b2, off2, rfl, hb2, hc2'⟩ := bytes_at HM.out hlt'
      have hc1 := (HB.out.cell (p := ⟨b1, off1 + k, none⟩) hb1).trans hc1'
      have hc2 := (HB.out.cell (p := ⟨b2, off2 + k, none⟩) hb2).trans hc2'
      have HT := Lib.hid' (fun he => take_nextB HNO.out hlt hlt' he)
      have HN := Lib.hid' (show l[k] ≠ m[k] → (l == m) = false by
        intro h; rw [beq_eq_false_iff_ne]; intro e; subst e; exact h rfl)
      clear hc1' hc2'
      generalize l[k] = x at *
      generalize m[k] = y at *
      go_wp2_with fail
      have hxy : ((x.toNat : Int) != (y.toNat : Int)) = (x != y) := by rw [Bool.eq_iff_iff, bne_iff_ne, bne_iff_ne]; constructor; { intro h e; subst e; exact h rfl }; { intro h e; exact h (UInt8.toNat_inj.1 (by omega)) }
      cases hq : (x != y) with
      | true =>
        rw [hq] at hxy
        have HF := Lib.hid' (HN.out (by rwa [bne_iff_ne] at hq))
        go_quiet (fail)
        go_wp2_with fail
        go_ret
        exact ⟨ret_eq (by rw [HF.out]; rfl), below_drewN' HB.out _⟩
      | false =>
        rw [hq] at hxy
        have HF := Lib.hid' (HT.out (by rwa [bne_eq_false_iff_eq] at hq))
        go_quiet (fail)
        go_wp2_with fail
        go_roundw
        case rel => exact ⟨k + 1, by go_num, by omega, HF, Lib.hid' (below_drewN' HB.out _)⟩
        case measure => simp [intOf]; omega
    · have HF := Lib.hid' (show (l == m) = true by rw [beq_iff_eq]; exact eq_takeB HL.out HNO.out hlt)
      go_wp2_with fail
      go_ret
      exact ⟨ret_eq (by rw [HF.out]; rfl), HB.out⟩
theorem bytes_take {w : World} {a : Option Addr} {n c : Nat} {l : List UInt8} (h : Bytes w (.slice a n c) l) {k : Nat} (hk : k ≤ l.length) : Bytes w (.slice a k c) (l.take k) := by
  obtain ⟨a', c', he, h1, h2, h0, h3⟩ := h
  simp only [Value.slice.injEq] at he
  obtain ⟨rfl, rfl, rfl⟩ := he
  have hl : (l.take k).length = k := by rw [List.length_take]; omega
  refine ⟨a, c, by rw [hl], by rw [hl]; omega, h2, h0, fun j u hu => h3 j u ?_⟩
  have : byteVs (l.take k) = (byteVs l).take k := by simp [byteVs, List.map_take]
  rw [this] at hu
  rw [List.getElem?_take] at hu
  split at hu
  · exact hu
  · cases hu
theorem bytes_drop {w : World} {b off n c : Nat} {l : List UInt8} (h : Bytes w (.slice (some ⟨b, off, none⟩) n c) l) {k : Nat} (hk : k ≤ l.length) : Bytes w (.slice (some ⟨b, off + k, none⟩) (l.length - k) (c - k)) (l.drop k) := by
  obtain ⟨a', c', he, h1, h2, h0, h3⟩ := h
  simp only [Value.slice.injEq] at he
  obtain ⟨rfl, rfl, rfl⟩ := he
  have hadd : ∀ b o j : Nat, (⟨b, o, none⟩ : Addr).add j = ⟨b, o + j, none⟩ := fun b o j => by unfold Addr.add; split <;> simp_all
  refine ⟨some ⟨b, off + k, none⟩, c - k, by rw [List.length_drop], by rw [List.length_drop]; omega, by omega, by simp, fun j u hu => ⟨_, rfl, ?_⟩⟩
  have : byteVs (l.drop k) = (byteVs l).drop k := by simp [byteVs, List.map_drop]
  rw [this, List.getElem?_drop] at hu
  obtain ⟨p, hp, hc⟩ := h3 (k + j) u hu
  cases hp
  rw [hadd] at hc
  rw [hadd, Nat.add_assoc]; exact hc
theorem slv_alloc (w : World) (cs : List Value) (n e : Nat) (hn : n ≤ maxLen) (hl : cs.length = n) : (w.alloc (.cells cs.toArray e)).ownsRow w.heap.size e 1 (.slice (some ⟨w.heap.size, 0, none⟩) n n) n cs :=
  ⟨by omega, .inr ⟨w.heap.size, n, cs.toArray, rfl, Nat.le_refl _, by show (w.heap.push _)[w.heap.size]? = _; simp, Nat.le_refl _, hn, by simp; omega, by rw [Nat.mul_one]; exact List.take_of_length_le (by simp; omega)⟩⟩
theorem bytes_sub {w : World} {a : Option Addr} {c k : Nat} {l : List UInt8} (h : Bytes w (.slice a l.length c) l) (hk : k ≤ l.length) (a2 : Option Addr) (h2 : (∃ b off, a = some ⟨b, off, none⟩ ∧ a2 = some ⟨b, off + k, none⟩) ∨ l.length = k) (h0 : a2 = none → c = k) : Bytes w (.slice a2 (l.drop k).length (c - k)) (l.drop k) := by
  have hcap : l.length ≤ c ∧ c ≤ maxLen := by obtain ⟨_, _, he, h1, h2, _⟩ := h; cases he; exact ⟨h1, h2⟩
  rcases h2 with ⟨b, off, rfl, rfl⟩ | h2
  · rw [List.length_drop]; exact bytes_drop h hk
  · have e : l.drop k = [] := by rw [← h2]; simp
    rw [e]
    exact SlV.empty _ _ _ (by omega) (fun h => by have := h0 h; omega)
end Go.Proofs.YtkhnbdbcaebdaaaGreatDoor

namespace Go.Proofs.YtkhnbdbcaebdaaaGreatDoor
open Go.RowKit
set_option linter.unusedSimpArgs false
set_option linter.unusedVariables false
set_option maxRecDepth 20000

set_option maxHeartbeats 400000 in
theorem step_any (x : Nat) (hx : x < 4294967296) (w : World) : Calls Tryz.prog 244 #[.int .u32 x] w fun e w' => e = .returned (.int .u32 (crcByte x)) ∧ w = w' := by
  go_enter Tryz.func244, Tryz.ntmps244
  go_wp2_with fail
  go_loop [0, 4] (fun v0 v4 => ∃ k : Nat, v4 = .int .i64 k ∧ k ≤ 8 ∧ v0 = .int .u32 (crcBits k x)) (fun _ v4 => 8 - (intOf v4).toNat)
  case atStart => exact ⟨0, rfl, Nat.zero_le _, rfl⟩
  case round =>
    obtain ⟨k, rfl, hk, rfl⟩ := hrel
    have hlt32 := crcBits_lt k hx
    have HS := Lib.hid' (crcBits_succ k x)
    have HE := Lib.hid' (show k = 8 → crcBits k x = crcByte x from fun h => by subst h; rfl)
    generalize crcBits k x = y at *
    by_cases hlt : k < 8
    · have HA := Lib.hid' (and1_u32 hlt32)
      have HX := Lib.hid' (show bits .xor .u32 ((y : Int) / 2) 2197175160 = ((y / 2 ^^^ 2197175160 : Nat) : Int) from xor_u32 (a := y / 2) (b := 2197175160) (by omega) (by decide))
      cases hb : (bits BinOp.and IntKind.u32 (y : Int) 1 == 1) with
      | true =>
        have HV := Lib.hid' (show ((y / 2 ^^^ 2197175160 : Nat)) = crcBit y by
          unfold crcBit
          have := HA.out; simp only [beq_iff_eq] at hb; rw [if_pos (by omega)])
        go_wp2_with fail
        go_round
        case rel => exact ⟨k + 1, by go_num, by omega, by rw [HX.out, HV.out, HS.out]⟩
        case measure => simp [intOf]; omega
      | false =>
        have HV := Lib.hid' (show y / 2 = crcBit y by
          unfold crcBit
          have := HA.out; rw [beq_eq_false_iff_ne] at hb; rw [if_neg (by omega)])
        go_wp2_with fail
        go_round
        case rel => exact ⟨k + 1, by go_num, by omega, by rw [HS.out, ← HV.out]; go_num⟩
        case measure => simp [intOf]; omega
    · have HF := Lib.hid' (HE.out (by omega))
      go_wp2_with fail
      go_ret
      exact ⟨ret_eq (by rw [← HF.out]; rfl), rfl⟩
end Go.Proofs.YtkhnbdbcaebdaaaGreatDoor

namespace Go.Proofs.YtkhnbdbcaebdaaaGreatDoor
open Go.RowKit
set_option linter.unusedSimpArgs false
set_option linter.unusedVariables false
set_option maxRecDepth 20000

def tabAt (k : Nat) : List Value := (List.range 256).map (fun j => .int .u32 ((if j < k then crcByte j else 0 : Nat)))
def mkR (d s m : Value) (k : Nat) (q : Value) : List Value := d :: s :: m :: (tabAt k ++ [q])
theorem zeroMaker : Tryz.zeroCells208 = (mkR (.int .u32 0) (.int .i32 0) (.int .u32 0) 0 (.int .i64 0)).toArray := by kernel_rfl
theorem crcnew_any (w : World) : Calls Tryz.prog 110 #[] w fun e w' => e = .returned (.pointer (some ⟨w.heap.size, 0, none⟩)) ∧ BoxW w.heap.size (mkR (.int .u32 0) (.int .i32 0) (.int .u32 0) 0 (.int .i64 0)) 208 w' ∧ Below w.heap.size w w' ∧ w'.heap.size = w.heap.size + 1 := by
  have HZ := Lib.hid' zeroMaker
  go_enter Tryz.func110, Tryz.ntmps110
  go_wp2
  go_ret
  refine ⟨rfl, ?_, by go_grown, by simp⟩
  rw [HZ.out]
  exact BoxW.start _ _ _
theorem tab_len (k : Nat) : (tabAt k).length = 256 := by simp [tabAt]
theorem tab_set (k : Nat) (hk : k < 256) : (tabAt k).set k (.int .u32 (crcByte k : Nat)) = tabAt (k + 1) := by
  apply List.ext_getElem
  · simp [tabAt]
  · intro j h1 h2
    have hj : j < 256 := by simpa [tabAt] using h2
    rw [List.getElem_set]
    split
    · rename_i h; subst h; simp [tabAt]
    · rename_i h
      simp only [tabAt, List.getElem_map, List.getElem_range]
      by_cases h3 : j < k
      · rw [if_pos h3, if_pos (by omega)]
      · rw [if_neg h3, if_neg (by omega)]
theorem mkR_set (d s m q : Value) (k : Nat) (hk : k < 256) : (mkR d s m k q).set (3 + k) (.int .u32 (crcByte k : Nat)) = mkR d s m (k + 1) q := by
  unfold mkR
  rw [show 3 + k = k + 1 + 1 + 1 from by omega]
  simp only [List.set_cons_succ]
  rw [List.set_append_left _ _ (by rw [tab_len]; exact hk), tab_set k hk]
theorem mkR_get (d s m q : Value) (n k : Nat) (hk : k < 256) : (mkR d s m n q)[3 + k]? = some (.int .u32 ((if k < n then crcByte k else 0 : Nat))) := by
  unfold mkR
  rw [show 3 + k = k + 1 + 1 + 1 from by omega]
  simp only [List.getElem?_cons_succ]
  rw [List.getElem?_append_left (by rw [tab_len]; exact hk)]
  simp [tabAt, hk]

set_option maxHeartbeats 1000000 in
theorem crcfill_any (M : Nat) (d s m q : Value) (w : World) (h : BoxW M (mkR d s m 0 q) 208 w) :
    Calls Tryz.prog 232 #[.pointer (some ⟨M, 0, none⟩)] w fun e w' => e = .returned (.tuple #[]) ∧ BoxW M (mkR d s m 256 q) 208 w' ∧ Fr (fun k => k = M) w w' := by
  have HX := Lib.hid' h
  clear h
  go_enter Tryz.func232, Tryz.ntmps232
  go_wp2_with fail
  go_loopw [3] (fun v3 wr => ∃ k : Nat, v3 = .int .i64 k ∧ k ≤ 256 ∧ Hid (BoxW M (mkR d s m k q) 208 wr) ∧ Hid (Fr (fun k => k = M) w wr)) (fun v3 _ => 256 - (intOf v3).toNat)
  case atStart => exact ⟨0, rfl, Nat.zero_le _, HX, Lib.hid' (Fr.refl _ _)⟩
  case round =>
    obtain ⟨k, rfl, hk, HB, HF⟩ := hrel
    by_cases hlt : k < 256
    · have c0 := HB.out.box.1 0 _ rfl
      have ck := HB.out.box.1 _ _ (mkR_get d s m q k k hlt)
      have fk := HB.out.box.2.1 (3 + k)
      have HC := Lib.hid' (step_any k (by omega))
      go_wp2_with fail

      refine wp_region_held_drew (S := (fun _ => True)) (by kernel_rfl) trivial (fun hH0 => ?_)
      refine wpAnyH_take (i := 0) (oi := _) (v := .pointer (some ⟨M, 0, none⟩)) rfl (by kernel_rfl) (by kernel_rfl) (by kernel_rfl) (fun _ _ _ h => h) (Or.inl ⟨by rfl, ?_⟩) hH0 ?_
      · intro w hSw; go_simp
      simp only [Act.put, List.getElem_toArray, List.getElem_cons_zero, List.getElem_cons_succ, List.setIfInBounds_toArray, List.set_cons_zero, List.set_cons_succ]
      refine wpAnyH_take (i := 1) (oi := _) (v := .int .i64 (k : Int)) rfl (by kernel_rfl) (by kernel_rfl) (by kernel_rfl) (fun _ _ _ h => h) (Or.inl ⟨by rfl, ?_⟩) hH0 ?_
      · intro w hSw; go_simp
      simp only [Act.put, List.getElem_toArray, List.getElem_cons_zero, List.getElem_cons_succ, List.setIfInBounds_toArray, List.set_cons_zero, List.set_cons_succ]
      refine wpAnyH_take (i := 2) (oi := _) (v := .int .i64 (k : Int)) rfl (by kernel_rfl) (by kernel_rfl) (by kernel_rfl) (fun _ _ _ h => h) (Or.inl ⟨by rfl, ?_⟩) hH0 ?_
      · intro w hSw; go_simp
      simp only [Act.put, List.getElem_toArray, List.getElem_cons_zero, List.getElem_cons_succ, List.setIfInBounds_toArray, List.set_cons_zero, List.set_cons_succ]
      refine wpAnyH_take (i := 3) (oi := _) (v := .int .u32 (k : Int)) rfl (by kernel_rfl) (by kernel_rfl) (by kernel_rfl) (fun _ _ _ h => h) (Or.inl ⟨by rfl, ?_⟩) hH0 ?_
      · intro w hSw; go_simp; exact wraps_u32 _ (by omega) (by omega)
      simp only [Act.put, List.getElem_toArray, List.getElem_cons_zero, List.getElem_cons_succ, List.setIfInBounds_toArray, List.set_cons_zero, List.set_cons_succ]
      refine wpAnyH_ready (rs := [4, 5]) (by kernel_rfl) (by simp) (AllReadyH.cons (o := _) rfl (fun K hK => ?_) (AllReadyH.cons (o := _) rfl (fun K hK => ?_) AllReadyH.nil))
      · skip
        go_simp
        refine (HC.out wr.drew).mono ?_
        rintro en w5 ⟨rfl, rfl⟩
        refine hK.out _ _ ?_ (fun hH1 => ?_)
        · trivial
        clear hK K
        refine wpAnyH_ready (rs := [5]) (by kernel_rfl) (by simp) (AllReadyH.cons (o := _) rfl (fun K hK => ?_) AllReadyH.nil)
        go_simp
        refine hK.out _ _ ?_ (fun hH2 => ?_)
        · trivial
        clear hK K
        refine wpAnyH_ready (rs := [6]) (by kernel_rfl) (by simp) (AllReadyH.cons (o := _) rfl (fun K hK => ?_) AllReadyH.nil)
        go_simp
        refine hK.out _ _ ?_ (fun hH3 => ?_)
        · trivial
        clear hK K
        refine wpAnyH_ready (rs := [7]) (by kernel_rfl) (by simp) (AllReadyH.cons (o := _) rfl (fun K hK => ?_) AllReadyH.nil)
        go_simp
        refine hK.out _ _ ?_ (fun hH4 => ?_)
        · trivial
        clear hK K
        refine wpAnyH_ready (rs := [8]) (by kernel_rfl) (by simp) (AllReadyH.cons (o := _) rfl (fun K hK => ?_) AllReadyH.nil)
        go_simp
        refine hK.out _ _ ?_ (fun hH5 => ?_)
        · trivial
        clear hK K
        refine wpAnyH_done (by kernel_rfl) ?_ _
        have HB2 := Lib.hid' (show BoxW M (mkR d s m (k + 1) q) 208 (wr.setCell ⟨M, 3 + k, none⟩ (.int .u32 (crcByte k))).drew by rw [← mkR_set _ _ _ _ _ hlt]; exact (HB.out.set (3 + k) _).drew)
        have HF2 := Lib.hid' (show Fr (fun k => k = M) w (wr.setCell ⟨M, 3 + k, none⟩ (.int .u32 (crcByte k))).drew from (HF.out.trans (fr_set wr M (3 + k) (.int .u32 (crcByte k))) (fun i hi => .inl hi)).trans_below (Below.drew (Below.refl _ _)))
        generalize (wr.setCell ⟨M, 3 + k, none⟩ (.int .u32 (crcByte k))).drew = w2 at *
        go_wp2_with fail
        go_roundw
        case rel => exact ⟨k + 1, by go_num, by omega, HB2, HF2⟩
        case measure => simp [intOf]; omega
      · skip
        go_simp
        refine hK.out _ _ ?_ (fun hH1 => ?_)
        · trivial
        clear hK K
        refine wpAnyH_ready (rs := [4, 6]) (by kernel_rfl) (by simp) (AllReadyH.cons (o := _) rfl (fun K hK => ?_) (AllReadyH.cons (o := _) rfl (fun K hK => ?_) AllReadyH.nil))
        · skip
          go_simp
          refine (HC.out wr.drew).mono ?_
          rintro en w5 ⟨rfl, rfl⟩
          refine hK.out _ _ ?_ (fun hH2 => ?_)
          · trivial
          clear hK K
          refine wpAnyH_ready (rs := [6]) (by kernel_rfl) (by simp) (AllReadyH.cons (o := _) rfl (fun K hK => ?_) AllReadyH.nil)
          go_simp
          refine hK.out _ _ ?_ (fun hH3 => ?_)
          · trivial
          clear hK K
          refine wpAnyH_ready (rs := [7]) (by kernel_rfl) (by simp) (AllReadyH.cons (o := _) rfl (fun K hK => ?_) AllReadyH.nil)
          go_simp
          refine hK.out _ _ ?_ (fun hH4 => ?_)
          · trivial
          clear hK K
          refine wpAnyH_ready (rs := [8]) (by kernel_rfl) (by simp) (AllReadyH.cons (o := _) rfl (fun K hK => ?_) AllReadyH.nil)
          go_simp
          refine hK.out _ _ ?_ (fun hH5 => ?_)
          · trivial
          clear hK K
          refine wpAnyH_done (by kernel_rfl) ?_ _
          have HB2 := Lib.hid' (show BoxW M (mkR d s m (k + 1) q) 208 (wr.setCell ⟨M, 3 + k, none⟩ (.int .u32 (crcByte k))).drew by rw [← mkR_set _ _ _ _ _ hlt]; exact (HB.out.set (3 + k) _).drew)
          have HF2 := Lib.hid' (show Fr (fun k => k = M) w (wr.setCell ⟨M, 3 + k, none⟩ (.int .u32 (crcByte k))).drew from (HF.out.trans (fr_set wr M (3 + k) (.int .u32 (crcByte k))) (fun i hi => .inl hi)).trans_below (Below.drew (Below.refl _ _)))
          generalize (wr.setCell ⟨M, 3 + k, none⟩ (.int .u32 (crcByte k))).drew = w2 at *
          go_wp2_with fail
          go_roundw
          case rel => exact ⟨k + 1, by go_num, by omega, HB2, HF2⟩
          case measure => simp [intOf]; omega
        · skip
          go_simp
          refine hK.out _ _ ?_ (fun hH2 => ?_)
          · trivial
          clear hK K
          refine wpAnyH_ready (rs := [4]) (by kernel_rfl) (by simp) (AllReadyH.cons (o := _) rfl (fun K hK => ?_) AllReadyH.nil)
          go_simp
          refine (HC.out wr.drew).mono ?_
          rintro en w5 ⟨rfl, rfl⟩
          refine hK.out _ _ ?_ (fun hH3 => ?_)
          · trivial
          clear hK K
          refine wpAnyH_ready (rs := [7]) (by kernel_rfl) (by simp) (AllReadyH.cons (o := _) rfl (fun K hK => ?_) AllReadyH.nil)
          go_simp
          refine hK.out _ _ ?_ (fun hH4 => ?_)
          · trivial
          clear hK K
          refine wpAnyH_ready (rs := [8]) (by kernel_rfl) (by simp) (AllReadyH.cons (o := _) rfl (fun K hK => ?_) AllReadyH.nil)
          go_simp
          refine hK.out _ _ ?_ (fun hH5 => ?_)
          · trivial
          clear hK K
          refine wpAnyH_done (by kernel_rfl) ?_ _
          have HB2 := Lib.hid' (show BoxW M (mkR d s m (k + 1) q) 208 (wr.setCell ⟨M, 3 + k, none⟩ (.int .u32 (crcByte k))).drew by rw [← mkR_set _ _ _ _ _ hlt]; exact (HB.out.set (3 + k) _).drew)
          have HF2 := Lib.hid' (show Fr (fun k => k = M) w (wr.setCell ⟨M, 3 + k, none⟩ (.int .u32 (crcByte k))).drew from (HF.out.trans (fr_set wr M (3 + k) (.int .u32 (crcByte k))) (fun i hi => .inl hi)).trans_below (Below.drew (Below.refl _ _)))
          generalize (wr.setCell ⟨M, 3 + k, none⟩ (.int .u32 (crcByte k))).drew = w2 at *
          go_wp2_with fail
          go_roundw
          case rel => exact ⟨k + 1, by go_num, by omega, HB2, HF2⟩
          case measure => simp [intOf]; omega

    · obtain rfl : k = 256 := by omega
      go_wp2_with fail
      go_end0
      exact ⟨rfl, HB.out, HF.out⟩
end Go.Proofs.YtkhnbdbcaebdaaaGreatDoor

namespace Go.Proofs.YtkhnbdbcaebdaaaGreatDoor
open Go.RowKit
set_option linter.unusedSimpArgs false
set_option linter.unusedVariables false
set_option maxRecDepth 100000

theorem race_disable (w : World) : (callFunc 254 #[]).run Tryz.prog w = .ok (.value (.tuple #[])) w := run_call_mark0 Tryz.func254 (by kernel_rfl) (by kernel_rfl) (by kernel_rfl) .disable (by kernel_rfl) w
theorem race_enable (w : World) : (callFunc 256 #[]).run Tryz.prog w = .ok (.value (.tuple #[])) w := run_call_mark0 Tryz.func256 (by kernel_rfl) (by kernel_rfl) (by kernel_rfl) .enable (by kernel_rfl) w
theorem race_acquire (a : Addr) (w : World) : (callFunc 257 #[.pointer (some a)]).run Tryz.prog w = .ok (.value (.tuple #[])) w := run_call_marked Tryz.func257 (by kernel_rfl) (by kernel_rfl) (by kernel_rfl) .acquire (by kernel_rfl) a w
theorem race_release (a : Addr) (w : World) : (callFunc 259 #[.pointer (some a)]).run Tryz.prog w = .ok (.value (.tuple #[])) w := run_call_marked Tryz.func259 (by kernel_rfl) (by kernel_rfl) (by kernel_rfl) .releaseMerge (by kernel_rfl) a w
theorem once_store (a : Addr) (x : Value) (u : FrameMode) (w : World) (hc : w.cell? a = some x) (hz : w.frozen? a = false) :
    CallsD Tryz.prog 249 #[.pointer (some a), .bool true] u w fun e u' w' => u' = u ∧ (e = .returned (.tuple #[]) ∧ w' = w.drew.setCell a (.int .u32 1)) := by
  have hc' : w.drew.cell? a = some x := by go_simp
  have hz' : w.drew.frozen? a = false := by go_simp
  have hst := run_call_store (P := Tryz.prog) Tryz.func252 (by kernel_rfl) (by kernel_rfl) (by kernel_rfl) (by kernel_rfl) (k := .u32) (y := 1) hc' hz'
  go_enter_d Tryz.func249, Tryz.ntmps249
  go_wp2
  go_region_calls
  all_goals (go_end0; exact ⟨rfl, rfl⟩)
theorem once_unlock (a : Addr) (u : FrameMode) (w : World) (hc : w.cell? a = some (.int .i32 1)) (hz : w.frozen? a = false) :
    CallsD Tryz.prog 248 #[.pointer (some a)] u w fun e u' w' => u' = u ∧ (e = .returned (.tuple #[]) ∧ w' = w.setCell a (.int .i32 0)) := by
  have hd := race_disable
  have he := race_enable
  have hr := race_release
  have hadd := run_call_add (P := Tryz.prog) Tryz.func260 (by kernel_rfl) (by kernel_rfl) (by kernel_rfl) .i32 (by kernel_rfl) (y := -1) (s := 0) hc hz (by simp [go_sem]; rfl)
  have hcv := run_convert_to_unsafe (P := Tryz.prog) (src := 303) (dst := 247) Tryz.underlying303 Tryz.underlying247 (by kernel_rfl) hc
  go_enter_d Tryz.func248, Tryz.ntmps248
  go_wp2
  go_end0
  go_wp2
theorem once_lock (a : Addr) (w : World) (hc : w.cell? a = some (.int .i32 0)) (hz : w.frozen? a = false) :
    Calls Tryz.prog 247 #[.pointer (some a)] w fun e w' => e = .returned (.tuple #[]) ∧ w' = w.setCell a (.int .i32 1) := by
  have hd := race_disable
  have he := race_enable
  have ha := race_acquire
  have hcas := run_call_cas_hit (P := Tryz.prog) Tryz.func255 (by kernel_rfl) (by kernel_rfl) (by kernel_rfl) .i32 (by kernel_rfl) (y := 1) hc hz
  have hc' : (w.setCell a (.int .i32 1)).cell? a = some (.int .i32 1) := World.cell?_setCell_same w a _ hc
  have hcv := run_convert_to_unsafe (P := Tryz.prog) (src := 303) (dst := 247) Tryz.underlying303 Tryz.underlying247 (by kernel_rfl) hc'
  go_enter Tryz.func247, Tryz.ntmps247
  go_wp2
  first | go_end0 | (simp only [Exit.inBlock, Exit.then]; refine bodyPost_ret (results_none rfl _ _ _) rfl ?_) | refine bodyPost_ret (results_none rfl _ _ _) rfl ?_
  go_wp2
theorem once_load (a : Addr) (d : Int) (w : World) (h0 : w.cell? a = some (.int .u32 d)) :
    Calls Tryz.prog 242 #[.pointer (some a)] w fun e w' => e = .returned (.bool (d != 0)) ∧ w = w' := by
  have hl := run_call_load (P := Tryz.prog) Tryz.func246 (by kernel_rfl) (by kernel_rfl) (by kernel_rfl) .u32 (by kernel_rfl) h0
  go_enter Tryz.func242, Tryz.ntmps242
  go_wp2
  go_ret
  exact ⟨rfl, rfl⟩

theorem mkR_0 (d d' s m q : Value) (k : Nat) : (mkR d s m k q).set 0 d' = mkR d' s m k q := rfl
theorem mkR_1 (d s s' m q : Value) (k : Nat) : (mkR d s m k q).set 1 s' = mkR d s' m k q := rfl
set_option maxHeartbeats 1600000 in
theorem once_slow (M : Nat) (m q : Value) (w : World) (h : BoxW M (mkR (.int .u32 0) (.int .i32 0) m 0 q) 208 w) :
    Calls Tryz.prog 243 #[.pointer (some ⟨M, 0, none⟩), .func (.func 232) #[.pointer (some ⟨M, 0, none⟩)] #[]] w
      fun e w' => e = .returned (.tuple #[]) ∧ BoxW M (mkR (.int .u32 1) (.int .i32 0) m 256 q) 208 w' ∧ Fr (fun k => k = M) w w' := by
  have HX := Lib.hid' h
  have c1 := h.box.1 1 _ rfl
  have f1 := h.box.2.1 1
  clear h
  have hcf : ∀ args w, (callFunc 232 args).run Tryz.prog w = .ok (.enter 232 args) w := fun _ _ => by kernel_rfl
  go_enter_defers Tryz.func243, Tryz.ntmps243
  go_wp2_with fail
  refine (once_lock ⟨M, 1, none⟩ w c1 f1).mono ?_
  rintro e w1 ⟨rfl, hw1⟩
  have HX1 := Lib.hid' (show BoxW M (mkR (.int .u32 0) (.int .i32 1) m 0 q) 208 w1 by rw [hw1, ← mkR_1 (.int .u32 0) (.int .i32 0)]; exact HX.out.set 1 _)
  have HF1 := Lib.hid' (show Fr (fun k => k = M) w w1 by rw [hw1]; exact fr_set _ _ _ _)
  clear hw1 c1 f1
  have c0 := HX1.out.box.1 0 _ rfl
  go_wp2_with fail
  refine (once_load ⟨M, 0, none⟩ 0 w1 c0).mono ?_
  rintro e w2 ⟨rfl, rfl⟩
  go_wp2_with fail
  refine (crcfill_any M _ _ m q w1 HX1.out).mono ?_
  rintro e w2 ⟨rfl, hx2, hf2⟩
  have HX2 := Lib.hid' hx2
  have HF2 := Lib.hid' (HF1.out.trans hf2 (fun i hi => .inl hi))
  clear hx2 hf2 c0
  go_wp2_with fail
  have c0 := HX2.out.box.1 0 _ rfl
  have f0 := HX2.out.box.2.1 0
  refine leaves_cons (f := 249) (args := #[.pointer (some ⟨M, 0, none⟩), .bool true]) (by simp) (by simp [go_sem]) ?_
  refine (once_store ⟨M, 0, none⟩ (.int .u32 0) .returning _ c0 f0).mono ?_
  rintro e u' w3 ⟨rfl, rfl, hw3⟩
  have HX3 := Lib.hid' (show BoxW M (mkR (.int .u32 1) (.int .i32 1) m 256 q) 208 w3 by rw [hw3, ← mkR_0 (.int .u32 0) (.int .u32 1)]; exact HX2.out.drew.set 0 _)
  have HF3 := Lib.hid' (show Fr (fun k => k = M) w w3 by rw [hw3]; exact (HF2.out.trans_below (Below.drew (Below.refl _ _))).trans (fr_set _ _ _ _) (fun i hi => .inl hi))
  clear hw3 c0 f0
  have c1 := HX3.out.box.1 1 _ rfl
  have f1 := HX3.out.box.2.1 1
  refine leaves_cons (f := 248) (args := #[.pointer (some ⟨M, 1, none⟩)]) (by simp [settle]) (by simp [go_sem]) ?_
  refine (once_unlock ⟨M, 1, none⟩ _ _ c1 f1).mono ?_
  rintro e u' w4 ⟨rfl, rfl, hw4⟩
  have HX4 := Lib.hid' (show BoxW M (mkR (.int .u32 1) (.int .i32 0) m 256 q) 208 w4 by rw [hw4, ← mkR_1 (.int .u32 1) (.int .i32 1)]; exact HX3.out.set 1 _)
  have HF4 := Lib.hid' (show Fr (fun k => k = M) w w4 by rw [hw4]; exact HF3.out.trans (fr_set _ _ _ _) (fun i hi => .inl hi))
  clear hw4 c1 f1
  simp [Leaves, settle, results, Tryz.results243]
  exact ⟨HX4.out, HF4.out⟩
set_option maxHeartbeats 1600000 in
theorem once_do (M : Nat) (m q : Value) (w : World) (h : BoxW M (mkR (.int .u32 0) (.int .i32 0) m 0 q) 208 w) :
    Calls Tryz.prog 231 #[.pointer (some ⟨M, 0, none⟩), .func (.func 232) #[.pointer (some ⟨M, 0, none⟩)] #[]] w
      fun e w' => e = .returned (.tuple #[]) ∧ BoxW M (mkR (.int .u32 1) (.int .i32 0) m 256 q) 208 w' ∧ Fr (fun k => k = M) w w' := by
  have HX := Lib.hid' h
  have c0 := h.box.1 0 _ rfl
  clear h
  go_enter Tryz.func231, Tryz.ntmps231
  go_wp2_with fail
  refine (once_load ⟨M, 0, none⟩ 0 w c0).mono ?_
  rintro e w2 ⟨rfl, rfl⟩
  go_wp2_with fail
  refine (once_slow M m q w HX.out).mono ?_
  rintro e w2 ⟨rfl, hx2, hf2⟩
  have HX2 := Lib.hid' hx2
  have HF2 := Lib.hid' hf2
  clear hx2 hf2 c0
  go_wp2_with fail
  go_end0
  exact ⟨rfl, HX2.out, HF2.out⟩
end Go.Proofs.YtkhnbdbcaebdaaaGreatDoor

namespace Go.Proofs.YtkhnbdbcaebdaaaGreatDoor
open Go.RowKit
set_option linter.unusedSimpArgs false
set_option linter.unusedVariables false
set_option maxRecDepth 100000

theorem mkR_no (d : Int) (s : Int) (m : Int) (k : Nat) (q : Int) (b : UInt8) : byteV b ∉ mkR (.int .u32 d) (.int .i32 s) (.int .u32 m) k (.int .i64 q) := by
  unfold mkR byteV tabAt
  simp
theorem tab_in (d s m q : Value) {k : Nat} (hk : k < 256) : (mkR d s m 256 q)[3 + k]? = some (.int .u32 (crcByte k : Nat)) := by
  rw [mkR_get d s m q 256 k hk, if_pos hk]
theorem not_u32 {x : Nat} (h : x < 4294967296) : bits .xor .u32 IntKind.u32.max (x : Int) = ((crcNot x : Nat) : Int) := by
  have := xor_u32 (a := 4294967295) (b := x) (by decide) h
  rw [show IntKind.u32.max = ((4294967295 : Nat) : Int) from by decide, this]
  unfold crcNot; rw [Nat.xor_comm]
theorem tab_idx {x : Nat} (hx : x < 4294967296) (c : UInt8) : ∃ i : Nat, i < 256 ∧ bits .xor .u8 ((x : Int) % 256) (c.toNat : Int) = (i : Int) ∧ bits .xor .u32 ((crcByte i : Nat) : Int) ((x : Int) / 256) = ((crcTab x c : Nat) : Int) := by
  have hc := c.toNat_lt
  refine ⟨(x % 256) ^^^ c.toNat, ?_, ?_, ?_⟩
  · have := @Nat.xor_lt_two_pow (x % 256) c.toNat 8 (by omega) (by simpa using hc); simpa using this
  · exact xor_u8 (a := x % 256) (b := c.toNat) (by omega) (by omega)
  · have hb : crcByte ((x % 256) ^^^ c.toNat) < 4294967296 := crcBits_lt 8 (by
      have := @Nat.xor_lt_two_pow (x % 256) c.toNat 32 (by omega) (by omega); simpa using this)
    exact xor_u32 (a := crcByte ((x % 256) ^^^ c.toNat)) (b := x / 256) hb (by omega)
set_option maxHeartbeats 1600000 in
theorem extend_any (M : Nat) (m q : Int) (s : Nat) (hs : s < 4294967296) (a : Option Addr) (c : Nat) (b : List UInt8) (w : World) (h : BoxW M (mkR (.int .u32 0) (.int .i32 0) (.int .u32 m) 0 (.int .i64 q)) 208 w) (hb : Bytes w (.slice a b.length c) b) :
    Calls Tryz.prog 207 #[.pointer (some ⟨M, 0, none⟩), .int .u32 s, .slice a b.length c] w
      fun e w' => e = .returned (.int .u32 (crcOf s b)) ∧ BoxW M (mkR (.int .u32 1) (.int .i32 0) (.int .u32 m) 256 (.int .i64 q)) 208 w' ∧ Fr (fun k => k = M) w w' := by
  have HX := Lib.hid' h
  have HB := Lib.hid' hb
  have hlen : b.length ≤ 9223372036854775807 := by obtain ⟨_, _, he, h1, h2, _⟩ := hb; cases he; unfold maxLen at h2; omega
  have c0 := h.box.1 0 _ rfl
  clear h hb
  go_enter Tryz.func207, Tryz.ntmps207
  go_wp2_with fail
  refine (once_do M _ _ w HX.out).mono ?_
  rintro e w1 ⟨rfl, hx1, hf1⟩
  have HX1 := Lib.hid' hx1
  have HF1 := Lib.hid' hf1
  have HB1 := Lib.hid' (show Bytes w1 (.slice a b.length c) b from HX.out.bytes (fun x => mkR_no _ _ _ _ _ x) HB.out hf1)
  clear hx1 hf1 c0
  go_wp2_with fail
  rw [not_u32 hs]
  have hfs := crcNot_lt hs
  go_loopw [7, 26] (fun v7 v26 wr => ∃ k : Nat, v26 = .int .i64 k ∧ k ≤ b.length ∧ v7 = .int .u32 (((b.take k).foldl crcRef (crcNot s) : Nat) : Int) ∧ wr = w1) (fun _ v26 _ => b.length - (intOf v26).toNat)
  case atStart => exact ⟨0, rfl, Nat.zero_le _, rfl, rfl⟩
  case round =>
    obtain ⟨k, rfl, hk, rfl, rfl⟩ := hrel
    have hx := crcFold_lt (b.take k) hfs
    by_cases hlt : k < b.length
    · obtain ⟨bb, off, rfl, hbb, hc⟩ := SlV.row (f := fun x : UInt8 => [byteV x]) (s := 1) (fun _ => rfl) (by decide) (show SlV wr (.slice a b.length c) b.length (b.flatMap fun x => [byteV x]) from by rw [← map_one]; exact HB1.out) hlt
      have c1 := hc 0 _ rfl
      simp only [Nat.mul_one, Nat.add_zero, byteV] at c1
      have HT := Lib.hid' (show (b.take (k + 1)).foldl crcRef (crcNot s) = crcTab ((b.take k).foldl crcRef (crcNot s)) b[k] by
        rw [List.take_succ_eq_append_getElem hlt, List.foldl_append, crc_same]; rfl)
      clear hc
      generalize b[k] = y at *
      generalize (b.take k).foldl crcRef (crcNot s) = x at *
      obtain ⟨i, hi, e1, e2⟩ := tab_idx hx y
      have ck := HX1.out.box.1 _ _ (tab_in (.int .u32 1) (.int .i32 0) (.int .u32 m) (.int .i64 q) hi)
      have hyl := y.toNat_lt
      have c0 := HX1.out.box.1 0 _ rfl
      go_wp2_with fail
      go_roundw
      case rel => exact ⟨k + 1, by go_num, by omega, by rw [HT.out], trivial⟩
      case measure => simp [intOf]; omega
    · obtain rfl : k = b.length := by omega
      have HF := Lib.hid' (show crcOf s b = crcNot ((b.take b.length).foldl crcRef (crcNot s)) by rw [List.take_length]; rfl)
      generalize (b.take b.length).foldl crcRef (crcNot s) = x at *
      have hn := not_u32 hx
      go_wp2_with fail
      go_ret
      exact ⟨ret_eq (by rw [HF.out]; rfl), HX1.out, HF1.out⟩
theorem ask_any (M : Nat) (d s m : Value) (k : Nat) (w : World) (h : BoxW M (mkR d s m k (.int .i64 0)) 208 w) :
    Calls Tryz.prog 205 #[.pointer (some ⟨M, 0, none⟩)] w fun e w' => e = .returned (.tuple #[]) ∧ BoxW M (mkR d s m k (.int .i64 1)) 208 w' ∧ Fr (fun k => k = M) w w' := by
  have HX := Lib.hid' h
  have hq : (mkR d s m k (.int .i64 0))[259]? = some (.int .i64 0) := by
    unfold mkR
    simp only [List.getElem?_cons_succ]
    rw [List.getElem?_append_right (by rw [tab_len]; decide), tab_len]; rfl
  have hs : (mkR d s m k (.int .i64 0)).set 259 (.int .i64 1) = mkR d s m k (.int .i64 1) := by
    unfold mkR
    simp only [List.set_cons_succ]
    rw [List.set_append_right _ _ (by rw [tab_len]; decide), tab_len]; rfl
  have HS := Lib.hid' hs
  have cq := h.box.1 _ _ hq
  have fq := h.box.2.1 259
  have c0 := h.box.1 0 _ rfl
  have hadd := run_call_add (P := Tryz.prog) Tryz.func241 (by kernel_rfl) (by kernel_rfl) (by kernel_rfl) .i64 (by kernel_rfl) (y := 1) (s := 1) cq fq (by simp [go_sem]; rfl)
  clear h hq hs
  go_enter Tryz.func205, Tryz.ntmps205
  go_wp2
  first | go_end0 | skip
  exact ⟨rfl, by rw [← HS.out]; exact HX.out.set 259 _, fr_set _ _ _ _⟩
end Go.Proofs.YtkhnbdbcaebdaaaGreatDoor

namespace Go.Proofs.YtkhnbdbcaebdaaaGreatDoor
open Go.RowKit
set_option linter.unusedSimpArgs false
set_option linter.unusedVariables false
set_option maxRecDepth 100000

/-- a row of the call's own is handed back; F: what else was written -/
def OwnRF (B e size n : Nat) (xs : List Value) (F : Nat → Prop) (w : World) (en : Ending) (w' : World) : Prop := ∃ a c, en = .returned (.slice a n c) ∧ w'.ownsRow B e size (.slice a n c) n xs ∧ Fr F w w'
def freshR : List Value := mkR (.int .u32 0) (.int .i32 0) (.int .u32 0) 0 (.int .i64 0)
theorem fr2 {M : Nat} {a b c : World} (h : Fr (fun k => k = M) a b) (k : Fr (fun k => k = M) b c) : Fr (fun k => k = M) a c := h.trans k (fun i hi => .inl hi)
set_option maxHeartbeats 1000000 in
theorem extendM_any (M : Nat) (a : Option Addr) (c : Nat) (b : List UInt8) (w : World) (h : BoxW M freshR 208 w) (hb : Bytes w (.slice a b.length c) b) :
    Calls Tryz.prog 183 #[.pointer (some ⟨M, 0, none⟩), .int .u32 0, .slice a b.length c] w fun e w' => e = .returned (.int .u32 (crcOf 0 b)) ∧ Fr (fun k => k = M) w w' := by
  have HX := Lib.hid' h
  have HB := Lib.hid' hb
  clear h hb
  go_enter Tryz.func183, Tryz.ntmps183
  go_wp2_with fail
  refine (ask_any M _ _ _ 0 w HX.out).mono ?_
  rintro e w1 ⟨rfl, hx1, hf1⟩
  have HX1 := Lib.hid' hx1
  have HF1 := Lib.hid' hf1
  have HB1 := Lib.hid' (show Bytes w1 (.slice a b.length c) b from HX.out.bytes (fun x => mkR_no _ _ _ _ _ x) HB.out hf1)
  clear hx1 hf1
  go_wp2_with fail
  refine (extend_any M 0 1 0 (by decide) a c b w1 HX1.out HB1.out).mono ?_
  rintro e w2 ⟨rfl, hx2, hf2⟩
  have HF2 := Lib.hid' (fr2 HF1.out hf2)
  clear hx2 hf2
  go_wp2
  go_ret
  exact ⟨rfl, HF2.out⟩
set_option maxHeartbeats 1000000 in
theorem sum_any (M : Nat) (a : Option Addr) (c : Nat) (b : List UInt8) (w : World) (h : BoxW M freshR 208 w) (hb : Bytes w (.slice a b.length c) b) :
    Calls Tryz.prog 149 #[.pointer (some ⟨M, 0, none⟩), .slice a b.length c] w fun e w' => e = .returned (.int .u32 (crcOf 0 b)) ∧ Fr (fun k => k = M) w w' := by
  have HX := Lib.hid' h
  have HB := Lib.hid' hb
  clear h hb
  go_enter Tryz.func149, Tryz.ntmps149
  go_wp2_with fail
  refine (extendM_any M a c b w HX.out HB.out).mono ?_
  rintro e w2 ⟨rfl, hf2⟩
  have HF2 := Lib.hid' hf2
  clear hf2
  go_wp2
  go_ret
  exact ⟨rfl, HF2.out⟩
theorem four_any (x : Nat) (hx : x < 4294967296) (w : World) : Calls Tryz.prog 148 #[.int .u32 x] w (OwnR w.heap.size 5 1 4 (byteVs (four x)) w) := by
  go_enter Tryz.func148, Tryz.ntmps148
  go_wp2
  go_ret
  refine ⟨_, _, rfl, ?_, by go_grown⟩
  have := slv_alloc w (byteVs (four x)) 4 5 (by decide) rfl
  have e : byteVs (four x) = [.int .u8 ((x : Int) / 16777216), .int .u8 ((x : Int) / 65536 % 256), .int .u8 ((x : Int) / 256 % 256), .int .u8 ((x : Int) % 256)] := by
    simp [byteVs, four, byteV]
    omega
  rw [e] at this ⊢
  exact this

set_option maxHeartbeats 1000000 in
theorem sealed_any (M : Nat) (a : Option Addr) (c : Nat) (b : List UInt8) (w : World) (h : BoxW M freshR 208 w) (hb : Bytes w (.slice a b.length c) b) (hl : b.length ≤ 1048576) :
    Calls Tryz.prog 111 #[.pointer (some ⟨M, 0, none⟩), .slice a b.length c] w (OwnRF w.heap.size 5 1 (b ++ four (crcOf 0 b)).length (byteVs (b ++ four (crcOf 0 b))) (fun k => k = M) w) := by
  have HX := Lib.hid' h
  have HB := Lib.hid' hb
  have hcr := crcOf_lt (s := 0) (by decide) b
  clear h hb
  go_enter Tryz.func111, Tryz.ntmps111
  go_wp2_with fail
  refine (sum_any M a c b w HX.out HB.out).mono ?_
  rintro e w1 ⟨rfl, hf1⟩
  have HF1 := Lib.hid' hf1
  have HB1 := Lib.hid' (show Bytes w1 (.slice a b.length c) b from HX.out.bytes (fun x => mkR_no _ _ _ _ _ x) HB.out hf1)
  have hz1 := hf1.size
  clear hf1
  obtain ⟨x, hx⟩ : ∃ x, crcOf 0 b = x := ⟨_, rfl⟩
  rw [hx] at hcr ⊢
  have HXE := Lib.hid' hx
  clear hx
  go_wp2_with fail
  refine (four_any x hcr w1).mono ?_
  rintro e w2 ⟨a2, c2, rfl, ho2, hb2⟩
  have HF2 := Lib.hid' (HF1.out.trans_below hb2)
  have HB2 := Lib.hid' (show Bytes w2 (.slice a b.length c) b from SlV.below HB1.out (Nat.le_refl _) hb2)
  have HO2 := Lib.hid' ho2
  have hz2 := hb2.size
  clear ho2 hb2
  go_wp2_with fail
  have hg : Below w2.heap.size w2 (w2.alloc (.cells #[.slice a b.length c, .slice a2 4 c2] 32)) := by go_grown
  have HCH := Lib.hid' (show Cbs (w2.alloc (.cells #[.slice a b.length c, .slice a2 4 c2] 32)) (some ⟨w2.heap.size, 0, none⟩) 2 [(b, a, c), (four x, a2, c2)] from
    ⟨SlV.of_own (slv_alloc w2 [.slice a b.length c, .slice a2 4 c2] 2 32 (by decide) rfl), fun y hy => by
      simp only [List.mem_cons, List.not_mem_nil, or_false] at hy
      rcases hy with rfl | rfl
      · exact SlV.below HB2.out (Nat.le_refl _) hg
      · exact SlV.below (SlV.of_own HO2.out) (Nat.le_refl _) hg⟩)
  have hfb : flatB [(b, a, c), (four x, a2, c2)] = b ++ four x := by simp [flatB]
  have hcc := concatB_any [(b, a, c), (four x, a2, c2)] (some ⟨w2.heap.size, 0, none⟩) 2 _ HCH.out (by rw [hfb]; simp [four_length]; omega)
  rw [hfb] at hcc
  have HG := Lib.hid' (HF2.out.trans_below hg)
  clear hg hfb
  refine hcc.mono ?_
  rintro e w3 ⟨a3, c3, rfl, ho3, hb3⟩
  have HO3 := Lib.hid' (own_base (B' := w.heap.size) ho3 (by simp; omega))
  have HF3 := Lib.hid' (HG.out.trans_below hb3)
  clear ho3 hb3 hcc
  obtain ⟨r, hr⟩ : ∃ r, b ++ four x = r := ⟨_, rfl⟩
  have HR := Lib.hid' (show b ++ four (crcOf 0 b) = r by rw [HXE.out]; exact hr)
  rw [hr] at HO3 ⊢
  clear hr
  go_wp2
  go_ret
  exact ⟨a3, c3, ret_eq (by rw [HR.out]; rfl), by rw [HR.out]; exact HO3.out, HF3.out⟩
end Go.Proofs.YtkhnbdbcaebdaaaGreatDoor
