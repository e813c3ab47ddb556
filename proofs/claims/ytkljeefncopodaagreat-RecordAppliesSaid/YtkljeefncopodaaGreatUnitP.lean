/- Layer 8, 33: the plain unit and the document's answer alike; models; what is made; once. Plain. -/
import Derived.Test.YtkljeefncopodaaGreatUnitN
import Derived.Test.YtkljeefncopodaaGreatEnt
namespace Go.Proofs.YtkljeefncopodaaGreat
set_option linter.unusedSimpArgs false
set_option linter.unusedVariables false

def Rise (S : List (Int × C)) : Prop := S.Pairwise (fun p q => p.1 < q.1)

theorem lookC_of_mem {M : List (Int × C)} (hn : (M.map (·.1)).Nodup) {p : Int × C} (hp : p ∈ M) : lookC M p.1 = p.2 := by
  induction M with
  | nil => cases hp
  | cons q M ih =>
    simp only [List.map_cons, List.nodup_cons] at hn
    unfold lookC
    by_cases hq : q.1 = p.1
    · rcases List.mem_cons.1 hp with rfl | hp
      · simp
      · exact absurd (List.mem_map.2 ⟨p, hp, rfl⟩) (hq ▸ hn.1)
    · have hpM : p ∈ M := by
        rcases List.mem_cons.1 hp with rfl | hp
        · exact absurd rfl hq
        · exact hp
      have := ih hn.2 hpM
      unfold lookC at this
      simp only [List.find?_cons, show (q.1 == p.1) = false from by simpa using hq]
      exact this

theorem rise_ext {S T : List (Int × C)} (hS : Rise S) (hT : Rise T) (h : S.Perm T) : S = T :=
  List.Perm.eq_of_pairwise (le := fun p q : Int × C => p.1 < q.1) (fun a b _ _ h1 h2 => absurd h1 (by omega)) hS hT h

theorem sortC_map (M : List (Int × C)) (hn : (M.map (·.1)).Nodup) : (sortC M).Perm M := by
  have h1 : (sortA M).Perm (M.map (·.1)) := List.mergeSort_perm _ _
  have h2 : (sortC M).Perm ((M.map (·.1)).map (fun a => (a, lookC M a))) := h1.map _
  refine h2.trans (List.Perm.of_eq ?_)
  rw [List.map_map]
  conv => rhs; rw [← List.map_id M]
  refine List.map_congr_left fun p hp => ?_
  simp [lookC_of_mem hn hp]
theorem sortC_rise (M : List (Int × C)) (hn : (M.map (·.1)).Nodup) : Rise (sortC M) := by
  unfold Rise sortC
  rw [List.pairwise_map]
  have h1 : (sortA M).Pairwise (fun x y => x ≤ y) := by
    have := List.pairwise_mergeSort (le := fun x y : Int => decide (x ≤ y)) (fun a b c h1 h2 => by simp at *; omega) (fun a b => by simp; omega) (M.map (·.1))
    exact this.imp (fun h => by simpa using h)
  have h2 : (sortA M).Nodup := (List.mergeSort_perm _ _).nodup_iff.2 hn
  exact (h1.and h2).imp (fun ⟨a, b⟩ => by simp only; omega)
theorem sortC_eq {S M : List (Int × C)} (hn : (M.map (·.1)).Nodup) (hS : Rise S) (h : S.Perm M) : sortC M = S :=
  rise_ext (sortC_rise M hn) hS ((sortC_map M hn).trans h.symm)

theorem sortC_filter (M : List (Int × C)) (hn : (M.map (·.1)).Nodup) (f : Int × C → Bool) : sortC (M.filter f) = (sortC M).filter f :=
  sortC_eq (hn.sublist ((List.filter_sublist).map _)) ((sortC_rise M hn).sublist List.filter_sublist) ((sortC_map M hn).filter _)
theorem sortC_mem (M : List (Int × C)) (hn : (M.map (·.1)).Nodup) (p : Int × C) : p ∈ sortC M ↔ p ∈ M := (sortC_map M hn).mem_iff
theorem sortC_nodup (M : List (Int × C)) (hn : (M.map (·.1)).Nodup) : ((sortC M).map (·.1)).Nodup := ((sortC_map M hn).map _).nodup_iff.2 hn

theorem lookC_sort (M : List (Int × C)) (hn : (M.map (·.1)).Nodup) (a : Int) : lookC (sortC M) a = lookC M a := by
  cases h : M.any (·.1 == a) with
  | true =>
    have h1 := lookC_mem h
    have h2 := (sortC_mem M hn _).2 h1
    exact lookC_of_mem (sortC_nodup M hn) h2
  | false =>
    rw [lookC_none h, lookC_none]
    rw [List.any_eq_false] at h ⊢
    exact fun p hp => h p ((sortC_mem M hn p).1 hp)

theorem insC_perm (S : List (Int × C)) (a : Int) (c : C) : (insC S a c).Perm (S ++ [(a, c)]) := by
  induction S with
  | nil => exact List.Perm.refl _
  | cons p S ih =>
    simp only [insC]
    split
    · exact (List.perm_append_comm (l₁ := [(a, c)]) (l₂ := p :: S))
    · exact ih.cons _
theorem insC_mem {S : List (Int × C)} {a : Int} {c : C} {p : Int × C} (h : p ∈ insC S a c) : p = (a, c) ∨ p ∈ S := by
  have := (insC_perm S a c).mem_iff.1 h
  rcases List.mem_append.1 this with h | h
  · exact .inr h
  · exact .inl (by simpa using h)
theorem insC_rise {S : List (Int × C)} (hS : Rise S) {a : Int} {c : C} (ha : ∀ p ∈ S, p.1 ≠ a) : Rise (insC S a c) := by
  induction S with
  | nil => simp [insC, Rise]
  | cons p S ih =>
    have h1 := List.pairwise_cons.1 hS
    simp only [insC]
    have hpa := ha p List.mem_cons_self
    split
    · rename_i hlt
      refine List.pairwise_cons.2 ⟨fun q hq => ?_, hS⟩
      rcases List.mem_cons.1 hq with rfl | hq
      · exact hlt
      · have := h1.1 q hq; simp only; omega
    · rename_i hlt
      refine List.pairwise_cons.2 ⟨fun q hq => ?_, ih h1.2 fun q hq => ha q (List.mem_cons_of_mem _ hq)⟩
      rcases insC_mem hq with rfl | hq
      · simp only; omega
      · exact h1.1 q hq
theorem sortC_put (M : List (Int × C)) (hn : (M.map (·.1)).Nodup) (a : Int) (c : C) (ha : M.any (·.1 == a) = false) : sortC (putC M a c) = insC (sortC M) a c := by
  have hk := putC_keys M a c hn
  have he : putC M a c = M ++ [(a, c)] := by simp [putC, ha]
  refine sortC_eq hk ?_ ?_
  · refine insC_rise (sortC_rise M hn) fun p hp => ?_
    rw [List.any_eq_false] at ha
    have := ha p ((sortC_mem M hn p).1 hp)
    simpa using this
  · rw [he]
    exact (insC_perm _ _ _).trans ((sortC_map M hn).append_right _)
theorem putC_same (M : List (Int × C)) (hn : (M.map (·.1)).Nodup) (a : Int) (c : C) (h : M.any (·.1 == a) = true) (hc : lookC M a = c) : putC M a c = M := by
  unfold putC
  rw [if_pos h]
  conv => rhs; rw [← List.map_id M]
  refine List.map_congr_left fun p hp => ?_
  by_cases hpa : p.1 = a
  · have := lookC_of_mem hn hp
    rw [hpa, hc] at this
    simp only [hpa, if_true, id]
    rw [← hpa, this]
  · simp [hpa]

theorem foldl_perm_tail {M N : List (Int × C)} (h : M.Perm N) (m : Int) : M.foldl tailF m = N.foldl tailF m := by
  refine h.foldl_eq' (fun x _ y _ z => tailF_comm z x y) m
theorem tail_last : ∀ (S : List (Int × C)) (m : Int), Rise S → (∀ p ∈ S, m ≤ p.1) → S.foldl tailF m = match S.getLast? with | none => m | some p => p.1 + 1
  | [], m, _, _ => rfl
  | [p], m, _, h => by have := h p List.mem_cons_self; simp [tailF]; omega
  | p :: q :: S, m, hS, h => by
    have h1 := List.pairwise_cons.1 hS
    rw [List.foldl_cons, tail_last (q :: S) (tailF m p) h1.2 (fun r hr => by have := h1.1 r hr; have := h p List.mem_cons_self; unfold tailF; omega)]
    rw [List.getLast?_cons_cons]
    cases hq : (q :: S).getLast? with
    | none => simp at hq
    | some r => rfl
theorem rTail_doc {u : U} (h : u.ok) : U.rTail ⟨u.e, u.l, sortC u.cells⟩ = u.tail := by
  unfold U.rTail U.tail
  rw [← foldl_perm_tail (sortC_map u.cells h.nodup), tail_last _ _ (sortC_rise _ h.nodup) (fun p hp => (h.addr p ((sortC_mem _ h.nodup p).1 hp)).1)]
  rfl

def U.doc (u : U) : U := ⟨u.e, u.l, sortC u.cells⟩
theorem doc_at {u : U} (h : u.ok) (a : Int) : u.doc.at a = u.at a := by
  unfold U.at U.doc
  simp only [lookC_sort _ h.nodup]
theorem doc_cur (u : U) (e : Int) : u.doc.cur e = u.cur e := rfl
theorem inR_iff (x m : Int) : inR x m = decide (¬ (x < 0 ∨ m < x)) := by
  unfold inR; rw [Bool.eq_iff_iff]; simp
theorem at_any0 {u : U} (h : u.ok) {a : Int} (h0 : (u.at a).k = 0) : u.cells.any (·.1 == a) = false := by
  cases hq : u.cells.any (·.1 == a) with
  | false => rfl
  | true =>
    exfalso
    have h1 := lookC_mem hq
    unfold U.at at h0
    split at h0
    · simp at h0
    · rcases (h.kind _ h1).1 with hk | hk
      · rw [h0] at hk; cases hk
      · rw [h0] at hk; cases hk.1

theorem play_seal {u : U} (h : u.ok) (e : Int) : u.doc.rSeal e = ((u.sealE e).2.1, (u.sealE e).2.2.doc, (u.sealE e).1) := by
  unfold U.rSeal U.sealE
  rw [inR_iff]
  by_cases h1 : e < 0 ∨ 1099511627776 < e
  · simp [h1]
  · by_cases h2 : e ≤ u.e
    · have : e ≤ u.doc.e := h2
      simp [h1, h2, this]
    · have h2' : ¬ e ≤ u.doc.e := h2
      simp only [h1, h2, h2', not_false_eq_true, decide_true, Bool.not_true, Bool.false_eq_true, if_false]
      have hk : U.ok { u with e := e } := ⟨by simp; omega, by simp; omega, h.l0, h.l1, h.addr, h.kind, h.nodup⟩
      have := rTail_doc hk
      have h3 : U.rTail { u.doc with e := e } = u.tail := by exact this
      rw [h3]; rfl
theorem play_write {u : U} (h : u.ok) (e a : Int) (d : List UInt8) : u.doc.rWrite e a d = ((u.write e a d).2.doc, (u.write e a d).1) := by
  unfold U.rWrite U.write
  rw [inR_iff, doc_cur, doc_at h]
  by_cases h1 : a < 0 ∨ 1048575 < a
  · simp [h1]
  simp only [h1, if_false, not_false_eq_true, decide_true, Bool.not_true, Bool.false_eq_true]
  by_cases h2 : 64 < d.length
  · simp [h2]
  simp only [h2, if_false]
  by_cases h3 : u.cur e ≠ 0
  · simp [h3]
  simp only [h3, if_false]
  by_cases h4 : (u.at a).k = 3
  · simp [h4]
  simp only [h4, if_false]
  by_cases h5 : (u.at a).k = 0
  · simp only [h5, if_true]
    have := sortC_put u.cells h.nodup a ⟨1, d⟩ (at_any0 h h5)
    simp only [U.doc, this]
  · simp [h5]
theorem play_fill {u : U} (h : u.ok) (e a : Int) : u.doc.rFill e a = ((u.fill e a).2.doc, (u.fill e a).1) := by
  unfold U.rFill U.fill U.asks
  rw [inR_iff, doc_cur, doc_at h]
  by_cases h1 : a < 0 ∨ 1048575 < a
  · simp [h1]
  simp only [h1, if_false, not_false_eq_true, decide_true, if_true]
  by_cases h3 : u.cur e ≠ 0
  · simp [h3]
  simp only [h3, if_false]
  by_cases h4 : (u.at a).k = 3
  · simp [h4]
  simp only [h4, if_false]
  by_cases h5 : (u.at a).k = 1
  · simp [h5]
  simp only [h5, if_false]
  by_cases h6 : (u.at a).k = 0
  · simp only [h6, if_true]
    have := sortC_put u.cells h.nodup a ⟨2, []⟩ (at_any0 h h6)
    simp only [U.doc, this]
  · simp only [h6, if_false]
    have hl : ¬ a < u.l := by intro hl; unfold U.at at h4; simp [hl] at h4
    have hat : u.at a = lookC u.cells a := by simp [U.at, hl]
    rw [hat] at h4 h5 h6
    have hany : u.cells.any (·.1 == a) = true := by
      cases hq : u.cells.any (·.1 == a) with
      | true => rfl
      | false => rw [lookC_none hq] at h6; exact absurd rfl h6
    have hm := lookC_mem hany
    have hk := (h.kind _ hm).1
    have hc : lookC u.cells a = ⟨2, []⟩ := by
      rcases hk with hk | ⟨hk, hd⟩
      · exact absurd hk h5
      · cases hq : lookC u.cells a with
        | mk k d => rw [hq] at hk hd; simp only at hk hd; rw [hk, hd]
    rw [putC_same _ h.nodup _ _ hany hc]
theorem play_read {u : U} (h : u.ok) (e a : Int) : u.doc.rRead e a = ((u.read e a).2, (u.read e a).1) := by
  unfold U.rRead U.read U.asks
  rw [inR_iff, doc_cur, doc_at h]
  by_cases h1 : a < 0 ∨ 1048575 < a
  · simp [h1]
  simp only [h1, if_false, not_false_eq_true, decide_true, if_true]
  by_cases h3 : u.cur e ≠ 0
  · simp [h3]
  · simp [h3]
theorem play_trim {u : U} (h : u.ok) (e b : Int) : u.doc.rTrim e b = ((u.trim e b).2.doc, (u.trim e b).1) := by
  unfold U.rTrim U.trim U.asks
  rw [inR_iff, doc_cur]
  by_cases h1 : b < 0 ∨ 1048576 < b
  · simp [h1]
  simp only [h1, if_false, not_false_eq_true, decide_true, if_true]
  by_cases h3 : u.cur e ≠ 0
  · simp [h3]
  simp only [h3, if_false]
  have hf : (fun p : Int × C => !decide (p.1 < max u.l b)) = (fun p => decide (max u.l b ≤ p.1)) := by
    funext p; rw [Bool.eq_iff_iff]; simp
  simp only [U.doc]
  rw [← sortC_filter _ h.nodup, hf]
  rfl
theorem play_cut {u : U} (h : u.ok) (e f : Int) : u.doc.rCut e f = ((u.cut e f).2.1, (u.cut e f).2.2.doc, (u.cut e f).1) := by
  unfold U.rCut U.cut U.asks
  rw [inR_iff, doc_cur]
  by_cases h1 : f < 0 ∨ 1048576 < f
  · simp [h1]
  simp only [h1, if_false, not_false_eq_true, decide_true, if_true]
  by_cases h3 : u.cur e ≠ 0
  · simp [h3]
  simp only [h3, if_false]
  by_cases h4 : f < u.l
  · have : f < u.doc.l := h4
    simp [h4, this]
  have h4' : ¬ f < u.doc.l := h4
  simp only [h4, h4', if_false]
  have hf : (fun p : Int × C => !decide (f ≤ p.1)) = (fun p => decide (p.1 < f)) := by
    funext p; rw [Bool.eq_iff_iff]; simp
  simp only [U.doc]
  rw [← sortC_filter _ h.nodup, hf, sortC_len, sortC_len]

theorem play_all {u : U} (h : u.ok) (kn e a : Int) (d : List UInt8) : mS kn u.doc e a d = ((uS kn u e a d).1.doc, (uS kn u e a d).2.1, (uS kn u e a d).2.2.1, (uS kn u e a d).2.2.2) := by
  unfold mS uS
  rw [play_seal h, play_write h, play_fill h, play_read h, play_trim h, play_cut h, doc_cur]
  split; · rfl
  split; · rfl
  split; · rfl
  split; · rfl
  split; · rfl
  split; · rfl
  unfold U.tailOf U.asks
  simp only [if_true]
  have ht : u.doc.rTail = u.tail := rTail_doc h
  by_cases h3 : u.cur e = 0
  · simp [h3, ht]
  · simp [h3]
theorem uS_ok {u : U} (h : u.ok) (kn e a : Int) (d : List UInt8) : (uS kn u e a d).1.ok := by
  unfold uS
  split; · exact U.ok_sealE h e
  split; · exact U.ok_write h e a d
  split; · exact U.ok_fill h e a
  split; · exact h
  split; · exact U.ok_trim h e a
  split; · exact U.ok_cut h e a
  exact h
theorem putC_len (L : List (Int × C)) (a : Int) (c : C) : (putC L a c).length ≤ L.length + 1 := by
  unfold putC; split <;> simp
theorem uS_len (u : U) (kn e a : Int) (d : List UInt8) : (uS kn u e a d).1.cells.length ≤ u.cells.length + 1 := by
  unfold uS
  split; · unfold U.sealE; (repeat' split) <;> simp
  split; · unfold U.write; (repeat' split) <;> first | exact putC_len _ _ _ | simp
  split; · unfold U.fill; (repeat' split) <;> first | exact putC_len _ _ _ | simp
  split; · simp
  split; · unfold U.trim; split; · simp
           · exact Nat.le_succ_of_le (List.length_filter_le _ _)
  split; · unfold U.cut; split; · simp
           · split; · simp
             · exact Nat.le_succ_of_le (List.length_filter_le _ _)
  simp
end Go.Proofs.YtkljeefncopodaaGreat

namespace Go.Proofs.YtkljeefncopodaaGreat
set_option linter.unusedSimpArgs false
set_option linter.unusedVariables false

structure M where
  u : U
  t : Int
structure M.ok (m : M) : Prop where
  u : m.u.ok
  e : m.u.e = 0
  lt : m.u.l ≤ m.t
  t1 : m.t ≤ 1048576
  below : ∀ p ∈ m.u.cells, p.1 < m.t
def M.new : M := ⟨U.new, 0⟩
def M.doc (m : M) : M := ⟨m.u.doc, m.t⟩
def M.put' (m : M) (a : Int) (c : C) : M := ⟨{ m.u with cells := putC m.u.cells a c }, max m.t (a + 1)⟩
def M.app (m : M) (d : List UInt8) : Nat × Int × M := if 64 < d.length then (3, 0, m) else if 1048576 ≤ m.t then (5, 0, m) else (0, m.t, m.put' m.t ⟨1, d⟩)
def M.rd (m : M) (a : Int) : Nat × C := if !inR a 1048575 then (1, ⟨0, []⟩) else (0, m.u.at a)
def M.fil (m : M) (a : Int) : Nat × M := if !inR a 1048575 then (1, m) else if (m.u.at a).k = 3 then (9, m) else if (m.u.at a).k = 1 then (8, m.put' a (m.u.at a)) else (0, m.put' a ⟨2, []⟩)
def M.put (m : M) (a : Int) (x : C) : Nat × M :=
  if !inR a 1048575 then (1, m) else if x.check ≠ 0 then (x.check, m) else if x.k ≠ 1 ∧ x.k ≠ 2 then (2, m) else if (m.u.at a).k = 3 then (9, m) else if !C.may (m.u.at a) x then (8, m) else (0, m.put' a x)
def M.trim' (m : M) (b : Int) : M := ⟨{ m.u with l := max m.u.l b, cells := m.u.cells.filter (fun p => !decide (p.1 < max m.u.l b)) }, max m.t b⟩
def M.trim (m : M) (b : Int) : Nat × M := if !inR b 1048576 then (1, m) else (0, m.trim' b)
def M.cut (m : M) (f : Int) : Nat × M := if !inR f 1048576 then (1, m) else if f < m.u.l then (9, m) else (0, ⟨{ m.u with cells := m.u.cells.filter (fun p => !decide (f ≤ p.1)) }, f⟩)

/- the document's -/
def M.rApp (m : M) (d : List UInt8) : Int × M × Nat := if 64 < d.length then (0, m, 3) else if 1048576 ≤ m.t then (0, m, 5) else (m.t, ⟨(m.u.rWrite 0 m.t d).1, m.t + 1⟩, 0)
def M.rFil (m : M) (a : Int) : M × Nat := (⟨(m.u.rFill 0 a).1, if (m.u.rFill 0 a).2 = 0 ∨ (m.u.rFill 0 a).2 = 8 then max m.t (a + 1) else m.t⟩, (m.u.rFill 0 a).2)
def M.rPut (m : M) (a : Int) (x : C) : M × Nat :=
  if a < 0 ∨ 1048575 < a then (m, 1) else if x.check ≠ 0 then (m, x.check) else if x.k ≠ 1 ∧ x.k ≠ 2 then (m, 2) else if (m.u.at a).k = 3 then (m, 9) else if (m.u.at a).k ≠ 0 ∧ m.u.at a ≠ x then (m, 8) else
    (⟨if x.k = 1 then (m.u.rWrite 0 a x.d).1 else (m.u.rFill 0 a).1, max m.t (a + 1)⟩, 0)
def M.rTrim (m : M) (b : Int) : M × Nat := (⟨(m.u.rTrim 0 b).1, if (m.u.rTrim 0 b).2 = 0 then max m.t b else m.t⟩, (m.u.rTrim 0 b).2)
def M.rCut (m : M) (f : Int) : M × Nat := (⟨(m.u.rCut 0 f).2.1, if (m.u.rCut 0 f).2.2 = 0 then f else m.t⟩, (m.u.rCut 0 f).2.2)

theorem M.ok_new : M.new.ok := ⟨U.ok_new, rfl, Int.le_refl _, by decide, by simp [M.new, U.new]⟩
theorem at_some {u : U} (h : u.ok) {a : Int} (h3 : (u.at a).k ≠ 3) (h0 : (u.at a).k ≠ 0) : u.cells.any (·.1 == a) = true ∧ u.at a = lookC u.cells a ∧ (a, u.at a) ∈ u.cells := by
  have hl : ¬ a < u.l := by intro hl; exact h3 (by simp [U.at, hl])
  have hat : u.at a = lookC u.cells a := by simp [U.at, hl]
  have hany : u.cells.any (·.1 == a) = true := by
    cases hq : u.cells.any (·.1 == a) with
    | true => rfl
    | false => rw [hat, lookC_none hq] at h0; exact absurd rfl h0
  exact ⟨hany, hat, by rw [hat]; exact lookC_mem hany⟩
theorem at_low {u : U} {a : Int} (h3 : (u.at a).k ≠ 3) : u.l ≤ a := by
  by_cases hl : a < u.l
  · exact absurd (by simp [U.at, hl]) h3
  · omega
theorem put_same {u : U} (h : u.ok) {a : Int} (h3 : (u.at a).k ≠ 3) (h0 : (u.at a).k ≠ 0) : putC u.cells a (u.at a) = u.cells := by
  obtain ⟨h1, h2, _⟩ := at_some h h3 h0
  exact putC_same _ h.nodup _ _ h1 h2.symm
theorem M.ok_put {m : M} (h : m.ok) {a : Int} {c : C} (ha : inR a 1048575 = true) (h3 : (m.u.at a).k ≠ 3) (hc : (c.k = 1 ∨ c.k = 2 ∧ c.d = []) ∧ c.d.length ≤ 64) : (m.put' a c).ok := by
  have hl := at_low h3
  have h1 := h.lt; have h2 := h.t1
  simp [inR] at ha
  refine ⟨U.ok_put h.u hl (by omega) hc, h.e, ?_, ?_, fun p hp => ?_⟩
  · show m.u.l ≤ max m.t (a + 1); omega
  · show max m.t (a + 1) ≤ 1048576; omega
  · show p.1 < max m.t (a + 1)
    rcases mem_putC hp with rfl | hp
    · simp only; omega
    · have := h.below p hp; omega
theorem M.at_tail {m : M} (h : m.ok) : m.u.at m.t = ⟨0, []⟩ := by
  have h1 := h.lt
  have hn : m.u.cells.any (·.1 == m.t) = false := by
    rw [List.any_eq_false]
    intro p hp
    have := h.below p hp
    simp; omega
  simp only [U.at, if_neg (show ¬ m.t < m.u.l by omega), lookC_none hn]
theorem M.ok_app {m : M} (h : m.ok) (d : List UInt8) : (m.app d).2.2.ok := by
  unfold M.app
  split; · exact h
  split; · exact h
  rename_i h1 h2
  have h3 := h.lt; have h4 := h.u.l0
  exact M.ok_put h (by simp [inR]; omega) (by rw [M.at_tail h]; decide) ⟨.inl rfl, by simp; omega⟩
theorem at_kind {u : U} (h : u.ok) (a : Int) : (u.at a).k = 3 ∧ (u.at a).d = [] ∨ (u.at a).k = 0 ∧ (u.at a).d = [] ∨ (((u.at a).k = 1 ∨ (u.at a).k = 2 ∧ (u.at a).d = []) ∧ (u.at a).d.length ≤ 64) := by
  by_cases hl : a < u.l
  · left; simp [U.at, hl]
  · by_cases hq : u.cells.any (·.1 == a) = true
    · right; right
      have := h.kind _ (lookC_mem hq)
      simpa [U.at, hl] using this
    · right; left
      have hq' : u.cells.any (·.1 == a) = false := by simpa only [Bool.not_eq_true] using hq
      simp [U.at, hl, lookC_none hq']
theorem M.ok_fil {m : M} (h : m.ok) (a : Int) : (m.fil a).2.ok := by
  unfold M.fil
  split; · exact h
  rename_i h1
  have ha : inR a 1048575 = true := by simpa using h1
  split; · exact h
  rename_i h3
  split
  · rename_i hk
    refine M.ok_put h ha h3 ?_
    rcases at_kind h.u a with ⟨h5, _⟩ | ⟨h5, _⟩ | h5
    · exact absurd h5 h3
    · rw [h5] at hk; cases hk
    · exact h5
  · exact M.ok_put h ha h3 ⟨.inr ⟨rfl, rfl⟩, by simp⟩
theorem check_zero {x : C} (h : x.check = 0) (hk : ¬ (x.k ≠ 1 ∧ x.k ≠ 2)) : (x.k = 1 ∨ x.k = 2 ∧ x.d = []) ∧ x.d.length ≤ 64 := by
  unfold C.check at h
  split at h; · cases h
  split at h; · cases h
  split at h; · cases h
  rename_i h1 h2 h3
  refine ⟨?_, by omega⟩
  by_cases h4 : x.k = 1
  · exact .inl h4
  · right
    have h5 : x.k = 2 := by omega
    refine ⟨h5, ?_⟩
    cases hd : x.d with
    | nil => rfl
    | cons b l => rw [hd] at h3; simp at h3; exact absurd h3 h4
theorem M.ok_putx {m : M} (h : m.ok) (a : Int) (x : C) : (m.put a x).2.ok := by
  unfold M.put
  split; · exact h
  rename_i h1
  have ha : inR a 1048575 = true := by simpa using h1
  split; · exact h
  rename_i hc
  split; · exact h
  rename_i hk
  split; · exact h
  rename_i h3
  split; · exact h
  exact M.ok_put h ha h3 (check_zero (by simpa using hc) hk)
theorem M.ok_trim {m : M} (h : m.ok) (b : Int) : (m.trim b).2.ok := by
  unfold M.trim
  split; · exact h
  rename_i h1
  have ha : inR b 1048576 = true := by simpa using h1
  simp [inR] at ha
  have h2 := h.u.l1; have h3 := h.lt; have h4 := h.t1
  refine ⟨U.ok_filter (u := m.u) h.u (l := max m.u.l b) (by omega) (by omega) (fun p hp hf => by simpa using hf), h.e, ?_, ?_, fun p hp => ?_⟩
  · show max m.u.l b ≤ max m.t b; omega
  · show max m.t b ≤ 1048576; omega
  · have := h.below p (List.mem_filter.1 hp).1
    show p.1 < max m.t b; omega
theorem M.ok_cut {m : M} (h : m.ok) (f : Int) : (m.cut f).2.ok := by
  unfold M.cut
  split; · exact h
  rename_i h1
  have ha : inR f 1048576 = true := by simpa using h1
  simp [inR] at ha
  split; · exact h
  rename_i h2
  refine ⟨U.ok_filter (u := m.u) (l := m.u.l) h.u (Int.le_refl _) h.u.l1 (fun p hp _ => (h.u.addr p hp).1), h.e, ?_, ha.2, fun p hp => ?_⟩
  · show m.u.l ≤ f; omega
  · have := (List.mem_filter.1 hp).2
    simp at this
    exact this

/- alike -/
theorem cur0 {u : U} (h : u.e = 0) : u.cur 0 = 0 := by simp [U.cur, h]
theorem mplay_app {m : M} (h : m.ok) (d : List UInt8) : m.doc.rApp d = ((m.app d).2.1, (m.app d).2.2.doc, (m.app d).1) := by
  unfold M.rApp M.app
  split; · rfl
  rename_i h1
  show (if 1048576 ≤ m.t then _ else _) = _
  split; · rfl
  rename_i h2
  have h3 := h.lt; have h4 := h.u.l0
  have hw : m.u.write 0 m.t d = (0, { m.u with cells := putC m.u.cells m.t ⟨1, d⟩ }) := by
    have hin : inR m.t 1048575 = true := by simp [inR]; omega
    simp [U.write, hin, h1, cur0 h.e, M.at_tail h]
  have hp := play_write h.u 0 m.t d
  rw [hw] at hp
  show (m.t, (⟨(m.u.doc.rWrite 0 m.t d).1, m.t + 1⟩ : M), 0) = _
  rw [hp]
  simp only [M.put', M.doc, Prod.mk.injEq, true_and, and_true, M.mk.injEq]
  omega
theorem mplay_fil {m : M} (h : m.ok) (a : Int) : m.doc.rFil a = ((m.fil a).2.doc, (m.fil a).1) := by
  unfold M.rFil
  show ((⟨(m.u.doc.rFill 0 a).1, if (m.u.doc.rFill 0 a).2 = 0 ∨ (m.u.doc.rFill 0 a).2 = 8 then max m.t (a + 1) else m.t⟩ : M), (m.u.doc.rFill 0 a).2) = _
  rw [play_fill h.u]
  unfold M.fil U.fill U.asks
  by_cases h1 : inR a 1048575 = true
  rotate_left
  · have h1' : inR a 1048575 = false := by simpa using h1
    simp [h1', M.doc]
  simp only [h1, if_true, cur0 h.e]
  by_cases h3 : (m.u.at a).k = 3
  · simp [h3, M.doc]
  by_cases hk : (m.u.at a).k = 1
  · have hs := put_same h.u h3 (by rw [hk]; decide)
    simp [h3, hk, M.doc, M.put', hs]
  · simp [h3, hk, M.doc, M.put']
theorem C.ext' {c x : C} (h1 : c.k = x.k) (h2 : c.d = x.d) : c = x := by cases c; cases x; simp only at h1 h2; rw [h1, h2]
theorem at_check {u : U} (h : u.ok) (a : Int) : (u.at a).check = 0 := by
  rcases at_kind h a with ⟨h1, h2⟩ | ⟨h1, h2⟩ | ⟨h1, h2⟩
  · simp [C.check, h1, h2]
  · simp [C.check, h1, h2]
  · rcases h1 with h1 | ⟨h1, h3⟩
    · have : ¬ 64 < (u.at a).d.length := by omega
      simp [C.check, h1, this]
    · simp [C.check, h1, h3]
theorem mplay_put {m : M} (h : m.ok) (a : Int) (x : C) : m.doc.rPut a x = ((m.put a x).2.doc, (m.put a x).1) := by
  unfold M.rPut M.put
  rw [inR_iff]
  have hat : m.doc.u.at a = m.u.at a := doc_at h.u a
  rw [hat]
  by_cases h1 : a < 0 ∨ 1048575 < a
  · simp [h1]
  have hin : inR a 1048575 = true := by rw [inR_iff]; simpa using h1
  simp only [h1, if_false, not_false_eq_true, decide_true, Bool.not_true, Bool.false_eq_true]
  by_cases hc : x.check ≠ 0
  · simp [hc]
  simp only [hc, if_false]
  have hc0 : x.check = 0 := by simpa using hc
  by_cases hk : x.k ≠ 1 ∧ x.k ≠ 2
  · simp [hk]
  simp only [hk, if_false]
  by_cases h3 : (m.u.at a).k = 3
  · simp [h3]
  simp only [h3, if_false]
  have hx := check_zero hc0 hk
  have hk3 : (x.k == 3) = false := by rcases hx.1 with h | ⟨h, _⟩ <;> simp [h]
  have hm : C.may (m.u.at a) x = decide ((m.u.at a).k = 0 ∨ m.u.at a = x) := by
    unfold C.may
    rw [at_check h.u a, hc0, hk3]
    by_cases hq : (m.u.at a).k = 0 ∨ m.u.at a = x <;> simp [hq]
  rw [hm]
  by_cases hq : (m.u.at a).k = 0 ∨ m.u.at a = x
  rotate_left
  · have h8 : (m.u.at a).k ≠ 0 ∧ m.u.at a ≠ x := by simpa using hq
    simp [hq, h8]
  have h8 : ¬ ((m.u.at a).k ≠ 0 ∧ m.u.at a ≠ x) := by
    rintro ⟨h5, h6⟩; rcases hq with h | h
    · exact h5 h
    · exact h6 h
  simp only [hq, h8, if_false, decide_true, Bool.not_true, Bool.false_eq_true]
  show ((⟨if x.k = 1 then (m.u.doc.rWrite 0 a x.d).1 else (m.u.doc.rFill 0 a).1, max m.t (a + 1)⟩ : M), 0) = _
  rw [play_write h.u, play_fill h.u]
  have hcells : (if x.k = 1 then (m.u.write 0 a x.d).2.doc else (m.u.fill 0 a).2.doc) = U.doc { m.u with cells := putC m.u.cells a x } := by
    by_cases hk1 : x.k = 1
    · rw [if_pos hk1]
      have hlen : ¬ 64 < x.d.length := by have := hx.2; omega
      by_cases h0 : (m.u.at a).k = 0
      · have : m.u.write 0 a x.d = (0, { m.u with cells := putC m.u.cells a ⟨1, x.d⟩ }) := by simp [U.write, hin, hlen, cur0 h.e, h3, h0]
        rw [this, show (⟨1, x.d⟩ : C) = x from C.ext' hk1.symm rfl]
      · have he : m.u.at a = x := by rcases hq with h | h; exact absurd h h0; exact h
        have : m.u.write 0 a x.d = (8, m.u) := by simp [U.write, hin, hlen, cur0 h.e, h3, h0]
        have hs := put_same h.u h3 h0
        rw [he] at hs
        rw [this, hs]
    · rw [if_neg hk1]
      have hk2 : x.k = 2 ∧ x.d = [] := by rcases hx.1 with h | h; exact absurd h hk1; exact h
      have hx2 : x = ⟨2, []⟩ := C.ext' hk2.1 hk2.2
      have h1' : (m.u.at a).k ≠ 1 := by
        rcases hq with h | h
        · rw [h]; decide
        · rw [h, hk2.1]; decide
      have : m.u.fill 0 a = (0, { m.u with cells := putC m.u.cells a ⟨2, []⟩ }) := by simp [U.fill, U.asks, hin, cur0 h.e, h3, h1']
      rw [this, hx2]
  rw [hcells]
  rfl
theorem mplay_trim {m : M} (h : m.ok) (b : Int) : m.doc.rTrim b = ((m.trim b).2.doc, (m.trim b).1) := by
  unfold M.rTrim
  show ((⟨(m.u.doc.rTrim 0 b).1, if (m.u.doc.rTrim 0 b).2 = 0 then max m.t b else m.t⟩ : M), (m.u.doc.rTrim 0 b).2) = _
  rw [play_trim h.u]
  unfold M.trim U.trim U.asks
  by_cases h1 : inR b 1048576 = true
  rotate_left
  · have h1' : inR b 1048576 = false := by simpa using h1
    simp [h1', M.doc]
  simp [h1, cur0 h.e, M.doc, M.trim']
theorem mplay_cut {m : M} (h : m.ok) (f : Int) : m.doc.rCut f = ((m.cut f).2.doc, (m.cut f).1) := by
  unfold M.rCut
  show ((⟨(m.u.doc.rCut 0 f).2.1, if (m.u.doc.rCut 0 f).2.2 = 0 then f else m.t⟩ : M), (m.u.doc.rCut 0 f).2.2) = _
  rw [play_cut h.u]
  unfold M.cut U.cut U.asks
  by_cases h1 : inR f 1048576 = true
  rotate_left
  · have h1' : inR f 1048576 = false := by simpa using h1
    simp [h1', M.doc]
  by_cases h2 : f < m.u.l
  · simp [h1, cur0 h.e, h2, M.doc]
  · simp [h1, cur0 h.e, h2, M.doc]
end Go.Proofs.YtkljeefncopodaaGreat

namespace Go.Proofs.YtkljeefncopodaaGreat
set_option linter.unusedSimpArgs false
set_option linter.unusedVariables false

theorem look_put (L : List (Int × C)) (a : Int) (c : C) (x : Int) (hx : x ≠ a) : lookC (putC L a c) x = lookC L x := by
  unfold putC
  split
  · rename_i hany
    clear hany
    unfold lookC
    congr 2
    induction L with
    | nil => rfl
    | cons p L ih =>
      by_cases hp : p.1 = a
      · have h1 : (a == x) = false := by rw [beq_eq_false_iff_ne]; exact fun h => hx h.symm
        have h2 : (p.1 == x) = false := by rw [hp]; exact h1
        simp only [List.map_cons, if_pos hp, List.find?_cons, h1, h2, ih]
      · simp only [List.map_cons, if_neg hp, List.find?_cons, ih]
  · unfold lookC
    rw [List.find?_append]
    have h1 : (a == x) = false := by rw [beq_eq_false_iff_ne]; exact fun h => hx h.symm
    simp [h1]
theorem look_filter (L : List (Int × C)) (f : Int × C → Bool) (hn : (L.map (·.1)).Nodup) {p : Int × C} (hp : p ∈ L) (hf : f p = true) : lookC (L.filter f) p.1 = p.2 :=
  lookC_of_mem (hn.sublist (List.filter_sublist.map _)) (List.mem_filter.2 ⟨hp, hf⟩)

theorem may_self {c : C} (h : c.check = 0) : C.may c c = true := by simp [C.may, h]
theorem may_trim {c : C} (h : c.check = 0) : C.may c ⟨3, []⟩ = true := by
  have h3 : C.check ⟨3, []⟩ = 0 := by decide
  unfold C.may
  rw [h, h3]
  simp
theorem cell_check {u : U} (h : u.ok) {p : Int × C} (hp : p ∈ u.cells) : p.2.check = 0 := by
  have h1 := h.kind p hp
  unfold C.check
  rcases h1 with ⟨h1 | ⟨h1, h2⟩, h3⟩
  · rw [if_neg (by omega), if_neg (by omega), if_neg (by omega)]
  · rw [if_neg (by omega), if_neg (by omega), if_neg (by rw [h2]; simp)]

/-- what an act leaves -/
structure Once (u u' : U) (kn e : Int) : Prop where
  ep : u.e ≤ u'.e
  low : u.l ≤ u'.l
  elder : kn ≠ 0 → e < u.e → u' = u
  may : kn ≠ 6 → ∀ p ∈ u.cells, C.may p.2 (u'.at p.1) = true
theorem Once.same {u : U} (h : u.ok) (kn e : Int) : Once u u kn e :=
  ⟨Int.le_refl _, Int.le_refl _, fun _ _ => rfl, fun _ p hp => by
    have : u.at p.1 = p.2 := by
      rw [U.at, if_neg (by have := h.addr p hp; omega)]; exact lookC_of_mem h.nodup hp
    rw [this]; exact may_self (cell_check h hp)⟩
theorem cur_elder {u : U} {e : Int} (h : e < u.e) : u.cur e = 6 := by simp [U.cur, h]
theorem Once.put {u : U} (h : u.ok) {kn e a : Int} {c : C} (hc : u.cur e = 0) (ha : (u.at a).k = 0 ∨ u.at a = c ∧ (u.at a).k ≠ 3) : Once u { u with cells := putC u.cells a c } kn e := by
  refine ⟨Int.le_refl _, Int.le_refl _, fun _ he => ?_, fun _ p hp => ?_⟩
  · rw [cur_elder he] at hc; cases hc
  · have hl : ¬ p.1 < u.l := by have := h.addr p hp; omega
    have hpl := lookC_of_mem h.nodup hp
    have : (U.at { u with cells := putC u.cells a c } p.1) = p.2 := by
      rw [U.at]
      show (if p.1 < u.l then _ else lookC (putC u.cells a c) p.1) = _
      rw [if_neg hl]
      by_cases hpa : p.1 = a
      · rcases ha with h0 | ⟨h1, h3⟩
        · exfalso
          have := at_any0 h h0
          rw [List.any_eq_false] at this
          exact this p hp (by simp [hpa])
        · have h4 : u.at a = lookC u.cells a := by rw [U.at, if_neg (by rw [← hpa]; exact hl)]
          rw [putC_same _ h.nodup a c (List.any_eq_true.2 ⟨p, hp, by simp [hpa]⟩) (by rw [← h4, h1]), hpl]
      · rw [look_put _ _ _ _ hpa, hpl]
    rw [this]; exact may_self (cell_check h hp)
theorem uS_once {u : U} (h : u.ok) (kn e a : Int) (d : List UInt8) : Once u (uS kn u e a d).1 kn e := by
  unfold uS
  split
  · rename_i hk
    subst hk
    unfold U.sealE
    split; · exact Once.same h _ _
    split; · exact Once.same h _ _
    rename_i h1 h2
    refine ⟨by show u.e ≤ e; omega, Int.le_refl _, fun h => absurd rfl h, fun _ p hp => ?_⟩
    have := (Once.same h 1 e).may (by decide) p hp
    exact this
  split
  · unfold U.write
    split; · exact Once.same h _ _
    split; · exact Once.same h _ _
    split; · exact Once.same h _ _
    rename_i hc
    have hc0 : u.cur e = 0 := by simpa using hc
    split; · exact Once.same h _ _
    split
    · rename_i h0; exact Once.put h hc0 (.inl h0)
    · exact Once.same h _ _
  split
  · unfold U.fill
    split; · exact Once.same h _ _
    rename_i hc
    have hin : inR a 1048575 = true := asks_in hc
    have hc0 : u.cur e = 0 := by simp only [U.asks, hin, if_true, ne_eq, Decidable.not_not] at hc; exact hc
    split; · exact Once.same h _ _
    rename_i h3
    split; · exact Once.same h _ _
    rename_i h1
    refine Once.put h hc0 ?_
    rcases at_kind h a with ⟨h5, _⟩ | ⟨h5, _⟩ | ⟨h5 | ⟨h5, h6⟩, _⟩
    · exact absurd h5 h3
    · exact .inl h5
    · exact absurd h5 h1
    · exact .inr ⟨C.ext' h5 h6, h3⟩
  split; · exact Once.same h _ _
  split
  · rename_i hk
    subst hk
    unfold U.trim
    split; · exact Once.same h _ _
    rename_i hc
    have hin := asks_in hc
    have hc0 : u.cur e = 0 := by simp only [U.asks, hin, if_true, ne_eq, Decidable.not_not] at hc; exact hc
    refine ⟨Int.le_refl _, by show u.l ≤ max u.l a; omega, fun _ he => ?_, fun _ p hp => ?_⟩
    · rw [cur_elder he] at hc0; cases hc0
    · by_cases hl : p.1 < max u.l a
      · have : (U.at { u with l := max u.l a, cells := u.cells.filter (fun p => !decide (p.1 < max u.l a)) } p.1) = ⟨3, []⟩ := by
          rw [U.at]; exact if_pos hl
        show C.may p.2 (U.at { u with l := max u.l a, cells := u.cells.filter (fun p => !decide (p.1 < max u.l a)) } p.1) = true
        rw [this]; exact may_trim (cell_check h hp)
      · have : (U.at { u with l := max u.l a, cells := u.cells.filter (fun p => !decide (p.1 < max u.l a)) } p.1) = p.2 := by
          rw [U.at]
          show (if p.1 < max u.l a then _ else lookC _ p.1) = _
          rw [if_neg hl]
          exact look_filter _ _ h.nodup hp (by simp; omega)
        show C.may p.2 (U.at { u with l := max u.l a, cells := u.cells.filter (fun p => !decide (p.1 < max u.l a)) } p.1) = true
        rw [this]; exact may_self (cell_check h hp)
  split
  · rename_i hk
    subst hk
    unfold U.cut
    split; · exact Once.same h _ _
    rename_i hc
    have hin := asks_in hc
    have hc0 : u.cur e = 0 := by simp only [U.asks, hin, if_true, ne_eq, Decidable.not_not] at hc; exact hc
    split; · exact Once.same h _ _
    exact ⟨Int.le_refl _, Int.le_refl _, fun _ he => (by rw [cur_elder he] at hc0; cases hc0), fun h6 => absurd rfl h6⟩
  · exact Once.same h _ _
/-- a cell that was there is read without an error -/
theorem once_read {u u' : U} (h : u.ok) {p : Int × C} (hp : p ∈ u.cells) : u'.read u'.e p.1 = (0, u'.at p.1) := by
  have h1 := h.addr p hp
  have h2 := h.l0
  have hin : inR p.1 1048575 = true := by simp [inR]; omega
  simp [U.read, U.asks, hin, U.cur]
/-- two units are the same -/
def sameB (u v : U) : Bool := u.e == v.e && u.l == v.l && (u.cells.length == v.cells.length && u.cells.all (fun p => v.cells.any (·.1 == p.1) && decide (p.2 = lookC v.cells p.1)))
theorem sameB_self {u : U} (h : u.ok) : sameB u u = true := by
  simp only [sameB, beq_self_eq_true, Bool.true_and, List.all_eq_true, Bool.and_eq_true, List.any_eq_true, decide_eq_true_eq]
  exact fun p hp => ⟨⟨p, hp, beq_self_eq_true _⟩, (lookC_of_mem h.nodup hp).symm⟩
end Go.Proofs.YtkljeefncopodaaGreat

namespace Go.Proofs.YtkljeefncopodaaGreat
set_option linter.unusedSimpArgs false
set_option linter.unusedVariables false

def outE (l : Int) (p : Int × C) : Bool := decide (p.1 < l) || decide (1048576 ≤ p.1)
def noneE (p : Int × C) : Bool := p.2.k == 0 || p.2.k == 3
def firstBad : List (Int × C) → Nat
  | [] => 0
  | p :: E => if p.2.check ≠ 0 then p.2.check else firstBad E
def risesB : List (Int × C) → Bool
  | [] => true
  | [_] => true
  | x :: y :: E => decide (x.1 < y.1) && risesB (y :: E)
def rightErr (E : List (Int × C)) : Nat := if firstBad E ≠ 0 then firstBad E else if E.any noneE = true then 2 else if risesB E = true then 0 else 13
def ofErr (e l : Int) (E : List (Int × C)) : Nat :=
  if e < 0 ∨ 1099511627776 < e ∨ l < 0 ∨ 1048576 < l then 1 else if E.any (outE l) = true then 1 else rightErr E
theorem firstBad_zero {E : List (Int × C)} (h : firstBad E = 0) : ∀ p ∈ E, p.2.check = 0 := by
  induction E with
  | nil => simp
  | cons q E ih =>
    unfold firstBad at h
    split at h
    · rename_i h1; exact absurd h h1
    · rename_i h1
      intro p hp
      rcases List.mem_cons.1 hp with rfl | hp
      · simpa using h1
      · exact ih h p hp
theorem risesB_rise : ∀ {E : List (Int × C)}, risesB E = true → Rise E
  | [], _ => List.Pairwise.nil
  | [_], _ => by simp [Rise]
  | x :: y :: E, h => by
    simp only [risesB, Bool.and_eq_true, decide_eq_true_eq] at h
    have ih := risesB_rise h.2
    refine List.pairwise_cons.2 ⟨fun p hp => ?_, ih⟩
    rcases List.mem_cons.1 hp with rfl | hp
    · exact h.1
    · have := (List.pairwise_cons.1 ih).1 p hp
      omega
theorem rise_nodup {E : List (Int × C)} (h : Rise E) : (E.map (·.1)).Nodup := by
  unfold List.Nodup
  rw [List.pairwise_map]
  exact h.imp (fun h => by omega)
/-- the unit that is made -/
theorem of_ok {e l : Int} {E : List (Int × C)} (h : ofErr e l E = 0) : U.ok ⟨e, l, E⟩ ∧ Rise E := by
  unfold ofErr at h
  split at h; · cases h
  rename_i h1
  split at h; · cases h
  rename_i h2
  unfold rightErr at h
  split at h
  · rename_i h3; exact absurd h h3
  rename_i h3
  split at h; · cases h
  rename_i h4
  split at h
  rotate_left
  · cases h
  rename_i h5
  have hr := risesB_rise h5
  have hc := firstBad_zero (E := E) (by simpa using h3)
  have ho : ∀ p ∈ E, l ≤ p.1 ∧ p.1 < 1048576 := by
    intro p hp
    have : outE l p = false := by
      cases hq : outE l p with
      | false => rfl
      | true => exact absurd (List.any_eq_true.2 ⟨p, hp, hq⟩) h2
    unfold outE at this
    rw [Bool.or_eq_false_iff, decide_eq_false_iff_not, decide_eq_false_iff_not] at this
    omega
  refine ⟨⟨by show 0 ≤ e; omega, by show e ≤ _; omega, by show 0 ≤ l; omega, by show l ≤ _; omega, ho, fun p hp => ?_, rise_nodup hr⟩, hr⟩
  have h6 : noneE p = false := by
    cases hq : noneE p with
    | false => rfl
    | true => exact absurd (List.any_eq_true.2 ⟨p, hp, hq⟩) h4
  have h7 := hc p hp
  unfold noneE at h6
  rw [Bool.or_eq_false_iff, beq_eq_false_iff_ne, beq_eq_false_iff_ne] at h6
  refine check_zero h7 ?_
  intro h8
  unfold C.check at h7
  split at h7; · cases h7
  rename_i h9
  omega
theorem of_doc {e l : Int} {E : List (Int × C)} (h : ofErr e l E = 0) : (⟨e, l, E⟩ : U).doc = ⟨e, l, E⟩ := by
  obtain ⟨h1, h2⟩ := of_ok h
  unfold U.doc
  rw [sortC_eq h1.nodup h2 (List.Perm.refl _)]
theorem putC_new {L : List (Int × C)} {a : Int} {c : C} (h : ∀ p ∈ L, p.1 ≠ a) : putC L a c = L ++ [(a, c)] := by
  unfold putC
  rw [if_neg]
  rw [List.any_eq_true]
  rintro ⟨p, hp, he⟩
  exact h p hp (by simpa using he)
/-- the map that is filled -/
theorem of_step {E : List (Int × C)} (h : Rise E) {k : Nat} (hk : k < E.length) : putC (E.take k) E[k].1 E[k].2 = E.take (k + 1) := by
  rw [putC_new, List.take_succ_eq_append_getElem hk]
  intro p hp
  obtain ⟨j, hj, rfl⟩ := List.getElem_of_mem hp
  have hjk : j < k := by rw [List.length_take] at hj; omega
  rw [List.getElem_take]
  have := List.pairwise_iff_getElem.1 h j k (by omega) hk hjk
  omega
theorem sameB_new {u : U} (h : u.ok) : sameB u U.new = u.rSame ⟨0, 0, []⟩ := by
  unfold sameB U.rSame U.new
  rw [Bool.eq_iff_iff]
  simp only [Bool.and_eq_true, beq_iff_eq, List.length_nil, List.length_eq_zero_iff, decide_eq_true_eq]
  constructor
  · rintro ⟨⟨h1, h2⟩, h3, _⟩; exact ⟨h1, h2, h3⟩
  · rintro ⟨h1, h2, h3⟩; exact ⟨⟨h1, h2⟩, h3, by rw [h3]; rfl⟩
theorem sameB_low {u v : U} (h : u.l ≠ v.l) : sameB u v = false := by
  unfold sameB
  rw [show (u.l == v.l) = false from by rw [beq_eq_false_iff_ne]; exact h]
  simp
end Go.Proofs.YtkljeefncopodaaGreat
