/- Layer 8: what the unit answers is what the document's answers, when that one has the unit's cells by their addresses. Plain. -/
import Derived.Test.YtkljeefncopodaaGreatUnitN
import Derived.Test.YtkljeefncopodaaGreatEnt
namespace Go.Proofs.YtkljeefncopodaaGreat
set_option linter.unusedSimpArgs false
set_option linter.unusedVariables false

def Rise (S : List (Int × C)) : Prop := S.Pairwise (fun p q => p.1 < q.1)

theorem lookC_of_mem {M : List (Int × C)} (hn : (M.map (·.1)).Nodup) {p : Int × C} (hp : p ∈ M) : lookC M p.1 = p.2 := by
  induction M with
  | nil => cases hp
  | cons q M ih =>
    simp only [List.map_cons, List.nodup_cons] at hn
    unfold lookC
    by_cases hq : q.1 = p.1
    · rcases List.mem_cons.1 hp with rfl | hp
      · simp
      · exact absurd (List.mem_map.2 ⟨p, hp, rfl⟩) (hq ▸ hn.1)
    · have hpM : p ∈ M := by
        rcases List.mem_cons.1 hp with rfl | hp
        · exact absurd rfl hq
        · exact hp
      have := ih hn.2 hpM
      unfold lookC at this
      simp only [List.find?_cons, show (q.1 == p.1) = false from by simpa using hq]
      exact this

theorem rise_ext {S T : List (Int × C)} (hS : Rise S) (hT : Rise T) (h : S.Perm T) : S = T :=
  List.Perm.eq_of_pairwise (le := fun p q : Int × C => p.1 < q.1) (fun a b _ _ h1 h2 => absurd h1 (by omega)) hS hT h

theorem sortC_map (M : List (Int × C)) (hn : (M.map (·.1)).Nodup) : (sortC M).Perm M := by
  have h1 : (sortA M).Perm (M.map (·.1)) := List.mergeSort_perm _ _
  have h2 : (sortC M).Perm ((M.map (·.1)).map (fun a => (a, lookC M a))) := h1.map _
  refine h2.trans (List.Perm.of_eq ?_)
  rw [List.map_map]
  conv => rhs; rw [← List.map_id M]
  refine List.map_congr_left fun p hp => ?_
  simp [lookC_of_mem hn hp]
theorem sortC_rise (M : List (Int × C)) (hn : (M.map (·.1)).Nodup) : Rise (sortC M) := by
  unfold Rise sortC
  rw [List.pairwise_map]
  have h1 : (sortA M).Pairwise (fun x y => x ≤ y) := by
    have := List.pairwise_mergeSort (le := fun x y : Int => decide (x ≤ y)) (fun a b c h1 h2 => by simp at *; omega) (fun a b => by simp; omega) (M.map (·.1))
    exact this.imp (fun h => by simpa using h)
  have h2 : (sortA M).Nodup := (List.mergeSort_perm _ _).nodup_iff.2 hn
  exact (h1.and h2).imp (fun ⟨a, b⟩ => by simp only; omega)
theorem sortC_eq {S M : List (Int × C)} (hn : (M.map (·.1)).Nodup) (hS : Rise S) (h : S.Perm M) : sortC M = S :=
  rise_ext (sortC_rise M hn) hS ((sortC_map M hn).trans h.symm)

theorem sortC_filter (M : List (Int × C)) (hn : (M.map (·.1)).Nodup) (f : Int × C → Bool) : sortC (M.filter f) = (sortC M).filter f :=
  sortC_eq (hn.sublist ((List.filter_sublist).map _)) ((sortC_rise M hn).sublist List.filter_sublist) ((sortC_map M hn).filter _)
theorem sortC_mem (M : List (Int × C)) (hn : (M.map (·.1)).Nodup) (p : Int × C) : p ∈ sortC M ↔ p ∈ M := (sortC_map M hn).mem_iff
theorem sortC_nodup (M : List (Int × C)) (hn : (M.map (·.1)).Nodup) : ((sortC M).map (·.1)).Nodup := ((sortC_map M hn).map _).nodup_iff.2 hn

theorem lookC_sort (M : List (Int × C)) (hn : (M.map (·.1)).Nodup) (a : Int) : lookC (sortC M) a = lookC M a := by
  cases h : M.any (·.1 == a) with
  | true =>
    have h1 := lookC_mem h
    have h2 := (sortC_mem M hn _).2 h1
    exact lookC_of_mem (sortC_nodup M hn) h2
  | false =>
    rw [lookC_none h, lookC_none]
    rw [List.any_eq_false] at h ⊢
    exact fun p hp => h p ((sortC_mem M hn p).1 hp)

theorem insC_perm (S : List (Int × C)) (a : Int) (c : C) : (insC S a c).Perm (S ++ [(a, c)]) := by
  induction S with
  | nil => exact List.Perm.refl _
  | cons p S ih =>
    simp only [insC]
    split
    · exact (List.perm_append_comm (l₁ := [(a, c)]) (l₂ := p :: S))
    · exact ih.cons _
theorem insC_mem {S : List (Int × C)} {a : Int} {c : C} {p : Int × C} (h : p ∈ insC S a c) : p = (a, c) ∨ p ∈ S := by
  have := (insC_perm S a c).mem_iff.1 h
  rcases List.mem_append.1 this with h | h
  · exact .inr h
  · exact .inl (by simpa using h)
theorem insC_rise {S : List (Int × C)} (hS : Rise S) {a : Int} {c : C} (ha : ∀ p ∈ S, p.1 ≠ a) : Rise (insC S a c) := by
  induction S with
  | nil => simp [insC, Rise]
  | cons p S ih =>
    have h1 := List.pairwise_cons.1 hS
    simp only [insC]
    have hpa := ha p List.mem_cons_self
    split
    · rename_i hlt
      refine List.pairwise_cons.2 ⟨fun q hq => ?_, hS⟩
      rcases List.mem_cons.1 hq with rfl | hq
      · exact hlt
      · have := h1.1 q hq; simp only; omega
    · rename_i hlt
      refine List.pairwise_cons.2 ⟨fun q hq => ?_, ih h1.2 fun q hq => ha q (List.mem_cons_of_mem _ hq)⟩
      rcases insC_mem hq with rfl | hq
      · simp only; omega
      · exact h1.1 q hq
theorem sortC_put (M : List (Int × C)) (hn : (M.map (·.1)).Nodup) (a : Int) (c : C) (ha : M.any (·.1 == a) = false) : sortC (putC M a c) = insC (sortC M) a c := by
  have hk := putC_keys M a c hn
  have he : putC M a c = M ++ [(a, c)] := by simp [putC, ha]
  refine sortC_eq hk ?_ ?_
  · refine insC_rise (sortC_rise M hn) fun p hp => ?_
    rw [List.any_eq_false] at ha
    have := ha p ((sortC_mem M hn p).1 hp)
    simpa using this
  · rw [he]
    exact (insC_perm _ _ _).trans ((sortC_map M hn).append_right _)
theorem putC_same (M : List (Int × C)) (hn : (M.map (·.1)).Nodup) (a : Int) (c : C) (h : M.any (·.1 == a) = true) (hc : lookC M a = c) : putC M a c = M := by
  unfold putC
  rw [if_pos h]
  conv => rhs; rw [← List.map_id M]
  refine List.map_congr_left fun p hp => ?_
  by_cases hpa : p.1 = a
  · have := lookC_of_mem hn hp
    rw [hpa, hc] at this
    simp only [hpa, if_true, id]
    rw [← hpa, this]
  · simp [hpa]

theorem foldl_perm_tail {M N : List (Int × C)} (h : M.Perm N) (m : Int) : M.foldl tailF m = N.foldl tailF m := by
  refine h.foldl_eq' (fun x _ y _ z => tailF_comm z x y) m
theorem tail_last : ∀ (S : List (Int × C)) (m : Int), Rise S → (∀ p ∈ S, m ≤ p.1) → S.foldl tailF m = match S.getLast? with | none => m | some p => p.1 + 1
  | [], m, _, _ => rfl
  | [p], m, _, h => by have := h p List.mem_cons_self; simp [tailF]; omega
  | p :: q :: S, m, hS, h => by
    have h1 := List.pairwise_cons.1 hS
    rw [List.foldl_cons, tail_last (q :: S) (tailF m p) h1.2 (fun r hr => by have := h1.1 r hr; have := h p List.mem_cons_self; unfold tailF; omega)]
    rw [List.getLast?_cons_cons]
    cases hq : (q :: S).getLast? with
    | none => simp at hq
    | some r => rfl
theorem rTail_doc {u : U} (h : u.ok) : U.rTail ⟨u.e, u.l, sortC u.cells⟩ = u.tail := by
  unfold U.rTail U.tail
  rw [← foldl_perm_tail (sortC_map u.cells h.nodup), tail_last _ _ (sortC_rise _ h.nodup) (fun p hp => (h.addr p ((sortC_mem _ h.nodup p).1 hp)).1)]
  rfl

def U.doc (u : U) : U := ⟨u.e, u.l, sortC u.cells⟩
theorem doc_at {u : U} (h : u.ok) (a : Int) : u.doc.at a = u.at a := by
  unfold U.at U.doc
  simp only [lookC_sort _ h.nodup]
theorem doc_cur (u : U) (e : Int) : u.doc.cur e = u.cur e := rfl
theorem inR_iff (x m : Int) : inR x m = decide (¬ (x < 0 ∨ m < x)) := by
  unfold inR; rw [Bool.eq_iff_iff]; simp
theorem at_any0 {u : U} (h : u.ok) {a : Int} (h0 : (u.at a).k = 0) : u.cells.any (·.1 == a) = false := by
  cases hq : u.cells.any (·.1 == a) with
  | false => rfl
  | true =>
    exfalso
    have h1 := lookC_mem hq
    unfold U.at at h0
    split at h0
    · simp at h0
    · rcases (h.kind _ h1).1 with hk | hk
      · rw [h0] at hk; cases hk
      · rw [h0] at hk; cases hk.1

theorem play_seal {u : U} (h : u.ok) (e : Int) : u.doc.rSeal e = ((u.sealE e).2.1, (u.sealE e).2.2.doc, (u.sealE e).1) := by
  unfold U.rSeal U.sealE
  rw [inR_iff]
  by_cases h1 : e < 0 ∨ 1099511627776 < e
  · simp [h1]
  · by_cases h2 : e ≤ u.e
    · have : e ≤ u.doc.e := h2
      simp [h1, h2, this]
    · have h2' : ¬ e ≤ u.doc.e := h2
      simp only [h1, h2, h2', not_false_eq_true, decide_true, Bool.not_true, Bool.false_eq_true, if_false]
      have hk : U.ok { u with e := e } := ⟨by simp; omega, by simp; omega, h.l0, h.l1, h.addr, h.kind, h.nodup⟩
      have := rTail_doc hk
      have h3 : U.rTail { u.doc with e := e } = u.tail := by exact this
      rw [h3]; rfl
theorem play_write {u : U} (h : u.ok) (e a : Int) (d : List UInt8) : u.doc.rWrite e a d = ((u.write e a d).2.doc, (u.write e a d).1) := by
  unfold U.rWrite U.write
  rw [inR_iff, doc_cur, doc_at h]
  by_cases h1 : a < 0 ∨ 1048575 < a
  · simp [h1]
  simp only [h1, if_false, not_false_eq_true, decide_true, Bool.not_true, Bool.false_eq_true]
  by_cases h2 : 64 < d.length
  · simp [h2]
  simp only [h2, if_false]
  by_cases h3 : u.cur e ≠ 0
  · simp [h3]
  simp only [h3, if_false]
  by_cases h4 : (u.at a).k = 3
  · simp [h4]
  simp only [h4, if_false]
  by_cases h5 : (u.at a).k = 0
  · simp only [h5, if_true]
    have := sortC_put u.cells h.nodup a ⟨1, d⟩ (at_any0 h h5)
    simp only [U.doc, this]
  · simp [h5]
theorem play_fill {u : U} (h : u.ok) (e a : Int) : u.doc.rFill e a = ((u.fill e a).2.doc, (u.fill e a).1) := by
  unfold U.rFill U.fill U.asks
  rw [inR_iff, doc_cur, doc_at h]
  by_cases h1 : a < 0 ∨ 1048575 < a
  · simp [h1]
  simp only [h1, if_false, not_false_eq_true, decide_true, if_true]
  by_cases h3 : u.cur e ≠ 0
  · simp [h3]
  simp only [h3, if_false]
  by_cases h4 : (u.at a).k = 3
  · simp [h4]
  simp only [h4, if_false]
  by_cases h5 : (u.at a).k = 1
  · simp [h5]
  simp only [h5, if_false]
  by_cases h6 : (u.at a).k = 0
  · simp only [h6, if_true]
    have := sortC_put u.cells h.nodup a ⟨2, []⟩ (at_any0 h h6)
    simp only [U.doc, this]
  · simp only [h6, if_false]
    have hl : ¬ a < u.l := by intro hl; unfold U.at at h4; simp [hl] at h4
    have hat : u.at a = lookC u.cells a := by simp [U.at, hl]
    rw [hat] at h4 h5 h6
    have hany : u.cells.any (·.1 == a) = true := by
      cases hq : u.cells.any (·.1 == a) with
      | true => rfl
      | false => rw [lookC_none hq] at h6; exact absurd rfl h6
    have hm := lookC_mem hany
    have hk := (h.kind _ hm).1
    have hc : lookC u.cells a = ⟨2, []⟩ := by
      rcases hk with hk | ⟨hk, hd⟩
      · exact absurd hk h5
      · cases hq : lookC u.cells a with
        | mk k d => rw [hq] at hk hd; simp only at hk hd; rw [hk, hd]
    rw [putC_same _ h.nodup _ _ hany hc]
theorem play_read {u : U} (h : u.ok) (e a : Int) : u.doc.rRead e a = ((u.read e a).2, (u.read e a).1) := by
  unfold U.rRead U.read U.asks
  rw [inR_iff, doc_cur, doc_at h]
  by_cases h1 : a < 0 ∨ 1048575 < a
  · simp [h1]
  simp only [h1, if_false, not_false_eq_true, decide_true, if_true]
  by_cases h3 : u.cur e ≠ 0
  · simp [h3]
  · simp [h3]
theorem play_trim {u : U} (h : u.ok) (e b : Int) : u.doc.rTrim e b = ((u.trim e b).2.doc, (u.trim e b).1) := by
  unfold U.rTrim U.trim U.asks
  rw [inR_iff, doc_cur]
  by_cases h1 : b < 0 ∨ 1048576 < b
  · simp [h1]
  simp only [h1, if_false, not_false_eq_true, decide_true, if_true]
  by_cases h3 : u.cur e ≠ 0
  · simp [h3]
  simp only [h3, if_false]
  have hf : (fun p : Int × C => !decide (p.1 < max u.l b)) = (fun p => decide (max u.l b ≤ p.1)) := by
    funext p; rw [Bool.eq_iff_iff]; simp
  simp only [U.doc]
  rw [← sortC_filter _ h.nodup, hf]
  rfl
theorem play_cut {u : U} (h : u.ok) (e f : Int) : u.doc.rCut e f = ((u.cut e f).2.1, (u.cut e f).2.2.doc, (u.cut e f).1) := by
  unfold U.rCut U.cut U.asks
  rw [inR_iff, doc_cur]
  by_cases h1 : f < 0 ∨ 1048576 < f
  · simp [h1]
  simp only [h1, if_false, not_false_eq_true, decide_true, if_true]
  by_cases h3 : u.cur e ≠ 0
  · simp [h3]
  simp only [h3, if_false]
  by_cases h4 : f < u.l
  · have : f < u.doc.l := h4
    simp [h4, this]
  have h4' : ¬ f < u.doc.l := h4
  simp only [h4, h4', if_false]
  have hf : (fun p : Int × C => !decide (f ≤ p.1)) = (fun p => decide (p.1 < f)) := by
    funext p; rw [Bool.eq_iff_iff]; simp
  simp only [U.doc]
  rw [← sortC_filter _ h.nodup, hf, sortC_len, sortC_len]

theorem play_all {u : U} (h : u.ok) (kn e a : Int) (d : List UInt8) : mS kn u.doc e a d = ((uS kn u e a d).1.doc, (uS kn u e a d).2.1, (uS kn u e a d).2.2.1, (uS kn u e a d).2.2.2) := by
  unfold mS uS
  rw [play_seal h, play_write h, play_fill h, play_read h, play_trim h, play_cut h, doc_cur]
  split; · rfl
  split; · rfl
  split; · rfl
  split; · rfl
  split; · rfl
  split; · rfl
  unfold U.tailOf U.asks
  simp only [if_true]
  have ht : u.doc.rTail = u.tail := rTail_doc h
  by_cases h3 : u.cur e = 0
  · simp [h3, ht]
  · simp [h3]
theorem uS_ok {u : U} (h : u.ok) (kn e a : Int) (d : List UInt8) : (uS kn u e a d).1.ok := by
  unfold uS
  split; · exact U.ok_sealE h e
  split; · exact U.ok_write h e a d
  split; · exact U.ok_fill h e a
  split; · exact h
  split; · exact U.ok_trim h e a
  split; · exact U.ok_cut h e a
  exact h
theorem putC_len (L : List (Int × C)) (a : Int) (c : C) : (putC L a c).length ≤ L.length + 1 := by
  unfold putC; split <;> simp
theorem uS_len (u : U) (kn e a : Int) (d : List UInt8) : (uS kn u e a d).1.cells.length ≤ u.cells.length + 1 := by
  unfold uS
  split; · unfold U.sealE; (repeat' split) <;> simp
  split; · unfold U.write; (repeat' split) <;> first | exact putC_len _ _ _ | simp
  split; · unfold U.fill; (repeat' split) <;> first | exact putC_len _ _ _ | simp
  split; · simp
  split; · unfold U.trim; split; · simp
           · exact Nat.le_succ_of_le (List.length_filter_le _ _)
  split; · unfold U.cut; split; · simp
           · split; · simp
             · exact Nat.le_succ_of_le (List.length_filter_le _ _)
  simp
end Go.Proofs.YtkljeefncopodaaGreat
