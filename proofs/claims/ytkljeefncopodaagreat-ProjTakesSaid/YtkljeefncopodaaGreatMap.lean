/- Maps with integer keys as association lists: look-up, store, delete, ranging. No condition on the program beyond the map type's own row. -/
import Derived.Test.YtkljeefncopodaaGreatRep
namespace Go.Proofs.YtkljeefncopodaaGreat
open Go.RowKit
set_option linter.unusedSimpArgs false
set_option linter.unusedVariables false

structure MapT (P : Program) (t k e : Nat) (z : Value) : Prop where
  under : P.underlying t = some (.map k e)
  key : P.underlying k = some (.int .i64)
  zero : ∀ w, (zeroValue e).run P w = .ok z w

def kv (e : MapEntry) : Value × Value := (e.key, e.val)
def vk (p : Int × Value) : Value × Value := (.int .i64 p.1, p.2)

/-- the entries es show the association list L -/
structure Shows (es : List MapEntry) (clock : Nat) (L : List (Int × Value)) : Prop where
  eq : es.map kv = L.map vk
  nodup : (L.map (·.1)).Nodup
  rise : es.Pairwise (fun x y => x.born < y.born)
  old : ∀ e ∈ es, e.born < clock

def MapAt (w : World) (b : Nat) (L : List (Int × Value)) : Prop := ∃ es clock, w.heap[b]? = some (.map es clock) ∧ Shows es.toList clock L

theorem MapAt.block {w w' : World} {b : Nat} {L : List (Int × Value)} (h : MapAt w b L) (hb : w'.heap[b]? = w.heap[b]?) : MapAt w' b L := by
  obtain ⟨es, clock, h1, h2⟩ := h
  exact ⟨es, clock, hb.trans h1, h2⟩
theorem MapAt.lt {w : World} {b : Nat} {L : List (Int × Value)} (h : MapAt w b L) : b < w.heap.size := by
  obtain ⟨es, clock, h1, _⟩ := h
  exact (Array.getElem?_eq_some_iff.1 h1).1
theorem MapAt.nodup {w : World} {b : Nat} {L : List (Int × Value)} (h : MapAt w b L) : (L.map (·.1)).Nodup := by
  obtain ⟨_, _, _, h2⟩ := h; exact h2.nodup

theorem MapAt.made (w : World) : MapAt (w.alloc (.map #[] 0)) w.heap.size [] :=
  ⟨#[], 0, by show (w.heap.push _)[w.heap.size]? = _; simp, ⟨rfl, by simp, by simp, by simp⟩⟩

theorem findNow_int {a : Int} : ∀ (es : List MapEntry) (L : List (Int × Value)) (i : Nat), es.map kv = L.map vk →
    Instr.findNow (.int .i64) (.int .i64 a) es i = some ((L.findIdx? (·.1 == a)).bind fun j => (L[j]?).map fun p => (i + j, p.2))
  | [], L, i, h => by
    have : L = [] := by simpa using h.symm
    subst this; simp [Instr.findNow]
  | e :: es, [], i, h => by simp at h
  | e :: es, p :: L, i, h => by
    simp only [List.map_cons, List.cons.injEq] at h
    obtain ⟨h1, h2⟩ := h
    have hk : e.key = .int .i64 p.1 := congrArg Prod.fst h1
    have hv : e.val = p.2 := congrArg Prod.snd h1
    unfold Instr.findNow
    rw [hk]
    simp only [Instr.sameNow, if_true]
    by_cases hpa : p.1 = a
    · subst hpa; simp [List.findIdx?_cons, hv]
    · have e1 : (a == p.1) = false := by simp; exact fun h => hpa h.symm
      have e2 : (p.1 == a) = false := by simp [hpa]
      rw [e1]
      simp only [List.findIdx?_cons, e2]
      rw [findNow_int es L (i + 1) h2]
      cases hf : L.findIdx? (fun x => x.1 == a) with
      | none => simp
      | some j => simp [Nat.add_assoc, Nat.add_comm 1 j]

theorem run_checkKey' {P : Program} {t k e : Nat} {z : Value} (T : MapT P t k e z) (w : World) (b : Bool) (n : Nat) (a : Int) : (Instr.checkKey b (n + 1) k (.int .i64 a)).run P w = .ok () w := by
  simp [Instr.checkKey, run_underlying T.key, go_sem]
theorem run_checkKey {P : Program} {t k e : Nat} {z : Value} (T : MapT P t k e z) (w : World) (b : Bool) (a : Int) : (Instr.checkKey b 10000 k (.int .i64 a)).run P w = .ok () w := run_checkKey' T w b 9999 a
theorem run_findKey {P : Program} {t k e : Nat} {z : Value} (T : MapT P t k e z) (w : World) {es : List MapEntry} {L : List (Int × Value)} (h : es.map kv = L.map vk) (a : Int) :
    (Instr.findKey k (.int .i64 a) es).run P w = .ok ((L.findIdx? (·.1 == a)).bind fun j => (L[j]?).map fun p => (j, p.2)) w := by
  have hf := findNow_int (a := a) es L 0 h
  simp [Instr.findKey, run_underlying T.key, go_sem, hf]

def lookE (L : List (Int × Value)) (a : Int) : Option Value := (L.find? (·.1 == a)).map (·.2)
theorem find_idx {α : Type} (p : α → Bool) : ∀ L : List α, L.find? p = (L.findIdx? p).bind fun j => L[j]?
  | [] => rfl
  | x :: L => by
    by_cases h : p x = true
    · simp [List.find?_cons, List.findIdx?_cons, h]
    · have h' : p x = false := by simpa using h
      simp only [List.find?_cons, List.findIdx?_cons, h', find_idx p L]
      cases L.findIdx? p <;> simp

theorem run_look {P : Program} {t k e : Nat} {z : Value} (T : MapT P t k e z) {w : World} {b : Nat} {L : List (Int × Value)} (h : MapAt w b L) (a : Int) :
    (Instr.lookup t (.map (some b)) (.int .i64 a) false).run P w = .ok ((lookE L a).getD z) w := by
  obtain ⟨es, clock, hb, hs⟩ := h
  have hz := T.zero w
  have hf := fun w => run_findKey T w hs.eq a
  have hck := run_checkKey T
  have hk := T.key
  simp only [Instr.lookup]
  simp [run_underlying T.under, getObj, Sem.run, hb, go_sem, hck, hf, lookE, find_idx]
  cases hj : L.findIdx? (fun x => x.1 == a) with
  | none => simp [hz, go_sem]
  | some j =>
    have hlt : j < L.length := (List.findIdx?_eq_some_iff_getElem.1 hj).1
    simp [List.getElem?_eq_getElem hlt, go_sem]

def setBlk (w : World) (b : Nat) (o : Obj) : World := { w with heap := w.heap.setIfInBounds b o }
theorem setBlk_size (w : World) (b : Nat) (o : Obj) : (setBlk w b o).heap.size = w.heap.size := by simp [setBlk]
theorem setBlk_at {w : World} {b : Nat} (o : Obj) (h : b < w.heap.size) : (setBlk w b o).heap[b]? = some o := by simp [setBlk, h]
theorem setBlk_ne {w : World} {b k : Nat} (o : Obj) (h : k ≠ b) : (setBlk w b o).heap[k]? = w.heap[k]? := by
  simp only [setBlk]; rw [Array.getElem?_setIfInBounds_ne (by omega)]
theorem setBlk_fr (w : World) (b : Nat) (o : Obj) : Fr (· = b) w (setBlk w b o) := ⟨rfl, rfl, rfl, by simp [setBlk_size], fun _ _ hn => setBlk_ne o hn⟩

def putE (L : List (Int × Value)) (a : Int) (v : Value) : List (Int × Value) := if L.any (·.1 == a) then L.map (fun p => if p.1 = a then (a, v) else p) else L ++ [(a, v)]

theorem modify_map {es : List MapEntry} {L : List (Int × Value)} {a : Int} {v : Value} {j : Nat} (h : es.map kv = L.map vk) (hn : (L.map (·.1)).Nodup) (hj : L.findIdx? (fun x => x.1 == a) = some j) :
    (es.modify j (fun e => { e with key := .int .i64 a, val := v })).map kv = (L.map (fun p => if p.1 = a then (a, v) else p)).map vk := by
  induction es generalizing L j with
  | nil =>
    have : L = [] := by simpa using h.symm
    subst this; simp at hj
  | cons e es ih =>
    cases L with
    | nil => simp at h
    | cons p L =>
      simp only [List.map_cons, List.cons.injEq] at h
      simp only [List.map_cons, List.nodup_cons] at hn
      by_cases hpa : p.1 = a
      · simp [List.findIdx?_cons, hpa] at hj
        subst hj
        have hrest : L.map (fun p => if p.1 = a then (a, v) else p) = L := by
          conv => rhs; rw [← List.map_id L]
          refine List.map_congr_left fun q hq => ?_
          have : q.1 ≠ a := fun hqa => hn.1 (by rw [hpa, ← hqa]; exact List.mem_map_of_mem (f := (·.1)) hq)
          simp [this]
        simp [hpa, hrest, h.2, kv, vk]
      · have e2 : (p.1 == a) = false := by simp [hpa]
        simp only [List.findIdx?_cons, e2] at hj
        obtain ⟨j', hj', rfl⟩ : ∃ j', L.findIdx? (fun x => x.1 == a) = some j' ∧ j' + 1 = j := by
          cases hq : L.findIdx? (fun x => x.1 == a) with
          | none => simp [hq] at hj
          | some j' => simp [hq] at hj; exact ⟨j', rfl, hj⟩
        simp only [List.modify_succ_cons, List.map_cons, hpa, if_false, h.1, List.cons.injEq, true_and]
        exact ih h.2 hn.2 hj'

theorem modify_born {es : List MapEntry} {f : MapEntry → MapEntry} (hf : ∀ e, (f e).born = e.born) (j : Nat) : (es.modify j f).map (·.born) = es.map (·.born) := by
  induction es generalizing j with
  | nil => simp
  | cons e es ih => cases j with
    | zero => simp [hf]
    | succ j => simp [ih]

theorem rise_iff (es : List MapEntry) : es.Pairwise (fun x y => x.born < y.born) ↔ (es.map (·.born)).Pairwise (· < ·) := by rw [List.pairwise_map]
theorem old_iff (es : List MapEntry) (c : Nat) : (∀ e ∈ es, e.born < c) ↔ ∀ n ∈ es.map (·.born), n < c := by simp

theorem putE_keys (L : List (Int × Value)) (a : Int) (v : Value) (h : (L.map (·.1)).Nodup) : ((putE L a v).map (·.1)).Nodup := by
  unfold putE
  split
  · have : (L.map (fun p => if p.1 = a then (a, v) else p)).map (·.1) = L.map (·.1) := by
      rw [List.map_map]; refine List.map_congr_left fun p _ => ?_
      by_cases hp : p.1 = a <;> simp [hp]
    rw [this]; exact h
  · rename_i hn
    rw [List.map_append, List.nodup_append]
    refine ⟨h, by simp, ?_⟩
    intro x hx y hy
    simp at hy; subst hy
    intro hxa; subst hxa
    apply hn
    simp only [List.any_eq_true, beq_iff_eq]
    obtain ⟨p, hp, hpx⟩ := List.mem_map.1 hx
    exact ⟨p, hp, hpx⟩

theorem run_store {P : Program} {t k e : Nat} {z : Value} (T : MapT P t k e z) {w : World} {b : Nat} {L : List (Int × Value)} (h : MapAt w b L) (a : Int) (v : Value) :
    ∃ o, (Instr.mapUpdate t (.map (some b)) (.int .i64 a) v).run P w = .ok () (setBlk w b o) ∧ MapAt (setBlk w b o) b (putE L a v) := by
  have hlt := h.lt
  obtain ⟨es, clock, hb, hs⟩ := h
  have hf := fun w => run_findKey T w hs.eq a
  have hck := run_checkKey T
  have hset : ∀ o, (setObj b o).run P w = .ok () (setBlk w b o) := fun o => by simp [setObj, Sem.run, hb, setBlk]
  cases hj : L.findIdx? (fun x => x.1 == a) with
  | none =>
    refine ⟨.map (es.push { key := .int .i64 a, val := v, born := clock }) (clock + 1), ?_, ?_⟩
    · simp only [Instr.mapUpdate]
      simp [run_underlying T.under, getObj, Sem.run, hb, go_sem, hck, hf, hj, hset]
    · refine ⟨_, _, setBlk_at _ hlt, ⟨?_, putE_keys L a v hs.nodup, ?_, ?_⟩⟩
      · have hany : (L.any (·.1 == a)) = false := by
          rw [List.findIdx?_eq_none_iff] at hj
          rw [List.any_eq_false]; intro x hx; simpa using hj x hx
        simp only [putE, hany, Array.toList_push, List.map_append, hs.eq, Bool.false_eq_true, if_false]
        simp [kv, vk]
      · simp only [Array.toList_push, List.pairwise_append]
        exact ⟨hs.rise, by simp, fun x hx y hy => by simp at hy; subst hy; exact hs.old x hx⟩
      · intro x hx
        simp only [Array.toList_push, List.mem_append, List.mem_singleton] at hx
        rcases hx with hx | rfl
        · exact Nat.lt_succ_of_lt (hs.old x hx)
        · exact Nat.lt_succ_self _
  | some j =>
    obtain ⟨hjl, hjp, _⟩ := List.findIdx?_eq_some_iff_getElem.1 hj
    have hla : (L[j]).1 = a := by simpa using hjp
    have hel : j < es.size := by
      have : es.toList.length = L.length := by have := congrArg List.length hs.eq; simpa using this
      simp at this; omega
    have hkey : (es[j]).key = .int .i64 a := by
      have h1 : (es.toList.map kv)[j]? = (L.map vk)[j]? := by rw [hs.eq]
      simp [hjl, hel, kv, vk] at h1
      rw [h1.1, hla]
    refine ⟨.map (es.modify j fun e => { e with key := .int .i64 a, val := v }) clock, ?_, ?_⟩
    · simp only [Instr.mapUpdate]
      simp [run_underlying T.under, getObj, Sem.run, hb, go_sem, hck, hf, hj, List.getElem?_eq_getElem hjl, hset, Instr.keyThatStays, hel, hkey, Instr.sameBits]
    · have hany : (L.any (·.1 == a)) = true := by
        rw [List.any_eq_true]; exact ⟨L[j], List.getElem_mem _, by simpa using hjp⟩
      have hb' : ((es.modify j fun e => { e with key := .int .i64 a, val := v }).toList).map (·.born) = es.toList.map (·.born) := by
        rw [Array.toList_modify]; exact modify_born (f := fun e => { e with key := .int .i64 a, val := v }) (fun _ => rfl) j
      refine ⟨_, _, setBlk_at _ hlt, ⟨?_, putE_keys L a v hs.nodup, ?_, ?_⟩⟩
      · simp only [putE, hany, if_true, Array.toList_modify]
        exact modify_map hs.eq hs.nodup hj
      · rw [rise_iff, hb', ← rise_iff]; exact hs.rise
      · rw [old_iff, hb', ← old_iff]; exact hs.old

end Go.Proofs.YtkljeefncopodaaGreat
