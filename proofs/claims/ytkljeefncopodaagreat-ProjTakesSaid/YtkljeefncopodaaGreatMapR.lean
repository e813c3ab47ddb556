/- Ranging over a map with integer keys, with or without deleting the entry just met; the laws at the operations, as the walk takes them. -/
import Derived.Test.YtkljeefncopodaaGreatMap
import Derived.Maps.RangeRun
import Derived.Maps.RangeWalk
import Derived.Maps.OwnSet
namespace Go.Proofs.YtkljeefncopodaaGreat
open Go.RowKit
set_option linter.unusedSimpArgs false
set_option linter.unusedVariables false

def seenBy (seen : Array Nat) (e : MapEntry) : Bool := seen.contains e.born

/-- Block r ranges over the map at block b, which shows L; 'left' are still to come; 'last' was met last and is still there. -/
def IterAt (w : World) (r b : Nat) (L left : List (Int × Value)) (last : Option (Int × Value)) : Prop :=
  ∃ es clock seen, w.heap[b]? = some (.map es clock) ∧ Shows es.toList clock L ∧ w.heap[r]? = some (.mapIter (some b) clock seen clock) ∧
    (es.toList.filter (fun e => !seen.contains e.born)).map kv = left.map vk ∧
    (∀ p, last = some p → ∃ e, e ∈ es.toList ∧ kv e = vk p ∧ seen.back? = some e.born)

def iterLeft (w : World) (r : Nat) : Nat :=
  match w.heap[r]? with
  | some (.mapIter (some m) _ seen _) => match w.heap[m]? with
    | some (.map es _) => (es.toList.filter (fun e => !seen.contains e.born)).length
    | _ => 0
  | _ => 0

theorem IterAt.left_eq {w : World} {r b : Nat} {L left : List (Int × Value)} {last : Option (Int × Value)} (h : IterAt w r b L left last) : iterLeft w r = left.length := by
  obtain ⟨es, clock, seen, h1, h2, h3, h4, _⟩ := h
  have := congrArg List.length h4
  simp only [List.length_map] at this
  simp only [iterLeft, h3, h1]; exact this
theorem IterAt.map {w : World} {r b : Nat} {L left : List (Int × Value)} {last : Option (Int × Value)} (h : IterAt w r b L left last) : MapAt w b L := by
  obtain ⟨es, clock, seen, h1, h2, _⟩ := h
  exact ⟨es, clock, h1, h2⟩
theorem IterAt.ne {w : World} {r b : Nat} {L left : List (Int × Value)} {last : Option (Int × Value)} (h : IterAt w r b L left last) : r ≠ b := by
  obtain ⟨es, clock, seen, h1, h2, h3, _⟩ := h
  intro e; subst e; rw [h1] at h3; simp at h3
theorem IterAt.blocks {w w' : World} {r b : Nat} {L left : List (Int × Value)} {last : Option (Int × Value)} (h : IterAt w r b L left last) (h1 : w'.heap[b]? = w.heap[b]?) (h2 : w'.heap[r]? = w.heap[r]?) : IterAt w' r b L left last := by
  obtain ⟨es, clock, seen, a1, a2, a3, a4, a5⟩ := h
  exact ⟨es, clock, seen, h1.trans a1, a2, h2.trans a3, a4, a5⟩
theorem IterAt.lt {w : World} {r b : Nat} {L left : List (Int × Value)} {last : Option (Int × Value)} (h : IterAt w r b L left last) : r < w.heap.size := by
  obtain ⟨_, _, _, _, _, h1, _⟩ := h
  exact (Array.getElem?_eq_some_iff.1 h1).1
theorem IterAt.sub {w : World} {r b : Nat} {L left : List (Int × Value)} {last : Option (Int × Value)} (h : IterAt w r b L left last) : left.Sublist L := by
  obtain ⟨es, clock, seen, a1, a2, a3, a4, a5⟩ := h
  have hs : (left.map vk).Sublist (L.map vk) := by rw [← a4, ← a2.eq]; exact (List.filter_sublist).map _
  have inj : ∀ p q : Int × Value, vk p = vk q → p = q := fun p q h => by
    simp only [vk, Prod.mk.injEq, Value.int.injEq, true_and] at h
    exact Prod.ext h.1 h.2
  obtain ⟨l', hl', he⟩ := List.sublist_map_iff.1 hs
  have : left = l' := by
    clear a4 hs hl' a2 a5
    induction left generalizing l' with
    | nil => cases l' with
      | nil => rfl
      | cons => simp at he
    | cons x xs ih => cases l' with
      | nil => simp at he
      | cons y ys =>
        simp only [List.map_cons, List.cons.injEq] at he
        rw [inj _ _ he.1, ih ys he.2]
  rw [this]; exact hl'

theorem run_range_map {P : Program} {t k e : Nat} {z : Value} (T : MapT P t k e z) {w : World} {b : Nat} {L : List (Int × Value)} (h : MapAt w b L) :
    ∃ o, (Instr.range t (.map (some b))).run P w = .ok (.pointer (some ⟨w.heap.size, 0, none⟩)) (w.alloc o) ∧ IterAt (w.alloc o) w.heap.size b L L none := by
  have hlt := h.lt
  obtain ⟨es, clock, hb, hs⟩ := h
  refine ⟨.mapIter (some b) clock #[] clock, ?_, es, clock, #[], ?_, hs, ?_, ?_, by simp⟩
  · simp only [Instr.range]
    simp [run_underlying T.under, getObj, newObj, Sem.run, hb, go_sem]
  · show (w.heap.push _)[b]? = _; rw [Array.getElem?_push, if_neg (by omega)]; exact hb
  · show (w.heap.push _)[w.heap.size]? = _; simp
  · rw [List.filter_eq_self.2 (by simp)]; exact hs.eq

/-- what a step of the range leaves -/
inductive Stepped (w : World) (r b : Nat) (L left : List (Int × Value)) : Value → World → Prop
  | over (w' : World) (hl : left = []) (hw : Below w.heap.size w w') (hh : w'.heap = w.heap) : Stepped w r b L left (.tuple #[.bool false]) w'
  | one (w' : World) (a : Int) (v : Value) (pre post : List (Int × Value)) (hl : left = pre ++ (a, v) :: post) (hi : IterAt w' r b L (pre ++ post) (some (a, v))) (hf : Fr (· = r) w w') : Stepped w r b L left (.tuple #[.bool true, .int .i64 a, v]) w'

theorem filter_push {es : List MapEntry} {seen : Array Nat} {pre post : List MapEntry} {e : MapEntry} (hr : es.Pairwise (fun x y => x.born < y.born)) (h : es.filter (fun x => !seen.contains x.born) = pre ++ e :: post) :
    es.filter (fun x => !(seen.push e.born).contains x.born) = pre ++ post := by
  have h1 : es.filter (fun x => !(seen.push e.born).contains x.born) = (es.filter (fun x => !seen.contains x.born)).filter (fun x => x.born != e.born) := by
    rw [List.filter_filter]
    refine List.filter_congr fun x _ => ?_
    simp only [Array.contains_push, Bool.not_or]
    cases h : (seen.contains x.born) <;> simp [bne, BEq.comm]
  have h2 : (pre ++ e :: post).Pairwise (fun x y => x.born < y.born) := by rw [← h]; exact hr.filter _
  rw [h1, h, List.filter_append, List.filter_cons]
  rw [List.pairwise_append] at h2
  obtain ⟨_, h3, h4⟩ := h2
  rw [List.pairwise_cons] at h3
  have e1 : pre.filter (fun x => x.born != e.born) = pre := List.filter_eq_self.2 fun x hx => by have := h4 x hx e List.mem_cons_self; simp; omega
  have e2 : post.filter (fun x => x.born != e.born) = post := List.filter_eq_self.2 fun x hx => by have := h3.1 x hx; simp; omega
  rw [e1, e2]; simp

theorem split_map {es : List MapEntry} {left : List (Int × Value)} {i : Nat} {e : MapEntry} (h : es.map kv = left.map vk) (hi : es[i]? = some e) :
    ∃ a pre post epre epost, left = pre ++ (a, e.val) :: post ∧ e.key = .int .i64 a ∧ es = epre ++ e :: epost ∧ epre.map kv = pre.map vk ∧ epost.map kv = post.map vk := by
  have hlen : es.length = left.length := by have := congrArg List.length h; simpa using this
  obtain ⟨hlt, he⟩ := List.getElem?_eq_some_iff.1 hi
  have hlt' : i < left.length := by omega
  have hkv : kv e = vk left[i] := by
    have h1 : (es.map kv)[i]? = (left.map vk)[i]? := by rw [h]
    simpa [hlt, hlt', he] using h1
  refine ⟨left[i].1, left.take i, left.drop (i + 1), es.take i, es.drop (i + 1), ?_, congrArg Prod.fst hkv, ?_, ?_, ?_⟩
  · have h2 : e.val = left[i].2 := congrArg Prod.snd hkv
    have : (left[i].1, e.val) = left[i] := by rw [h2]
    rw [this]; simp
  · rw [← he]; simp
  · rw [List.map_take, h, List.map_take]
  · rw [List.map_drop, h, List.map_drop]

theorem setBlock_eq (w : World) (r : Nat) (o : Obj) : ChangeMaps.setBlock w r o = setBlk w r o := rfl

theorem run_next {P : Program} {w : World} {r b : Nat} {L left : List (Int × Value)} {last : Option (Int × Value)} (h : IterAt w r b L left last) (ty : TypeId) :
    ∃ v w', (Instr.next (.pointer (some ⟨r, 0, none⟩)) false ty).run P w = .ok v w' ∧ Stepped w r b L left v w' := by
  have hne := h.ne
  have hrl := h.lt
  obtain ⟨es, clock, seen, hb, hs, hr, hleft, hlast⟩ := h
  have hfl : (leftOf es seen).toList = es.toList.filter fun e => !seen.contains e.born := by simp [leftOf]
  rcases run_next_at (P := P) w ty r b clock clock seen es clock hr hb hs.old (Nat.le_refl _) with ⟨h0, hrun⟩ | ⟨e, he, w1, hw1, hrun⟩
  · refine ⟨_, w, hrun, .over w ?_ (Below.refl _ _) rfl⟩
    have hn : (leftOf es seen).toList = [] := by
      have : (leftOf es seen) = #[] := Array.eq_empty_of_size_eq_zero h0
      rw [this]
    rw [hfl] at hn
    rw [hn] at hleft
    simpa using hleft.symm
  · rw [hfl] at he
    obtain ⟨i, hi⟩ := List.getElem?_of_mem he
    obtain ⟨a, pre, post, epre, epost, hl, hk, hes, hp1, hp2⟩ := split_map hleft hi
    have q1 : w1.heap = w.heap := by rcases hw1 with rfl | rfl <;> rfl
    have hrl1 : r < w1.heap.size := by rw [q1]; exact hrl
    rw [hk, setBlock_eq] at hrun
    refine ⟨_, _, hrun, .one _ a e.val pre post hl ?_ ?_⟩
    · refine ⟨es, clock, seen.push e.born, ?_, hs, setBlk_at _ hrl1, ?_, ?_⟩
      · rw [setBlk_ne _ (fun h => hne h.symm), q1]; exact hb
      · rw [filter_push hs.rise hes, List.map_append, hp1, hp2, List.map_append]
      · intro p hp
        cases hp
        exact ⟨e, (List.mem_filter.1 he).1, by simp [kv, vk, hk], by simp⟩
    · refine ⟨?_, ?_, ?_, by simp [setBlk_size, q1], fun k _ hn => by rw [setBlk_ne _ hn, q1]⟩ <;> rcases hw1 with rfl | rfl <;> rfl

theorem born_inj {es : List MapEntry} (h : es.Pairwise (fun x y => x.born < y.born)) {x y : MapEntry} (hx : x ∈ es) (hy : y ∈ es) (hb : x.born = y.born) : x = y := by
  induction es with
  | nil => cases hx
  | cons e es ih =>
    rw [List.pairwise_cons] at h
    rcases List.mem_cons.1 hx with h1 | h1 <;> rcases List.mem_cons.1 hy with h2 | h2
    · rw [h1, h2]
    · have := h.1 y h2; rw [h1] at hb; omega
    · have := h.1 x h1; rw [h2] at hb; omega
    · exact ih h.2 h1 h2

theorem run_entry {P : Program} {w : World} {r b : Nat} {L left : List (Int × Value)} {a : Int} {v : Value} (h : IterAt w r b L left (some (a, v))) :
    (Instr.entry (.pointer (some ⟨r, 0, none⟩))).run P w = .ok (.tuple #[.int .i64 a, v]) w := by
  obtain ⟨es, clock, seen, hb, hs, hr, hleft, hlast⟩ := h
  obtain ⟨e, he, hkv, hback⟩ := hlast _ rfl
  have hfind : es.find? (fun x => x.born == e.born) = some e := by
    rw [← Array.find?_toList]
    cases hq : es.toList.find? (fun x => x.born == e.born) with
    | none => rw [List.find?_eq_none] at hq; have := hq e he; simp at this
    | some x =>
      have h1 := List.mem_of_find?_eq_some hq
      have h2 := List.find?_some hq
      simp at h2
      rw [born_inj hs.rise h1 he h2]
  have h1 : e.key = .int .i64 a := congrArg Prod.fst hkv
  have h2 : e.val = v := congrArg Prod.snd hkv
  simp only [Instr.entry]
  simp [getObj, Sem.run, hr, hb, go_sem, hback, hfind, h1, h2]

def delE (L : List (Int × Value)) (a : Int) : List (Int × Value) := L.filter (fun p => p.1 != a)

theorem erase_map {α β : Type} (f : α → β) : ∀ (l : List α) (j : Nat), (l.eraseIdx j).map f = (l.map f).eraseIdx j
  | [], _ => rfl
  | _ :: l, 0 => rfl
  | x :: l, j + 1 => by simp [erase_map f l j]

theorem erase_shows {es : List MapEntry} {clock : Nat} {L : List (Int × Value)} {a : Int} {j : Nat} (h : Shows es clock L) (hj : L.findIdx? (fun x => x.1 == a) = some j) : Shows (es.eraseIdx j) clock (delE L a) := by
  obtain ⟨h1, h2, h3, h4⟩ := h
  have hd : delE L a = L.eraseIdx j := by
    clear h1 h3 h4
    induction L generalizing j with
    | nil => simp at hj
    | cons p L ih =>
      simp only [List.map_cons, List.nodup_cons] at h2
      by_cases hpa : p.1 = a
      · simp [List.findIdx?_cons, hpa] at hj
        subst hj
        have : ∀ q ∈ L, q.1 ≠ a := fun q hq hqa => h2.1 (by rw [hpa, ← hqa]; exact List.mem_map_of_mem (f := (·.1)) hq)
        simp only [delE, List.filter_cons, hpa, bne_self_eq_false, Bool.false_eq_true, if_false, List.eraseIdx_zero, List.tail_cons]
        exact List.filter_eq_self.2 fun q hq => by simpa using this q hq
      · have e2 : (p.1 == a) = false := by simp [hpa]
        simp only [List.findIdx?_cons, e2] at hj
        cases hq : L.findIdx? (fun x => x.1 == a) with
        | none => simp [hq] at hj
        | some j' =>
          simp [hq] at hj; subst hj
          simp only [delE, List.filter_cons, List.eraseIdx_cons_succ]
          rw [if_pos (by simpa using hpa)]
          have := ih hq h2.2
          simp only [delE] at this
          rw [this]
  rw [hd]
  refine ⟨?_, ?_, h3.sublist (List.eraseIdx_sublist ..), fun e he => h4 e ((List.eraseIdx_sublist ..).mem he)⟩
  · rw [erase_map, h1, erase_map]
  · rw [erase_map]; exact h2.sublist (List.eraseIdx_sublist ..)

/-- delete of a key that is there: its entry goes; whatever ranges over the map has the same still to come, if the key isn't among them. -/
theorem run_del {P : Program} {t k e : Nat} {z : Value} (T : MapT P t k e z) {w : World} {r b : Nat} {L left : List (Int × Value)} {a : Int} {v : Value} (h : IterAt w r b L left (some (a, v))) (hl : ∀ p ∈ left, p.1 ≠ a) (ty : TypeId) :
    ∃ o, (Builtin.delete_ #[t, k] ty #[.map (some b), .int .i64 a]).run P w = .ok (.tuple #[]) (setBlk w b o) ∧ IterAt (setBlk w b o) r b (delE L a) left none := by
  have hne := h.ne
  have hlt := h.map.lt
  obtain ⟨es, clock, seen, hb, hs, hr, hleft, hlast⟩ := h
  obtain ⟨e0, he0, hkv0, _⟩ := hlast _ rfl
  have hf := fun w => run_findKey T w hs.eq a
  have hck := run_checkKey T
  have hset : ∀ o, (setObj b o).run P w = .ok () (setBlk w b o) := fun o => by simp [setObj, Sem.run, hb, setBlk]
  have hmem : (a, v) ∈ L := by
    have : kv e0 ∈ es.toList.map kv := List.mem_map_of_mem he0
    rw [hs.eq, hkv0] at this
    obtain ⟨q, hq, hqe⟩ := List.mem_map.1 this
    simp only [vk, Prod.mk.injEq, Value.int.injEq, true_and] at hqe
    have : q = (a, v) := Prod.ext hqe.1 hqe.2
    rw [← this]; exact hq
  cases hj : L.findIdx? (fun x => x.1 == a) with
  | none => rw [List.findIdx?_eq_none_iff] at hj; have := hj _ hmem; simp at this
  | some j =>
    have hjl : j < L.length := (List.findIdx?_eq_some_iff_getElem.1 hj).1
    refine ⟨.map (es.eraseIdxIfInBounds j) clock, ?_, es.eraseIdxIfInBounds j, clock, seen, setBlk_at _ hlt, ?_, ?_, ?_, by simp⟩
    · simp only [Builtin.delete_]
      simp [run_underlying T.under, getObj, Sem.run, hb, go_sem, hck, hf, hj, List.getElem?_eq_getElem hjl, hset]
    · rw [Array.toList_eraseIdxIfInBounds]; exact erase_shows hs hj
    · rw [setBlk_ne _ hne]; exact hr
    · rw [Array.toList_eraseIdxIfInBounds]
      have hel : j < es.toList.length := by have := congrArg List.length hs.eq; simp at this; simp; omega
      have hkey : (es.toList[j]).key = .int .i64 a := by
        obtain ⟨_, hjp, _⟩ := List.findIdx?_eq_some_iff_getElem.1 hj
        have h1 : (es.toList.map kv)[j]? = (L.map vk)[j]? := by rw [hs.eq]
        rw [List.getElem?_map, List.getElem?_map, List.getElem?_eq_getElem hel, List.getElem?_eq_getElem hjl] at h1
        simp only [Option.map_some, Option.some.injEq, kv, vk, Prod.mk.injEq] at h1
        rw [h1.1]; simp at hjp; rw [hjp]
      rw [← hleft]
      congr 1
      -- the erased entry isn't among those still to come
      have hsplit : es.toList = es.toList.take j ++ es.toList[j] :: es.toList.drop (j + 1) := by
        rw [← List.drop_eq_getElem_cons hel, List.take_append_drop]
      rw [List.eraseIdx_eq_take_drop_succ]
      conv => rhs; rw [hsplit]
      rw [List.filter_append, List.filter_append, List.filter_cons]
      rw [if_neg]
      intro hc
      have hin : es.toList[j] ∈ es.toList.filter (fun e => !seen.contains e.born) := List.mem_filter.2 ⟨List.getElem_mem _, hc⟩
      have hin2 : kv es.toList[j] ∈ left.map vk := by rw [← hleft]; exact List.mem_map_of_mem hin
      obtain ⟨q, hq, hqe⟩ := List.mem_map.1 hin2
      simp only [vk, kv, hkey, Prod.mk.injEq, Value.int.injEq, true_and] at hqe
      exact hl q hq hqe.1

theorem run_len_map {P : Program} {t k e : Nat} {z : Value} (T : MapT P t k e z) {w : World} {b : Nat} {L : List (Int × Value)} (h : MapAt w b L) (ty : TypeId) :
    (Builtin.len_ #[t] ty #[.map (some b)]).run P w = .ok (.int .i64 L.length) w := by
  obtain ⟨es, clock, hb, hs⟩ := h
  have : es.size = L.length := by have := congrArg List.length hs.eq; simpa using this
  simp only [Builtin.len_]
  simp [run_underlying T.under, getObj, Sem.run, hb, go_sem, goInt, this]

section
variable {P : Program} {t k e : Nat} {z : Value} {w : World} {ops : Array Oper} {rest : List Oper} {o : Oper} {a : Act} {Q : Exit → Act → World → Prop}

theorem wp_look (T : MapT P t k e z) (hgd : o.guard = none) (m x : Operand) (ho : o.op = .lookup t m x false) {b : Nat} {L : List (Int × Value)} (hm : a.eval m = .map (some b)) (x0 : Int) (hx : a.eval x = .int .i64 x0) (h : MapAt w b L)
    (hk : wpList P ops Q rest (a.put o.dst ((lookE L x0).getD z)) w) : wpList P ops Q (o :: rest) a w := by
  refine wpList_plain hgd fun K hK => ?_
  have hrun := run_look T h x0
  unfold Oper.wp
  simp [execOp, ho, hm, hx, hrun, Result.andThen]
  exact hK _ _ hk

theorem wp_store (T : MapT P t k e z) (hgd : o.guard = none) (m x y : Operand) (ho : o.op = .mapUpdate t m x y) {b : Nat} {L : List (Int × Value)} (hm : a.eval m = .map (some b)) (x0 : Int) (hx : a.eval x = .int .i64 x0) (v : Value) (hy : a.eval y = v) (h : MapAt w b L)
    (hk : ∀ w', MapAt w' b (putE L x0 v) → Fr (· = b) w w' → w'.heap.size = w.heap.size → wpList P ops Q rest (a.put o.dst undef) w') : wpList P ops Q (o :: rest) a w := by
  refine wpList_plain hgd fun K hK => ?_
  obtain ⟨ob, hrun, hm'⟩ := run_store T h x0 v
  unfold Oper.wp
  simp [execOp, ho, hm, hx, hy, hrun, Result.andThen]
  exact hK _ _ (hk _ hm' (setBlk_fr _ _ _) (setBlk_size _ _ _))

theorem wp_range (T : MapT P t k e z) (hgd : o.guard = none) (m : Operand) (ho : o.op = .range t m) {b : Nat} {L : List (Int × Value)} (hm : a.eval m = .map (some b)) (h : MapAt w b L)
    (hk : ∀ w', IterAt w' w.heap.size b L L none → Below w.heap.size w w' → w'.heap.size = w.heap.size + 1 → wpList P ops Q rest (a.put o.dst (.pointer (some ⟨w.heap.size, 0, none⟩))) w') : wpList P ops Q (o :: rest) a w := by
  refine wpList_plain hgd fun K hK => ?_
  obtain ⟨ob, hrun, hi⟩ := run_range_map T h
  unfold Oper.wp
  simp [execOp, ho, hm, hrun, Result.andThen]
  exact hK _ _ (hk _ hi ((Below.refl _ _).alloc (Nat.le_refl _) _) (by simp))

theorem wp_next (hgd : o.guard = none) (it : Operand) (ho : o.op = .next it false) {r b : Nat} {L left : List (Int × Value)} {last : Option (Int × Value)} (hm : a.eval it = .pointer (some ⟨r, 0, none⟩)) (h : IterAt w r b L left last)
    (hover : left = [] → ∀ w', Below w.heap.size w w' → w'.heap = w.heap → wpList P ops Q rest (a.put o.dst (.tuple #[.bool false])) w')
    (hone : ∀ w' x v pre post, left = pre ++ (x, v) :: post → IterAt w' r b L (pre ++ post) (some (x, v)) → Fr (· = r) w w' → wpList P ops Q rest (a.put o.dst (.tuple #[.bool true, .int .i64 x, v])) w') : wpList P ops Q (o :: rest) a w := by
  refine wpList_plain hgd fun K hK => ?_
  obtain ⟨v, w', hrun, hs⟩ := run_next (P := P) h o.type
  unfold Oper.wp
  simp [execOp, ho, hm, hrun, Result.andThen]
  cases hs with
  | over _ hl hw hh => exact hK _ _ (hover hl _ hw hh)
  | one _ x v pre post hl hi hf => exact hK _ _ (hone _ _ _ _ _ hl hi hf)

theorem wp_entry (hgd : o.guard = none) (it : Operand) (ho : o.op = .entry it) {r b : Nat} {L left : List (Int × Value)} {x : Int} {v : Value} (hm : a.eval it = .pointer (some ⟨r, 0, none⟩)) (h : IterAt w r b L left (some (x, v)))
    (hk : wpList P ops Q rest (a.put o.dst (.tuple #[.int .i64 x, v])) w) : wpList P ops Q (o :: rest) a w := by
  refine wpList_plain hgd fun K hK => ?_
  have hrun := run_entry (P := P) h
  unfold Oper.wp
  simp [execOp, ho, hm, hrun, Result.andThen]
  exact hK _ _ hk

theorem wp_len (T : MapT P t k e z) (hgd : o.guard = none) (m : Operand) (ho : o.op = .call { callee := .builtin .len, args := #[m], argTypes := #[t] }) {b : Nat} {L : List (Int × Value)} (hm : a.eval m = .map (some b)) (h : MapAt w b L)
    (hk : wpList P ops Q rest (a.put o.dst (.int .i64 L.length)) w) : wpList P ops Q (o :: rest) a w := by
  refine wpList_plain hgd fun K hK => ?_
  have hrun := run_len_map T h o.type
  unfold Oper.wp
  simp [execOp, ho, resolve, invoke, builtin, hm, hrun, Result.andThen]
  exact hK _ _ hk

theorem wp_del (T : MapT P t k e z) (hgd : o.guard = none) (m x : Operand) (ho : o.op = .call { callee := .builtin .delete, args := #[m, x], argTypes := #[t, k] }) {r b : Nat} {L left : List (Int × Value)} {x0 : Int} {v : Value} (hm : a.eval m = .map (some b)) (hx : a.eval x = .int .i64 x0)
    (h : IterAt w r b L left (some (x0, v))) (hl : ∀ p ∈ left, p.1 ≠ x0)
    (hk : ∀ w', IterAt w' r b (delE L x0) left none → Fr (· = b) w w' → w'.heap.size = w.heap.size → wpList P ops Q rest (a.put o.dst (.tuple #[])) w') : wpList P ops Q (o :: rest) a w := by
  refine wpList_plain hgd fun K hK => ?_
  obtain ⟨ob, hrun, hi⟩ := run_del T h hl o.type
  unfold Oper.wp
  simp [execOp, ho, resolve, invoke, builtin, hm, hx, hrun, Result.andThen]
  exact hK _ _ (hk _ hi (setBlk_fr _ _ _) (setBlk_size _ _ _))
end

end Go.Proofs.YtkljeefncopodaaGreat
