/- Steps by lists, stores into rows, errors by number. -/
import Derived.Deep.RegionHeld
import Derived.Tactics
import Derived.Test.YtinbcehlpfnlaaaGreatDoorArr
import Derived.Deep.MidRow
import Derived.Test.YtinbcehlpfnlaaaGreatDoorCell
namespace Go.Proofs.YtinbcehlpfnlaaaGreatDoor
open Go
set_option linter.unusedVariables false

def nthOp : List Oper → Nat → Option Oper
  | [], _ => none
  | o :: _, 0 => some o
  | _ :: l, i + 1 => nthOp l i
theorem nthOp_eq : ∀ (l : List Oper) (i : Nat), l.toArray[i]? = nthOp l i
  | [], _ => rfl
  | _ :: _, 0 => rfl
  | _ :: l, i + 1 => by have := nthOp_eq l i; simpa [nthOp] using this
theorem put_lit (t : List Value) (ds : List Deferred) (d : Nat) (v : Value) : Act.put ⟨t.toArray, ds⟩ (some d) v = ⟨(t.set d v).toArray, ds⟩ := by
  simp [Act.put]
/-- a small memory of slots: what an operation's operands are -/
def assocV : List (Nat × Value) → Nat → Value
  | [], _ => undef
  | (k, v) :: l, t => if k = t then v else assocV l t
@[go_sem] theorem assocV_hit (k : Nat) (v : Value) (l : List (Nat × Value)) : assocV ((k, v) :: l) k = v := by simp [assocV]
@[go_sem] theorem assocV_miss {k t : Nat} (v : Value) (l : List (Nat × Value)) (h : k ≠ t) : assocV ((k, v) :: l) t = assocV l t := by simp [assocV, h]
def lookV (m : List (Nat × Value)) : Operand → Value
  | .tmp t => assocV m t
  | .const v => v
  | .global g => .pointer (some ⟨g, 0, none⟩)
  | .func f => .func (.func f) #[] #[]
@[go_sem] theorem lookV_tmp (m : List (Nat × Value)) (t : Nat) : lookV m (.tmp t) = assocV m t := rfl
@[go_sem] theorem lookV_const (m : List (Nat × Value)) (v : Value) : lookV m (.const v) = v := rfl
@[go_sem] theorem lookV_global (m : List (Nat × Value)) (g : Nat) : lookV m (.global g) = .pointer (some ⟨g, 0, none⟩) := rfl
@[go_sem] theorem lookV_func (m : List (Nat × Value)) (f : Nat) : lookV m (.func f) = .func (.func f) #[] #[] := rfl
theorem map_at {α β : Type} {f g : α → β} : ∀ {l : List α}, l.map f = l.map g → ∀ x ∈ l, f x = g x
  | [], _, _, h => by cases h
  | a :: l, e, x, h => by
    simp only [List.map_cons, List.cons.injEq] at e
    rcases List.mem_cons.1 h with rfl | h
    · exact e.1
    · exact map_at e.2 x h
def noSel : Op → Bool
  | .select .. => false
  | _ => true
section
variable {P : Program} {Q : Exit → Act → World → Prop} {md : Region.Mode} {S : World → Prop}
/-- an operation that yields its value in every world that meets S is taken first -/
theorem takeD {l : List Oper} {i d : Nat} {oi : Oper} {v : Value} {fuel : Nat} {listed : List Bool} {t : List Value} {ds : List Deferred} {w : World}
    (hi : nthOp l i = some oi) (hd : oi.dst = some d) (hs : Region.noSelect l.toArray = true) (hf : Region.free md l.toArray listed.toArray i = true) (hr : (Region.ready md l.toArray listed.toArray).contains i = true)
    (hQ : ∀ c a w, Q (.panic c) (a.put oi.dst v) w → Q (.panic c) a w) (hy : YieldsIf P l.toArray S oi v ⟨t.toArray, ds⟩) (hS : S w)
    (h : wpAnyH P md l.toArray Q S fuel (listed.set i true).toArray ⟨(t.set d v).toArray, ds⟩ w) : wpAnyH P md l.toArray Q S (fuel + 1) listed.toArray ⟨t.toArray, ds⟩ w := by
  refine wpAnyH_take (oi := oi) (by rw [nthOp_eq]; exact hi) hs hf hr hQ hy hS ?_
  rw [hd, put_lit, List.setIfInBounds_toArray]
  exact h
theorem startD {id : Nat} {l : List Oper} {a : Act} {w : World} (hm : P.follows .mixedOrders = true) (hS : S w.drew)
    (h : S w.drew → wpAnyH P .any l.toArray Q S l.length (List.replicate l.length false).toArray a w.drew) : (Code.region id l.toArray true).wp P Q a w := by
  refine wp_region_held_drew hm hS (fun hs => ?_)
  have := h hs
  rwa [List.size_toArray, ← List.toArray_replicate]
theorem put_listed (listed : List Bool) (i : Nat) : listed.toArray.setIfInBounds i true = (listed.set i true).toArray := List.setIfInBounds_toArray ..
/-- what an operation yields, from its operands alone -/
theorem yldV {l : Array Oper} {oi : Oper} {v : Value} {a : Act} (m : List (Nat × Value)) (hw : Region.wanted oi (yielded l a.tmps) = true) (hsel : noSel oi.op = true)
    (hm : oi.op.operands.toList.map a.eval = oi.op.operands.toList.map (lookV m)) (h : ∀ w, S w → (execOp (lookV m) oi).run P w = .ok (.value v) w) : YieldsIf P l S oi v a := by
  refine .inl ⟨hw, fun w hS => ?_⟩
  rw [execOp_congr (ρ' := lookV m) oi (fun cs b e => by rw [e] at hsel; cases hsel) (fun x hx => map_at hm x (by simpa using hx))]
  exact h w hS
end
end Go.Proofs.YtinbcehlpfnlaaaGreatDoor

namespace Go.Proofs.YtinbcehlpfnlaaaGreatDoor
open Go.RowKit
set_option linter.unusedSimpArgs false
set_option linter.unusedVariables false

theorem setCells_fr (b : Nat) : ∀ (vs : List Value) (o : Nat) (w : World), Fr (fun k => k = b) w (w.setCells b o vs)
  | [], _, w => Fr.refl _ _
  | v :: r, o, w => (fr_set w b o v).trans (setCells_fr b r (o + 1) _) (fun _ h => .inl h)
theorem setCell_block {w : World} {b o e : Nat} {cur : Array Value} {fz : Nat × Nat} (v : Value) (h : w.heap[b]? = some (.cells cur e fz)) : (w.setCell ⟨b, o, none⟩ v).heap[b]? = some (.cells (cur.setIfInBounds o v) e fz) := by
  have hb := (Array.getElem?_eq_some_iff.1 h).1
  unfold World.setCell
  simp only [Array.getElem?_modify, h, if_true, Option.map_some]
  rfl
theorem list_set_mid {α : Type} (l : List α) (o : Nat) (v : α) (r : List α) (h : o + (r.length + 1) ≤ l.length) :
    (l.set o v).take (o + 1) ++ r ++ (l.set o v).drop (o + 1 + r.length) = l.take o ++ (v :: r) ++ l.drop (o + (r.length + 1)) := by
  have ho : o < l.length := by omega
  have h1 : (l.set o v).take (o + 1) = l.take o ++ [v] := by
    rw [List.take_succ_eq_append_getElem (by simpa using ho), List.take_set_of_le (Nat.le_refl _)]
    simp
  have h2 : (l.set o v).drop (o + 1 + r.length) = l.drop (o + (r.length + 1)) := by
    rw [List.drop_set_of_lt (by omega), show o + 1 + r.length = o + (r.length + 1) by omega]
  rw [h1, h2]
  simp
theorem setCells_block (b : Nat) {e : Nat} {fz : Nat × Nat} : ∀ (vs : List Value) (o : Nat) (w : World) (cur : Array Value), w.heap[b]? = some (.cells cur e fz) → o + vs.length ≤ cur.size →
    ∃ cur', (w.setCells b o vs).heap[b]? = some (.cells cur' e fz) ∧ cur'.size = cur.size ∧ cur'.toList = cur.toList.take o ++ vs ++ cur.toList.drop (o + vs.length)
  | [], o, w, cur, h, _ => ⟨cur, h, rfl, by simp⟩
  | v :: r, o, w, cur, h, hl => by
    obtain ⟨cur', h1, h2, h3⟩ := setCells_block b r (o + 1) (w.setCell ⟨b, o, none⟩ v) (cur.setIfInBounds o v) (setCell_block v h) (by simp at hl ⊢; omega)
    refine ⟨cur', h1, by simpa using h2, ?_⟩
    rw [h3, Array.toList_setIfInBounds]
    exact list_set_mid cur.toList o v r (by simpa using hl)
theorem list_take_mid {α : Type} (l vs : List α) (o m : Nat) (hm : m ≤ l.length) (h : o + vs.length ≤ m) :
    (l.take o ++ vs ++ l.drop (o + vs.length)).take m = (l.take m).take o ++ vs ++ (l.take m).drop (o + vs.length) := by
  have h1 : (l.take o ++ vs).length = o + vs.length := by simp; omega
  rw [List.take_append, h1, List.take_of_length_le (by omega), List.take_take, Nat.min_eq_left (by omega), List.drop_take]
theorem own_setCells {w : World} {base e size n g c : Nat} {xs : List Value} (h : w.ownsRow base e size (.slice (some ⟨g, 0, none⟩) n c) n xs) (o : Nat) (vs : List Value) (ho : o + vs.length ≤ n * size) :
    (w.setCells g o vs).ownsRow base e size (.slice (some ⟨g, 0, none⟩) n c) n (xs.take o ++ vs ++ xs.drop (o + vs.length)) := by
  obtain ⟨h1, h2⟩ := h
  refine ⟨by simp [h1]; omega, .inr ?_⟩
  rcases h2 with ⟨hv, hn⟩ | ⟨g', cap, cur, hv, hg, hh, h3, h4, h5, h6⟩
  · simp at hv
  · simp only [Value.slice.injEq, Option.some.injEq, Addr.mk.injEq] at hv
    obtain ⟨⟨rfl, _⟩, _, rfl⟩ := hv
    have hcs : n * size ≤ c * size := Nat.mul_le_mul_right _ h3
    obtain ⟨cur', k1, k2, k3⟩ := setCells_block g vs o w cur hh (by omega)
    refine ⟨g, c, cur', rfl, hg, k1, h3, h4, by rw [k2]; exact h5, ?_⟩
    have hl : cur.toList.length = c * size := by simpa using h5
    rw [k3, ← h6]
    exact list_take_mid cur.toList vs o (n * size) (by omega) ho
theorem own_there {w : World} {base e size n g c : Nat} {xs : List Value} (h : w.ownsRow base e size (.slice (some ⟨g, 0, none⟩) n c) n xs) (o k : Nat) (ho : o + k ≤ n * size) : w.there g o k := by
  intro j hj
  obtain ⟨h1, h2⟩ := h
  rcases h2 with ⟨hv, hn⟩ | ⟨g', cap, cur, hv, hg, hh, h3, h4, h5, h6⟩
  · simp at hv
  · simp only [Value.slice.injEq, Option.some.injEq, Addr.mk.injEq] at hv
    obtain ⟨⟨rfl, _⟩, _, rfl⟩ := hv
    have hcs : n * size ≤ c * size := Nat.mul_le_mul_right _ h3
    have hlt : o + j < cur.size := by omega
    refine ⟨?_, ?_⟩
    · unfold World.cell?; simp [hh, hlt]
    · unfold World.frozen?; simp [hh]
theorem own_head {w : World} {base e size n c : Nat} {a : Option Addr} {xs : List Value} (h : w.ownsRow base e size (.slice a n c) n xs) (hn : 0 < n) : ∃ g, a = some ⟨g, 0, none⟩ := by
  rcases h.2 with ⟨hv, _⟩ | ⟨g, cap, cur, hv, _⟩
  · simp only [Value.slice.injEq] at hv; omega
  · simp only [Value.slice.injEq] at hv; exact ⟨g, hv.1⟩
theorem Sep.storeRow {w0 w : World} {F : Nat → Prop} {L : List Asn} (H : Sep w0 F L w) (i : Nat) {e size n g c : Nat} {xs : List Value} (hi : L[i]? = some (.row e size (.slice (some ⟨g, 0, none⟩) n c) n xs)) (o : Nat) (vs : List Value) (ho : o + vs.length ≤ n * size) :
    Sep w0 F (.row e size (.slice (some ⟨g, 0, none⟩) n c) n (xs.take o ++ vs ++ xs.drop (o + vs.length)) :: L.eraseIdx i) (w.setCells g o vs) :=
  (H.focus i hi).fr1 ((setCells_fr g vs o w).mono (fun k hk => by subst hk; rfl)) (own_setCells (H.row i hi) o vs ho) (fun b hb => .inr hb)
end Go.Proofs.YtinbcehlpfnlaaaGreatDoor

namespace Go.Proofs.YtinbcehlpfnlaaaGreatDoor
open Go.RowKit
set_option linter.unusedSimpArgs false
set_option linter.unusedVariables false

@[go_sem] theorem eql_errV (n : Nat) (w : World) : (binOp .eql 29 (errV n) .nilIface).run Tryz.prog w = .ok (.bool (n == 0)) w := by
  by_cases h : n = 0
  · subst h; rw [errV_0, eql_nil]; rfl
  · rw [errV_pos h, eql_held]; simp [h]
@[go_sem] theorem neq_errV (n : Nat) (w : World) : (binOp .neq 29 (errV n) .nilIface).run Tryz.prog w = .ok (.bool (n != 0)) w := by
  by_cases h : n = 0
  · subst h; rw [errV_0, neq_nil]; rfl
  · rw [errV_pos h, neq_held]; simp [h]
@[go_sem] theorem guard_eql (t n : Nat) (x : Operand) (v : Value) (w : World) : (eqGuard .eql t x (.const v) (errV n) .nilIface).run Tryz.prog w = .ok () w := by
  by_cases h : n = 0
  · subst h; rw [errV_0]; simp [eqGuard]
  · rw [errV_pos h]; simp [eqGuard]
@[go_sem] theorem guard_neq (t n : Nat) (x : Operand) (v : Value) (w : World) : (eqGuard .neq t x (.const v) (errV n) .nilIface).run Tryz.prog w = .ok () w := by
  by_cases h : n = 0
  · subst h; rw [errV_0]; simp [eqGuard]
  · rw [errV_pos h]; simp [eqGuard]
end Go.Proofs.YtinbcehlpfnlaaaGreatDoor
