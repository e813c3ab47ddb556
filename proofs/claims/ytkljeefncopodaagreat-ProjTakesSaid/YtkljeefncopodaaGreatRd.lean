/- What can be read as data, opened type by type: a slice's elements by their cells. No condition on the program. -/
import Derived.Test.YtkljeefncopodaaGreatRep
import Derived.Deep.Slices
import Derived.OpenShut
namespace Go.Proofs.YtkljeefncopodaaGreat
open Go.RowKit
set_option linter.unusedSimpArgs false
set_option linter.unusedVariables false

section
variable {H : Type} {enc : TypeId × Value → H} {P : Program} {w : World}

/-- these cells, of that type, can be read as data -/
def Rd (enc : TypeId × Value → H) (P : Program) (w : World) (t : TypeId) (cs : List Value) : Prop := ∃ fuel x, DataW.trod enc P w 0 (fun _ => true) true fuel t cs = some x

theorem Rd.of_trod {t : TypeId} {v : Value} {d : DataW H} {p : List MemPlace} (h : DataW.Trod enc P w 0 (fun _ => true) true t v d p) : Rd enc P w t v.cells.toList := by
  obtain ⟨fuel, h⟩ := h
  exact ⟨fuel, _, h⟩
theorem Rd.int {t : TypeId} {k : IntKind} {cs : List Value} (ht : P.underlying t = some (.int k)) (h : Rd enc P w t cs) : ∃ n, cs = [.int k n] ∧ (Lit.int k n).wf = true := by
  obtain ⟨f, x, h⟩ := h
  obtain ⟨n, h1, _, h2⟩ := DataW.trod_int ht h
  exact ⟨n, h1, h2⟩
theorem Rd.bool {t : TypeId} {cs : List Value} (ht : P.underlying t = some .bool) (h : Rd enc P w t cs) : ∃ b, cs = [.bool b] := by
  obtain ⟨f, x, h⟩ := h
  obtain ⟨n, h1, _⟩ := DataW.trod_bool ht h
  exact ⟨n, h1⟩
theorem Rd.string {t : TypeId} {cs : List Value} (ht : P.underlying t = some .string) (h : Rd enc P w t cs) : ∃ s, cs = [.string s] ∧ s.size ≤ maxLen := by
  obtain ⟨f, x, h⟩ := h
  obtain ⟨n, h1, _, h2⟩ := DataW.trod_string ht h
  exact ⟨n, h1, h2⟩
theorem Rd.struct {t : TypeId} {fs : Array Field} {cs : List Value} (ht : P.underlying t = some (.struct fs)) (h : Rd enc P w t cs) :
    cs.length = P.cellsOf t ∧ ∀ (i : Nat) (f : Field), fs[i]? = some f → Rd enc P w f.type ((cs.drop f.offset).take (P.cellsOf f.type)) := by
  obtain ⟨f, x, h⟩ := h
  obtain ⟨xs, n, _, _, h1, h2, h3⟩ := DataW.trod_struct ht h
  refine ⟨h1, fun i f hf => ⟨n, xs[i]'?_, ?_⟩⟩
  · rw [h2]; exact (Array.getElem?_eq_some_iff.1 hf).1
  · rw [h3 i f hf]; exact List.getElem?_eq_getElem _
theorem Rd.array {t e : TypeId} {n : Nat} {cs : List Value} (ht : P.underlying t = some (.array n e)) (h : Rd enc P w t cs) :
    cs.length = P.cellsOf t ∧ ∀ i, i < n → Rd enc P w e ((cs.drop (i * P.cellsOf e)).take (P.cellsOf e)) := by
  obtain ⟨f, x, h⟩ := h
  obtain ⟨xs, m, _, _, h1, h2, h3⟩ := DataW.trod_array ht h
  refine ⟨h1, fun i hi => ⟨m, xs[i]'(by omega), ?_⟩⟩
  rw [h3 i hi]; exact List.getElem?_eq_getElem _

theorem add_add' (a : Addr) (i j : Nat) : (a.add i).add j = a.add (i + j) := Go.Deep.add_add a i j

theorem flat_len {α : Type} {f : α → List Value} {s : Nat} (hf : ∀ x, (f x).length = s) (X : List α) : (X.flatMap f).length = X.length * s := by
  induction X with
  | nil => simp
  | cons x X ih => rw [List.flatMap_cons, List.length_append, hf, ih, List.length_cons, Nat.add_mul]; omega
theorem flat_get {α : Type} {f : α → List Value} {s : Nat} (hf : ∀ x, (f x).length = s) (X : List α) (k : Nat) (hk : k < X.length) (j : Nat) (hj : j < s) : (X.flatMap f)[k * s + j]? = (f X[k])[j]? := by
  induction X generalizing k with
  | nil => simp at hk
  | cons x X ih =>
    rw [List.flatMap_cons]
    cases k with
    | zero => rw [List.getElem?_append_left (by rw [hf]; omega)]; simp
    | succ k =>
      rw [List.getElem?_append_right (by rw [hf, Nat.add_mul]; omega), hf]
      have := ih k (by simpa using hk)
      simp only [List.getElem_cons_succ]
      rw [← this]
      congr 1
      rw [Nat.add_mul]; omega
/-- the other way: a cell of all is a cell of one -/
theorem flat_at {α : Type} {f : α → List Value} {s : Nat} (hf : ∀ x, (f x).length = s) (hs : 0 < s) (X : List α) (i : Nat) (u : Value) (hu : (X.flatMap f)[i]? = some u) :
    ∃ k j, ∃ hk : k < X.length, j < s ∧ i = k * s + j ∧ (f X[k])[j]? = some u := by
  have hi : i < X.length * s := by rw [← flat_len hf X]; exact (List.getElem?_eq_some_iff.1 hu).1
  have hk : i / s < X.length := Nat.div_lt_of_lt_mul (by rw [Nat.mul_comm]; exact hi)
  have hj : i % s < s := Nat.mod_lt _ hs
  have he : i = i / s * s + i % s := by rw [Nat.mul_comm]; exact (Nat.div_add_mod i s).symm
  refine ⟨i / s, i % s, hk, hj, he, ?_⟩
  rw [← flat_get hf X _ hk _ hj, ← he]; exact hu

/-- a slice, its elements by their cells -/
theorem Rd.slice {t e : TypeId} {cs : List Value} (ht : P.underlying t = some (.slice e)) (hpos : 0 < P.cellsOf e) (h : Rd enc P w t cs) :
    ∃ (a : Option Addr) (n c : Nat) (R : List (List Value)), cs = [.slice a n c] ∧ R.length = n ∧ SlV w (.slice a n c) n R.flatten ∧ ∀ r ∈ R, r.length = P.cellsOf e ∧ Rd enc P w e r := by
  obtain ⟨f, x, h⟩ := h
  rcases Go.Deep.open_slice ht h with ⟨rfl, _⟩ | ⟨a, len, cap, m, n, D, Pl, rfl, _, hl, hm, hmm, _, hx⟩
  · exact ⟨none, 0, 0, [], rfl, rfl, SlV.empty _ _ _ (Nat.zero_le _) (fun _ => rfl), by simp⟩
  · have hmm' : m = cap := by rw [hmm]; simp
    obtain ⟨R, hR⟩ := Go.Deep.choose_lt (α := List Value) (p := fun i cs' => w.cells? 0 (a.add (i * P.cellsOf e)) (P.cellsOf e) = some cs' ∧ DataW.trod enc P w 0 (fun _ => true) true n e cs' = some (D i, Pl i)) hx
    refine ⟨some a, len, cap, (List.range len).map R, rfl, by simp, ⟨_, _, rfl, hl, hm, by simp, fun j u hu => ⟨a, rfl, ?_⟩⟩, ?_⟩
    · rw [← List.flatMap_def] at hu
      have hlen : ∀ i, i < len → (R i).length = P.cellsOf e := fun i hi => (World.cells?_some (hR i (by omega)).1).2.1
      -- the cells of the whole row
      have hf : ∀ i : Fin len, (R i.1).length = P.cellsOf e := fun i => hlen i.1 i.2
      have hfm : (List.range len).flatMap R = (List.finRange len).flatMap (fun i : Fin len => R i.1) := by
        rw [List.flatMap_def, List.flatMap_def]; congr 1
        apply List.ext_getElem <;> simp
      rw [hfm] at hu
      obtain ⟨k, jj, hk, hj, he, hg⟩ := flat_at (f := fun i : Fin len => R i.1) hf hpos _ _ _ hu
      have hk' : k < len := by simpa using hk
      obtain ⟨_, h1, h2⟩ := World.cells?_some (hR k (by omega)).1
      rw [he, ← add_add', h2 jj hj]
      simpa using hg
    · intro r hr
      obtain ⟨i, hi, rfl⟩ := List.mem_map.1 hr
      have hi' : i < len := by simpa using hi
      exact ⟨(World.cells?_some (hR i (by omega)).1).2.1, n, _, (hR i (by omega)).2⟩

/-- from 'each one is of this form' to one list -/
theorem rows_of {α : Type} {f : α → List Value} {p : α → Prop} {R : List (List Value)} (h : ∀ r ∈ R, ∃ x, r = f x ∧ p x) : ∃ X : List α, R = X.map f ∧ ∀ x ∈ X, p x := by
  induction R with
  | nil => exact ⟨[], rfl, by simp⟩
  | cons r R ih =>
    obtain ⟨x, hx, hp⟩ := h r List.mem_cons_self
    obtain ⟨X, hX, hP⟩ := ih fun r hr => h r (List.mem_cons_of_mem _ hr)
    exact ⟨x :: X, by rw [hx, hX]; rfl, fun y hy => by rcases List.mem_cons.1 hy with rfl | hy; exact hp; exact hP y hy⟩
/-- .. : the slice's cells as rows -/
theorem Rd.rows {α : Type} {f : α → List Value} {p : α → Prop} {t e : TypeId} {cs : List Value} (ht : P.underlying t = some (.slice e)) (hpos : 0 < P.cellsOf e) (h : Rd enc P w t cs)
    (hf : ∀ r, r.length = P.cellsOf e → Rd enc P w e r → ∃ x, r = f x ∧ p x) : ∃ (a : Option Addr) (c : Nat) (X : List α), cs = [.slice a X.length c] ∧ SlV w (.slice a X.length c) X.length (X.flatMap f) ∧ ∀ x ∈ X, p x := by
  obtain ⟨a, n, c, R, h1, h2, h3, h4⟩ := Rd.slice ht hpos h
  obtain ⟨X, hX, hP⟩ := rows_of fun r hr => hf r (h4 r hr).1 (h4 r hr).2
  subst hX
  have hn : n = X.length := by rw [← h2]; simp
  subst hn
  exact ⟨a, c, X, h1, by rw [List.flatMap_def]; exact h3, hP⟩
theorem map_one : ∀ X : List UInt8, X.map byteV = X.flatMap (fun b => [byteV b])
  | [] => rfl
  | x :: X => by rw [List.map_cons, List.flatMap_cons, map_one X]; rfl
theorem Rd.bytes {t e : TypeId} {cs : List Value} (ht : P.underlying t = some (.slice e)) (he : P.underlying e = some (.int .u8)) (hc : P.cellsOf e = 1) (h : Rd enc P w t cs) :
    ∃ (a : Option Addr) (c : Nat) (l : List UInt8), cs = [.slice a l.length c] ∧ Bytes w (.slice a l.length c) l := by
  obtain ⟨a, c, X, h1, h2, _⟩ := Rd.rows (f := fun b : UInt8 => [byteV b]) (p := fun _ => True) ht (by rw [hc]; decide) h (fun r _ hr => by
    obtain ⟨n, rfl, hw⟩ := Rd.int he hr
    have hb := bounds_u8 hw
    refine ⟨UInt8.ofNat n.toNat, ?_, trivial⟩
    simp only [byteV, List.cons.injEq, and_true, Value.int.injEq, true_and]
    rw [UInt8.toNat_ofNat']
    omega)
  exact ⟨a, c, X, h1, by unfold Bytes byteVs; rw [show X.map byteV = X.flatMap (fun b => [byteV b]) from map_one X]; exact h2⟩
end

/-- one of the rows of a slice -/
theorem SlV.row {α : Type} {f : α → List Value} {s : Nat} (hf : ∀ x, (f x).length = s) (hs : 0 < s) {w : World} {a : Option Addr} {n c : Nat} {X : List α} (h : SlV w (.slice a n c) n (X.flatMap f)) {k : Nat} (hk : k < X.length) :
    ∃ b off, a = some ⟨b, off, none⟩ ∧ b < w.heap.size ∧ ∀ j u, (f X[k])[j]? = some u → w.cell? ⟨b, off + k * s + j, none⟩ = some u := by
  obtain ⟨a', c', he, h1, h2, h0, h3⟩ := h
  cases he
  have h00 : 0 < X.length := by omega
  have hl : 0 < (f X[0]).length := by rw [hf]; exact hs
  obtain ⟨p, hp, hc⟩ := h3 0 _ (by have := flat_get hf X 0 h00 0 hs; rw [Nat.zero_mul] at this; rw [this]; exact List.getElem?_eq_getElem hl)
  have hb := cell_lt hc
  rw [add_block] at hb
  obtain ⟨b, off, sp⟩ := p
  have hadd : ∀ b o j : Nat, (⟨b, o, none⟩ : Addr).add j = ⟨b, o + j, none⟩ := fun b o j => by unfold Addr.add; split <;> simp_all
  have hsp : sp = none := by
    cases sp with
    | none => rfl
    | some x => simp [World.cell?, Addr.add] at hc; split at hc <;> simp at hc
  subst hsp
  refine ⟨b, off, hp, hb, fun j u hu => ?_⟩
  have hj : j < s := by rw [← hf X[k]]; exact (List.getElem?_eq_some_iff.1 hu).1
  obtain ⟨q, hq, hcq⟩ := h3 (k * s + j) u (by rw [flat_get hf X k hk j hj]; exact hu)
  rw [hp] at hq; cases hq
  rw [hadd] at hcq
  rw [Nat.add_assoc]; exact hcq
end Go.Proofs.YtkljeefncopodaaGreat
