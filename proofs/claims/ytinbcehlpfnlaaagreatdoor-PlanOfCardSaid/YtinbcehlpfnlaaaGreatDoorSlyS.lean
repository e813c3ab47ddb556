/- Package slices at []int. -/
import Derived.Test.YtinbcehlpfnlaaaGreatDoorCell
import Derived.Test.YtinbcehlpfnlaaaGreatDoorBase
import Derived.Test.YtinbcehlpfnlaaaGreatDoorIdx
import Derived.Test.YtinbcehlpfnlaaaGreatDoorPrjM
import Derived.Lib.SliceRun
import Derived.Shelf.GgClosure.Gives
import Derived.Test.YtinbcehlpfnlaaaGreatDoorSlzL
import Derived.Sort.OwnSortedInts
namespace Go.Proofs.YtinbcehlpfnlaaaGreatDoor
open Go.RowKit
set_option linter.unusedSimpArgs false
set_option linter.unusedVariables false
set_option maxRecDepth 20000

theorem etInts : ElemT Tryz.prog 42 3 1 8 := ElemT.mk' (z := .int .i64 0) Tryz.underlying42 (by kernel_rfl) rfl (by decide) (by decide)
def zVs (l : List Int) : List Value := l.map (Value.int .i64)
theorem zVs_length (l : List Int) : (zVs l).length = l.length := by simp [zVs]
theorem zVs_append (a b : List Int) : zVs (a ++ b) = zVs a ++ zVs b := by simp [zVs]
theorem zVs_one (l : List Int) : ∀ u ∈ zVs l, u.oneCell' = true := by intro u hu; obtain ⟨b, _, rfl⟩ := List.mem_map.1 hu; rfl
/-- the numbers of a slice value -/
def Zs (w : World) (v : Value) (l : List Int) : Prop := SlV w v l.length (zVs l)
theorem Zs.len {w : World} {a : Option Addr} {c : Nat} {l : List Int} (h : Zs w (.slice a l.length c) l) : l.length ≤ 9223372036854775807 := by
  obtain ⟨_, _, he, h1, h2, _⟩ := h; cases he; unfold maxLen at h2; omega
theorem Zs.at {w : World} {a : Option Addr} {n c : Nat} {l : List Int} (h : Zs w (.slice a n c) l) {k : Nat} (hk : k < l.length) :
    ∃ b off, a = some ⟨b, off, none⟩ ∧ b < w.heap.size ∧ w.cell? ⟨b, off + k, none⟩ = some (.int .i64 l[k]) := by
  have h' : SlV w (.slice a n c) n (l.flatMap (fun x => [Value.int .i64 x])) := by
    obtain ⟨a', c', he, r⟩ := h
    cases he
    refine ⟨a, c, rfl, ?_⟩
    have : l.flatMap (fun x => [Value.int .i64 x]) = zVs l := by
      clear r hk; induction l with
      | nil => rfl
      | cons x l ih => rw [List.flatMap_cons, ih]; rfl
    rw [this]; exact r
  obtain ⟨b, off, e, hb, hc⟩ := SlV.row (f := fun x => [Value.int .i64 x]) (s := 1) (fun _ => rfl) (by decide) h' hk
  refine ⟨b, off, e, hb, ?_⟩
  have := hc 0 _ rfl
  simpa using this
/-- a list's slice: the numbers, the address, the capacity -/
abbrev Ch := List Int × Option Addr × Nat
def chV (x : Ch) : Value := .slice x.2.1 x.1.length x.2.2
/-- a slice of slices -/
structure Chs (w : World) (a : Option Addr) (c : Nat) (X : List Ch) : Prop where
  rows : SlV w (.slice a X.length c) X.length (X.map chV)
  each : ∀ x ∈ X, Zs w (chV x) x.1
theorem Chs.len {w : World} {a : Option Addr} {c : Nat} {X : List Ch} (h : Chs w a c X) : X.length ≤ 9223372036854775807 := by
  obtain ⟨_, _, he, h1, h2, _⟩ := h.rows; cases he; unfold maxLen at h2; omega
theorem Chs.below {w w' : World} {a : Option Addr} {c : Nat} {X : List Ch} (h : Chs w a c X) {B : Nat} (hB : w.heap.size ≤ B) (hb : Below B w w') : Chs w' a c X :=
  ⟨SlV.below h.rows hB hb, fun x hx => SlV.below (h.each x hx) hB hb⟩
theorem Chs.at {w : World} {a : Option Addr} {c : Nat} {X : List Ch} (h : Chs w a c X) {k : Nat} (hk : k < X.length) :
    ∃ b off, a = some ⟨b, off, none⟩ ∧ b < w.heap.size ∧ w.cell? ⟨b, off + k, none⟩ = some (.slice X[k].2.1 X[k].1.length X[k].2.2) ∧ Zs w (.slice X[k].2.1 X[k].1.length X[k].2.2) X[k].1 := by
  have h' : SlV w (.slice a X.length c) X.length (X.flatMap (fun x => [chV x])) := by
    have : X.flatMap (fun x => [chV x]) = X.map chV := by
      clear h hk; induction X with
      | nil => rfl
      | cons x l ih => rw [List.flatMap_cons, ih]; rfl
    rw [this]; exact h.rows
  obtain ⟨b, off, e, hb, hc⟩ := SlV.row (f := fun x => [chV x]) (s := 1) (fun _ => rfl) (by decide) h' hk
  refine ⟨b, off, e, hb, ?_, h.each _ (List.getElem_mem hk)⟩
  have := hc 0 _ rfl
  simpa [chV] using this


/-- a function value that tells of numbers -/
def PredZ (f : Nat) (cap : Array Value) (p : Int → Bool) (w : World) : Prop :=
  ∀ w' x, Below w.heap.size w w' → Calls Tryz.prog f (#[.int .i64 x] ++ cap) w' fun e w'' => e = .returned (.bool (p x)) ∧ Below w'.heap.size w' w''
/-- a function value that tells of lists by their length -/
def PredN (f : Nat) (p : Nat → Bool) : Prop := ∀ a n c w', n ≤ 9223372036854775807 → Calls Tryz.prog f #[.slice a n c] w' fun e w'' => e = .returned (.bool (p n)) ∧ w' = w''

theorem eq_take {α : Type} [DecidableEq α] {l m : List α} (hl : l.length = m.length) {k : Nat} (h : l.take k = m.take k) (hk : ¬ k < l.length) : l = m := by
  rwa [List.take_of_length_le (by omega), List.take_of_length_le (by omega)] at h
theorem take_next {α : Type} {l m : List α} {k : Nat} (h : l.take k = m.take k) (h1 : k < l.length) (h2 : k < m.length) (he : l[k] = m[k]) : l.take (k + 1) = m.take (k + 1) := by
  rw [List.take_succ_eq_append_getElem h1, List.take_succ_eq_append_getElem h2, h, he]

end Go.Proofs.YtinbcehlpfnlaaaGreatDoor

namespace Go.Proofs.YtinbcehlpfnlaaaGreatDoor
open Go.RowKit Go.Sort
set_option linter.unusedSimpArgs false
set_option linter.unusedVariables false
set_option maxRecDepth 20000

theorem grown_fr {w w' : World} {row : Option Nat} (h : w.grownBy w' row) : Fr (fun k => row = some k) w w' := ⟨h.os, h.tape, h.output, h.size, fun k hk hn => h.block k hk (fun e => hn e.symm)⟩
/-- a row of the call's own is nil, or lies at a block's head -/
theorem own_cases {w : World} {B e size n : Nat} {a : Option Addr} {c : Nat} {xs : List Value} (h : w.ownsRow B e size (.slice a n c) n xs) : (a = none ∧ n = 0 ∧ c = 0 ∧ xs = []) ∨ ∃ g cur, a = some ⟨g, 0, none⟩ ∧ B ≤ g ∧ g < w.heap.size ∧ w.heap[g]? = some (.cells cur e (0, 0)) ∧ n ≤ c ∧ c ≤ maxLen ∧ cur.size = c * size ∧ cur.toList.take (n * size) = xs := by
  obtain ⟨hl, h⟩ := h
  rcases h with ⟨h1, h2⟩ | ⟨g, cap, cur, hv, h1, h2, h3, h4, h5, h6⟩
  · simp only [Value.slice.injEq] at h1
    obtain ⟨rfl, rfl, rfl⟩ := h1
    exact .inl ⟨rfl, rfl, rfl, by simpa using hl⟩
  · simp only [Value.slice.injEq] at hv
    obtain ⟨rfl, _, rfl⟩ := hv
    exact .inr ⟨g, cur, rfl, h1, (Array.getElem?_eq_some_iff.1 h2).1, h2, h3, h4, h5, h6⟩
theorem own_block {w : World} {g n c : Nat} : (Value.slice (some ⟨g, 0, none⟩) n c).ownBlock = some g := rfl

theorem alloc_new (w : World) (o : Obj) : (w.alloc o).heap[w.heap.size]? = some o := by show (w.heap.push _)[w.heap.size]? = _; simp

/-- all numbers, list behind list -/
def flatC (X : List Ch) : List Int := (X.map (·.1)).flatten
theorem flat_take {X : List Ch} {k : Nat} (hk : k < X.length) : flatC (X.take (k + 1)) = flatC (X.take k) ++ X[k].1 := by
  unfold flatC; rw [List.take_succ_eq_append_getElem hk]; simp only [List.map_append, List.flatten_append, List.map_cons, List.map_nil, List.flatten_cons, List.flatten_nil, List.append_nil]
theorem flat_take_le (X : List Ch) (k : Nat) : (flatC (X.take k)).length ≤ (flatC X).length := by
  have e : X.map (·.1) = (X.take k).map (·.1) ++ (X.drop k).map (·.1) := by rw [← List.map_append, List.take_append_drop]
  unfold flatC
  rw [e, List.flatten_append, List.length_append]; omega

/-- a row's content is changed in place -/
def RowR (B : Nat) (a : Option Addr) (n c : Nat) (l : List Int) (w : World) (w' : World) : Prop := w'.ownsRow B 3 1 (.slice a n c) n (zVs l) ∧ Fr (fun k => (Value.slice a n c).ownBlock = some k) w w'
theorem sortZ_any {B : Nat} (l : List Int) (a : Option Addr) (c : Nat) (w : World) (h : w.ownsRow B 3 1 (.slice a l.length c) l.length (zVs l)) (hl : l.length ≤ 1099511627776) :
    Calls Tryz.prog 21 #[.slice a l.length c] w fun e w' => e = .returned (.tuple #[]) ∧ RowR B a l.length c (sortI l) w w' := by
  rcases own_cases h with ⟨rfl, h1, rfl, _⟩ | ⟨g, cur, rfl, hB, hg, hh, h1, h2, h3, h4⟩
  · obtain rfl : l = [] := List.eq_nil_of_length_eq_zero h1
    have hk := AnyM.slices_Sort_int_none Tryz.sortZ none 0 w
    change Calls Tryz.prog 21 _ _ _ at hk
    refine hk.mono ?_
    rintro e w' ⟨rfl, rfl⟩
    exact ⟨rfl, by rw [show sortI [] = [] from by simp [sortI]]; exact own_nil _ _ _ _, Fr.refl _ _⟩
  · have hk := AnyM.slices_Sort_int Tryz.sortZ g 0 c l w (holds_of_blockI hh (by simpa [zVs] using h4)) hg (by omega)
    change Calls Tryz.prog 21 _ _ _ at hk
    refine hk.mono ?_
    rintro e w' ⟨rfl, q, os, rfl⟩
    refine ⟨rfl, ?_, grown_fr (grownBy_sortedI _)⟩
    exact ownsRow_sortedI (n := q) (ts := sortI l) (List.length_mergeSort _) hB hh h1 h2 h3

/- plain: what Compact leaves of a list in order -/
theorem dedS_snoc : ∀ (l : List Int) (y z : Int), dedS (l ++ [y, z]) = if y = z then dedS (l ++ [y]) else dedS (l ++ [y]) ++ [z]
  | [], y, z => by
    simp only [List.nil_append, dedS]
    split
    · rename_i h; rw [h]
    · rfl
  | [x], y, z => by
    have ih := dedS_snoc [] y z
    simp only [List.nil_append, List.singleton_append] at *
    simp only [dedS] at *
    by_cases h : x = y <;> by_cases h2 : y = z <;> simp [h, h2]
  | x :: x2 :: l, y, z => by
    have ih := dedS_snoc (x2 :: l) y z
    simp only [List.cons_append] at *
    rw [dedS, dedS]
    by_cases h : x = x2
    · simp only [h, if_true]; exact ih
    · simp only [if_neg h]; rw [ih]
      by_cases h2 : y = z <;> simp [h2]
theorem compact_take (l : List Int) : ∀ m, m ≤ l.length → Lib.compactUpTo l.toArray m = dedS (l.take m)
  | 0, _ => rfl
  | 1, h => by
    have e : l.take 1 = [l[0]] := by rw [List.take_succ_eq_append_getElem (i := 0) (by omega)]; rfl
    rw [Lib.compactUpTo_succ, e]
    simp [Lib.keeps, Lib.compactUpTo, dedS]
    rw [List.getElem?_eq_getElem (by omega)]; rfl
  | m + 2, h => by
    have ih := compact_take l (m + 1) (by omega)
    rw [Lib.compactUpTo_succ, ih]
    have e1 : l.take (m + 1) = l.take m ++ [l[m]] := List.take_succ_eq_append_getElem (by omega)
    have e2 : l.take (m + 2) = l.take m ++ [l[m], l[m + 1]] := by rw [List.take_succ_eq_append_getElem (i := m + 1) (by omega), e1, List.append_assoc]; rfl
    have g1 : l.toArray[m + 1]! = l[m + 1] := by rw [getElem!_pos _ _ (by simp; omega)]; simp
    have g0 : l.toArray[m + 1 - 1]! = l[m] := by rw [getElem!_pos _ _ (by simp; omega)]; simp
    rw [e2, dedS_snoc, ← e1]
    unfold Lib.keeps
    rw [g1, g0]
    by_cases hq : l[m] = l[m + 1]
    · simp [hq]
    · have : ¬ l[m + 1] = l[m] := fun h => hq h.symm
      simp [hq, this]
theorem compact_ded (l : List Int) : Lib.compact l = dedS l := by
  have := compact_take l l.length (Nat.le_refl _)
  rw [List.take_length] at this
  exact this
/-- a row is cut, its rest zeros -/
def CutR (B : Nat) (a : Option Addr) (c : Nat) (l : List Int) (F : Nat → Prop) (w : World) (en : Ending) (w' : World) : Prop := en = .returned (.slice a l.length c) ∧ w'.ownsRow B 3 1 (.slice a l.length c) l.length (zVs l) ∧ Fr F w w'
theorem own_cut {w : World} {B g c n q : Nat} {cur : Array Value} {os : Array Obj} {r : List Int} (z : List Int) (hz : r.length + z.length = n) (hB : B ≤ g) (hh : w.heap[g]? = some (.cells cur 3 (0, 0))) (h1 : n ≤ c) (h2 : c ≤ maxLen) (h3 : cur.size = c * 1) :
    (grow (putRow (Value.int .i64) (Sort.ahead w q) g 0 (r ++ z).toArray) os).ownsRow B 3 1 (.slice (some ⟨g, 0, none⟩) r.length c) r.length (zVs r) := by
  have := ownsRow_sortedI (n := q) (os := os) (ss := r ++ z) (ts := r ++ z) (w := w) (base := B) (e := 3) rfl hB hh (by rw [List.length_append]; omega) h2 h3
  rcases own_cases this with ⟨h, _⟩ | ⟨g', cur', he, k1, k2, k3, k4, k5, k6, k7⟩
  · cases h
  · simp only [Option.some.injEq, Addr.mk.injEq, and_true] at he
    subst he
    refine ⟨by simp [zVs], .inr ⟨g, c, cur', rfl, hB, k3, by omega, h2, k6, ?_⟩⟩
    have e : cur'.toList.take (r.length * 1) = (cur'.toList.take ((r ++ z).length * 1)).take r.length := by
      rw [List.take_take, Nat.mul_one, Nat.mul_one]; congr 1; rw [List.length_append]; omega
    rw [e, k7, List.map_append, List.take_append_of_le_length (by simp), List.take_of_length_le (by simp)]; rfl
theorem grow_none (w : World) : grow w #[] = w := by unfold grow; simp
theorem compactZ_any {B : Nat} (l : List Int) (a : Option Addr) (c : Nat) (w : World) (h : w.ownsRow B 3 1 (.slice a l.length c) l.length (zVs l)) (hl : l.length ≤ 1099511627776) :
    Calls Tryz.prog 22 #[.slice a l.length c] w (CutR B a c (dedS l) (fun k => (Value.slice a 0 c).ownBlock = some k) w) := by
  rcases own_cases h with ⟨rfl, h1, rfl, _⟩ | ⟨g, cur, rfl, hB, hg, hh, h1, h2, h3, h4⟩
  · obtain rfl : l = [] := List.eq_nil_of_length_eq_zero h1
    have hk := AnyG.slices_Compact_int_empty Tryz.compZ none 0 w
    change Calls Tryz.prog 22 _ _ _ at hk
    refine hk.mono ?_
    rintro e w' ⟨rfl, rfl⟩
    exact ⟨rfl, own_nil _ _ _ _, Fr.refl _ _⟩
  · have hk := AnyG.slices_Compact_int Tryz.compZ g 0 c l w (holds_of_blockI hh (by simpa [zVs] using h4)) (by omega) h1
    change Calls Tryz.prog 22 _ _ _ at hk
    refine hk.mono ?_
    rintro e w' ⟨rfl, q, rfl⟩
    rw [compact_ded]
    have hle := dedS_len l
    refine ⟨rfl, ?_, ?_⟩
    · have := own_cut (B := B) (os := #[]) (q := q) (r := dedS l) (List.replicate (l.length - (dedS l).length) 0) (n := l.length) (by simp; omega) hB hh h1 h2 h3
      rwa [grow_none] at this
    · have := grown_fr (grownBy_sortedI (w := w) (g := g) (n := q) (os := #[]) (dedS l ++ List.replicate (l.length - (dedS l).length) 0).toArray)
      rwa [grow_none] at this

/-- a function value that tells of numbers and makes nothing -/
def PredG (f : Nat) (cap : Array Value) (p : Int → Bool) (F : Nat → Prop) (w : World) : Prop :=
  ∀ w' x, Fr F w w' → Calls Tryz.prog f (#[.int .i64 x] ++ cap) w' fun e w'' => e = .returned (.bool (p x)) ∧ ∃ q, w'' = w'.drewN q
theorem PredG.z {f : Nat} {cap : Array Value} {p : Int → Bool} {F : Nat → Prop} {w : World} (h : PredG f cap p F w) : PredZ f cap p w := fun w' x hb =>
  (h w' x (Fr.of_below hb)).mono fun e w'' ⟨he, q, hq⟩ => ⟨he, hq ▸ below_drewN' (Below.refl _ _) q⟩
end Go.Proofs.YtinbcehlpfnlaaaGreatDoor
