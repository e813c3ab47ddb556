/- Layer 8 (unit) as a plain machine, and the document's unit. Plain. -/
import Derived.Test.YtinbcehlpfnlaaaGreatDoorBase
namespace Go.Proofs.YtinbcehlpfnlaaaGreatDoor
set_option linter.unusedSimpArgs false
set_option linter.unusedVariables false

/-- what stands at an address -/
structure C where
  k : Int
  d : List UInt8
deriving DecidableEq

def C.check (c : C) : Nat := if c.k < 0 ∨ 3 < c.k then 1 else if 64 < c.d.length then 3 else if 0 < c.d.length ∧ c.k ≠ 1 then 2 else 0
def C.may (a b : C) : Bool := if a.check ≠ 0 ∨ b.check ≠ 0 then false else if a.k = 0 ∨ a = b then true else b.k == 3

/-- a unit: epoch, low mark, cells in whatever order, each address once -/
structure U where
  e : Int
  l : Int
  cells : List (Int × C)

structure U.ok (u : U) : Prop where
  e0 : 0 ≤ u.e
  e1 : u.e ≤ 1099511627776
  l0 : 0 ≤ u.l
  l1 : u.l ≤ 1048576
  addr : ∀ p ∈ u.cells, u.l ≤ p.1 ∧ p.1 < 1048576
  kind : ∀ p ∈ u.cells, (p.2.k = 1 ∨ p.2.k = 2 ∧ p.2.d = []) ∧ p.2.d.length ≤ 64
  nodup : (u.cells.map (·.1)).Nodup

def inR (x m : Int) : Bool := decide (0 ≤ x) && decide (x ≤ m)
def U.new : U := ⟨0, 0, []⟩
def lookC (L : List (Int × C)) (a : Int) : C := ((L.find? (·.1 == a)).map (·.2)).getD ⟨0, []⟩
def U.at (u : U) (a : Int) : C := if a < u.l then ⟨3, []⟩ else lookC u.cells a
def tailF (m : Int) (p : Int × C) : Int := max m (p.1 + 1)
def U.tail (u : U) : Int := u.cells.foldl tailF u.l
def U.cur (u : U) (e : Int) : Nat := if e < u.e then 6 else if u.e < e then 7 else 0
def U.asks (u : U) (e : Int) (fits : Bool) : Nat := if fits then u.cur e else 1
def putC (L : List (Int × C)) (a : Int) (c : C) : List (Int × C) := if L.any (·.1 == a) then L.map (fun p => if p.1 = a then (a, c) else p) else L ++ [(a, c)]

def U.sealE (u : U) (e : Int) : Nat × Int × U := if !inR e 1099511627776 then (1, 0, u) else if e ≤ u.e then (6, 0, u) else (0, u.tail, { u with e := e })
def U.write (u : U) (e a : Int) (d : List UInt8) : Nat × U :=
  if !inR a 1048575 then (1, u) else if 64 < d.length then (3, u) else if u.cur e ≠ 0 then (u.cur e, u) else if (u.at a).k = 3 then (9, u) else if (u.at a).k = 0 then (0, { u with cells := putC u.cells a ⟨1, d⟩ }) else (8, u)
def U.fill (u : U) (e a : Int) : Nat × U :=
  if u.asks e (inR a 1048575) ≠ 0 then (u.asks e (inR a 1048575), u) else if (u.at a).k = 3 then (9, u) else if (u.at a).k = 1 then (8, u) else (0, { u with cells := putC u.cells a ⟨2, []⟩ })
def U.read (u : U) (e a : Int) : Nat × C := if u.asks e (inR a 1048575) ≠ 0 then (u.asks e (inR a 1048575), ⟨0, []⟩) else (0, u.at a)
def U.trim (u : U) (e b : Int) : Nat × U :=
  if u.asks e (inR b 1048576) ≠ 0 then (u.asks e (inR b 1048576), u) else (0, { u with l := max u.l b, cells := u.cells.filter (fun p => !decide (p.1 < max u.l b)) })
def U.cut (u : U) (e f : Int) : Nat × Int × U :=
  if u.asks e (inR f 1048576) ≠ 0 then (u.asks e (inR f 1048576), 0, u) else if f < u.l then (9, 0, u) else
    (0, (u.cells.length : Int) - (u.cells.filter (fun p => !decide (f ≤ p.1))).length, { u with cells := u.cells.filter (fun p => !decide (f ≤ p.1)) })
def U.tailOf (u : U) (e : Int) : Nat × Int := if u.asks e true ≠ 0 then (u.asks e true, 0) else (0, u.tail)

theorem tailF_comm (m : Int) (p q : Int × C) : tailF (tailF m p) q = tailF (tailF m q) p := by unfold tailF; omega
theorem tail_pick (x : Int × C) : ∀ (pre : List (Int × C)) (post : List (Int × C)) (m : Int), (pre ++ x :: post).foldl tailF m = (pre ++ post).foldl tailF (tailF m x)
  | [], post, m => rfl
  | p :: pre, post, m => by
    simp only [List.cons_append, List.foldl_cons]
    rw [tail_pick x pre post, tailF_comm]
theorem tail_bound {L : List (Int × C)} {m : Int} (hm : m ≤ 1048576) (h : ∀ p ∈ L, p.1 < 1048576) : L.foldl tailF m ≤ 1048576 := by
  induction L generalizing m with
  | nil => exact hm
  | cons p L ih =>
    have := h p List.mem_cons_self
    exact ih (by unfold tailF; omega) fun q hq => h q (List.mem_cons_of_mem _ hq)
theorem tail_ge {L : List (Int × C)} {m : Int} : m ≤ L.foldl tailF m := by
  induction L generalizing m with
  | nil => exact Int.le_refl _
  | cons p L ih => exact Int.le_trans (by unfold tailF; omega) (ih (m := tailF m p))

def tailK (m a : Int) : Int := max m (a + 1)
theorem tail_keys (u : U) : u.tail = (u.cells.map (·.1)).foldl tailK u.l := by simp only [U.tail, List.foldl_map]; rfl
theorem tailK_pick (x : Int) : ∀ (pre post : List Int) (m : Int), (pre ++ x :: post).foldl tailK m = (pre ++ post).foldl tailK (tailK m x)
  | [], post, m => rfl
  | p :: pre, post, m => by
    simp only [List.cons_append, List.foldl_cons]
    rw [tailK_pick x pre post, show tailK (tailK m p) x = tailK (tailK m x) p from by unfold tailK; omega]

theorem lookC_mem {L : List (Int × C)} {a : Int} (h : L.any (·.1 == a) = true) : (a, lookC L a) ∈ L := by
  unfold lookC
  cases hf : L.find? (·.1 == a) with
  | none => rw [List.find?_eq_none] at hf; rw [List.any_eq_true] at h; obtain ⟨x, hx, hxa⟩ := h; exact absurd hxa (by simpa using hf x hx)
  | some p =>
    have h1 := List.mem_of_find?_eq_some hf
    have h2 := List.find?_some hf
    simp at h2
    simp only [Option.map_some, Option.getD_some]
    rw [← h2]; exact h1
theorem lookC_none {L : List (Int × C)} {a : Int} (h : L.any (·.1 == a) = false) : lookC L a = ⟨0, []⟩ := by
  unfold lookC
  have : L.find? (·.1 == a) = none := by rw [List.find?_eq_none]; rw [List.any_eq_false] at h; exact fun x hx => by simpa using h x hx
  simp [this]

theorem putC_keys (L : List (Int × C)) (a : Int) (c : C) (h : (L.map (·.1)).Nodup) : ((putC L a c).map (·.1)).Nodup := by
  unfold putC
  split
  · have : (L.map (fun p => if p.1 = a then (a, c) else p)).map (·.1) = L.map (·.1) := by
      rw [List.map_map]; refine List.map_congr_left fun p _ => ?_
      by_cases hp : p.1 = a <;> simp [hp]
    rw [this]; exact h
  · rename_i hn
    rw [List.map_append, List.nodup_append]
    refine ⟨h, by simp, ?_⟩
    intro x hx y hy
    simp at hy; subst hy
    intro hxa; subst hxa
    apply hn
    simp only [List.any_eq_true, beq_iff_eq]
    obtain ⟨p, hp, hpx⟩ := List.mem_map.1 hx
    exact ⟨p, hp, hpx⟩
theorem mem_putC {L : List (Int × C)} {a : Int} {c : C} {p : Int × C} (h : p ∈ putC L a c) : p = (a, c) ∨ p ∈ L := by
  unfold putC at h
  split at h
  · obtain ⟨q, hq, hqp⟩ := List.mem_map.1 h
    split at hqp
    · exact .inl hqp.symm
    · exact .inr (hqp ▸ hq)
  · rcases List.mem_append.1 h with h | h
    · exact .inr h
    · exact .inl (by simpa using h)

theorem U.ok_new : U.new.ok := ⟨by decide, by decide, by decide, by decide, by simp [U.new], by simp [U.new], by simp [U.new]⟩
theorem U.ok_put {u : U} (h : u.ok) {a : Int} {c : C} (h1 : u.l ≤ a) (h2 : a < 1048576) (h3 : (c.k = 1 ∨ c.k = 2 ∧ c.d = []) ∧ c.d.length ≤ 64) : U.ok { u with cells := putC u.cells a c } :=
  ⟨h.e0, h.e1, h.l0, h.l1, fun p hp => by rcases mem_putC hp with rfl | hp; exact ⟨h1, h2⟩; exact h.addr p hp,
   fun p hp => by rcases mem_putC hp with rfl | hp; exact h3; exact h.kind p hp, putC_keys _ _ _ h.nodup⟩
theorem U.ok_filter {u : U} (h : u.ok) {f : Int × C → Bool} {l : Int} (hl : u.l ≤ l) (h1 : l ≤ 1048576) (hf : ∀ p ∈ u.cells, f p = true → l ≤ p.1) : U.ok { u with l := l, cells := u.cells.filter f } :=
  ⟨h.e0, h.e1, Int.le_trans h.l0 hl, h1, fun p hp => ⟨hf p (List.mem_filter.1 hp).1 (List.mem_filter.1 hp).2, (h.addr p (List.mem_filter.1 hp).1).2⟩,
   fun p hp => h.kind p (List.mem_filter.1 hp).1, h.nodup.sublist ((List.filter_sublist).map _)⟩

theorem U.ok_write {u : U} (h : u.ok) (e a : Int) (d : List UInt8) : (u.write e a d).2.ok := by
  unfold U.write
  split; · exact h
  rename_i h1
  split; · exact h
  split; · exact h
  split; · exact h
  rename_i h4
  split
  · simp [inR] at h1
    refine U.ok_put h ?_ (by omega) ⟨.inl rfl, by simp; omega⟩
    unfold U.at at h4
    by_cases hl : a < u.l
    · simp [hl] at h4
    · omega
  · exact h
theorem U.ok_fill {u : U} (h : u.ok) (e a : Int) : (u.fill e a).2.ok := by
  unfold U.fill
  split; · exact h
  rename_i h1
  split; · exact h
  rename_i h4
  split; · exact h
  have hin : inR a 1048575 = true := by
    cases hq : inR a 1048575 with
    | true => rfl
    | false => simp [U.asks, hq] at h1
  simp [inR] at hin
  refine U.ok_put h ?_ (by omega) ⟨.inr ⟨rfl, rfl⟩, by simp⟩
  unfold U.at at h4
  by_cases hl : a < u.l
  · simp [hl] at h4
  · omega
theorem asks_in {u : U} {e : Int} {f : Bool} (h : ¬ u.asks e f ≠ 0) : f = true := by
  cases f with
  | true => rfl
  | false => simp [U.asks] at h
theorem U.ok_trim {u : U} (h : u.ok) (e b : Int) : (u.trim e b).2.ok := by
  unfold U.trim
  split; · exact h
  rename_i h1
  have hin := asks_in h1
  simp [inR] at hin
  have := h.l1
  exact U.ok_filter h (by omega) (by omega) fun p hp hf => by simpa using hf
theorem U.ok_cut {u : U} (h : u.ok) (e f : Int) : (u.cut e f).2.2.ok := by
  unfold U.cut
  split; · exact h
  split; · exact h
  exact U.ok_filter (l := u.l) h (Int.le_refl _) h.l1 fun p hp _ => (h.addr p hp).1
theorem U.ok_sealE {u : U} (h : u.ok) (e : Int) : (u.sealE e).2.2.ok := by
  unfold U.sealE
  split; · exact h
  rename_i h1
  split; · exact h
  simp [inR] at h1
  exact ⟨by simp; omega, by simp; omega, h.l0, h.l1, h.addr, h.kind, h.nodup⟩

end Go.Proofs.YtinbcehlpfnlaaaGreatDoor

namespace Go.Proofs.YtinbcehlpfnlaaaGreatDoor
set_option linter.unusedSimpArgs false
set_option linter.unusedVariables false

def insC : List (Int × C) → Int → C → List (Int × C)
  | [], a, c => [(a, c)]
  | p :: L, a, c => if a < p.1 then (a, c) :: p :: L else p :: insC L a c
theorem insC_all {L : List (Int × C)} {a : Int} {c : C} (h : ∀ p ∈ L, p.1 ≤ a) : insC L a c = L ++ [(a, c)] := by
  induction L with
  | nil => rfl
  | cons p L ih =>
    have := h p List.mem_cons_self
    simp only [insC, if_neg (show ¬ a < p.1 by omega), ih fun q hq => h q (List.mem_cons_of_mem _ hq)]; rfl
theorem insC_here {L : List (Int × C)} {a : Int} {c : C} {x : Int × C} (h : ∀ p ∈ L, p.1 ≤ a) (hx : a < x.1) : insC (L ++ [x]) a c = L ++ [(a, c), x] := by
  induction L with
  | nil => simp [insC, hx]
  | cons p L ih =>
    have := h p List.mem_cons_self
    simp only [List.cons_append, insC, if_neg (show ¬ a < p.1 by omega), ih fun q hq => h q (List.mem_cons_of_mem _ hq)]
theorem insC_past {L : List (Int × C)} {a : Int} {c : C} {x : Int × C} (h : ∃ p ∈ L, a < p.1) : insC (L ++ [x]) a c = insC L a c ++ [x] := by
  induction L with
  | nil => obtain ⟨p, hp, _⟩ := h; cases hp
  | cons p L ih =>
    simp only [List.cons_append, insC]
    split
    · rfl
    · rename_i hn
      obtain ⟨q, hq, hqa⟩ := h
      rcases List.mem_cons.1 hq with rfl | hq
      · exact absurd hqa hn
      · rw [ih ⟨q, hq, hqa⟩]; rfl

def U.rTail (u : U) : Int := match u.cells.getLast? with | none => u.l | some p => p.1 + 1
def U.rSeal (u : U) (e : Int) : Int × U × Nat := if e < 0 ∨ 1099511627776 < e then (0, u, 1) else if e ≤ u.e then (0, u, 6) else ({ u with e := e : U }.rTail, { u with e := e }, 0)
def U.rWrite (u : U) (e a : Int) (d : List UInt8) : U × Nat :=
  if a < 0 ∨ 1048575 < a then (u, 1) else if 64 < d.length then (u, 3) else if u.cur e ≠ 0 then (u, u.cur e) else
    if (u.at a).k = 3 then (u, 9) else if (u.at a).k = 0 then ({ u with cells := insC u.cells a ⟨1, d⟩ }, 0) else (u, 8)
def U.rFill (u : U) (e a : Int) : U × Nat :=
  if a < 0 ∨ 1048575 < a then (u, 1) else if u.cur e ≠ 0 then (u, u.cur e) else
    if (u.at a).k = 3 then (u, 9) else if (u.at a).k = 1 then (u, 8) else if (u.at a).k = 0 then ({ u with cells := insC u.cells a ⟨2, []⟩ }, 0) else (u, 0)
def U.rRead (u : U) (e a : Int) : C × Nat := if a < 0 ∨ 1048575 < a then (⟨0, []⟩, 1) else if u.cur e ≠ 0 then (⟨0, []⟩, u.cur e) else (u.at a, 0)
def U.rTrim (u : U) (e b : Int) : U × Nat :=
  if b < 0 ∨ 1048576 < b then (u, 1) else if u.cur e ≠ 0 then (u, u.cur e) else ({ u with l := max u.l b, cells := u.cells.filter (fun p => decide (max u.l b ≤ p.1)) }, 0)
def U.rCut (u : U) (e f : Int) : Int × U × Nat :=
  if f < 0 ∨ 1048576 < f then (0, u, 1) else if u.cur e ≠ 0 then (0, u, u.cur e) else if f < u.l then (0, u, 9) else
    ((u.cells.length : Int) - (u.cells.filter (fun p => decide (p.1 < f))).length, { u with cells := u.cells.filter (fun p => decide (p.1 < f)) }, 0)
def U.rSame (a b : U) : Bool := decide (a.e = b.e ∧ a.l = b.l ∧ a.cells = b.cells)

end Go.Proofs.YtinbcehlpfnlaaaGreatDoor

namespace Go.Proofs.YtinbcehlpfnlaaaGreatDoor
set_option linter.unusedSimpArgs false
set_option linter.unusedVariables false

/-- what an act does to a unit, and answers: the unit then, the error, the number, the cell -/
def uS (kn : Int) (u : U) (e a : Int) (d : List UInt8) : U × Nat × Int × C :=
  if kn = 0 then ((u.sealE e).2.2, (u.sealE e).1, (u.sealE e).2.1, ⟨0, []⟩)
  else if kn = 1 ∨ kn = 2 then ((u.write e a d).2, (u.write e a d).1, 0, ⟨0, []⟩)
  else if kn = 3 then ((u.fill e a).2, (u.fill e a).1, 0, ⟨0, []⟩)
  else if kn = 4 then (u, (u.read e a).1, 0, (u.read e a).2)
  else if kn = 5 then ((u.trim e a).2, (u.trim e a).1, 0, ⟨0, []⟩)
  else if kn = 6 then ((u.cut e a).2.2, (u.cut e a).1, (u.cut e a).2.1, ⟨0, []⟩)
  else (u, (u.tailOf e).1, (u.tailOf e).2, ⟨0, []⟩)
/-- .. and to the document's -/
def mS (kn : Int) (m : U) (e a : Int) (d : List UInt8) : U × Nat × Int × C :=
  if kn = 0 then ((m.rSeal e).2.1, (m.rSeal e).2.2, (m.rSeal e).1, ⟨0, []⟩)
  else if kn = 1 ∨ kn = 2 then ((m.rWrite e a d).1, (m.rWrite e a d).2, 0, ⟨0, []⟩)
  else if kn = 3 then ((m.rFill e a).1, (m.rFill e a).2, 0, ⟨0, []⟩)
  else if kn = 4 then (m, (m.rRead e a).2, 0, (m.rRead e a).1)
  else if kn = 5 then ((m.rTrim e a).1, (m.rTrim e a).2, 0, ⟨0, []⟩)
  else if kn = 6 then ((m.rCut e a).2.1, (m.rCut e a).2.2, (m.rCut e a).1, ⟨0, []⟩)
  else (m, m.cur e, if m.cur e = 0 then m.rTail else 0, ⟨0, []⟩)
end Go.Proofs.YtinbcehlpfnlaaaGreatDoor
