/- Layer 33 (model) as a plain machine: a unit of epoch 0, and a tail; what it answers is what the document's answers. Plain. -/
import Derived.Test.YtkljeefncopodaaGreatPlay
namespace Go.Proofs.YtkljeefncopodaaGreat
set_option linter.unusedSimpArgs false
set_option linter.unusedVariables false

structure M where
  u : U
  t : Int
structure M.ok (m : M) : Prop where
  u : m.u.ok
  e : m.u.e = 0
  lt : m.u.l ≤ m.t
  t1 : m.t ≤ 1048576
  below : ∀ p ∈ m.u.cells, p.1 < m.t
def M.new : M := ⟨U.new, 0⟩
def M.doc (m : M) : M := ⟨m.u.doc, m.t⟩
def M.put' (m : M) (a : Int) (c : C) : M := ⟨{ m.u with cells := putC m.u.cells a c }, max m.t (a + 1)⟩
def M.app (m : M) (d : List UInt8) : Nat × Int × M := if 64 < d.length then (3, 0, m) else if 1048576 ≤ m.t then (5, 0, m) else (0, m.t, m.put' m.t ⟨1, d⟩)
def M.rd (m : M) (a : Int) : Nat × C := if !inR a 1048575 then (1, ⟨0, []⟩) else (0, m.u.at a)
def M.fil (m : M) (a : Int) : Nat × M := if !inR a 1048575 then (1, m) else if (m.u.at a).k = 3 then (9, m) else if (m.u.at a).k = 1 then (8, m.put' a (m.u.at a)) else (0, m.put' a ⟨2, []⟩)
def M.put (m : M) (a : Int) (x : C) : Nat × M :=
  if !inR a 1048575 then (1, m) else if x.check ≠ 0 then (x.check, m) else if x.k ≠ 1 ∧ x.k ≠ 2 then (2, m) else if (m.u.at a).k = 3 then (9, m) else if !C.may (m.u.at a) x then (8, m) else (0, m.put' a x)
def M.trim' (m : M) (b : Int) : M := ⟨{ m.u with l := max m.u.l b, cells := m.u.cells.filter (fun p => !decide (p.1 < max m.u.l b)) }, max m.t b⟩
def M.trim (m : M) (b : Int) : Nat × M := if !inR b 1048576 then (1, m) else (0, m.trim' b)
def M.cut (m : M) (f : Int) : Nat × M := if !inR f 1048576 then (1, m) else if f < m.u.l then (9, m) else (0, ⟨{ m.u with cells := m.u.cells.filter (fun p => !decide (f ≤ p.1)) }, f⟩)

/- the document's -/
def M.rApp (m : M) (d : List UInt8) : Int × M × Nat := if 64 < d.length then (0, m, 3) else if 1048576 ≤ m.t then (0, m, 5) else (m.t, ⟨(m.u.rWrite 0 m.t d).1, m.t + 1⟩, 0)
def M.rFil (m : M) (a : Int) : M × Nat := (⟨(m.u.rFill 0 a).1, if (m.u.rFill 0 a).2 = 0 ∨ (m.u.rFill 0 a).2 = 8 then max m.t (a + 1) else m.t⟩, (m.u.rFill 0 a).2)
def M.rPut (m : M) (a : Int) (x : C) : M × Nat :=
  if a < 0 ∨ 1048575 < a then (m, 1) else if x.check ≠ 0 then (m, x.check) else if x.k ≠ 1 ∧ x.k ≠ 2 then (m, 2) else if (m.u.at a).k = 3 then (m, 9) else if (m.u.at a).k ≠ 0 ∧ m.u.at a ≠ x then (m, 8) else
    (⟨if x.k = 1 then (m.u.rWrite 0 a x.d).1 else (m.u.rFill 0 a).1, max m.t (a + 1)⟩, 0)
def M.rTrim (m : M) (b : Int) : M × Nat := (⟨(m.u.rTrim 0 b).1, if (m.u.rTrim 0 b).2 = 0 then max m.t b else m.t⟩, (m.u.rTrim 0 b).2)
def M.rCut (m : M) (f : Int) : M × Nat := (⟨(m.u.rCut 0 f).2.1, if (m.u.rCut 0 f).2.2 = 0 then f else m.t⟩, (m.u.rCut 0 f).2.2)

theorem M.ok_new : M.new.ok := ⟨U.ok_new, rfl, Int.le_refl _, by decide, by simp [M.new, U.new]⟩
theorem at_some {u : U} (h : u.ok) {a : Int} (h3 : (u.at a).k ≠ 3) (h0 : (u.at a).k ≠ 0) : u.cells.any (·.1 == a) = true ∧ u.at a = lookC u.cells a ∧ (a, u.at a) ∈ u.cells := by
  have hl : ¬ a < u.l := by intro hl; exact h3 (by simp [U.at, hl])
  have hat : u.at a = lookC u.cells a := by simp [U.at, hl]
  have hany : u.cells.any (·.1 == a) = true := by
    cases hq : u.cells.any (·.1 == a) with
    | true => rfl
    | false => rw [hat, lookC_none hq] at h0; exact absurd rfl h0
  exact ⟨hany, hat, by rw [hat]; exact lookC_mem hany⟩
theorem at_low {u : U} {a : Int} (h3 : (u.at a).k ≠ 3) : u.l ≤ a := by
  by_cases hl : a < u.l
  · exact absurd (by simp [U.at, hl]) h3
  · omega
theorem put_same {u : U} (h : u.ok) {a : Int} (h3 : (u.at a).k ≠ 3) (h0 : (u.at a).k ≠ 0) : putC u.cells a (u.at a) = u.cells := by
  obtain ⟨h1, h2, _⟩ := at_some h h3 h0
  exact putC_same _ h.nodup _ _ h1 h2.symm
theorem M.ok_put {m : M} (h : m.ok) {a : Int} {c : C} (ha : inR a 1048575 = true) (h3 : (m.u.at a).k ≠ 3) (hc : (c.k = 1 ∨ c.k = 2 ∧ c.d = []) ∧ c.d.length ≤ 64) : (m.put' a c).ok := by
  have hl := at_low h3
  have h1 := h.lt; have h2 := h.t1
  simp [inR] at ha
  refine ⟨U.ok_put h.u hl (by omega) hc, h.e, ?_, ?_, fun p hp => ?_⟩
  · show m.u.l ≤ max m.t (a + 1); omega
  · show max m.t (a + 1) ≤ 1048576; omega
  · show p.1 < max m.t (a + 1)
    rcases mem_putC hp with rfl | hp
    · simp only; omega
    · have := h.below p hp; omega
theorem M.at_tail {m : M} (h : m.ok) : m.u.at m.t = ⟨0, []⟩ := by
  have h1 := h.lt
  have hn : m.u.cells.any (·.1 == m.t) = false := by
    rw [List.any_eq_false]
    intro p hp
    have := h.below p hp
    simp; omega
  simp only [U.at, if_neg (show ¬ m.t < m.u.l by omega), lookC_none hn]
theorem M.ok_app {m : M} (h : m.ok) (d : List UInt8) : (m.app d).2.2.ok := by
  unfold M.app
  split; · exact h
  split; · exact h
  rename_i h1 h2
  have h3 := h.lt; have h4 := h.u.l0
  exact M.ok_put h (by simp [inR]; omega) (by rw [M.at_tail h]; decide) ⟨.inl rfl, by simp; omega⟩
theorem at_kind {u : U} (h : u.ok) (a : Int) : (u.at a).k = 3 ∧ (u.at a).d = [] ∨ (u.at a).k = 0 ∧ (u.at a).d = [] ∨ (((u.at a).k = 1 ∨ (u.at a).k = 2 ∧ (u.at a).d = []) ∧ (u.at a).d.length ≤ 64) := by
  by_cases hl : a < u.l
  · left; simp [U.at, hl]
  · by_cases hq : u.cells.any (·.1 == a) = true
    · right; right
      have := h.kind _ (lookC_mem hq)
      simpa [U.at, hl] using this
    · right; left
      have hq' : u.cells.any (·.1 == a) = false := by simpa only [Bool.not_eq_true] using hq
      simp [U.at, hl, lookC_none hq']
theorem M.ok_fil {m : M} (h : m.ok) (a : Int) : (m.fil a).2.ok := by
  unfold M.fil
  split; · exact h
  rename_i h1
  have ha : inR a 1048575 = true := by simpa using h1
  split; · exact h
  rename_i h3
  split
  · rename_i hk
    refine M.ok_put h ha h3 ?_
    rcases at_kind h.u a with ⟨h5, _⟩ | ⟨h5, _⟩ | h5
    · exact absurd h5 h3
    · rw [h5] at hk; cases hk
    · exact h5
  · exact M.ok_put h ha h3 ⟨.inr ⟨rfl, rfl⟩, by simp⟩
theorem check_zero {x : C} (h : x.check = 0) (hk : ¬ (x.k ≠ 1 ∧ x.k ≠ 2)) : (x.k = 1 ∨ x.k = 2 ∧ x.d = []) ∧ x.d.length ≤ 64 := by
  unfold C.check at h
  split at h; · cases h
  split at h; · cases h
  split at h; · cases h
  rename_i h1 h2 h3
  refine ⟨?_, by omega⟩
  by_cases h4 : x.k = 1
  · exact .inl h4
  · right
    have h5 : x.k = 2 := by omega
    refine ⟨h5, ?_⟩
    cases hd : x.d with
    | nil => rfl
    | cons b l => rw [hd] at h3; simp at h3; exact absurd h3 h4
theorem M.ok_putx {m : M} (h : m.ok) (a : Int) (x : C) : (m.put a x).2.ok := by
  unfold M.put
  split; · exact h
  rename_i h1
  have ha : inR a 1048575 = true := by simpa using h1
  split; · exact h
  rename_i hc
  split; · exact h
  rename_i hk
  split; · exact h
  rename_i h3
  split; · exact h
  exact M.ok_put h ha h3 (check_zero (by simpa using hc) hk)
theorem M.ok_trim {m : M} (h : m.ok) (b : Int) : (m.trim b).2.ok := by
  unfold M.trim
  split; · exact h
  rename_i h1
  have ha : inR b 1048576 = true := by simpa using h1
  simp [inR] at ha
  have h2 := h.u.l1; have h3 := h.lt; have h4 := h.t1
  refine ⟨U.ok_filter (u := m.u) h.u (l := max m.u.l b) (by omega) (by omega) (fun p hp hf => by simpa using hf), h.e, ?_, ?_, fun p hp => ?_⟩
  · show max m.u.l b ≤ max m.t b; omega
  · show max m.t b ≤ 1048576; omega
  · have := h.below p (List.mem_filter.1 hp).1
    show p.1 < max m.t b; omega
theorem M.ok_cut {m : M} (h : m.ok) (f : Int) : (m.cut f).2.ok := by
  unfold M.cut
  split; · exact h
  rename_i h1
  have ha : inR f 1048576 = true := by simpa using h1
  simp [inR] at ha
  split; · exact h
  rename_i h2
  refine ⟨U.ok_filter (u := m.u) (l := m.u.l) h.u (Int.le_refl _) h.u.l1 (fun p hp _ => (h.u.addr p hp).1), h.e, ?_, ha.2, fun p hp => ?_⟩
  · show m.u.l ≤ f; omega
  · have := (List.mem_filter.1 hp).2
    simp at this
    exact this

/- alike -/
theorem cur0 {u : U} (h : u.e = 0) : u.cur 0 = 0 := by simp [U.cur, h]
theorem mplay_app {m : M} (h : m.ok) (d : List UInt8) : m.doc.rApp d = ((m.app d).2.1, (m.app d).2.2.doc, (m.app d).1) := by
  unfold M.rApp M.app
  split; · rfl
  rename_i h1
  show (if 1048576 ≤ m.t then _ else _) = _
  split; · rfl
  rename_i h2
  have h3 := h.lt; have h4 := h.u.l0
  have hw : m.u.write 0 m.t d = (0, { m.u with cells := putC m.u.cells m.t ⟨1, d⟩ }) := by
    have hin : inR m.t 1048575 = true := by simp [inR]; omega
    simp [U.write, hin, h1, cur0 h.e, M.at_tail h]
  have hp := play_write h.u 0 m.t d
  rw [hw] at hp
  show (m.t, (⟨(m.u.doc.rWrite 0 m.t d).1, m.t + 1⟩ : M), 0) = _
  rw [hp]
  simp only [M.put', M.doc, Prod.mk.injEq, true_and, and_true, M.mk.injEq]
  omega
theorem mplay_fil {m : M} (h : m.ok) (a : Int) : m.doc.rFil a = ((m.fil a).2.doc, (m.fil a).1) := by
  unfold M.rFil
  show ((⟨(m.u.doc.rFill 0 a).1, if (m.u.doc.rFill 0 a).2 = 0 ∨ (m.u.doc.rFill 0 a).2 = 8 then max m.t (a + 1) else m.t⟩ : M), (m.u.doc.rFill 0 a).2) = _
  rw [play_fill h.u]
  unfold M.fil U.fill U.asks
  by_cases h1 : inR a 1048575 = true
  rotate_left
  · have h1' : inR a 1048575 = false := by simpa using h1
    simp [h1', M.doc]
  simp only [h1, if_true, cur0 h.e]
  by_cases h3 : (m.u.at a).k = 3
  · simp [h3, M.doc]
  by_cases hk : (m.u.at a).k = 1
  · have hs := put_same h.u h3 (by rw [hk]; decide)
    simp [h3, hk, M.doc, M.put', hs]
  · simp [h3, hk, M.doc, M.put']
theorem C.ext' {c x : C} (h1 : c.k = x.k) (h2 : c.d = x.d) : c = x := by cases c; cases x; simp only at h1 h2; rw [h1, h2]
theorem at_check {u : U} (h : u.ok) (a : Int) : (u.at a).check = 0 := by
  rcases at_kind h a with ⟨h1, h2⟩ | ⟨h1, h2⟩ | ⟨h1, h2⟩
  · simp [C.check, h1, h2]
  · simp [C.check, h1, h2]
  · rcases h1 with h1 | ⟨h1, h3⟩
    · have : ¬ 64 < (u.at a).d.length := by omega
      simp [C.check, h1, this]
    · simp [C.check, h1, h3]
theorem mplay_put {m : M} (h : m.ok) (a : Int) (x : C) : m.doc.rPut a x = ((m.put a x).2.doc, (m.put a x).1) := by
  unfold M.rPut M.put
  rw [inR_iff]
  have hat : m.doc.u.at a = m.u.at a := doc_at h.u a
  rw [hat]
  by_cases h1 : a < 0 ∨ 1048575 < a
  · simp [h1]
  have hin : inR a 1048575 = true := by rw [inR_iff]; simpa using h1
  simp only [h1, if_false, not_false_eq_true, decide_true, Bool.not_true, Bool.false_eq_true]
  by_cases hc : x.check ≠ 0
  · simp [hc]
  simp only [hc, if_false]
  have hc0 : x.check = 0 := by simpa using hc
  by_cases hk : x.k ≠ 1 ∧ x.k ≠ 2
  · simp [hk]
  simp only [hk, if_false]
  by_cases h3 : (m.u.at a).k = 3
  · simp [h3]
  simp only [h3, if_false]
  have hx := check_zero hc0 hk
  have hk3 : (x.k == 3) = false := by rcases hx.1 with h | ⟨h, _⟩ <;> simp [h]
  have hm : C.may (m.u.at a) x = decide ((m.u.at a).k = 0 ∨ m.u.at a = x) := by
    unfold C.may
    rw [at_check h.u a, hc0, hk3]
    by_cases hq : (m.u.at a).k = 0 ∨ m.u.at a = x <;> simp [hq]
  rw [hm]
  by_cases hq : (m.u.at a).k = 0 ∨ m.u.at a = x
  rotate_left
  · have h8 : (m.u.at a).k ≠ 0 ∧ m.u.at a ≠ x := by simpa using hq
    simp [hq, h8]
  have h8 : ¬ ((m.u.at a).k ≠ 0 ∧ m.u.at a ≠ x) := by
    rintro ⟨h5, h6⟩; rcases hq with h | h
    · exact h5 h
    · exact h6 h
  simp only [hq, h8, if_false, decide_true, Bool.not_true, Bool.false_eq_true]
  show ((⟨if x.k = 1 then (m.u.doc.rWrite 0 a x.d).1 else (m.u.doc.rFill 0 a).1, max m.t (a + 1)⟩ : M), 0) = _
  rw [play_write h.u, play_fill h.u]
  have hcells : (if x.k = 1 then (m.u.write 0 a x.d).2.doc else (m.u.fill 0 a).2.doc) = U.doc { m.u with cells := putC m.u.cells a x } := by
    by_cases hk1 : x.k = 1
    · rw [if_pos hk1]
      have hlen : ¬ 64 < x.d.length := by have := hx.2; omega
      by_cases h0 : (m.u.at a).k = 0
      · have : m.u.write 0 a x.d = (0, { m.u with cells := putC m.u.cells a ⟨1, x.d⟩ }) := by simp [U.write, hin, hlen, cur0 h.e, h3, h0]
        rw [this, show (⟨1, x.d⟩ : C) = x from C.ext' hk1.symm rfl]
      · have he : m.u.at a = x := by rcases hq with h | h; exact absurd h h0; exact h
        have : m.u.write 0 a x.d = (8, m.u) := by simp [U.write, hin, hlen, cur0 h.e, h3, h0]
        have hs := put_same h.u h3 h0
        rw [he] at hs
        rw [this, hs]
    · rw [if_neg hk1]
      have hk2 : x.k = 2 ∧ x.d = [] := by rcases hx.1 with h | h; exact absurd h hk1; exact h
      have hx2 : x = ⟨2, []⟩ := C.ext' hk2.1 hk2.2
      have h1' : (m.u.at a).k ≠ 1 := by
        rcases hq with h | h
        · rw [h]; decide
        · rw [h, hk2.1]; decide
      have : m.u.fill 0 a = (0, { m.u with cells := putC m.u.cells a ⟨2, []⟩ }) := by simp [U.fill, U.asks, hin, cur0 h.e, h3, h1']
      rw [this, hx2]
  rw [hcells]
  rfl
theorem mplay_trim {m : M} (h : m.ok) (b : Int) : m.doc.rTrim b = ((m.trim b).2.doc, (m.trim b).1) := by
  unfold M.rTrim
  show ((⟨(m.u.doc.rTrim 0 b).1, if (m.u.doc.rTrim 0 b).2 = 0 then max m.t b else m.t⟩ : M), (m.u.doc.rTrim 0 b).2) = _
  rw [play_trim h.u]
  unfold M.trim U.trim U.asks
  by_cases h1 : inR b 1048576 = true
  rotate_left
  · have h1' : inR b 1048576 = false := by simpa using h1
    simp [h1', M.doc]
  simp [h1, cur0 h.e, M.doc, M.trim']
theorem mplay_cut {m : M} (h : m.ok) (f : Int) : m.doc.rCut f = ((m.cut f).2.doc, (m.cut f).1) := by
  unfold M.rCut
  show ((⟨(m.u.doc.rCut 0 f).2.1, if (m.u.doc.rCut 0 f).2.2 = 0 then f else m.t⟩ : M), (m.u.doc.rCut 0 f).2.2) = _
  rw [play_cut h.u]
  unfold M.cut U.cut U.asks
  by_cases h1 : inR f 1048576 = true
  rotate_left
  · have h1' : inR f 1048576 = false := by simpa using h1
    simp [h1', M.doc]
  by_cases h2 : f < m.u.l
  · simp [h1, cur0 h.e, h2, M.doc]
  · simp [h1, cur0 h.e, h2, M.doc]
end Go.Proofs.YtkljeefncopodaaGreat
