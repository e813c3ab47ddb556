/- Layer 15 (manifest): parts and manifests in memory; '==' on arrays of bytes. -/
import Derived.Test.YtinbcehlpfnlaaaGreatDoorManA
import Derived.Test.YtinbcehlpfnlaaaGreatDoorArr
import Derived.ChangeKeysEq
namespace Go.Proofs.YtinbcehlpfnlaaaGreatDoor
open Go.RowKit
set_option linter.unusedSimpArgs false
set_option linter.unusedVariables false
set_option maxRecDepth 100000

theorem flat_in {α : Type} {f : α → List Value} {s : Nat} : ∀ (X : List α), (∀ x ∈ X, (f x).length = s) → ∀ (k : Nat) (hk : k < X.length) (j : Nat), j < s → (X.flatMap f)[k * s + j]? = (f X[k])[j]?
  | [], _, k, hk, _, _ => absurd hk (Nat.not_lt_zero _)
  | x :: X, hf, 0, _, j, hj => by
    have h1 := hf x List.mem_cons_self
    rw [List.flatMap_cons, Nat.zero_mul, Nat.zero_add, List.getElem?_append_left (by omega)]; rfl
  | x :: X, hf, k + 1, hk, j, hj => by
    have h1 := hf x List.mem_cons_self
    have ih := flat_in X (fun y hy => hf y (List.mem_cons_of_mem _ hy)) k (by simpa using hk) j hj
    rw [List.flatMap_cons, List.getElem?_append_right (by rw [h1, Nat.succ_mul]; omega), h1, show (k + 1) * s + j - s = k * s + j by rw [Nat.succ_mul]; omega, ih]; rfl
theorem flat_in_len {α : Type} {f : α → List Value} {s : Nat} : ∀ (X : List α), (∀ x ∈ X, (f x).length = s) → (X.flatMap f).length = X.length * s
  | [], _ => by simp
  | x :: X, hf => by
    have ih := flat_in_len X (fun y hy => hf y (List.mem_cons_of_mem _ hy))
    rw [List.flatMap_cons, List.length_append, ih, hf x List.mem_cons_self, List.length_cons, Nat.succ_mul, Nat.add_comm]
/-- one of the rows of a slice -/
theorem SlV.rowIn {α : Type} {f : α → List Value} {s : Nat} {X : List α} (hf : ∀ x ∈ X, (f x).length = s) (hs : 0 < s) {w : World} {a : Option Addr} {n c : Nat} (h : SlV w (.slice a n c) n (X.flatMap f)) {k : Nat} (hk : k < X.length) :
    ∃ b off, a = some ⟨b, off, none⟩ ∧ b < w.heap.size ∧ w.rangeAt b (off + k * s) (f X[k]) := by
  have h0 : 0 < (X.flatMap f).length := by rw [flat_in_len X hf]; exact Nat.mul_pos (by omega) hs
  obtain ⟨b, off, he, hb, hc⟩ := SlV.addr h (by intro e; rw [e] at h0; simp at h0)
  refine ⟨b, off, he, hb, fun j v hv => ?_⟩
  have hj : j < s := by rw [← hf X[k] (List.getElem_mem hk)]; exact (List.getElem?_eq_some_iff.1 hv).1
  have := hc (k * s + j) v (by rw [flat_in X hf k hk j hj]; exact hv)
  rw [Nat.add_assoc]; exact this
theorem World.rangeAt.below {w w' : World} {b o : Nat} {cs : List Value} (h : w.rangeAt b o cs) (hb : Below w.heap.size w w') : w'.rangeAt b o cs := fun j v hv => (hb.cell (cell_lt (h j v hv))).trans (h j v hv)

def IR (x : Int) : Prop := -9223372036854775808 ≤ x ∧ x ≤ 9223372036854775807
structure Pt.ok (x : Pt) : Prop where
  f : IR x.f
  m : IR x.m
  s : IR x.s
  d : x.d.length = 32
structure Mf.ok (x : Mf) : Prop where
  n : IR x.n
  f : IR x.f
  t : IR x.t
  r : IR x.r
  p : x.p.length = 32
  ps : ∀ y ∈ x.ps, y.ok
theorem ptV_len {x : Pt} (h : x.ok) : (ptV x).length = 35 := by simp [ptV, byteVs_length, h.d]
theorem mfV_len {x : Mf} (h : x.ok) (a : Option Addr) (c : Nat) : (mfV x a c).length = 37 := by simp [mfV, byteVs_length, h.p]
theorem ptV_one {x : Pt} : ∀ u ∈ ptV x, u.oneCell' = true := by
  intro u hu
  simp only [ptV, List.mem_append, List.mem_cons, List.not_mem_nil, or_false] at hu
  rcases hu with (rfl | rfl | rfl) | hu
  · rfl
  · rfl
  · rfl
  · exact byteVs_one _ u hu
theorem mfV_one {x : Mf} {a : Option Addr} {c : Nat} : ∀ u ∈ mfV x a c, u.oneCell' = true := by
  intro u hu
  simp only [mfV, List.mem_append, List.mem_cons, List.not_mem_nil, or_false] at hu
  rcases hu with ((rfl | rfl | rfl | rfl) | hu) | rfl
  · rfl
  · rfl
  · rfl
  · rfl
  · exact byteVs_one _ u hu
  · rfl
theorem ptsV_one {l : List Pt} : ∀ u ∈ l.flatMap ptV, u.oneCell' = true := by
  intro u hu
  obtain ⟨x, _, hx⟩ := List.mem_flatMap.1 hu
  exact ptV_one u hx
def PtsAt (w : World) (a : Option Addr) (c : Nat) (l : List Pt) : Prop := SlV w (.slice a l.length c) l.length (l.flatMap ptV)
theorem PtsAt.below {w w' : World} {a : Option Addr} {c : Nat} {l : List Pt} (h : PtsAt w a c l) {B : Nat} (hB : w.heap.size ≤ B) (hb : Below B w w') : PtsAt w' a c l := SlV.below h hB hb
theorem PtsAt.len {w : World} {a : Option Addr} {c : Nat} {l : List Pt} (h : PtsAt w a c l) : l.length ≤ 9223372036854775807 := by
  obtain ⟨_, cap, he, h1, h2, _⟩ := h
  unfold maxLen at h2; omega
abbrev MfP := Mf × Option Addr × Nat
def mV (x : MfP) : List Value := mfV x.1 x.2.1 x.2.2
structure MsAt (w : World) (a : Option Addr) (c : Nat) (X : List MfP) : Prop where
  row : SlV w (.slice a X.length c) X.length (X.flatMap mV)
  each : ∀ x ∈ X, PtsAt w x.2.1 x.2.2 x.1.ps
  ok : ∀ x ∈ X, x.1.ok
theorem MsAt.below {w w' : World} {a : Option Addr} {c : Nat} {X : List MfP} (h : MsAt w a c X) {B : Nat} (hB : w.heap.size ≤ B) (hb : Below B w w') : MsAt w' a c X :=
  ⟨SlV.below h.row hB hb, fun x hx => (h.each x hx).below hB hb, h.ok⟩
theorem MsAt.len {w : World} {a : Option Addr} {c : Nat} {X : List MfP} (h : MsAt w a c X) : X.length ≤ 9223372036854775807 := by
  obtain ⟨_, cap, he, h1, h2, _⟩ := h.row
  unfold maxLen at h2; omega
theorem MsAt.at {w : World} {a : Option Addr} {c : Nat} {X : List MfP} (h : MsAt w a c X) {k : Nat} (hk : k < X.length) :
    ∃ b off, a = some ⟨b, off, none⟩ ∧ b < w.heap.size ∧ w.rangeAt b (off + k * 37) (mV X[k]) :=
  SlV.rowIn (fun x hx => mfV_len (h.ok x hx) _ _) (by decide) h.row hk
theorem PtsAt.at {w : World} {a : Option Addr} {c : Nat} {l : List Pt} (h : PtsAt w a c l) (ho : ∀ y ∈ l, y.ok) {k : Nat} (hk : k < l.length) :
    ∃ b off, a = some ⟨b, off, none⟩ ∧ b < w.heap.size ∧ w.rangeAt b (off + k * 35) (ptV l[k]) :=
  SlV.rowIn (fun x hx => ptV_len (ho x hx)) (by decide) h hk
end Go.Proofs.YtinbcehlpfnlaaaGreatDoor
